/- desk.room where the lane is there (contract). Conditions: numbers that fit. -/
import Derived.Test.YtmkifedcanmjoaaGreatKf
import Derived.Test.YtmkifedcanmjoaaGreatKb
set_option linter.unusedVariables false
set_option linter.unusedSimpArgs false
namespace Go.Proofs.YtmkifedcanmjoaaGreat
open Go.RowKit
attribute [local go_sem ↓] Go.wp_at_zero Go.wp_at_succ
theorem infoInt : (Tryz.prog.info? 3).map (fun i => (i.zero, i.size, i.bytes)) = some (some (.int .i64 0), 1, 8) := by kernel_rfl
theorem good_ask {c : CastD} (h : goodC c = true) (i : Int) : goodC (askC c i).1 = true := by
  unfold askC
  split
  · exact h
  · rename_i hn
    have hs : srcB i = true := by cases hs : srcB i <;> simp_all
    unfold goodC at h ⊢
    simp only [Bool.and_eq_true] at h ⊢
    exact ⟨⟨h.1.1, hs⟩, h.2⟩
def rateAt (h : HallD) (fr k : Nat) : Int := rateOf (h.str fr k)
def ratesTo (h : HallD) (fr n : Nat) : List Int := (List.range n).map (rateAt h fr)
theorem ratesTo_3 (h : HallD) (fr : Nat) : ratesTo h fr 3 = ratesS h fr := rfl
theorem ratesTo_step (h : HallD) (fr n : Nat) : ratesTo h fr (n + 1) = ratesTo h fr n ++ [rateAt h fr n] := by
  unfold ratesTo
  rw [List.range_succ, List.map_append]
  rfl
theorem ratesTo_len (h : HallD) (fr n : Nat) : (ratesTo h fr n).length = n := by simp [ratesTo]
set_option maxRecDepth 100000 in
set_option maxHeartbeats 12800000 in
theorem droom_c {L : Lab} {w : World} {g : Nat} {P : Ptrs} {D : DeskD} (hd : DeskM L w g P D) {i s fr : Nat} (hi : i < 4) (hs : s < 8) {x : Int} (hl : laneS (D.hall i) s x = some fr) {l : LaneD} (hll : (D.hall i).lane s fr = some l) (hwl : WL l) (hk : KeyOk D i fr) {rate : Nat} (hrate : rate < 18446744073709551616) :
    Calls Tryz.prog 91 #[.pointer (some ⟨g, 0, none⟩), .pointer (some ⟨g, i * 367, none⟩), .int .i64 (s : Int), .int .u32 x, .int .u64 (rate : Int)] w fun e w' => e = .returned (.tuple #[]) ∧ ∃ L' P', DeskM L' w' g P' (roomD D i s x rate) ∧ Stp mutX L L' w w' := by
  obtain ⟨iI, hiI, hz0, hz1, hz2⟩ := info_parts infoInt
  have hf : fr < 8 := (laneS_some hl).1
  obtain ⟨M, hML, hRG, hMK⟩ := hd.strRow_ hi hf
  have HML := Lib.hid hML
  have HMK := Lib.hid hMK
  have HRG := Lib.hid hRG
  have HIM : Hid ((Tryz.prog.info? 102).map (·.size) = some M.length) := by show _ = _; rw [HML.out]; exact infoT33
  obtain ⟨res, hres⟩ : ∃ res, res = roomD D i s x rate := ⟨_, rfl⟩
  have HRES : Hid (res = lacksD (D.setLane i s fr (some { l with cast := (askC l.cast (pickS rate (ratesS (D.hall i) fr))).1 })) i s fr) := by
    show _ = _
    rw [hres]
    unfold roomD
    rw [hl]
    simp only
    rw [hll]
  rw [← hres]
  have HLC := Lib.hid (hlane_c hd hi hs x)
  rw [hl] at HLC
  have HM0 : Hid (DW mutX w L w L g P D []) := DW.start mutX hd
  have HD := Lib.hid hd
  have HI := Lib.hid hi
  have HS := Lib.hid hs
  have HF8 := Lib.hid hf
  have HLL := Lib.hid hll
  have HWL := Lib.hid hwl
  have HK := Lib.hid hk
  have HRT := Lib.hid hrate
  have b0 : (0 : Int) ≤ (s : Int) := by omega
  have b1 : (s : Int) < 8 := by omega
  have b2 : (0 : Int) ≤ (fr : Int) := by omega
  have b3 : (fr : Int) < 8 := by omega
  clear hML hRG hMK hres hd hi hs hl hll hwl hk hrate hf
  go_enter Tryz.func91, Tryz.ntmps91
  go_wp2_with fail
  refine HLC.out.mono ?_
  rintro e0 w1 ⟨rfl, hbq⟩
  unfold optN
  have HB1 := Lib.hid hbq
  have HRG1 : Hid (w1.rangeAt g (i * 367 + 39 + fr * 33) M) := below_range HRG.out hbq HD.out.lt
  clear hbq HLC HRG
  go_upto_region 5 with (first
    | ((with_reducible show wpList _ _ _ (⟨some 34, .load _ (.tmp 33), _, _, _, _⟩ :: _) _ _); refine wpList_load_mid rfl 102 (.tmp 33) rfl g (i * 367 + 39 + fr * 33) rfl M _ HRG1.out Tryz.underlying102 rfl HIM.out ?_))
  obtain ⟨V, hV⟩ : ∃ V, V = M.toArray := ⟨_, rfl⟩
  have HVE := Lib.hid hV
  rw [← hV]
  clear hV HIM HRG1
  go_loopg [12, 35] 3 (fun gg v12 v wx => ∃ (k : Nat) (A : Option Addr) (c : Nat), gg = 3 - k ∧ k ≤ 3 ∧ v = .int .i64 (k : Int) ∧ v12 = .slice A k c ∧ wx.ownsRow w1.heap.size 3 1 (.slice A k c) k ((ratesTo (D.hall i) fr k).map (Value.int .i64)) ∧ Below w1.heap.size w1 wx)
  case atStart => exact ⟨0, none, 0, rfl, by omega, rfl, rfl, World.ownsRow_nil _ _ _ _, Below.refl _ _⟩
  case round =>
    obtain ⟨k, A, c, hgg, hkk, rfl, rfl, hown, hb⟩ := hrel
    have HGG := Lib.hid hgg
    have HB := Lib.hid hb
    have HOWN := Lib.hid hown
    clear hgg hb hown
    by_cases hkn : k < 3
    · have hki : (k : Int) < 3 := by omega
      have hki0 : (0 : Int) ≤ (k : Int) := by omega
      have hw1 : IntKind.i64.wrap ((k : Int) + 1) = ((k + 1 : Nat) : Int) := by rw [IntKind.wrap_i64]; omega
      have HLT := Lib.hid hkn
      obtain ⟨v1, v2, v3, v4, a1, a2, a3, a4, a5⟩ := HMK.out k hkn
      obtain ⟨N, hN⟩ : ∃ N, N = strL ((D.hall i).str fr k) v1 v2 v3 v4 := ⟨_, rfl⟩
      have HNF : Hid (FitL 101 N) := by show FitL _ _; rw [hN]; exact fitS a1 a2 a3 a4
      have HNL : Hid (N.length = 11) := by show _ = _; rw [hN]; rfl
      rw [← hN] at a5
      have hidx : ∀ wx, (Instr.index 102 (.agg V) (.int .i64 (k : Int))).run Tryz.prog wx = .ok (.agg N.toArray) wx := fun wx => by rw [HVE.out]; exact index_strs wx M N k hkn HML.out HNL.out a5
      obtain ⟨sh, hsh⟩ : ∃ sh, sh = ((D.hall i).str fr k).shown := ⟨_, rfl⟩
      obtain ⟨y, hy⟩ : ∃ y, y = ((D.hall i).str fr k).rate := ⟨_, rfl⟩
      obtain ⟨z, hz⟩ : ∃ z, z = rateAt (D.hall i) fr k := ⟨_, rfl⟩
      have HZ : Hid (z = if sh then y else -1) := by show _ = _; rw [hz, hsh, hy]; rfl
      have HZE := Lib.hid hz
      have HN0 : Hid (N[0]? = some (.bool sh)) := by show _ = _; rw [hN, hsh]; rfl
      have HN2 : Hid (N[2]? = some (.int .i64 y)) := by show _ = _; rw [hN, hy]; rfl
      clear hN a1 a2 a3 a4 a5 hsh hy hz hkn hkk
      go_upto_region 7 with (first
        | ((with_reducible show wpList _ _ _ (⟨none, .store _ (.tmp 14) _, _, _, _, _⟩ :: _) _ _); refine wpList_store_mid rfl 101 (.tmp 14) (.tmp 37) rfl wr.heap.size 0 N.toArray rfl rfl (there_new wr 101 zStr.toArray _ (by show N.length ≤ 11; rw [HNL.out]; exact Nat.le_refl _)) HNF.out.infos HNF.out.one ?_))
      obtain ⟨b, hb⟩ : ∃ b, b = wr.heap.size := ⟨_, rfl⟩
      obtain ⟨w2, hw2⟩ : ∃ w2, w2 = (wr.alloc (.cells zStr.toArray 101)).setCells wr.heap.size 0 N := ⟨_, rfl⟩
      have HX2 : Hid (Blk w2 b 101 N.toArray) := by
        show Blk _ _ _ _
        rw [hw2, hb]
        exact blk_setAll (l := zStr) (Blk.new wr _ _) (by rw [HNL.out]; rfl)
      have HB2 : Hid (Below wr.heap.size wr w2) := by show Below _ _ _; rw [hw2]; exact below_setCells (balloc (Below.refl _ _) _) (Nat.le_refl _) _ _
      have HBG : Hid (wr.heap.size ≤ b) := by show _ ≤ _; rw [hb]; exact Nat.le_refl _
      have hE2 : (wr.alloc (.cells #[.bool false, .int .u32 0, .int .i64 0, .int .i64 0, .int .i64 0, .slice none 0 0, .int .i64 0, .slice none 0 0, .slice none 0 0, .int .u32 0, .slice none 0 0] 101)).setCells wr.heap.size 0 N = w2 := hw2.symm
      rw [hE2, ← hb]
      clear hw2 hb hE2 hidx
      have c0 : w2.cell? ⟨b, 0, none⟩ = some (.bool sh) := by rw [HX2.out.cell, List.getElem?_toArray]; exact HN0.out
      have c2 : w2.cell? ⟨b, 2, none⟩ = some (.int .i64 y) := by rw [HX2.out.cell, List.getElem?_toArray]; exact HN2.out
      have f2 := HX2.out.frozen 2
      have HCZ : Hid (∃ wc, (wc = if sh then w2 else w2.setCell ⟨b, 2, none⟩ (.int .i64 (-1))) ∧ wc.cell? ⟨b, 2, none⟩ = some (.int .i64 z) ∧ Below wr.heap.size wr wc) := by
        refine ⟨_, rfl, ?_⟩
        cases sh
        · have hz2 : z = -1 := HZ.out
          refine ⟨?_, bset HB2.out (p := ⟨b, 2, none⟩) HBG.out _⟩
          rw [hz2]
          have h := Blk.set_ HX2.out 2 (.int .i64 (-1))
          show World.cell? (w2.setCell ⟨b, 2, none⟩ (.int .i64 (-1))) _ = _
          rw [h.cell, List.setIfInBounds_toArray, List.getElem?_toArray, List.getElem?_set_self (by rw [HNL.out]; omega)]
        · have hz2 : z = y := HZ.out
          exact ⟨by rw [hz2]; exact c2, HB2.out⟩
      obtain ⟨wc, hwc, ckz, hbz⟩ := HCZ.out
      clear HCZ HZ
      cases sh
      all_goals
        go_upto_region 9 with fail
        simp only [if_true, if_false, Bool.false_eq_true] at hwc
        rw [← hwc]
        clear hwc c0 c2 f2
        have HBZ := Lib.hid hbz
        obtain ⟨w4, hw4⟩ : ∃ w4, w4 = wc.alloc (.cells #[.int .i64 z] 3) := ⟨_, rfl⟩
        have HB4 : Hid (Below wr.heap.size wr w4) := by show Below _ _ _; rw [hw4]; exact balloc hbz _
        have HY4 : Hid (Blk w4 wc.heap.size 3 #[.int .i64 z]) := by show Blk _ _ _ _; rw [hw4]; exact Blk.newAt rfl _ _
        have HO4 : Hid (World.ownsRow w4 w1.heap.size 3 1 (.slice A k c) k ((ratesTo (D.hall i) fr k).map (Value.int .i64))) := own_below HOWN.out HB4.out
        have HS4 : Hid (w1.heap.size ≤ w4.heap.size) := Nat.le_trans HB.out.size HB4.out.size
        rw [hw4] at HB4 HY4 HO4 HS4
        clear hw4 hbz
        go_wp2_with (first
          | (at_builtin
             refine wpList_append_any _ rfl (.tmp 42) (.tmp 45) _ rfl w1.heap.size 3 iI _ 1 8 Tryz.underlying61 hiI hz0 hz1 hz2 rfl (by omega) (.slice A k c) k ((ratesTo (D.hall i) fr k).map (Value.int .i64)) rfl HO4.out
               _ (some ⟨wc.heap.size, 0, none⟩) 1 1 [.int .i64 z] rfl (reads_blk HY4.out rfl) (by simp [Value.oneCell']) (by simp only [maxLen]; omega) (by omega) HS4.out ?_
             intro v5 w5 hown5 hg5 hat5
             obtain ⟨A5, c5, hv5⟩ := own_slice hown5
             subst hv5
             have hsv5 : Sv (fun j => (Value.slice A k c).ownBlock = some j) (wc.alloc (.cells #[.int .i64 z] 3)) w5 := (Sv.refl _ _).grown hg5 fun gg e => .inl e
             have HB5 : Hid (Below w1.heap.size w1 w5) := (HB.out.trans (HB4.out.mono HB.out.size)).trans (hsv5.toBelow (fun gg e => (World.ownsRow.lt HO4.out gg e).1) HS4.out)
             have HO5 : Hid (World.ownsRow w5 w1.heap.size 3 1 (.slice A5 (k + 1) c5) (k + 1) ((ratesTo (D.hall i) fr (k + 1)).map (Value.int .i64))) := by
               show World.ownsRow _ _ _ _ _ _ _
               rw [ratesTo_step, List.map_append, ← HZE.out]
               exact hown5
             clear hown5 hg5 hat5 hsv5))
        go_roundg (3 - (k + 1))
        case measure => have := HLT.out; have := HGG.out; omega
        case rel => have hlt := HLT.out; exact ⟨k + 1, A5, c5, rfl, by omega, by first | rfl | go_num, rfl, HO5.out, HB5.out⟩
    · have hki : ¬ (k : Int) < 3 := by omega
      have hke : k = 3 := by omega
      subst hke
      clear hkn hkk
      have HM5 : Hid (DW mutX w L wr L g P D []) := HM0.out.call (HB1.out.trans (HB.out.mono HB1.out.size))
      have HRD : Hid (Reads wr wr.heap.size 1 A 3 ((ratesS (D.hall i) fr).map (Value.int .i64))) := Reads.of_own HOWN.out
      obtain ⟨pk, hpk⟩ : ∃ pk, pk = pickS rate (ratesS (D.hall i) fr) := ⟨_, rfl⟩
      have HPK := Lib.hid hpk
      have HPC : Hid (∀ wx, Below wr.heap.size wr wx → Calls Tryz.prog 123 #[.int .u64 (rate : Int), .slice A 3 c] wx fun e w' => e = .returned (.int .i64 pk) ∧ Below wx.heap.size wx w') := fun wx hbx => by
        rw [hpk]
        refine pick_c rate HRT.out _ rfl (by decide) ?_ ((HRD.out.below hbx).more hbx.size)
        intro r hr
        unfold ratesS rateOf at hr
        simp only [List.mem_cons, List.not_mem_nil, or_false] at hr
        have h0 := HK.out.ws 0 (by decide)
        have h1 := HK.out.ws 1 (by decide)
        have h2 := HK.out.ws 2 (by decide)
        have r0 := h0.rlo
        have r1 := h0.rhi
        have r2 := h1.rlo
        have r3 := h1.rhi
        have r4 := h2.rlo
        have r5 := h2.rhi
        rcases hr with rfl | rfl | rfl <;> split <;> omega
      obtain ⟨p, hp⟩ : ∃ p, p = P.lane i s fr := ⟨_, rfl⟩
      have HPE := Lib.hid hp
      obtain ⟨P2, hP2⟩ : ∃ P2, P2 = P.setLane i s fr (P.lane i s fr) := ⟨_, rfl⟩
      obtain ⟨D2, hD2⟩ : ∃ D2, D2 = D.setLane i s fr (some { l with cast := (askC l.cast pk).1 }) := ⟨_, rfl⟩
      have HP2E := Lib.hid hP2
      have HD2E := Lib.hid hD2
      obtain ⟨er, her⟩ : ∃ er, er = (askC l.cast pk).2 := ⟨_, rfl⟩
      have HASK : Hid (∀ (Lx : Lab) (wx : World), DeskM Lx wx g P D → Calls Tryz.prog 122 #[.pointer (some ⟨p, 0, none⟩), .int .i64 pk] wx fun e w' => e = .returned (.int .i64 er) ∧ ∃ L', DeskM L' w' g P2 D2 ∧ Stp (laneX i s fr) Lx L' wx w') := fun Lx wx hdx => by
        rw [hP2, hD2, her, hp]
        obtain ⟨_, hlm⟩ := hdx.lane_ HI.out HS.out HF8.out HLL.out
        obtain ⟨vr, qr, _, hbl, hclo⟩ := hlm.open_ hdx.top
        refine (lask_c hbl pk).mono ?_
        rintro e w' ⟨rfl, hsv, hbl2⟩
        have h := hdx.turnLane HI.out HS.out HF8.out HLL.out hsv (hclo w' { l with cast := (askC l.cast pk).1 } rfl rfl hsv hbl2)
        exact ⟨rfl, Lx, h.1, h.2⟩
      have HPTR : Hid (P2.lane i s fr = p) := by show _ = _; rw [hP2, hp]; exact if_pos ⟨rfl, rfl, rfl⟩
      clear hp hP2 hD2 hpk her
      go_upto_region 11 with fail
      have HLA2 : Hid ((D2.hall i).lane s fr = some { l with cast := (askC l.cast pk).1 }) := by show _ = _; rw [HD2E.out]; exact setLane_lane (by rw [HD.out.halls]; exact HI.out) (HD.out.lane64 HI.out) HS.out HF8.out _
      have HBQ5 : Hid (Below wr.heap.size wr wr.drew) := bdrew (Below.refl _ _)
      obtain ⟨wd6, hwd6⟩ : ∃ wd6, wd6 = wr.drew := ⟨_, rfl⟩
      have HBQ6 : Hid (Below wr.heap.size wr wd6) := by show Below _ _ _; rw [hwd6]; exact HBQ5.out
      have HM6 : Hid (DW mutX w L wd6 L g P D []) := by show DW _ _ _ _ _ _ _ _ _; rw [hwd6]; exact HM5.out.drew
      have HC6 : Hid (wd6.cell? ⟨g, i * 367 + 303 + s * 8 + fr, none⟩ = some (.pointer (some ⟨p, 0, none⟩))) := by
        show _ = _
        rw [show i * 367 + 303 + s * 8 + fr = 367 * i + 303 + 8 * s + fr by omega, HPE.out]
        exact (HM6.out.dm.lane_ HI.out HS.out HF8.out HLL.out).1
      refine wp_region_held_drew (S := (fun w' => w'.cell? ⟨g, i * 367 + 303 + s * 8 + fr, none⟩ = some (.pointer (some ⟨p, 0, none⟩)))) (by kernel_rfl) (by rw [← hwd6]; exact HC6.out) (fun hHeld => ?_)
      rw [← hwd6] at hHeld ⊢
      clear hwd6
      refine wpAnyH_takeAt (i := 0) (v := (.pointer (some ⟨g, i * 367, none⟩))) rfl (by kernel_rfl) (by kernel_rfl) (by kernel_rfl) (fun _ _ _ h => h) rfl (Or.inl ⟨by rfl, fun w' hS => ?_⟩) hHeld ?_
      · go_simp
      simp only [List.set_cons_zero, List.set_cons_succ]
      refine wpAnyH_takeAt (i := 1) (v := (.int .i64 (s : Int))) rfl (by kernel_rfl) (by kernel_rfl) (by kernel_rfl) (fun _ _ _ h => h) rfl (Or.inl ⟨by rfl, fun w' hS => ?_⟩) hHeld ?_
      · go_simp
      simp only [List.set_cons_zero, List.set_cons_succ]
      refine wpAnyH_takeAt (i := 2) (v := (.int .i64 (fr : Int))) rfl (by kernel_rfl) (by kernel_rfl) (by kernel_rfl) (fun _ _ _ h => h) rfl (Or.inl ⟨by rfl, fun w' hS => ?_⟩) hHeld ?_
      · go_simp
      simp only [List.set_cons_zero, List.set_cons_succ]
      refine wpAnyH_takeAt (i := 3) (v := (.pointer (some ⟨g, i * 367, none⟩))) rfl (by kernel_rfl) (by kernel_rfl) (by kernel_rfl) (fun _ _ _ h => h) rfl (Or.inl ⟨by rfl, fun w' hS => ?_⟩) hHeld ?_
      · go_simp
      simp only [List.set_cons_zero, List.set_cons_succ]
      refine wpAnyH_takeAt (i := 4) (v := (.pointer (some ⟨g, i * 367 + 303, none⟩))) rfl (by kernel_rfl) (by kernel_rfl) (by kernel_rfl) (fun _ _ _ h => h) rfl (Or.inl ⟨by rfl, fun w' hS => ?_⟩) hHeld ?_
      · go_simp
      simp only [List.set_cons_zero, List.set_cons_succ]
      refine wpAnyH_takeAt (i := 5) (v := (.pointer (some ⟨g, i * 367 + 303 + s * 8, none⟩))) rfl (by kernel_rfl) (by kernel_rfl) (by kernel_rfl) (fun _ _ _ h => h) rfl (Or.inl ⟨by rfl, fun w' hS => ?_⟩) hHeld ?_
      · go_simp
      simp only [List.set_cons_zero, List.set_cons_succ]
      refine wpAnyH_takeAt (i := 6) (v := (.pointer (some ⟨g, i * 367 + 303 + s * 8 + fr, none⟩))) rfl (by kernel_rfl) (by kernel_rfl) (by kernel_rfl) (fun _ _ _ h => h) rfl (Or.inl ⟨by rfl, fun w' hS => ?_⟩) hHeld ?_
      · go_simp
      simp only [List.set_cons_zero, List.set_cons_succ]
      refine wpAnyH_takeAt (i := 7) (v := (.pointer (some ⟨p, 0, none⟩))) rfl (by kernel_rfl) (by kernel_rfl) (by kernel_rfl) (fun _ _ _ h => h) rfl (Or.inl ⟨by rfl, fun w' hS => ?_⟩) hHeld ?_
      · have q0 : w'.cell? ⟨g, i * 367 + 303 + s * 8 + fr, none⟩ = _ := hS
        go_simp
      simp only [List.set_cons_zero, List.set_cons_succ]
      refine wpAnyH_takeAt (i := 8) (v := (.int .u64 (rate : Int))) rfl (by kernel_rfl) (by kernel_rfl) (by kernel_rfl) (fun _ _ _ h => h) rfl (Or.inl ⟨by rfl, fun w' hS => ?_⟩) hHeld ?_
      · go_simp
      simp only [List.set_cons_zero, List.set_cons_succ]
      refine wpAnyH_takeAt (i := 9) (v := (.slice A 3 c)) rfl (by kernel_rfl) (by kernel_rfl) (by kernel_rfl) (fun _ _ _ h => h) rfl (Or.inl ⟨by rfl, fun w' hS => ?_⟩) hHeld ?_
      · go_simp
      simp only [List.set_cons_zero, List.set_cons_succ]
      refine wpAnyH_ready (rs := [10]) (by kernel_rfl) (by simp) (AllReadyH.cons rfl (fun K' hK => ?_) AllReadyH.nil)
      go_simp
      go_at_call 123
      refine (HPC.out _ (by repeat (first | with_reducible assumption | exact HBQ6.out))).mono ?_
      rintro e0 wd7 ⟨rfl, hbq⟩
      have HM7 : Hid (DW mutX w L wd7 L g P D []) := HM6.out.call hbq
      have HC7 : Hid (wd7.cell? ⟨g, i * 367 + 303 + s * 8 + fr, none⟩ = some (.pointer (some ⟨p, 0, none⟩))) := by
        show _ = _
        rw [show i * 367 + 303 + s * 8 + fr = 367 * i + 303 + 8 * s + fr by omega, HPE.out]
        exact (HM7.out.dm.lane_ HI.out HS.out HF8.out HLL.out).1
      clear hbq
      go_wp2_with fail
      refine hK.out _ _ HC7.out (fun hHeld' => ?_)
      clear hK hHeld 
      have hHeld := hHeld'
      clear hHeld'
      refine wpAnyH_ready (rs := [11]) (by kernel_rfl) (by simp) (AllReadyH.cons rfl (fun K' hK => ?_) AllReadyH.nil)
      go_simp
      go_at_call 122
      refine (HASK.out L wd7 HM7.out.dm).mono ?_
      rintro e0 wd8 ⟨rfl, Lb8, hdq, hsq⟩
      have HM8 : Hid (DW mutX w L wd8 Lb8 g P2 D2 []) := HM7.out.step (hsq.mono laneX_mut) hdq mutX_temp
      have HC8 : Hid (wd8.cell? ⟨g, i * 367 + 303 + s * 8 + fr, none⟩ = some (.pointer (some ⟨p, 0, none⟩))) := by
        show _ = _
        rw [show i * 367 + 303 + s * 8 + fr = 367 * i + 303 + 8 * s + fr by omega, ← HPTR.out]
        exact (HM8.out.dm.lane_ HI.out HS.out HF8.out HLA2.out).1
      clear hdq hsq
      go_wp2_with fail
      refine hK.out _ _ HC8.out (fun hHeld' => ?_)
      clear hK hHeld 
      have hHeld := hHeld'
      clear hHeld'
      refine wpAnyH_done (by kernel_rfl) ?_ _
      clear hHeld
      have HK2 : Hid (KeyOk D2 i fr) := by show KeyOk _ _ _; rw [HD2E.out]; exact keyOk_setLane (by rw [HD.out.halls]; exact HI.out) HK.out
      have HLK := Lib.hid (dlacks_c HM8.out.dm HI.out HS.out HF8.out HLA2.out ⟨HWL.out.lo, HWL.out.hi, good_ask HWL.out.good _⟩ HK2.out)
      go_wp2_with fail
      refine HLK.out.mono ?_
      rintro e0 w10 ⟨rfl, L10, hdq, hsq⟩
      have HM10 : Hid (DW mutX w L w10 L10 g P2 (lacksD D2 i s fr) []) := HM8.out.step (hsq.mono tellX_mut) hdq mutX_temp
      clear hdq hsq
      go_wp2_with fail
      first
        | go_end0
        | refine bodyPost_ret (results_none rfl _ _ _) rfl ?_
      refine ⟨rfl, L10, P2, ?_, HM10.out.stp⟩
      have h := HM10.out.dm
      rw [HRES.out, ← HPK.out, ← HD2E.out]
      exact h
end Go.Proofs.YtmkifedcanmjoaaGreat
