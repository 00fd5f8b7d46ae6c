/- Texts of this claim, one behind the other: KeyF, Asked. Each says ahead of itself what it proves, and its conditions. -/
import Derived.Test.YtmkifedcanmjoaaGreatJz
import Derived.Test.YtmkifedcanmjoaaGreatKb
/- desk.keyFrame, asked, lacks (contracts). Conditions: numbers that fit. -/
set_option linter.unusedVariables false
set_option linter.unusedSimpArgs false
namespace Go.Proofs.YtmkifedcanmjoaaGreat
open Go.RowKit
attribute [local go_sem ↓] Go.wp_at_zero Go.wp_at_succ
/-- A stream's cells, in the middle of the desk's. -/
theorem DeskM.strAt_ {L : Lab} {w : World} {g : Nat} {P : Ptrs} {D : DeskD} (h : DeskM L w g P D) {i s j : Nat} (hi : i < 4) (hs : s < 8) (hj : j < 3) : ∃ v1 v2 v3 v4, TmplV L w v1 ((D.hall i).str s j).st.tmpl ∧ NumV .i64 L w v2 ((D.hall i).str s j).st.prot ∧ SizesV L w v3 ((D.hall i).str s j).st.sizes ∧ NumV .u16 L w v4 ((D.hall i).str s j).seqs ∧ w.rangeAt g (i * 367 + 39 + s * 33 + j * 11) (strL ((D.hall i).str s j) v1 v2 v3 v4) := by
  obtain ⟨h1, h2, C, h3, h4⟩ := h
  obtain ⟨v1, v2, v3, v4, a1, a2, a3, a4, a5⟩ := (h4.strm i hi s hs j hj).list
  refine ⟨v1, v2, v3, v4, a1, a2, a3, a4, blk_mid h3 _ _ fun k v hv => ?_⟩
  have hk : k < 11 := by have := get_len hv; simpa [strL] using this
  rw [← a5 k hk] at hv
  rw [show i * 367 + 39 + s * 33 + j * 11 + k = 367 * i + 39 + 33 * s + 11 * j + k by omega]
  exact hv
theorem infoRepP : (Tryz.prog.info? 81).map (fun i => (i.zero, i.size, i.bytes)) = some (some (.agg zRep.toArray), 16, 192) := by kernel_rfl
set_option maxRecDepth 100000 in
set_option maxHeartbeats 12800000 in
theorem keyFrame_c {L : Lab} {w : World} {g : Nat} {P : Ptrs} {D : DeskD} (hd : DeskM L w g P D) {i fr j : Nat} (hi : i < 4) (hf : fr < 8) (hj : j < 3) {x : Int} (hx0 : 0 ≤ x) (hx : x < 4294967296) (hws : WS ((D.hall i).str fr j)) (ha0 : 0 ≤ addrAt (D.hall i).r.t fr) (ha : addrAt (D.hall i).r.t fr < 64) :
    Calls Tryz.prog 103 #[.pointer (some ⟨g, 0, none⟩), .pointer (some ⟨g, i * 367, none⟩), .int .i64 (fr : Int), .int .i64 (j : Int), .int .u32 x] w fun e w' => e = .returned (.tuple #[]) ∧ ∃ L', DeskM L' w' g P (keyFrameD D i fr j x) ∧ Stp (tellX (addrAt (D.hall i).r.t fr).toNat) L L' w w' := by
  obtain ⟨ad, had⟩ : ∃ ad : Nat, addrAt (D.hall i).r.t fr = (ad : Int) := ⟨(addrAt (D.hall i).r.t fr).toNat, by omega⟩
  obtain ⟨xn, rfl⟩ : ∃ xn : Nat, x = (xn : Int) := ⟨x.toNat, by omega⟩
  have had2 : (addrAt (D.hall i).r.t fr).toNat = ad := by omega
  have ha64 : ad < 64 := by omega
  obtain ⟨y, hy⟩ : ∃ y : Nat, ((D.hall i).str fr j).ssrc = (y : Int) := ⟨((D.hall i).str fr j).ssrc.toNat, by have := hws.lo; omega⟩
  have hy2 : y < 4294967296 := by have := hws.hi; omega
  obtain ⟨sh, hsh⟩ : ∃ sh, sh = ((D.hall i).str fr j).shown := ⟨_, rfl⟩
  obtain ⟨res, hres⟩ : ∃ res, res = keyFrameD D i fr j (xn : Int) := ⟨_, rfl⟩
  have HRE : Hid (res = if sh then tellD D ad 1 (pliB xn y) else D) := by
    show _ = _
    rw [hres, hsh]
    unfold keyFrameD
    rw [hy, had2]
    rfl
  rw [had2, ← hres]
  obtain ⟨v1, v2, v3, v4, a1, a2, a3, a4, a5⟩ := hd.strAt_ hi hf hj
  obtain ⟨N, hN⟩ : ∃ N, N = strL ((D.hall i).str fr j) v1 v2 v3 v4 := ⟨_, rfl⟩
  have HNF : Hid (FitL 101 N) := by show FitL _ _; rw [hN]; exact fitS a1 a2 a3 a4
  have HNL : Hid (N.length = 11) := by show _ = _; rw [hN]; rfl
  have HN0 : Hid (N[0]? = some (.bool sh)) := by show _ = _; rw [hN, hsh]; rfl
  have HN1 : Hid (N[1]? = some (.int .u32 (y : Int))) := by show _ = _; rw [hN, ← hy]; rfl
  rw [← hN] at a5
  have HRG := Lib.hid a5
  have HD := Lib.hid hd
  have HI := Lib.hid hi
  have HF8 := Lib.hid hf
  have HA64 := Lib.hid ha64
  have HADR := Lib.hid had
  have HY2 := Lib.hid hy2
  have hxl : xn < 4294967296 := by omega
  have HXL := Lib.hid hxl
  have HM0 : Hid (DW (tellX ad) w L w L g P D []) := DW.start (tellX ad) hd
  have b1 : (0 : Int) ≤ (fr : Int) := by omega
  have b2 : (fr : Int) < 8 := by omega
  have b3 : (0 : Int) ≤ (j : Int) := by omega
  have b4 : (j : Int) < 3 := by omega
  clear hN a1 a2 a3 a4 a5 hd hi ha0 ha had had2 ha64 hws hx0 hx hy hy2 hsh hres hxl
  go_enter Tryz.func103, Tryz.ntmps103
  go_upto_region 1 with (first
    | ((with_reducible show wpList _ _ _ (⟨some 20, .load _ (.tmp 19), _, _, _, _⟩ :: _) _ _); refine wpList_load_mid rfl 101 (.tmp 19) rfl g (i * 367 + 39 + fr * 33 + j * 11) rfl N _ HRG.out Tryz.underlying101 rfl HNF.out.info ?_)
    | ((with_reducible show wpList _ _ _ (⟨none, .store _ (.tmp 10) _, _, _, _, _⟩ :: _) _ _); refine wpList_store_mid rfl 101 (.tmp 10) (.tmp 20) rfl w.heap.size 0 N.toArray rfl rfl (there_new w 101 zStr.toArray _ (by show N.length ≤ 11; rw [HNL.out]; exact Nat.le_refl _)) HNF.out.infos HNF.out.one ?_))
  obtain ⟨b, hb⟩ : ∃ b, b = w.heap.size := ⟨_, rfl⟩
  obtain ⟨w2, hw2⟩ : ∃ w2, w2 = (w.alloc (.cells zStr.toArray 101)).setCells w.heap.size 0 N := ⟨_, rfl⟩
  obtain ⟨L2, hL2⟩ : ∃ L2, L2 = tempAt L w.heap.size := ⟨_, rfl⟩
  have HM2 : Hid (DW (tellX ad) w L w2 L2 g P D [(b, 101, N)]) := by
    show DW _ _ _ _ _ _ _ _ _
    rw [hw2, hb, hL2]
    exact HM0.out.newset 101 zStr.toArray N (by rw [HNL.out]; rfl)
  have hE2 : (w.alloc (.cells #[.bool false, .int .u32 0, .int .i64 0, .int .i64 0, .int .i64 0, .slice none 0 0, .int .i64 0, .slice none 0 0, .slice none 0 0, .int .u32 0, .slice none 0 0] 101)).setCells w.heap.size 0 N = w2 := hw2.symm
  rw [hE2, ← hb]
  clear hw2 hb hE2 hL2 HM0 HRG b3 b4 hj
  have c0 : w2.cell? ⟨b, 0, none⟩ = some (.bool sh) := by rw [HM2.out.cell (.head _)]; exact HN0.out
  have c1 : w2.cell? ⟨b, 1, none⟩ = some (.int .u32 (y : Int)) := by rw [HM2.out.cell (.head _)]; exact HN1.out
  cases sh
  · have HV : Hid (res = D) := by show _ = _; rw [HRE.out]; rfl
    clear HRE
    go_wp2_with fail
    first
      | go_end0
      | refine bodyPost_ret (results_none rfl _ _ _) rfl ?_
    exact ⟨rfl, L2, by rw [HV.out]; exact HM2.out.dm, HM2.out.stp⟩
  · have HV : Hid (res = tellD D ad 1 (pliB xn y)) := by show _ = _; rw [HRE.out]; rfl
    clear HRE
    obtain ⟨gq, hgq⟩ : ∃ gq, gq = w2.heap.size := ⟨_, rfl⟩
    obtain ⟨w3, hw3⟩ : ∃ w3, w3 = w2.alloc (.cells #[.int .i64 4, .int .u32 (xn : Int), .int .u32 (y : Int), .int .u64 0, .int .u32 0, .int .u32 0, .int .u32 0, .slice none 0 0, .slice none 0 0, .slice none 0 0, .int .i64 0, .int .u32 0, .slice none 0 0, .int .i64 0, .int .i64 0, .slice none 0 0] 81) := ⟨_, rfl⟩
    have HB3 : Hid (Below w2.heap.size w2 w3) := by show Below _ _ _; rw [hw3]; exact balloc (Below.refl _ _) _
    have HQB : Hid (Blk w3 gq 81 (pliL xn y).toArray) := by show Blk _ _ _ _; rw [hw3]; exact Blk.newAt hgq _ _
    have HBY := Lib.hid (pli_bytes HXL.out HY2.out HQB.out)
    go_wp2_with (first
      | ((with_reducible show wpList _ _ _ (⟨some 29, .buildSlice _ _ _, _, _, _, _⟩ :: _) _ _); refine wpList_buildR rfl (.tmp 28) rfl (pliL xn y) rfl rfl ?_))
    rw [← hw3, ← hgq]
    refine HBY.out.mono ?_
    rintro e9 w4 ⟨v9, rfl, hr9, hb9⟩
    have HM4 : Hid (DW (tellX ad) w L w4 L2 g P D [(b, 101, N)]) := HM2.out.call (bcall HB3.out hb9)
    have HV9 : Hid (ByV L2 w4 v9 (pliB xn y)) := ByV.ofRow hr9 (fun k hk => HM2.out.top k (Nat.le_trans HB3.out.size hk))
    clear hr9 hb9
    have ca : w4.cell? ⟨g, i * 367 + 8 + fr, none⟩ = some (.int .i64 (ad : Int)) := by rw [HM4.out.dm.addrCell HI.out HF8.out, HADR.out]
    clear c0 c1 hw3 hgq
    go_wp2_with (first
      | (go_at_call 102
         refine (tell_c HM4.out.dm HA64.out 1 HV9.out (by show (12 : Nat) ≤ _; decide)).mono ?_
         rintro e9 w5 ⟨rfl, L5, hdq, hsq⟩
         have HM5 : Hid (DW (tellX ad) w L w5 L5 g P (tellD D ad 1 (pliB xn y)) [(b, 101, N)]) := HM4.out.step hsq hdq (by unfold tellX; simp)
         clear hdq hsq))
    go_end0
    exact ⟨rfl, L5, by rw [HV.out]; exact HM5.out.dm, HM5.out.stp⟩
end Go.Proofs.YtmkifedcanmjoaaGreat
/- desk.asked, lacks (contracts). Conditions: the lane is there; numbers that fit. -/
set_option linter.unusedVariables false
set_option linter.unusedSimpArgs false
namespace Go.Proofs.YtmkifedcanmjoaaGreat
open Go.RowKit
attribute [local go_sem ↓] Go.wp_at_zero Go.wp_at_succ
theorem LaneM.below_ {L : Lab} {w w' : World} {i t2 fr p : Nat} {l : LaneD} (h : LaneM L w i t2 fr p l) (ht : ∀ k, w.heap.size ≤ k → L k = .other) (hb : Below w.heap.size w w') : LaneM L w' i t2 fr p l :=
  h.stp (X := noX) (Stp.below hb ht) (fun h => h) (fun h => h)
/-- What keyFrame asks for. -/
structure KeyOk (D : DeskD) (i fr : Nat) : Prop where
  ws : ∀ j, j < 3 → WS ((D.hall i).str fr j)
  a0 : 0 ≤ addrAt (D.hall i).r.t fr
  a1 : addrAt (D.hall i).r.t fr < 64
set_option maxRecDepth 100000 in
set_option maxHeartbeats 12800000 in
theorem asked_c {L : Lab} {w : World} {g : Nat} {P : Ptrs} {D : DeskD} (hd : DeskM L w g P D) {i t2 fr : Nat} (hi : i < 4) (ht : t2 < 8) (hf : fr < 8) {l : LaneD} (hl : (D.hall i).lane t2 fr = some l) (hwl : WL l) (hk : KeyOk D i fr) :
    Calls Tryz.prog 121 #[.pointer (some ⟨g, 0, none⟩), .pointer (some ⟨g, i * 367, none⟩), .int .i64 (t2 : Int), .int .i64 (fr : Int)] w fun e w' => e = .returned (.tuple #[]) ∧ ∃ L', DeskM L' w' g P (askedD D i t2 fr) ∧ Stp (tellX (addrAt (D.hall i).r.t fr).toNat) L L' w w' := by
  obtain ⟨X, hX⟩ : ∃ X, X = tellX (addrAt (D.hall i).r.t fr).toNat := ⟨_, rfl⟩
  have hXt : ¬ X .temp := by rw [hX]; unfold tellX; simp
  have HXT := Lib.hid hXt
  obtain ⟨hc, hlm⟩ := hd.lane_ hi ht hf hl
  obtain ⟨res, hres⟩ : ∃ res, res = askedD D i t2 fr := ⟨_, rfl⟩
  have HRE : Hid (res = if (lacksC l.cast).2 then keyFrameD D i fr (lacksC l.cast).1.toNat l.ssrc else if l.cast.any then keyFrameD D i fr l.cast.now.toNat l.ssrc else D) := by show _ = _; rw [hres]; unfold askedD; rw [hl]
  have HKF : Hid (∀ (L' : Lab) (w' : World) (j : Nat), j < 3 → DeskM L' w' g P D → Calls Tryz.prog 103 #[.pointer (some ⟨g, 0, none⟩), .pointer (some ⟨g, i * 367, none⟩), .int .i64 (fr : Int), .int .i64 (j : Int), .int .u32 l.ssrc] w' fun e w'' => e = .returned (.tuple #[]) ∧ ∃ L'', DeskM L'' w'' g P (keyFrameD D i fr j l.ssrc) ∧ Stp X L' L'' w' w'') := fun L' w' j hj hd' => by
    rw [hX]
    exact keyFrame_c hd' hi hf hj hwl.lo hwl.hi (hk.ws j hj) hk.a0 hk.a1
  rw [← hres, ← hX]
  obtain ⟨p, hp⟩ : ∃ p, p = P.lane i t2 fr := ⟨_, rfl⟩
  rw [← hp] at hc hlm
  have hck : w.cell? ⟨g, i * 367 + 303 + t2 * 8 + fr, none⟩ = some (.pointer (some ⟨p, 0, none⟩)) := by rw [show i * 367 + 303 + t2 * 8 + fr = 367 * i + 303 + 8 * t2 + fr by omega]; exact hc
  have HM0 : Hid (DW X w L w L g P D []) := DW.start X hd
  have HLM := Lib.hid hlm
  have HLC := Lib.hid (llacks_c hlm)
  have HSRC : Hid ((lacksC l.cast).2 = true → ∃ j : Nat, j < 3 ∧ (lacksC l.cast).1 = (j : Int)) := fun h => by
    have h1 := lacks_src h
    exact ⟨(lacksC l.cast).1.toNat, by omega, by omega⟩
  have HNOW : Hid (∃ j : Nat, j < 3 ∧ l.cast.now = (j : Int)) := by
    have h1 := good_now hwl.good
    exact ⟨l.cast.now.toNat, by omega, by omega⟩
  obtain ⟨s1, hs1⟩ : ∃ s1, s1 = (lacksC l.cast).1 := ⟨_, rfl⟩
  obtain ⟨s2, hs2⟩ : ∃ s2, s2 = (lacksC l.cast).2 := ⟨_, rfl⟩
  rw [← hs1, ← hs2] at HLC HRE HSRC
  have a0 : (0 : Int) ≤ (t2 : Int) := by omega
  have a1 : (t2 : Int) < 8 := by omega
  have a2 : (0 : Int) ≤ (fr : Int) := by omega
  have a3 : (fr : Int) < 8 := by omega
  clear hd hi ht hf hl hwl hk hX hXt hc hlm hres hp hs1 hs2
  go_enter Tryz.func121, Tryz.ntmps121
  go_wp2_with fail
  refine HLC.out.mono ?_
  rintro e0 w1 ⟨rfl, hbq⟩
  have HM1 : Hid (DW X w L w1 L g P D []) := HM0.out.call hbq
  have HLM1 : Hid (LaneM L w1 i t2 fr p l) := HLM.out.below_ HM0.out.top hbq
  clear hbq hck a0 a1 a2 a3 HM0 HLM
  cases s2
  · obtain ⟨an, han⟩ : ∃ an, an = l.cast.any := ⟨_, rfl⟩
    have HRU := Lib.hid (lruns_c HLM1.out)
    obtain ⟨j, hj, hjn⟩ := HNOW.out
    have HJ := Lib.hid hj
    have HV : Hid (res = if an then keyFrameD D i fr j l.ssrc else D) := by show _ = _; rw [HRE.out, han, hjn]; rfl
    rw [← han, hjn] at HRU
    clear HRE han hj hjn HNOW HSRC
    go_wp2_with fail
    refine HRU.out.mono ?_
    rintro e0 w2 ⟨rfl, hbq⟩
    have HM2 : Hid (DW X w L w2 L g P D []) := HM1.out.call hbq
    have HLM2 : Hid (LaneM L w2 i t2 fr p l) := HLM1.out.below_ HM1.out.top hbq
    clear hbq HM1 HLM1
    cases an
    · have HV2 : Hid (res = D) := by show _ = _; rw [HV.out]; rfl
      clear HV
      go_wp2_with fail
      first
        | go_end0
        | refine bodyPost_ret (results_none rfl _ _ _) rfl ?_
      exact ⟨rfl, L, by rw [HV2.out]; exact HM2.out.dm, HM2.out.stp⟩
    · have HV2 : Hid (res = keyFrameD D i fr j l.ssrc) := by show _ = _; rw [HV.out]; rfl
      have HK2 := Lib.hid (HKF.out L w2 j HJ.out HM2.out.dm)
      have HSS := Lib.hid (ssrc_c HLM2.out)
      obtain ⟨x, hx⟩ : ∃ x, x = l.ssrc := ⟨_, rfl⟩
      rw [← hx] at HV2 HK2 HSS
      clear HV hx
      go_wp2_with fail
      refine HSS.out.mono ?_
      rintro e0 w3 ⟨rfl, rfl⟩
      go_wp2_with fail
      refine HK2.out.mono ?_
      rintro e0 w4 ⟨rfl, L4, hdq, hsq⟩
      have HM4 : Hid (DW X w L w4 L4 g P (keyFrameD D i fr j x) []) := HM2.out.step hsq hdq HXT.out
      clear hdq hsq
      go_wp2_with fail
      first
        | go_end0
        | refine bodyPost_ret (results_none rfl _ _ _) rfl ?_
      exact ⟨rfl, L4, by rw [HV2.out]; exact HM4.out.dm, HM4.out.stp⟩
  · obtain ⟨j, hj, hjn⟩ := HSRC.out rfl
    have HJ := Lib.hid hj
    subst hjn
    have HV2 : Hid (res = keyFrameD D i fr j l.ssrc) := by show _ = _; rw [HRE.out]; rfl
    have HK2 := Lib.hid (HKF.out L w1 j HJ.out HM1.out.dm)
    have HSS := Lib.hid (ssrc_c HLM1.out)
    obtain ⟨x, hx⟩ : ∃ x, x = l.ssrc := ⟨_, rfl⟩
    rw [← hx] at HV2 HK2 HSS
    clear HRE hx HSRC HNOW hj
    go_wp2_with fail
    refine HSS.out.mono ?_
    rintro e0 w3 ⟨rfl, rfl⟩
    go_wp2_with fail
    refine HK2.out.mono ?_
    rintro e0 w4 ⟨rfl, L4, hdq, hsq⟩
    have HM4 : Hid (DW X w L w4 L4 g P (keyFrameD D i fr j x) []) := HM1.out.step hsq hdq HXT.out
    clear hdq hsq
    go_wp2_with fail
    first
      | go_end0
      | refine bodyPost_ret (results_none rfl _ _ _) rfl ?_
    exact ⟨rfl, L4, by rw [HV2.out]; exact HM4.out.dm, HM4.out.stp⟩
set_option maxRecDepth 100000 in
set_option maxHeartbeats 12800000 in
theorem dlacks_c {L : Lab} {w : World} {g : Nat} {P : Ptrs} {D : DeskD} (hd : DeskM L w g P D) {i t2 fr : Nat} (hi : i < 4) (ht : t2 < 8) (hf : fr < 8) {l : LaneD} (hl : (D.hall i).lane t2 fr = some l) (hwl : WL l) (hk : KeyOk D i fr) :
    Calls Tryz.prog 124 #[.pointer (some ⟨g, 0, none⟩), .pointer (some ⟨g, i * 367, none⟩), .int .i64 (t2 : Int), .int .i64 (fr : Int)] w fun e w' => e = .returned (.tuple #[]) ∧ ∃ L', DeskM L' w' g P (lacksD D i t2 fr) ∧ Stp (tellX (addrAt (D.hall i).r.t fr).toNat) L L' w w' := by
  obtain ⟨X, hX⟩ : ∃ X, X = tellX (addrAt (D.hall i).r.t fr).toNat := ⟨_, rfl⟩
  have hXt : ¬ X .temp := by rw [hX]; unfold tellX; simp
  have HXT := Lib.hid hXt
  obtain ⟨hc, hlm⟩ := hd.lane_ hi ht hf hl
  obtain ⟨res, hres⟩ : ∃ res, res = lacksD D i t2 fr := ⟨_, rfl⟩
  have HRE : Hid (res = if (lacksC l.cast).2 then askedD D i t2 fr else D) := by show _ = _; rw [hres]; unfold lacksD; rw [hl]
  have HAK : Hid (∀ (w' : World), DeskM L w' g P D → Calls Tryz.prog 121 #[.pointer (some ⟨g, 0, none⟩), .pointer (some ⟨g, i * 367, none⟩), .int .i64 (t2 : Int), .int .i64 (fr : Int)] w' fun e w'' => e = .returned (.tuple #[]) ∧ ∃ L'', DeskM L'' w'' g P (askedD D i t2 fr) ∧ Stp X L L'' w' w'') := fun w' hd' => by
    rw [hX]
    exact asked_c hd' hi ht hf hl hwl hk
  rw [← hres, ← hX]
  obtain ⟨p, hp⟩ : ∃ p, p = P.lane i t2 fr := ⟨_, rfl⟩
  rw [← hp] at hc hlm
  have hck : w.cell? ⟨g, i * 367 + 303 + t2 * 8 + fr, none⟩ = some (.pointer (some ⟨p, 0, none⟩)) := by rw [show i * 367 + 303 + t2 * 8 + fr = 367 * i + 303 + 8 * t2 + fr by omega]; exact hc
  have HM0 : Hid (DW X w L w L g P D []) := DW.start X hd
  have HLC := Lib.hid (llacks_c hlm)
  obtain ⟨s1, hs1⟩ : ∃ s1, s1 = (lacksC l.cast).1 := ⟨_, rfl⟩
  obtain ⟨s2, hs2⟩ : ∃ s2, s2 = (lacksC l.cast).2 := ⟨_, rfl⟩
  rw [← hs1, ← hs2] at HLC
  rw [← hs2] at HRE
  have a0 : (0 : Int) ≤ (t2 : Int) := by omega
  have a1 : (t2 : Int) < 8 := by omega
  have a2 : (0 : Int) ≤ (fr : Int) := by omega
  have a3 : (fr : Int) < 8 := by omega
  clear hd hi ht hf hl hwl hk hX hXt hc hlm hres hp hs1 hs2
  go_enter Tryz.func124, Tryz.ntmps124
  go_wp2_with fail
  refine HLC.out.mono ?_
  rintro e0 w1 ⟨rfl, hbq⟩
  have HM1 : Hid (DW X w L w1 L g P D []) := HM0.out.call hbq
  clear hbq hck a0 a1 a2 a3 HM0
  cases s2
  · have HV2 : Hid (res = D) := by show _ = _; rw [HRE.out]; rfl
    clear HRE
    go_wp2_with fail
    first
      | go_end0
      | refine bodyPost_ret (results_none rfl _ _ _) rfl ?_
    exact ⟨rfl, L, by rw [HV2.out]; exact HM1.out.dm, HM1.out.stp⟩
  · have HV2 : Hid (res = askedD D i t2 fr) := by show _ = _; rw [HRE.out]; rfl
    have HK2 := Lib.hid (HAK.out w1 HM1.out.dm)
    clear HRE
    go_wp2_with fail
    refine HK2.out.mono ?_
    rintro e0 w4 ⟨rfl, L4, hdq, hsq⟩
    have HM4 : Hid (DW X w L w4 L4 g P (askedD D i t2 fr) []) := HM1.out.step hsq hdq HXT.out
    clear hdq hsq
    go_wp2_with fail
    first
      | go_end0
      | refine bodyPost_ret (results_none rfl _ _ _) rfl ?_
    exact ⟨rfl, L4, by rw [HV2.out]; exact HM4.out.dm, HM4.out.stp⟩
end Go.Proofs.YtmkifedcanmjoaaGreat
