/- What the reference's Hmac and Extract do (contracts). Conditions: the key and the bytes lie in memory; they are no more than fit. (Printed by gen1H.py.) -/
import Derived.Test.YtlapgccfgkokcaaRefSha
set_option linter.unusedVariables false
set_option linter.unusedSimpArgs false
namespace Go.Proofs.Ytlapgccfgkokcaa
open Go.RowKit
attribute [local go_sem ↓] Go.wp_at_zero Go.wp_at_succ

theorem own_of_ub {w : World} {B g n : Nat} {l : List UInt8} (h : UB w g 5 l) (hl : l.length = n) (hB : B ≤ g) (hn : n ≤ 1000) : w.ownsRow B 5 1 (.slice (some ⟨g, 0, none⟩) n n) n (l.map u8v) :=
  ⟨by simp [hl], .inr ⟨g, n, _, rfl, hB, h, Nat.le_refl _, by simp only [maxLen]; omega, by simp [hl], by rw [Nat.mul_one, ← hl]; exact List.take_of_length_le (by simp)⟩⟩
theorem zeros_up (F : Nat → UInt8) : zerosB 64 = upL 64 0 F (fun _ => 0) := by rw [upL_zero]; decide
theorem SlV.append {w : World} {B n k : Nat} {v : Value} {a b : List UInt8} (h : w.ownsRow B 5 1 v (n + k) (a.map u8v ++ b.map u8v)) (hn : a.length = n) (hk : b.length = k) : SlV w v (a ++ b) :=
  SlV.own (base := B) (by unfold ByteRow; rw [List.length_append, hn, hk, List.map_append]; exact h)
/-- What two makes leave, in whatever order. -/
def Two (w0 wx : World) (ga gb : Nat) : Prop := ga ≠ gb ∧ w0.heap.size ≤ ga ∧ w0.heap.size ≤ gb ∧ UB wx ga 5 (zerosB 64) ∧ UB wx gb 5 (zerosB 64) ∧ Below w0.heap.size w0 wx
set_option maxRecDepth 100000 in
set_option maxHeartbeats 6400000 in
theorem rhmac_c (key m : List UInt8) (A D : Option Addr) (n c q d : Nat) (w : World) (h0 : SlV w (.slice A n c) key) (h1 : SlV w (.slice D q d) m) (hl0 : n ≤ 140737488354000) (hl1 : q ≤ 140737488353900) :
    Calls Try.prog 34 #[.slice A n c, .slice D q d] w fun e w' => e = .returned (.agg ((hmacS key m).map u8v).toArray) ∧ Below w.heap.size w w' := by
  obtain ⟨i5, hi5, hz0, hz1, hz2⟩ := info_parts infoByte
  have HK := Lib.hid h0
  have HN := Lib.hid h0.num
  have HM := Lib.hid h1
  have HQ := Lib.hid h1.num
  clear h0 h1
  obtain ⟨k1, hk1⟩ : ∃ k, k = hkey key := ⟨_, rfl⟩
  have HK1 := Lib.hid hk1
  have HKL : Hid (k1.length ≤ 64) := by show _ ≤ _; rw [hk1]; exact hkey_len _
  clear hk1
  go_enter Try.func34, Try.ntmps34
  go_upto_region 1 with fail
  obtain ⟨w0, hw0⟩ : ∃ w0, w0 = w.alloc (.cells (z32.map u8v).toArray 24) := ⟨_, rfl⟩
  change Code.wp _ _ _ _ (w.alloc (.cells (z32.map u8v).toArray 24))
  have HU0 : Hid (UB w0 w.heap.size 24 z32) := by show UB _ _ _ _; rw [hw0]; exact Blk.new _ _ _
  have HB0 : Hid (Below w.heap.size w w0) := by show Below _ _ _; rw [hw0]; exact balloc (Below.refl _ _) _
  have HW0 : Hid (w.heap.size < w0.heap.size) := HU0.out.lt
  rw [← hw0]
  clear hw0
  have HK0 := Lib.hid (HK.out.below HB0.out)
  go_upto_if 15 with fail
  go_cut [5] (fun v0 wx => ∃ A' n' c', v0 = .slice A' n' c' ∧ SlV wx (.slice A' n' c') k1 ∧ Below w0.heap.size w0 wx)
  case first =>
    by_cases hlong : 64 < n
    · have hli : (64 : Int) < (n : Int) := by omega
      obtain ⟨O, hO⟩ : ∃ O, O = shaS key := ⟨_, rfl⟩
      have hOl : O.length = 32 := by rw [hO]; exact shaS_len _
      have hkO : k1 = O := by rw [hO, HK1.out, hkey, if_pos (by rw [← HN.out]; exact hlong)]
      have hsha := rsha_c key A n c w0 HK0.out (by omega)
      rw [← hO] at hsha
      have HSHA := Lib.hid hsha
      have HOL := Lib.hid hOl
      have HKO := Lib.hid hkO
      have HJ := Lib.hid (infoO hOl)
      clear hO hOl hkO hlong hsha
      go_wp2_with (first
        | (go_at_call 23
           refine HSHA.out.mono ?_
           rintro e0 w1 ⟨rfl, hb1⟩
           have HB1 : Hid (Below w0.heap.size w0 w1) := hb1
           have HU1 : Hid (UB (w1.alloc (.cells (z32.map u8v).toArray 24)) w1.heap.size 24 z32) := Blk.new _ _ _
           have HTH : Hid ((w1.alloc (.cells (z32.map u8v).toArray 24)).there w1.heap.size 0 (O.map u8v).toArray.size) := there32 HU1.out rfl HOL.out
           clear hb1)
        | ((with_reducible show wpList _ _ _ (⟨none, .store 24 (.tmp 6) (.tmp 17), _, _, _, _⟩ :: _) _ _); refine wpList_store_mid rfl 24 (.tmp 6) (.tmp 17) rfl w1.heap.size 0 (O.map u8v).toArray rfl rfl HTH.out HJ.out (bytes_one _) ?_))
      go_meet
      refine ⟨_, _, _, rfl, ?_, below_setCells (balloc HB1.out _) HB1.out.size _ _⟩
      rw [HKO.out]
      exact SlV.arr (t := 24) (blk_setAll HU1.out (by rw [List.length_map, HOL.out]; rfl)) HOL.out
    · have hli : ¬ (64 : Int) < (n : Int) := by omega
      have hkO : k1 = key := by rw [HK1.out, hkey, if_neg (by rw [← HN.out]; exact hlong)]
      have HKO := Lib.hid hkO
      clear hkO hlong
      go_wp2_with fail
      go_meet
      exact ⟨A, n, c, rfl, by rw [HKO.out]; exact HK0.out, Below.refl _ _⟩
  case rest =>
    obtain ⟨A', n', c', rfl, hk', hb'⟩ := hcut
    have HKC := Lib.hid hk'
    have HKN := Lib.hid hk'.num
    have HBW : Hid (Below w.heap.size w wc) := HB0.out.trans (hb'.mono (Nat.le_of_lt HW0.out))
    have HUC : Hid (UB wc w.heap.size 24 z32) := Blk.below HU0.out hb'
    have HUL : Hid (w.heap.size < wc.heap.size) := HUC.out.lt
    have HWC : Hid (w.heap.size ≤ wc.heap.size) := HBW.out.size
    obtain ⟨wd, rfl⟩ : ∃ wd : World, wd = wc := ⟨_, rfl⟩
    clear hk' hb' HK0 HU0 HB0 HW0 HK HN
    have hmk : ∀ wx : World, (Instr.makeSlice 27 (.int .i64 64) (.int .i64 64)).run Try.prog wx = .ok (.slice (some ⟨wx.heap.size, 0, none⟩) 64 64) (wx.alloc (.cells ((zerosB 64).map u8v).toArray 5)) := fun wx => run_make_bytes 64 (by decide) wx
    go_upto_region 5 with fail
    go_cut [7, 8] (fun v7 v8 wx => ∃ ga gb, v7 = .slice (some ⟨ga, 0, none⟩) 64 64 ∧ v8 = .slice (some ⟨gb, 0, none⟩) 64 64 ∧ Two wd wx ga gb)
    case first =>
      generalize hZ : ((zerosB 64).map u8v).toArray = Z at hmk
      go_region
      · go_wp2_with fail
        go_meet
        subst hZ
        exact ⟨_, _, rfl, rfl, by omega, Nat.le_refl _, by omega, Blk.alloc (Blk.new _ _ _) _, Blk.newAt (by simp) _ _, bdrew (balloc (balloc (Below.refl _ _) _) _)⟩
      · go_wp2_with fail
        go_meet
        subst hZ
        exact ⟨_, _, rfl, rfl, by omega, by omega, Nat.le_refl _, Blk.newAt (by simp) _ _, Blk.alloc (Blk.new _ _ _) _, bdrew (balloc (balloc (Below.refl _ _) _) _)⟩
    case rest =>
      obtain ⟨ga, gb, rfl, rfl, hne, hga, hgb, hua, hub, hbx⟩ := hcut
      obtain ⟨K, hK⟩ : ∃ K : Nat → UInt8, K = fun i => k1.getD i 0 := ⟨_, rfl⟩
      obtain ⟨F1, hF1⟩ : ∃ F : Nat → UInt8, F = fun i => k1.getD i 0 ^^^ 0x36 := ⟨_, rfl⟩
      obtain ⟨F2, hF2⟩ : ∃ F : Nat → UInt8, F = fun i => k1.getD i 0 ^^^ 0x5c := ⟨_, rfl⟩
      have HF1 := Lib.hid hF1
      have HF2 := Lib.hid hF2
      have HGA := Lib.hid hga
      have HGB := Lib.hid hgb
      have HNE := Lib.hid hne
      rw [zeros_up F1] at hua
      rw [zeros_up F2] at hub
      have HA0 := Lib.hid hua
      have HB0 := Lib.hid hub
      have HBX := Lib.hid hbx
      clear hF1 hF2 hK hga hgb hne hua hub hbx hmk
      go_upto_region 7 with fail
      go_loopg [9] 64 (fun gg v9 wx => ∃ i : Nat, i ≤ 64 ∧ gg = 64 - i ∧ v9 = .int .i64 (i : Int) ∧ UB wx ga 5 (upL 64 i F1 (fun _ => 0)) ∧ UB wx gb 5 (upL 64 i F2 (fun _ => 0)) ∧ Below wd.heap.size wd wx)
      case atStart => exact ⟨0, by omega, rfl, rfl, HA0.out, HB0.out, HBX.out⟩
      case round =>
        obtain ⟨i, hi, rfl, rfl, ha, hb, hbe⟩ := hrel
        clear HA0 HB0 HBX
        have HA := Lib.hid ha
        have HBB := Lib.hid hb
        have HB := Lib.hid hbe
        by_cases hi2 : i < 64
        · have hii : (i : Int) < 64 := by omega
          have ca := ha.cell i (by rw [upL_len]; exact hi2)
          have cb := hb.cell i (by rw [upL_len]; exact hi2)
          have fa := ha.free i
          have fb := hb.free i
          rw [upL_getD _ _ _ _ _ hi2, if_neg (by omega)] at ca cb
          have cb2 : ∀ u, (wr.setCell ⟨ga, i, none⟩ u).cell? ⟨gb, i, none⟩ = wr.cell? ⟨gb, i, none⟩ := fun u => World.cell?_setCell_other _ _ _ _ (fun e => HNE.out (by have := congrArg Addr.block e; first | exact this | exact this.symm))
          by_cases hik : i < n'
          · have hiki : (i : Int) < (n' : Int) := by omega
            obtain ⟨x, hx⟩ : ∃ x, x = k1.getD i 0 := ⟨_, rfl⟩
            obtain ⟨g, o, hA', hg, hcs⟩ := head_cells (HKC.out.num ▸ HKC.out.rd) (by rw [← HKN.out]; omega)
            subst hA'
            have cx : wr.cell? ⟨g, o + i, none⟩ = some (.int .u8 (x.toNat : Int)) := by
              rw [hx]
              exact (hbe.cell (p := ⟨g, o + i, none⟩) hg).trans (hcs i (by rw [← HKN.out]; exact hik))
            obtain ⟨y1, hy1⟩ : ∃ y, y = x ^^^ 0x36 := ⟨_, rfl⟩
            obtain ⟨y2, hy2⟩ : ∃ y, y = x ^^^ 0x5c := ⟨_, rfl⟩
            have hx1 : bits .xor .u8 (x.toNat : Int) 54 = (y1.toNat : Int) := by rw [hy1]; exact U8.xor x 0x36
            have hx2 : bits .xor .u8 (x.toNat : Int) 92 = (y2.toNat : Int) := by rw [hy2]; exact U8.xor x 0x5c
            have HF1I : Hid (F1 i = y1) := by show _ = _; rw [HF1.out, hy1, hx]
            have HF2I : Hid (F2 i = y2) := by show _ = _; rw [HF2.out, hy2, hx]
            clear hx hy1 hy2 hcs ha hb hbe
            go_wp2_with fail
            go_roundg (64 - (i + 1))
            case measure => omega
            case rel =>
              refine ⟨i + 1, by omega, rfl, by go_num, ?_, ?_, bset (bset HB.out (p := ⟨ga, i, none⟩) HGA.out _) (p := ⟨gb, i, none⟩) HGB.out _⟩
              · rw [← upL_set F1 _ hi2, HF1I.out]
                exact Blk.far (UB.set HA.out i y1) (p := ⟨gb, i, none⟩) HNE.out _
              · rw [← upL_set F2 _ hi2, HF2I.out]
                exact UB.set (Blk.far HBB.out (p := ⟨ga, i, none⟩) (Ne.symm HNE.out) _) i y2

          · have hiki : ¬ (i : Int) < (n' : Int) := by omega
            have hk0 : k1.getD i 0 = 0 := by rw [List.getD_eq_getElem?_getD, List.getElem?_eq_none (by rw [← HKN.out]; omega)]; rfl
            obtain ⟨y1, hy1⟩ : ∃ y : UInt8, y = 0x36 := ⟨_, rfl⟩
            obtain ⟨y2, hy2⟩ : ∃ y : UInt8, y = 0x5c := ⟨_, rfl⟩
            have hx1 : bits .xor .u8 0 54 = (y1.toNat : Int) := by rw [hy1]; decide
            have hx2 : bits .xor .u8 0 92 = (y2.toNat : Int) := by rw [hy2]; decide
            have HF1I : Hid (F1 i = y1) := by show _ = _; rw [HF1.out, hy1]; show k1.getD i 0 ^^^ 0x36 = _; rw [hk0]; rfl
            have HF2I : Hid (F2 i = y2) := by show _ = _; rw [HF2.out, hy2]; show k1.getD i 0 ^^^ 0x5c = _; rw [hk0]; rfl
            clear hy1 hy2 hk0 ha hb hbe
            go_wp2_with fail
            go_roundg (64 - (i + 1))
            case measure => omega
            case rel =>
              refine ⟨i + 1, by omega, rfl, by go_num, ?_, ?_, bset (bset HB.out (p := ⟨ga, i, none⟩) HGA.out _) (p := ⟨gb, i, none⟩) HGB.out _⟩
              · rw [← upL_set F1 _ hi2, HF1I.out]
                exact Blk.far (UB.set HA.out i y1) (p := ⟨gb, i, none⟩) HNE.out _
              · rw [← upL_set F2 _ hi2, HF2I.out]
                exact UB.set (Blk.far HBB.out (p := ⟨ga, i, none⟩) (Ne.symm HNE.out) _) i y2

        · have hi3 : i = 64 := by omega
          subst hi3
          obtain ⟨P1, hP1⟩ : ∃ P, P = padK k1 0x36 := ⟨_, rfl⟩
          obtain ⟨P2, hP2⟩ : ∃ P, P = padK k1 0x5c := ⟨_, rfl⟩
          obtain ⟨O1, hO1⟩ : ∃ O, O = shaS (P1 ++ m) := ⟨_, rfl⟩
          obtain ⟨O2, hO2⟩ : ∃ O, O = shaS (P2 ++ O1) := ⟨_, rfl⟩
          have HPA : Hid (UB wr ga 5 P1) := by show UB _ _ _ _; rw [hP1, padK, ← HF1.out, ← upL_full 64 F1 (fun _ => 0)]; exact ha
          have HPB : Hid (UB wr gb 5 P2) := by show UB _ _ _ _; rw [hP2, padK, ← HF2.out, ← upL_full 64 F2 (fun _ => 0)]; exact hb
          have HP1L : Hid (P1.length = 64) := by show _ = _; rw [hP1]; exact padK_len _ _
          have HP2L : Hid (P2.length = 64) := by show _ = _; rw [hP2]; exact padK_len _ _
          have hO1l : O1.length = 32 := by rw [hO1]; exact shaS_len _
          have hO2l : O2.length = 32 := by rw [hO2]; exact shaS_len _
          have HO2E : Hid (hmacS key m = O2) := by show _ = _; rw [hO2, hO1, hmacS, ← HK1.out, ← hP1, ← hP2]
          have HO1 := Lib.hid hO1
          have HO2 := Lib.hid hO2
          have HO1L := Lib.hid hO1l
          have HO2L := Lib.hid hO2l
          have HJ1 := Lib.hid (infoO hO1l)
          have HJ2 := Lib.hid (infoO hO2l)
          have HI2 := Lib.hid (infoL hO2l)
          have HBR : Hid (Below w.heap.size w wr) := bcall HBW.out hbe
          have HUR : Hid (UB wr w.heap.size 24 z32) := Blk.below HUC.out hbe
          have HOA : Hid (wr.ownsRow wd.heap.size 5 1 (.slice (some ⟨ga, 0, none⟩) 64 64) 64 (P1.map u8v)) := own_of_ub HPA.out HP1L.out HGA.out (by decide)
          have HMR : Hid (Reads wr wr.heap.size 1 D q (m.map u8v)) := (HM.out.below HBR.out).rd
          clear hP1 hP2 hO1 hO2 hO1l hO2l ha hb hbe HF1 HF2 HPA HA HBB
          go_upto_region 14 with (first
            | (at_builtin
               refine wpList_append_any _ rfl (.tmp 43) (.tmp 44) _ rfl wd.heap.size 5 i5 _ 1 1 Try.underlying27 hi5 hz0 hz1 hz2 rfl (by omega) (.slice (some ⟨ga, 0, none⟩) 64 64) 64 (P1.map u8v) rfl HOA.out
                 _ D q d (m.map u8v) rfl HMR.out (u8_one m) (by simp only [maxLen]; omega) (by omega) HB.out.size ?_
               intro v1 w1 hown1 hg1 hv1
               obtain ⟨A1, c1, rfl⟩ := own_slice hown1
               have HS1 : Hid (SlV w1 (.slice A1 (64 + q) c1) (P1 ++ m)) := SlV.append hown1 HP1L.out HQ.out.symm
               have HB1 : Hid (Below wd.heap.size wd w1) := own_grow_below HB.out HOA.out hg1
               have HPB1 : Hid (UB w1 gb 5 P2) := Blk.grown HPB.out hg1 (by simp only [Value.ownBlock]; intro e; injection e with e; exact HNE.out e.symm)
               have HSH1 : Hid (Calls Try.prog 23 #[.slice A1 (64 + q) c1] w1 fun e w' => e = .returned (.agg (O1.map u8v).toArray) ∧ Below w1.heap.size w1 w') := by
                 have := rsha_c (P1 ++ m) A1 (64 + q) c1 w1 HS1.out (by omega)
                 rw [← HO1.out] at this
                 exact this
               clear hown1 hg1 hv1)
            | (go_at_call 23
               refine HSH1.out.mono ?_
               rintro e0 w2 ⟨rfl, hb2⟩
               have HB2 : Hid (Below wd.heap.size wd w2) := bcall HB1.out hb2
               have HPB2 : Hid (UB w2 gb 5 P2) := Blk.below HPB1.out hb2
               have HU2 : Hid (UB (w2.alloc (.cells (z32.map u8v).toArray 24)) w2.heap.size 24 z32) := Blk.new _ _ _
               have HTH : Hid ((w2.alloc (.cells (z32.map u8v).toArray 24)).there w2.heap.size 0 (O1.map u8v).toArray.size) := there32 HU2.out rfl HO1L.out
               clear hb2)
            | ((with_reducible show wpList _ _ _ (⟨none, .store 24 (.tmp 11) (.tmp 46), _, _, _, _⟩ :: _) _ _); refine wpList_store_mid rfl 24 (.tmp 11) (.tmp 46) rfl w2.heap.size 0 (O1.map u8v).toArray rfl rfl HTH.out HJ1.out (bytes_one _) ?_))
          obtain ⟨w3, hw3⟩ : ∃ w3, w3 = (w2.alloc (.cells (z32.map u8v).toArray 24)).setCells w2.heap.size 0 (O1.map u8v) := ⟨_, rfl⟩
          change Code.wp _ _ _ _ ((w2.alloc (.cells (z32.map u8v).toArray 24)).setCells w2.heap.size 0 (O1.map u8v))
          have HUO3 : Hid (UB w3 w2.heap.size 24 O1) := by show UB _ _ _ _; rw [hw3]; exact blk_setAll HU2.out (by rw [List.length_map, HO1L.out]; rfl)
          have HB3 : Hid (Below wd.heap.size wd w3) := by show Below _ _ _; rw [hw3]; exact below_setCells (balloc HB2.out _) HB2.out.size _ _
          have hlb : gb < w2.heap.size := HPB2.out.lt
          have HPB3 : Hid (UB w3 gb 5 P2) := by show UB _ _ _ _; rw [hw3]; exact Blk.farAll (by omega) _ _ _ (Blk.alloc HPB2.out _)
          rw [← hw3]
          have HOB : Hid (w3.ownsRow wd.heap.size 5 1 (.slice (some ⟨gb, 0, none⟩) 64 64) 64 (P2.map u8v)) := own_of_ub HPB3.out HP2L.out HGB.out (by decide)
          have HMR3 : Hid (Reads w3 w3.heap.size 1 (some ⟨w2.heap.size, 0, none⟩) 32 (O1.map u8v)) := (SlV.arr HUO3.out HO1L.out).rd
          clear hw3 hlb HB1 HPB1 HSH1 HB2 HPB2 HU2 HTH HS1 HOA HMR HPB HUR HBR
          go_wp2_with (first
            | (at_builtin
               refine wpList_append_any _ rfl (.tmp 47) (.tmp 48) _ rfl wd.heap.size 5 i5 _ 1 1 Try.underlying27 hi5 hz0 hz1 hz2 rfl (by omega) (.slice (some ⟨gb, 0, none⟩) 64 64) 64 (P2.map u8v) rfl HOB.out
                 _ (some ⟨w2.heap.size, 0, none⟩) 32 32 (O1.map u8v) rfl HMR3.out (u8_one O1) (by simp only [maxLen]; omega) (by omega) HB3.out.size ?_
               intro v4 w4 hown4 hg4 hv4
               obtain ⟨A4, c4, rfl⟩ := own_slice hown4
               have HS4 : Hid (SlV w4 (.slice A4 (64 + 32) c4) (P2 ++ O1)) := SlV.append hown4 HP2L.out HO1L.out
               have HB4 : Hid (Below wd.heap.size wd w4) := own_grow_below HB3.out HOB.out hg4
               have HSH4 : Hid (Calls Try.prog 23 #[.slice A4 (64 + 32) c4] w4 fun e w' => e = .returned (.agg (O2.map u8v).toArray) ∧ Below w4.heap.size w4 w') := by
                 have := rsha_c (P2 ++ O1) A4 (64 + 32) c4 w4 HS4.out (by omega)
                 rw [← HO2.out] at this
                 exact this
               clear hown4 hg4 hv4)
            | (go_at_call 23
               refine HSH4.out.mono ?_
               rintro e0 w5 ⟨rfl, hb5⟩
               have HB5 : Hid (Below wd.heap.size wd w5) := bcall HB4.out hb5
               have HU5 : Hid (UB w5 w.heap.size 24 z32) := Blk.below HUC.out HB5.out
               have HTH5 : Hid (w5.there w.heap.size 0 (O2.map u8v).toArray.size) := there32 HU5.out rfl HO2L.out
               clear hb5)
            | ((with_reducible show wpList _ _ _ (⟨none, .store 24 (.tmp 4) (.tmp 50), _, _, _, _⟩ :: _) _ _); refine wpList_store_mid rfl 24 (.tmp 4) (.tmp 50) rfl w.heap.size 0 (O2.map u8v).toArray rfl rfl HTH5.out HJ2.out (bytes_one _) ?_))
          have hst : UB (w5.setCells w.heap.size 0 (O2.map u8v)) w.heap.size 24 O2 := blk_setAll HU5.out (by rw [List.length_map, HO2L.out]; rfl)
          have hload := run_loadVar_mid (P := Try.prog) (w5.setCells w.heap.size 0 (O2.map u8v)) w.heap.size 0 24 (O2.map u8v) _ hst.range Try.underlying24 rfl HI2.out
          refine bodyPost_ret (results_one rfl _ _ w.heap.size _ rfl hload) rfl (And.intro (by rw [HO2E.out]) ?_)
          exact below_setCells (bcall HBW.out HB5.out) (Nat.le_refl _) _ _
set_option maxRecDepth 100000 in
set_option maxHeartbeats 3200000 in
theorem rextract_c (salt key : List UInt8) (A0 A1 : Option Addr) (n0 n1 c0 c1 : Nat) (w : World) (h0 : SlV w (.slice A0 n0 c0) salt) (h1 : SlV w (.slice A1 n1 c1) key) (hl0 : n0 ≤ 140737488354000) (hl1 : n1 ≤ 140737488353900) :
    Calls Try.prog 38 #[.slice A0 n0 c0, .slice A1 n1 c1] w fun e w' => e = .returned (.agg ((hmacS salt key).map u8v).toArray) ∧ Below w.heap.size w w' := by
  obtain ⟨O, hO⟩ : ∃ O, O = hmacS salt key := ⟨_, rfl⟩
  have hOl : O.length = 32 := by rw [hO]; exact hmacS_len _ _
  have HOE := Lib.hid hO
  have HOL := Lib.hid hOl
  have HJ := Lib.hid (infoO hOl)
  have HI := Lib.hid (infoL hOl)
  have H0 := Lib.hid h0
  have H1 := Lib.hid h1
  clear h0 h1 hO hOl
  go_enter Try.func38, Try.ntmps38
  go_upto_region 1 with fail
  obtain ⟨w0, hw0⟩ : ∃ w0, w0 = w.alloc (.cells (z32.map u8v).toArray 24) := ⟨_, rfl⟩
  change Code.wp _ _ _ _ (w.alloc (.cells (z32.map u8v).toArray 24))
  have HU0 : Hid (UB w0 w.heap.size 24 z32) := by show UB _ _ _ _; rw [hw0]; exact Blk.new _ _ _
  have HB0 : Hid (Below w.heap.size w w0) := by show Below _ _ _; rw [hw0]; exact balloc (Below.refl _ _) _
  rw [← hw0]
  clear hw0
  have HH : Hid (Calls Try.prog 34 #[.slice A0 n0 c0, .slice A1 n1 c1] w0 fun e w' => e = .returned (.agg (O.map u8v).toArray) ∧ Below w0.heap.size w0 w') := by
    have := rhmac_c salt key A0 A1 n0 c0 n1 c1 w0 (H0.out.below HB0.out) (H1.out.below HB0.out) hl0 hl1
    rw [← HOE.out] at this
    exact this
  go_wp2_with (first
    | (go_at_call 34
       refine HH.out.mono ?_
       rintro e0 w2 ⟨rfl, hb2⟩
       have HU2 : Hid (UB w2 w.heap.size 24 z32) := Blk.below HU0.out hb2
       have HTH : Hid (w2.there w.heap.size 0 (O.map u8v).toArray.size) := there32 HU2.out rfl HOL.out
       have HB2 : Hid (Below w.heap.size w w2) := bcall HB0.out hb2
       clear hb2)
    | ((with_reducible show wpList _ _ _ (⟨none, .store 24 (.tmp 4) (.tmp 7), _, _, _, _⟩ :: _) _ _); refine wpList_store_mid rfl 24 (.tmp 4) (.tmp 7) rfl w.heap.size 0 (O.map u8v).toArray rfl rfl HTH.out HJ.out (bytes_one _) ?_))
  have hst : UB (w2.setCells w.heap.size 0 (O.map u8v)) w.heap.size 24 O := blk_setAll HU2.out (by rw [List.length_map, HOL.out]; rfl)
  have hload := run_loadVar_mid (P := Try.prog) (w2.setCells w.heap.size 0 (O.map u8v)) w.heap.size 0 24 (O.map u8v) _ hst.range Try.underlying24 rfl HI.out
  refine bodyPost_ret (results_one rfl _ _ w.heap.size _ rfl hload) rfl (And.intro (by rw [HOE.out]) ?_)
  exact below_setCells HB2.out (Nat.le_refl _) _ _
end Go.Proofs.Ytlapgccfgkokcaa
