/- Texts of this claim, one behind the other: Dgram, Draw, SNote. Each says ahead of itself what it proves, and its conditions. -/
import Derived.Test.YtmkifedcanmjoaaGreatKi
import Derived.Test.YtmkifedcanmjoaaGreatKk
/- desk.datagram of one rate; Do of it (contracts). Conditions: who sends is in a room, has the lane; numbers that fit. -/
set_option linter.unusedVariables false
set_option linter.unusedSimpArgs false
namespace Go.Proofs.YtmkifedcanmjoaaGreat
open Go.RowKit
attribute [local go_sem ↓] Go.wp_at_zero Go.wp_at_succ
/-- What is asked of a desk that takes a rate. -/
structure RateOk (D : DeskD) (i s fr : Nat) (l : LaneD) (x : Nat) : Prop where
  lane : laneS (D.hall i) s (x : Int) = some fr
  is : (D.hall i).lane s fr = some l
  wl : WL l
  key : KeyOk D i fr
set_option maxRecDepth 100000 in
set_option maxHeartbeats 12800000 in
theorem dgram_c {L : Lab} {w : World} {g : Nat} {P : Ptrs} {D : DeskD} (hd : DeskM L w g P D) {a i s fr : Nat} {l : LaneD} {ex mt x : Nat} (hex : ex ≤ 63) (hmt : mt < 262144) (hx : x < 4294967296) (hw : whereD D a = some (i, s)) (hr : RateOk (heardD D i a) i s fr l x) {A : Option Addr} {n c : Nat} (hb : ByV L w (.slice A n c) (rembD ex mt x)) :
    Calls Tryz.prog 29 #[.pointer (some ⟨g, 0, none⟩), .int .i64 (a : Int), .slice A n c] w fun e w' => e = .returned (.tuple #[]) ∧ ∃ L' P', DeskM L' w' g P' (roomD (heardD D i a) i s (x : Int) (rateS mt (ex : Int))) ∧ Stp mutX L L' w w' := by
  obtain ⟨p1, p2, p3⟩ := one_remb hex hmt hx
  have hn := hb.1.num
  rw [p3] at hn
  subst hn
  obtain ⟨hi, hs, _⟩ := where_some hw
  simp only at hi hs
  have HWC := Lib.hid (where_c hd (a : Int))
  rw [hw] at HWC
  unfold whereV hallV at HWC
  have HM0 : Hid (DW mutX w L w L g P D []) := DW.start mutX hd
  have HBV := Lib.hid hb
  have HI := Lib.hid hi
  have HS := Lib.hid hs
  have HR := Lib.hid hr
  have HX : Hid (ex ≤ 63 ∧ mt < 262144 ∧ x < 4294967296) := ⟨hex, hmt, hx⟩
  have HIS : Hid (isB (rembD ex mt x) = true) := isB_of (by omega) rfl
  clear hd hex hmt hx hw hr hb p1 p2 p3 hi hs
  go_enter Tryz.func29, Tryz.ntmps29
  go_wp2_with fail
  refine HWC.out.mono ?_
  rintro e0 w1 ⟨rfl, hbq⟩
  have HM1 : Hid (DW mutX w L w1 L g P D []) := HM0.out.call hbq
  clear hbq HM0 HWC
  go_wp2_with fail
  refine (heard_c HM1.out.dm HI.out (a : Int)).mono ?_
  rintro e0 w2 ⟨rfl, hdq, hsq⟩
  have HM2 : Hid (DW mutX w L w2 L g P (heardD D i a) []) := HM1.out.step (hsq.mono dskX_mut) hdq mutX_temp
  clear hdq hsq HM1
  have HB2 : Hid (ByV L w2 (.slice A 24 c) (rembD ex mt x)) := HM2.out.stp.ot_ HBV.out mutX_other
  go_wp2_with fail
  refine (is_c (rembD ex mt x) A 24 c w2 HB2.out.1).mono ?_
  rintro e0 w3 ⟨rfl, rfl⟩
  rw [HIS.out]
  go_wp2_with fail
  refine (reports_c HM2.out.dm HI.out HS.out HX.out.1 HX.out.2.1 HX.out.2.2 HR.out.lane HR.out.is HR.out.wl HR.out.key HB2.out.1).mono ?_
  rintro e0 w4 ⟨rfl, L4, P4, hdq, hsq⟩
  have HM4 : Hid (DW mutX w L w4 L4 g P4 (roomD (heardD D i a) i s (x : Int) (rateS mt (ex : Int))) []) := HM2.out.step hsq hdq mutX_temp
  clear hdq hsq
  go_wp2_with fail
  first
    | go_end0
    | refine bodyPost_ret (results_none rfl _ _ _) rfl ?_
  exact ⟨rfl, L4, P4, HM4.out.dm, HM4.out.stp⟩
set_option maxRecDepth 100000 in
set_option maxHeartbeats 6400000 in
theorem doGram_c {L : Lab} {w : World} {g : Nat} {P : Ptrs} {D : DeskD} (hd : DeskM L w g P D) {a i s fr : Nat} (ha : a < 64) (N : Int) {l : LaneD} {ex mt x : Nat} (hex : ex ≤ 63) (hmt : mt < 262144) (hx : x < 4294967296) (hw : whereD D a = some (i, s)) (hr : RateOk (heardD D i a) i s fr l x) {A : Option Addr} {n c : Nat} (hb : ByV L w (.slice A n c) (rembD ex mt x)) :
    Calls Tryz.prog 11 #[.pointer (some ⟨g, 0, none⟩), .agg #[.int .i64 1, .int .i64 (a : Int), .int .i64 N, .slice A n c]] w fun e w' => e = .returned (.tuple #[.slice none 0 0, .int .i64 0]) ∧ ∃ L' P', DeskM L' w' g P' (roomD (heardD D i a) i s (x : Int) (rateS mt (ex : Int))) ∧ Stp mutX L L' w w' := by
  have HBV := Lib.hid hb
  have HX : Hid (ex ≤ 63 ∧ mt < 262144 ∧ x < 4294967296) := ⟨hex, hmt, hx⟩
  have HW := Lib.hid hw
  have HR := Lib.hid hr
  have HM0 : Hid (DW mutX w L w L g P D []) := DW.start mutX hd
  obtain ⟨q, hq⟩ : ∃ q, q = w.heap.size := ⟨_, rfl⟩
  obtain ⟨w1, hw1⟩ : ∃ w1, w1 = w.alloc (.cells #[.int .i64 1, .int .i64 (a : Int), .int .i64 N, .slice A n c] 30) := ⟨_, rfl⟩
  obtain ⟨L1, hL1⟩ : ∃ L1, L1 = tempAt L w.heap.size := ⟨_, rfl⟩
  have HM1 : Hid (DW mutX w L w1 L1 g P D [(q, 30, [.int .i64 1, .int .i64 (a : Int), .int .i64 N, .slice A n c])]) := by
    show DW _ _ _ _ _ _ _ _ _
    rw [hw1, hq, hL1]
    exact HM0.out.alloc _ [_, _, _, _]
  have HA := Lib.hid ha
  have HADR := Lib.hid (adrB_nat ha)
  clear hd hL1 HM0 ha hb hex hmt hx hw hr
  go_enter Tryz.func11, Tryz.ntmps11
  go_upto_region 1 with fail
  rw [← hw1, ← hq]
  clear hw1 hq
  obtain ⟨q0, q1, q2, q3⟩ := HM1.out.cell4 (.head _)
  go_wp2_with fail
  refine (daddr_c (a : Int) w1).mono ?_
  rintro e0 w2 ⟨rfl, hbq⟩
  have HM2 := Lib.hid (HM1.out.call hbq)
  rw [HADR.out]
  clear hbq q0 q1 q2 q3 HM1
  obtain ⟨q0, q1, q2, q3⟩ := HM2.out.cell4 (.head _)
  have HB2 : Hid (ByV L1 w2 (.slice A n c) (rembD ex mt x)) := HM2.out.stp.ot_ HBV.out mutX_other
  go_wp2_with fail
  refine (dgram_c HM2.out.dm HX.out.1 HX.out.2.1 HX.out.2.2 HW.out HR.out HB2.out).mono ?_
  rintro e0 w3 ⟨rfl, L3, P3, hdq, hsq⟩
  have HM3 := Lib.hid (HM2.out.step hsq hdq mutX_temp)
  clear hdq hsq q0 q1 q2 q3
  go_wp2_with fail
  go_ret2
  exact ⟨rfl, L3, P3, HM3.out.dm, HM3.out.stp⟩
end Go.Proofs.YtmkifedcanmjoaaGreat
/- desk.Do of a draw (contract). Conditions: there is room; the number fits. -/
set_option linter.unusedVariables false
set_option linter.unusedSimpArgs false
namespace Go.Proofs.YtmkifedcanmjoaaGreat
open Go.RowKit
attribute [local go_sem ↓] Go.wp_at_zero Go.wp_at_succ
/-- The draws have grown. -/
theorem draw_grown {L : Lab} {w0 W W2 : World} {g : Nat} {P : Ptrs} {D : DeskD} {v v' : Value} {x : Int} (hd : DeskM L w0 g P D) (hv : w0.cell? ⟨g, 1469, none⟩ = some v) (hr : Row w0 32 1 v D.draws.length (D.draws.map (Value.int .u32))) (hown : ∀ k, v.ownBlock = some k → L k = .draws) (hbel : Below w0.heap.size w0 W)
    (hrow : Row W2 32 1 v' (D.draws.length + 1) (D.draws.map (Value.int .u32) ++ [.int .u32 x])) (hg : W.grownBy W2 v.ownBlock) (hat : v'.ownBlock = v.ownBlock ∨ v'.ownBlock = some W.heap.size) :
    ∃ L', DeskM L' (W2.setCell ⟨g, 1469, none⟩ v') g P { D with draws := D.draws ++ [x] } ∧ Stp drawX L L' w0 (W2.setCell ⟨g, 1469, none⟩ v') := by
  obtain ⟨hlab, htop, C, hC, hD⟩ := hd
  have hgo : ∀ k, v.ownBlock = some k → g ≠ k := fun k hk => by
    obtain ⟨cs, hbk⟩ := hr.blk hk
    exact hC.ne_ hbk (by decide)
  have hW : Blk W g 113 C.toArray := hC.below hbel
  have hW2 : Blk W2 g 113 C.toArray := hW.grown hg (fun e => hgo g e.symm rfl)
  have hW3 : Blk (W2.setCell ⟨g, 1469, none⟩ v') g 113 (C.set 1469 v').toArray := by
    have := Blk.set_ hW2 1469 v'
    rw [List.setIfInBounds_toArray] at this
    exact this
  have hs : Stp drawX L (labTo L v' .draws) w0 (W2.setCell ⟨g, 1469, none⟩ v') := by
    refine ⟨⟨hg.os.trans hbel.os, hg.tape.trans hbel.tape, hg.output.trans hbel.output, ?_, fun k hk hx => ?_⟩, fun k hk => ?_, fun k hk => ?_⟩
    · rw [World.size_setCell]; exact Nat.le_trans hbel.size hg.size
    · have h1 : k ≠ g := fun e => hx (.inl (by rw [e]; exact hlab))
      have h2 : some k ≠ v.ownBlock := fun e => hx (.inr (hown k e.symm))
      rw [Below.heap_setCell W2 _ v' k (by exact h1), hg.block k (Nat.lt_of_lt_of_le hk hbel.size) h2]
      exact hbel.block k hk
    · unfold labTo
      split
      · rename_i e
        rcases hat with hat | hat
        · rw [hat] at e
          exact (hown k e.symm).symm
        · rw [hat] at e
          injection e with e
          have := hbel.size
          omega
      · rfl
    · rw [World.size_setCell] at hk
      unfold labTo
      rw [if_neg (fun e => by have := hrow.lt e.symm; omega)]
      exact htop k (by have := hbel.size; have := hg.size; omega)
  have hrow3 : Row (W2.setCell ⟨g, 1469, none⟩ v') 32 1 v' (D.draws ++ [x]).length ((D.draws ++ [x]).map (Value.int .u32)) := by
    rw [List.length_append, List.map_append]
    refine hrow.sv (M := fun k => k = g) (w' := W2.setCell ⟨g, 1469, none⟩ v') (Sv.set (M := fun k => k = g) (p := ⟨g, 1469, none⟩) (Sv.refl _ _) (.inl rfl) v') fun k hk e => ?_
    subst e
    obtain ⟨cs, hbk⟩ := hrow.blk hk
    exact hW2.ne_ hbk (by decide) rfl
  have hd2 := hD.putDraws hs v' (D.draws ++ [x]) hrow3 (fun k hk => by unfold labTo; rw [if_pos hk.symm])
  exact ⟨_, ⟨(hs.old g hC.lt).trans hlab, hs.top, _, hW3, hd2⟩, hs⟩
set_option maxRecDepth 100000 in
set_option maxHeartbeats 6400000 in
theorem doDraw_c {L : Lab} {w : World} {g : Nat} {P : Ptrs} {D : DeskD} (hd : DeskM L w g P D) (ad : Int) {x : Nat} (hx : x < 4294967296) (hroom : D.draws.length < 16) {A : Option Addr} {nl c : Nat} :
    Calls Tryz.prog 11 #[.pointer (some ⟨g, 0, none⟩), .agg #[.int .i64 4, .int .i64 ad, .int .i64 (x : Int), .slice A nl c]] w fun e w' => e = .returned (.tuple #[.slice none 0 0, .int .i64 0]) ∧ ∃ L', DeskM L' w' g P { D with draws := D.draws ++ [(x : Int)] } ∧ Stp mutX L L' w w' := by
  obtain ⟨iU, hiU, hz0, hz1, hz2⟩ := info_parts infoU
  obtain ⟨v, hv, hrow, hown⟩ : ∃ v, w.cell? ⟨g, 1469, none⟩ = some v ∧ Row w 32 1 v D.draws.length (D.draws.map (Value.int .u32)) ∧ (∀ k, v.ownBlock = some k → L k = .draws) := by
    obtain ⟨_, _, C, hC1, hC⟩ := hd
    obtain ⟨v, e1, e2, e3⟩ := hC.draws
    exact ⟨v, by rw [hC1.cell, List.getElem?_toArray]; exact e1, e2, e3⟩
  obtain ⟨Av, cv, rfl, hcv⟩ := hrow.form
  obtain ⟨n, hn⟩ : ∃ n, n = D.draws.length := ⟨_, rfl⟩
  obtain ⟨xs, hxs⟩ : ∃ xs, xs = D.draws.map (Value.int .u32) := ⟨_, rfl⟩
  obtain ⟨D2, hD2⟩ : ∃ D2, D2 = ({ D with draws := D.draws ++ [(x : Int)] } : DeskD) := ⟨_, rfl⟩
  have HNE := Lib.hid hn
  have HXS := Lib.hid hxs
  have HD2 := Lib.hid hD2
  rw [← hD2]
  rw [← hn, ← hxs] at hrow
  rw [← hn] at hv hroom hown
  have HROW := Lib.hid hrow
  have HOWN := Lib.hid hown
  have HV := Lib.hid hv
  have HD := Lib.hid hd
  have HNL : Hid (n < 16) := hroom
  have hni : (n : Int) < 16 := by omega
  have hx0 : ¬ (x : Int) < 0 := by omega
  have hx1 : ¬ (4294967295 : Int) < (x : Int) := by omega
  have hxw : IntKind.u32.wrap (x : Int) = (x : Int) := by rw [W.wrap]; omega
  have HM0 : Hid (DW mutX w L w L g P D []) := DW.start mutX hd
  obtain ⟨q, hq⟩ : ∃ q, q = w.heap.size := ⟨_, rfl⟩
  have HQ := Lib.hid hq
  obtain ⟨w1, hw1⟩ : ∃ w1, w1 = w.alloc (.cells #[.int .i64 4, .int .i64 ad, .int .i64 (x : Int), .slice A nl c] 30) := ⟨_, rfl⟩
  obtain ⟨L1, hL1⟩ : ∃ L1, L1 = tempAt L w.heap.size := ⟨_, rfl⟩
  have HM1 : Hid (DW mutX w L w1 L1 g P D [(q, 30, [.int .i64 4, .int .i64 ad, .int .i64 (x : Int), .slice A nl c])]) := by
    show DW _ _ _ _ _ _ _ _ _
    rw [hw1, hq, hL1]
    exact HM0.out.alloc _ [_, _, _, _]
  have HB1 : Hid (Below w.heap.size w w1) := by show Below _ _ _; rw [hw1]; exact balloc (Below.refl _ _) _
  have HOWN1 : Hid (∀ k, (Value.slice Av n cv).ownBlock = some k → L1 k = .draws) := fun k hk => by
    have h1 := HROW.out.lt hk
    rw [hL1]
    unfold tempAt
    rw [if_neg (by omega)]
    exact HOWN.out k hk
  clear hd hL1 HM0 hx hn hxs hD2 hrow hown hv hcv hroom
  go_enter Tryz.func11, Tryz.ntmps11
  go_upto_region 1 with fail
  rw [← hw1, ← hq]
  clear hw1 hq
  obtain ⟨q0, q1, q2, q3⟩ := HM1.out.cell4 (.head _)
  have ckd : w1.cell? ⟨g, 1469, none⟩ = some (.slice Av n cv) := (HB1.out.cell (p := ⟨g, 1469, none⟩) HD.out.lt).trans HV.out
  go_upto_region 20 with fail
  clear q0 q1 q2 q3 ckd hni hx0 hx1
  have HBW1 : Hid (Below w1.heap.size w1 w1) := Below.refl _ _
  obtain ⟨wd2, hwd2⟩ : ∃ wd2, wd2 = w1.drew := ⟨_, rfl⟩
  have HM2 : Hid (DW mutX w L wd2 L1 g P D [(q, 30, [.int .i64 4, .int .i64 ad, .int .i64 (x : Int), .slice A nl c])]) := by show DW _ _ _ _ _ _ _ _ _; rw [hwd2]; exact HM1.out.drew
  have HBW2 : Hid (Below w1.heap.size w1 wd2) := by show Below _ _ _; rw [hwd2]; exact bdrew (Below.refl _ _)
  have HC2 : Hid (wd2.cell? ⟨q, 2, none⟩ = some (.int .i64 (x : Int))) := by
    show _ = _
    rw [HM2.out.cell (.head _) 2]
    rfl
  refine wp_region_held_drew (S := (fun w' => w'.cell? ⟨q, 2, none⟩ = some (.int .i64 (x : Int)))) (by kernel_rfl) (by rw [← hwd2]; exact HC2.out) (fun hHeld => ?_)
  rw [← hwd2] at hHeld ⊢
  clear hwd2
  refine wpAnyH_takeAt (i := 0) (v := (.pointer (some ⟨g, 0, none⟩))) rfl (by kernel_rfl) (by kernel_rfl) (by kernel_rfl) (fun _ _ _ h => h) rfl (Or.inl ⟨by rfl, fun w' hS => ?_⟩) hHeld ?_
  · go_simp
  simp only [List.set_cons_zero, List.set_cons_succ]
  refine wpAnyH_takeAt (i := 1) (v := (.pointer (some ⟨g, 0, none⟩))) rfl (by kernel_rfl) (by kernel_rfl) (by kernel_rfl) (fun _ _ _ h => h) rfl (Or.inl ⟨by rfl, fun w' hS => ?_⟩) hHeld ?_
  · go_simp
  simp only [List.set_cons_zero, List.set_cons_succ]
  refine wpAnyH_takeAt (i := 2) (v := (.pointer (some ⟨g, 0, none⟩))) rfl (by kernel_rfl) (by kernel_rfl) (by kernel_rfl) (fun _ _ _ h => h) rfl (Or.inl ⟨by rfl, fun w' hS => ?_⟩) hHeld ?_
  · go_simp
  simp only [List.set_cons_zero, List.set_cons_succ]
  refine wpAnyH_takeAt (i := 3) (v := (.pointer (some ⟨g, 1469, none⟩))) rfl (by kernel_rfl) (by kernel_rfl) (by kernel_rfl) (fun _ _ _ h => h) rfl (Or.inl ⟨by rfl, fun w' hS => ?_⟩) hHeld ?_
  · go_simp
  simp only [List.set_cons_zero, List.set_cons_succ]
  refine wpAnyH_takeAt (i := 5) (v := (.pointer (some ⟨q, 2, none⟩))) rfl (by kernel_rfl) (by kernel_rfl) (by kernel_rfl) (fun _ _ _ h => h) rfl (Or.inl ⟨by rfl, fun w' hS => ?_⟩) hHeld ?_
  · go_simp
  simp only [List.set_cons_zero, List.set_cons_succ]
  refine wpAnyH_takeAt (i := 6) (v := (.int .i64 (x : Int))) rfl (by kernel_rfl) (by kernel_rfl) (by kernel_rfl) (fun _ _ _ h => h) rfl (Or.inl ⟨by rfl, fun w' hS => ?_⟩) hHeld ?_
  · have q0 := hS
    go_simp
  simp only [List.set_cons_zero, List.set_cons_succ]
  refine wpAnyH_takeAt (i := 7) (v := (.int .u32 (x : Int))) rfl (by kernel_rfl) (by kernel_rfl) (by kernel_rfl) (fun _ _ _ h => h) rfl (Or.inl ⟨by rfl, fun w' hS => ?_⟩) hHeld ?_
  · go_simp
  simp only [List.set_cons_zero, List.set_cons_succ]
  refine wpAnyH_ready (rs := [4, 8]) (by kernel_rfl) (by simp) (AllReadyH.cons rfl (fun K' hK => ?_) (AllReadyH.cons rfl (fun K' hK => ?_) AllReadyH.nil))
  · have ckv : wd2.cell? ⟨g, 1469, none⟩ = some (.slice Av n cv) := (HBW2.out.cell (p := ⟨g, 1469, none⟩) HM1.out.dm.lt).trans ((HB1.out.cell (p := ⟨g, 1469, none⟩) HD.out.lt).trans HV.out)
    go_simp
    clear ckv
    refine hK.out _ _ HC2.out (fun hHeld' => ?_)
    clear hK hHeld 
    have hHeld := hHeld'
    clear hHeld'
    refine wpAnyH_ready (rs := [8]) (by kernel_rfl) (by simp) (AllReadyH.cons rfl (fun K' hK => ?_) AllReadyH.nil)
    go_simp
    obtain ⟨gb, hgb⟩ : ∃ gb, gb = wd2.heap.size := ⟨_, rfl⟩
    obtain ⟨wd3, hwd3⟩ : ∃ wd3, wd3 = wd2.alloc (.cells #[.int .u32 (x : Int)] 32) := ⟨_, rfl⟩
    have HM3 : Hid (DW mutX w L wd3 L1 g P D [(q, 30, [.int .i64 4, .int .i64 ad, .int .i64 (x : Int), .slice A nl c])]) := by
      show DW _ _ _ _ _ _ _ _ _
      rw [hwd3]
      exact HM2.out.call (balloc (Below.refl _ _) _)
    have HBW3 : Hid (Below w1.heap.size w1 wd3) := by show Below _ _ _; rw [hwd3]; exact balloc HBW2.out _
    have HLIT3 : Hid (Blk wd3 gb 32 #[.int .u32 (x : Int)]) := by show Blk _ _ _ _; rw [hwd3]; exact Blk.newAt hgb _ _
    have HC3 : Hid (wd3.cell? ⟨q, 2, none⟩ = some (.int .i64 (x : Int))) := by
      show _ = _
      rw [HM3.out.cell (.head _) 2]
      rfl
    rw [← hwd3, ← hgb]
    clear hwd3 hgb
    refine hK.out _ _ HC3.out (fun hHeld' => ?_)
    clear hK hHeld 
    have hHeld := hHeld'
    clear hHeld'
    refine wpAnyH_ready (rs := [9]) (by kernel_rfl) (by simp) (AllReadyH.cons rfl (fun K' hK => ?_) AllReadyH.nil)
    rw [if_pos (by rfl)]
    have HROWd : Hid (Row wd3 32 1 (.slice Av n cv) n xs) := (HROW.out.below HB1.out).below HBW3.out
    refine wp_append_row _ (.tmp 96) (.tmp 100) _ (by rfl) 32 iU _ 1 4 Tryz.underlying33 hiU hz0 hz1 hz2 rfl (.slice Av n cv) n xs (by rfl) HROWd.out (.slice (some ⟨gb, 0, none⟩) 1 1) 1 [.int .u32 (x : Int)] (by rfl)
      (Src.ofReads _ Tryz.underlying33 (B := wd3.heap.size) (reads_blk (n := 1) (size := 1) HLIT3.out rfl) (by intro u hu; simp only [List.mem_cons, List.not_mem_nil, or_false] at hu; rcases hu with rfl; rfl)) (by have := HNL.out; simp only [maxLen]; omega) (by have := HNL.out; omega) ?_
    intro v2 wd4 hrow2 hg2 hat2
    have HQC : Hid (wd4.cell? ⟨q, 2, none⟩ = some (.int .i64 (x : Int))) := by
      show _ = _
      have hb : Blk wd3 q 30 _ := HM3.out.blk (.head _)
      have h2 : Blk wd4 q 30 _ := hb.grown hg2 (fun e => by
        have h1 := HROW.out.lt e.symm
        have h2 := HQ.out
        omega)
      exact h2.cell 2
    have HGR := Lib.hid (draw_grown (x := (x : Int)) HM1.out.dm (v := .slice Av n cv) (v' := v2) (W := wd3) (W2 := wd4) ((HB1.out.cell (p := ⟨g, 1469, none⟩) HD.out.lt).trans HV.out) (by rw [← HNE.out, ← HXS.out]; exact HROW.out.below HB1.out) HOWN1.out HBW3.out (by rw [← HNE.out, ← HXS.out]; exact hrow2) hg2 hat2)
    obtain ⟨A2, c2, rfl, _⟩ := hrow2.form
    have HPW : Hid (∃ u, wd4.cell? ⟨g, 1469, none⟩ = some u ∧ wd4.frozen? ⟨g, 1469, none⟩ = false) := by
      obtain ⟨C, hC, hCC⟩ := HM3.out.dm.mem
      have hn := hC.grown hg2 (fun e => by
        obtain ⟨cs, hbk⟩ := HROWd.out.blk e.symm
        exact hC.ne_ hbk (by decide) rfl)
      obtain ⟨u, hu, _⟩ := hCC.draws
      exact ⟨u, by rw [hn.cell, List.getElem?_toArray]; exact hu, hn.frozen _⟩
    clear hrow2 hg2 hat2
    refine hK.out _ _ HQC.out (fun hHeld' => ?_)
    clear hK hHeld 
    have hHeld := hHeld'
    clear hHeld'
    refine wpAnyH_takeAt (i := 10) (v := (.pointer (some ⟨g, 0, none⟩))) rfl (by kernel_rfl) (by kernel_rfl) (by kernel_rfl) (fun _ _ _ h => h) rfl (Or.inl ⟨by rfl, fun w' hS => ?_⟩) hHeld ?_
    · go_simp
    simp only [List.set_cons_zero, List.set_cons_succ]
    refine wpAnyH_takeAt (i := 11) (v := (.pointer (some ⟨g, 1469, none⟩))) rfl (by kernel_rfl) (by kernel_rfl) (by kernel_rfl) (fun _ _ _ h => h) rfl (Or.inl ⟨by rfl, fun w' hS => ?_⟩) hHeld ?_
    · go_simp
    simp only [List.set_cons_zero, List.set_cons_succ]
    refine wpAnyH_ready (rs := [12]) (by kernel_rfl) (by simp) (AllReadyH.cons rfl (fun K' hK => ?_) AllReadyH.nil)
    obtain ⟨uo, ckw, fkw⟩ := HPW.out
    go_simp
    obtain ⟨wd5, hwd5⟩ : ∃ wd5, wd5 = wd4.setCell ⟨g, 1469, none⟩ (.slice A2 (n + 1) c2) := ⟨_, rfl⟩
    have HQF : Hid (wd5.cell? ⟨q, 2, none⟩ = some (.int .i64 (x : Int))) := by
      show _ = _
      rw [hwd5, World.cell?_setCell_other _ _ _ _ (fun e => by have h1 := HD.out.lt; have h2 := HQ.out; injection e with e; omega)]
      exact HQC.out
    obtain ⟨L9, hdq, hsq⟩ := HGR.out
    rw [← hwd5, ← HD2.out] at hdq
    rw [← hwd5] at hsq
    have HM9 : Hid (DW mutX w L wd5 L9 g P D2 [(q, 30, [.int .i64 4, .int .i64 ad, .int .i64 (x : Int), .slice A nl c])]) := HM1.out.step (hsq.mono (fun c h => by rcases h with rfl | rfl <;> exact ⟨by simp, by simp⟩)) hdq mutX_temp
    rw [← hwd5]
    clear hwd5 hdq hsq
    refine hK.out _ _ HQF.out (fun hHeld' => ?_)
    clear hK hHeld 
    have hHeld := hHeld'
    clear hHeld'
    (try refine wpAnyH_putNone rfl ?_)
    refine wpAnyH_done (by kernel_rfl) ?_ _
    clear hHeld
    go_wp2_with fail
    go_ret2
    exact ⟨rfl, L9, HM9.out.dm, HM9.out.stp⟩
  · go_simp
    obtain ⟨gb, hgb⟩ : ∃ gb, gb = wd2.heap.size := ⟨_, rfl⟩
    obtain ⟨wd3, hwd3⟩ : ∃ wd3, wd3 = wd2.alloc (.cells #[.int .u32 (x : Int)] 32) := ⟨_, rfl⟩
    have HM3 : Hid (DW mutX w L wd3 L1 g P D [(q, 30, [.int .i64 4, .int .i64 ad, .int .i64 (x : Int), .slice A nl c])]) := by
      show DW _ _ _ _ _ _ _ _ _
      rw [hwd3]
      exact HM2.out.call (balloc (Below.refl _ _) _)
    have HBW3 : Hid (Below w1.heap.size w1 wd3) := by show Below _ _ _; rw [hwd3]; exact balloc HBW2.out _
    have HLIT3 : Hid (Blk wd3 gb 32 #[.int .u32 (x : Int)]) := by show Blk _ _ _ _; rw [hwd3]; exact Blk.newAt hgb _ _
    have HC3 : Hid (wd3.cell? ⟨q, 2, none⟩ = some (.int .i64 (x : Int))) := by
      show _ = _
      rw [HM3.out.cell (.head _) 2]
      rfl
    rw [← hwd3, ← hgb]
    clear hwd3 hgb
    refine hK.out _ _ HC3.out (fun hHeld' => ?_)
    clear hK hHeld 
    have hHeld := hHeld'
    clear hHeld'
    refine wpAnyH_ready (rs := [4]) (by kernel_rfl) (by simp) (AllReadyH.cons rfl (fun K' hK => ?_) AllReadyH.nil)
    have ckv : wd3.cell? ⟨g, 1469, none⟩ = some (.slice Av n cv) := (HBW3.out.cell (p := ⟨g, 1469, none⟩) HM1.out.dm.lt).trans ((HB1.out.cell (p := ⟨g, 1469, none⟩) HD.out.lt).trans HV.out)
    go_simp
    clear ckv
    refine hK.out _ _ HC3.out (fun hHeld' => ?_)
    clear hK hHeld 
    have hHeld := hHeld'
    clear hHeld'
    refine wpAnyH_ready (rs := [9]) (by kernel_rfl) (by simp) (AllReadyH.cons rfl (fun K' hK => ?_) AllReadyH.nil)
    rw [if_pos (by rfl)]
    have HROWd : Hid (Row wd3 32 1 (.slice Av n cv) n xs) := (HROW.out.below HB1.out).below HBW3.out
    refine wp_append_row _ (.tmp 96) (.tmp 100) _ (by rfl) 32 iU _ 1 4 Tryz.underlying33 hiU hz0 hz1 hz2 rfl (.slice Av n cv) n xs (by rfl) HROWd.out (.slice (some ⟨gb, 0, none⟩) 1 1) 1 [.int .u32 (x : Int)] (by rfl)
      (Src.ofReads _ Tryz.underlying33 (B := wd3.heap.size) (reads_blk (n := 1) (size := 1) HLIT3.out rfl) (by intro u hu; simp only [List.mem_cons, List.not_mem_nil, or_false] at hu; rcases hu with rfl; rfl)) (by have := HNL.out; simp only [maxLen]; omega) (by have := HNL.out; omega) ?_
    intro v2 wd4 hrow2 hg2 hat2
    have HQC : Hid (wd4.cell? ⟨q, 2, none⟩ = some (.int .i64 (x : Int))) := by
      show _ = _
      have hb : Blk wd3 q 30 _ := HM3.out.blk (.head _)
      have h2 : Blk wd4 q 30 _ := hb.grown hg2 (fun e => by
        have h1 := HROW.out.lt e.symm
        have h2 := HQ.out
        omega)
      exact h2.cell 2
    have HGR := Lib.hid (draw_grown (x := (x : Int)) HM1.out.dm (v := .slice Av n cv) (v' := v2) (W := wd3) (W2 := wd4) ((HB1.out.cell (p := ⟨g, 1469, none⟩) HD.out.lt).trans HV.out) (by rw [← HNE.out, ← HXS.out]; exact HROW.out.below HB1.out) HOWN1.out HBW3.out (by rw [← HNE.out, ← HXS.out]; exact hrow2) hg2 hat2)
    obtain ⟨A2, c2, rfl, _⟩ := hrow2.form
    have HPW : Hid (∃ u, wd4.cell? ⟨g, 1469, none⟩ = some u ∧ wd4.frozen? ⟨g, 1469, none⟩ = false) := by
      obtain ⟨C, hC, hCC⟩ := HM3.out.dm.mem
      have hn := hC.grown hg2 (fun e => by
        obtain ⟨cs, hbk⟩ := HROWd.out.blk e.symm
        exact hC.ne_ hbk (by decide) rfl)
      obtain ⟨u, hu, _⟩ := hCC.draws
      exact ⟨u, by rw [hn.cell, List.getElem?_toArray]; exact hu, hn.frozen _⟩
    clear hrow2 hg2 hat2
    refine hK.out _ _ HQC.out (fun hHeld' => ?_)
    clear hK hHeld 
    have hHeld := hHeld'
    clear hHeld'
    refine wpAnyH_takeAt (i := 10) (v := (.pointer (some ⟨g, 0, none⟩))) rfl (by kernel_rfl) (by kernel_rfl) (by kernel_rfl) (fun _ _ _ h => h) rfl (Or.inl ⟨by rfl, fun w' hS => ?_⟩) hHeld ?_
    · go_simp
    simp only [List.set_cons_zero, List.set_cons_succ]
    refine wpAnyH_takeAt (i := 11) (v := (.pointer (some ⟨g, 1469, none⟩))) rfl (by kernel_rfl) (by kernel_rfl) (by kernel_rfl) (fun _ _ _ h => h) rfl (Or.inl ⟨by rfl, fun w' hS => ?_⟩) hHeld ?_
    · go_simp
    simp only [List.set_cons_zero, List.set_cons_succ]
    refine wpAnyH_ready (rs := [12]) (by kernel_rfl) (by simp) (AllReadyH.cons rfl (fun K' hK => ?_) AllReadyH.nil)
    obtain ⟨uo, ckw, fkw⟩ := HPW.out
    go_simp
    obtain ⟨wd5, hwd5⟩ : ∃ wd5, wd5 = wd4.setCell ⟨g, 1469, none⟩ (.slice A2 (n + 1) c2) := ⟨_, rfl⟩
    have HQF : Hid (wd5.cell? ⟨q, 2, none⟩ = some (.int .i64 (x : Int))) := by
      show _ = _
      rw [hwd5, World.cell?_setCell_other _ _ _ _ (fun e => by have h1 := HD.out.lt; have h2 := HQ.out; injection e with e; omega)]
      exact HQC.out
    obtain ⟨L9, hdq, hsq⟩ := HGR.out
    rw [← hwd5, ← HD2.out] at hdq
    rw [← hwd5] at hsq
    have HM9 : Hid (DW mutX w L wd5 L9 g P D2 [(q, 30, [.int .i64 4, .int .i64 ad, .int .i64 (x : Int), .slice A nl c])]) := HM1.out.step (hsq.mono (fun c h => by rcases h with rfl | rfl <;> exact ⟨by simp, by simp⟩)) hdq mutX_temp
    rw [← hwd5]
    clear hwd5 hdq hsq
    refine hK.out _ _ HQF.out (fun hHeld' => ?_)
    clear hK hHeld 
    have hHeld := hHeld'
    clear hHeld'
    (try refine wpAnyH_putNone rfl ?_)
    refine wpAnyH_done (by kernel_rfl) ?_ _
    clear hHeld
    go_wp2_with fail
    go_ret2
    exact ⟨rfl, L9, HM9.out.dm, HM9.out.stp⟩
end Go.Proofs.YtmkifedcanmjoaaGreat
/- sayer.note (contract). Conditions: the note may be; said is known where it is called. -/
set_option linter.unusedVariables false
set_option linter.unusedSimpArgs false
namespace Go.Proofs.YtmkifedcanmjoaaGreat
open Go.RowKit
attribute [local go_sem ↓] Go.wp_at_zero Go.wp_at_succ
theorem infoNR : (Tryz.prog.info? 72).map (·.size) = some 7 := by kernel_rfl
set_option maxRecDepth 100000 in
set_option maxHeartbeats 6400000 in
theorem snote_c {L : Lab} {w : World} {g : Nat} {P : Ptrs} {D : DeskD} (hd : DeskM L w g P D) {a : Nat} (ha : a < 64) (d : Nt.NoteD) (hg : Nt.good d = true) {A : Option Addr} {c nb : Nat} (hnb : nb = d.bs.length) (hr : Reads w w.heap.size 1 A nb (d.bs.map u8v)) (sd : DeskD → Nat → Nat → Nt.NoteD → DeskD × Int) (hs : d.kind ≠ 1 → SaidC g (fun X i s => X = heardD D i a ∧ whereD D a = some (i, s)) sd d) :
    Calls Tryz.prog 18 #[.agg #[.pointer (some ⟨g, 0, none⟩)], .int .i64 (a : Int), .agg #[.int .i64 d.kind, .int .i64 d.room, .int .i64 d.slot, .int .i64 d.epoch, .int .i64 d.n, .int .i64 d.m, .slice A nb c]] w fun e w' => e = .returned (.tuple #[]) ∧ ∃ L' P', DeskM L' w' g P' (noteD sd D a (Nt.bytesS d)) ∧ Stp mutX L L' w w' := by
  have hfit := Nt.good_fit hg
  have hbk := Nt.err_back hg
  obtain ⟨jb, hjb⟩ : ∃ jb, jb = Nt.bytesS d := ⟨_, rfl⟩
  have hlj : jb.length = 11 + nb := by rw [hjb, Nt.bytesS_len, hnb]
  obtain ⟨g1, hg1⟩ : ∃ g1, g1 = w.heap.size := ⟨_, rfl⟩
  obtain ⟨g2, hg2⟩ : ∃ g2, g2 = w.heap.size + 1 := ⟨_, rfl⟩
  obtain ⟨N, hN⟩ : ∃ N : List Value, N = [.int .i64 d.kind, .int .i64 d.room, .int .i64 d.slot, .int .i64 d.epoch, .int .i64 d.n, .int .i64 d.m, .slice A nb c] := ⟨_, rfl⟩
  have HNF : Hid (FitL 72 N) := by show FitL _ _; rw [hN]; exact ⟨infoNR, by simp [Value.oneCell']⟩
  have HNE : Hid (N.toArray = #[.int .i64 d.kind, .int .i64 d.room, .int .i64 d.slot, .int .i64 d.epoch, .int .i64 d.n, .int .i64 d.m, .slice A nb c]) := by show _ = _; rw [hN]
  rw [← HNE.out]
  obtain ⟨w1, hw1⟩ : ∃ w1, w1 = (w.alloc (.cells #[.pointer (some ⟨g, 0, none⟩)] 69)).alloc (.cells N.toArray 72) := ⟨_, rfl⟩
  obtain ⟨h1, h2, h3⟩ := two_blks w 69 72 #[.pointer (some ⟨g, 0, none⟩)] N.toArray
  rw [← hw1, ← hg1] at h1
  rw [← hw1, ← hg2] at h2
  rw [← hw1] at h3
  have HX1 := Lib.hid h1
  have HRG : Hid (w1.rangeAt g2 0 N) := blk_range h2
  have HB1 := Lib.hid h3
  have HM0 : Hid (DW mutX w L w L g P D []) := DW.start mutX hd
  have HM1 : Hid (DW mutX w L w1 L g P D []) := HM0.out.call h3
  have HRB : Hid (Calls Tryz.prog 25 #[.agg N.toArray] w1 (Nt.BytesRet d w1)) := by
    rw [HNE.out, hnb]
    exact Nt.rbytes_c d A c w1 ((hnb ▸ hr).below h3 |>.more h3.size) (by omega)
  have HDN : Hid (∀ (wx : World) (vb : Value), DeskM L wx g P D → SlV wx vb jb → Calls Tryz.prog 11 #[.pointer (some ⟨g, 0, none⟩), .agg #[.int .i64 2, .int .i64 (a : Int), .int .i64 0, vb]] wx fun e w' => e = .returned (.tuple #[.slice none 0 0, .int .i64 0]) ∧ ∃ L' P', DeskM L' w' g P' (noteD sd D a jb) ∧ Stp mutX L L' wx w') := fun wx vb hdx hv =>
    doNote_c hdx ha 0 hv (by omega) sd (by rw [hjb, hbk.2]; exact hs)
  have HG := Lib.hid hg
  have HJ := Lib.hid hjb
  have HLJ := Lib.hid hlj
  rw [← hjb]
  clear hd ha hg hnb hr hs hfit hbk hjb hlj hN h1 h2 h3 HM0
  go_enter Tryz.func18, Tryz.ntmps18
  go_upto_region 1 with fail
  rw [← hw1, ← hg2, ← hg1]
  clear hw1 hg2 hg1
  go_wp2_with (first
    | ((with_reducible show wpList _ _ _ (⟨some 9, .load _ (.tmp 5), _, _, _, _⟩ :: _) _ _); refine wpList_load_mid rfl 72 (.tmp 5) rfl g2 0 rfl N _ HRG.out Tryz.underlying72 rfl HNF.out.info ?_))
  refine HRB.out.mono ?_
  rintro e0 w2 ⟨A2, c2, rfl, hrow, hbq⟩
  rw [HG.out] at hrow ⊢
  simp only [if_true] at hrow ⊢
  rw [← HJ.out] at hrow ⊢
  obtain ⟨m, hm⟩ : ∃ m, m = jb.length := ⟨_, rfl⟩
  rw [← hm] at hrow ⊢
  have HM2 : Hid (DW mutX w L w2 L g P D []) := HM1.out.call hbq
  have HSV : Hid (SlV w2 (.slice A2 m c2) jb) := by show SlV _ _ _; rw [hm] at hrow ⊢; exact SlV.own (base := w1.heap.size) hrow
  have ckp : w2.cell? ⟨g1, 0, none⟩ = some (.pointer (some ⟨g, 0, none⟩)) := (HX1.out.below hbq).cell 0
  clear hrow hbq hm
  go_wp2_with fail
  refine (HDN.out _ _ HM2.out.dm HSV.out).mono ?_
  rintro e0 w3 ⟨rfl, L3, P3, hdq, hsq⟩
  have HM3 : Hid (DW mutX w L w3 L3 g P3 (noteD sd D a jb) []) := HM2.out.step hsq hdq mutX_temp
  clear hdq hsq ckp
  go_wp2_with fail
  first
    | go_end0
    | refine bodyPost_ret (results_none rfl _ _ _) rfl ?_
  exact ⟨rfl, L3, P3, HM3.out.dm, HM3.out.stp⟩
end Go.Proofs.YtmkifedcanmjoaaGreat
