/- Texts of this claim, one behind the other: Bare5, Bare6, Bare7, Cont. Each says ahead of itself what it proves, and its conditions. -/
import Derived.Test.YtkfimncbfbbopaaGg
/- What bare leaves of a report of one kind (contract). Conditions: none. (Printed by gen8g.py.) -/
set_option linter.unusedVariables false
set_option linter.unusedSimpArgs false
namespace Go.Proofs.Ytkfimncbfbbopaa
open Go.RowKit
attribute [local go_sem ↓] Go.wp_at_zero Go.wp_at_succ

set_option maxRecDepth 100000 in
set_option maxHeartbeats 12800000 in
theorem bare5_c (fr ab ntp ts pk oc mt nb cb np cp nf cf ns cs nd cd : Nat) (ex ty ct : Int) (Ab Ap Af As Ad : Option Addr) (w : World) :
    Calls Try.prog 40 #[.agg #[.int .i64 5, .int .u32 (fr : Int), .int .u32 (ab : Int), .int .u64 (ntp : Int), .int .u32 (ts : Int), .int .u32 (pk : Int), .int .u32 (oc : Int), .slice Ab nb cb, .slice Ap np cp, .slice Af nf cf, .int .i64 ex, .int .u32 (mt : Int), .slice As ns cs, .int .i64 ty, .int .i64 ct, .slice Ad nd cd]] w fun e w' => e = .returned (.agg #[.int .i64 5, .int .u32 (fr : Int), .int .u32 (ab : Int), .int .u64 0, .int .u32 0, .int .u32 0, .int .u32 0, .slice none 0 0, .slice none 0 0, .slice Af nf cf, .int .i64 0, .int .u32 0, .slice none 0 0, .int .i64 0, .int .i64 0, .slice none 0 0]) ∧ Below w.heap.size w w' := by
  obtain ⟨C1, hC1⟩ : ∃ C1 : Array Value, C1 = #[.int .i64 5, .int .u32 (fr : Int), .int .u32 (ab : Int), .int .u64 (ntp : Int), .int .u32 (ts : Int), .int .u32 (pk : Int), .int .u32 (oc : Int), .slice Ab nb cb, .slice Ap np cp, .slice Af nf cf, .int .i64 ex, .int .u32 (mt : Int), .slice As ns cs, .int .i64 ty, .int .i64 ct, .slice Ad nd cd] := ⟨_, rfl⟩
  obtain ⟨g1, hg1⟩ : ∃ g1, g1 = w.heap.size := ⟨_, rfl⟩
  obtain ⟨g2, hg2⟩ : ∃ g2, g2 = w.heap.size + 1 := ⟨_, rfl⟩
  obtain ⟨gx, hgx⟩ : ∃ gx, gx = w.heap.size + 1 + 1 := ⟨_, rfl⟩
  obtain ⟨w1, hw1⟩ : ∃ w1, w1 = ((w.alloc (.cells #[.int .i64 5, .int .u32 (fr : Int), .int .u32 (ab : Int), .int .u64 (ntp : Int), .int .u32 (ts : Int), .int .u32 (pk : Int), .int .u32 (oc : Int), .slice Ab nb cb, .slice Ap np cp, .slice Af nf cf, .int .i64 ex, .int .u32 (mt : Int), .slice As ns cs, .int .i64 ty, .int .i64 ct, .slice Ad nd cd] 46)).alloc (.cells #[.int .i64 0, .int .u32 0, .int .u32 0, .int .u64 0, .int .u32 0, .int .u32 0, .int .u32 0, .slice none 0 0, .slice none 0 0, .slice none 0 0, .int .i64 0, .int .u32 0, .slice none 0 0, .int .i64 0, .int .i64 0, .slice none 0 0] 46)).alloc (.cells #[.int .i64 5, .int .u32 (fr : Int), .int .u32 0, .int .u64 0, .int .u32 0, .int .u32 0, .int .u32 0, .slice none 0 0, .slice none 0 0, .slice none 0 0, .int .i64 0, .int .u32 0, .slice none 0 0, .int .i64 0, .int .i64 0, .slice none 0 0] 46) := ⟨_, rfl⟩
  have HG : Hid (Blk w1 g1 46 #[.int .i64 5, .int .u32 (fr : Int), .int .u32 (ab : Int), .int .u64 (ntp : Int), .int .u32 (ts : Int), .int .u32 (pk : Int), .int .u32 (oc : Int), .slice Ab nb cb, .slice Ap np cp, .slice Af nf cf, .int .i64 ex, .int .u32 (mt : Int), .slice As ns cs, .int .i64 ty, .int .i64 ct, .slice Ad nd cd]) := by show Blk _ _ _ _; rw [hw1]; exact Blk.alloc (Blk.alloc (Blk.newAt hg1 _ _) _) _
  have HZ : Hid (Blk w1 g2 46 #[.int .i64 0, .int .u32 0, .int .u32 0, .int .u64 0, .int .u32 0, .int .u32 0, .int .u32 0, .slice none 0 0, .slice none 0 0, .slice none 0 0, .int .i64 0, .int .u32 0, .slice none 0 0, .int .i64 0, .int .i64 0, .slice none 0 0]) := by show Blk _ _ _ _; rw [hw1]; exact Blk.alloc (Blk.newAt (by simp; exact hg2) _ _) _
  have HX : Hid (Blk w1 gx 46 #[.int .i64 5, .int .u32 (fr : Int), .int .u32 0, .int .u64 0, .int .u32 0, .int .u32 0, .int .u32 0, .slice none 0 0, .slice none 0 0, .slice none 0 0, .int .i64 0, .int .u32 0, .slice none 0 0, .int .i64 0, .int .i64 0, .slice none 0 0]) := by show Blk _ _ _ _; rw [hw1]; exact Blk.newAt (by simp; exact hgx) _ _
  have HB : Hid (Below w.heap.size w w1) := by show Below _ _ _; rw [hw1]; exact balloc (balloc (balloc (Below.refl _ _) _) _) _
  have HLT : Hid (w.heap.size ≤ g1 ∧ g1 < g2 ∧ g2 < gx) := ⟨by omega, by omega, by omega⟩
  go_enter Try.func40, Try.ntmps40
  go_upto_region 2 with fail
  rw [← hw1, ← hgx, ← hg2, ← hg1]
  clear hw1 hgx hg2 hg1 hC1
  have k0 : w1.cell? ⟨g1, 0, none⟩ = some (.int .i64 5) := HG.out.cell 0
  go_upto_region 14 with fail
  clear k0
  have hne : g1 ≠ gx := by have := HLT.out; omega
  have hne2 : g2 ≠ gx := by have := HLT.out; omega
  have hwx : w.heap.size ≤ gx := by have := HLT.out; omega
  have HG0 : Hid (Blk (World.drew w1) g1 46 #[.int .i64 5, .int .u32 (fr : Int), .int .u32 (ab : Int), .int .u64 (ntp : Int), .int .u32 (ts : Int), .int .u32 (pk : Int), .int .u32 (oc : Int), .slice Ab nb cb, .slice Ap np cp, .slice Af nf cf, .int .i64 ex, .int .u32 (mt : Int), .slice As ns cs, .int .i64 ty, .int .i64 ct, .slice Ad nd cd]) := HG.out
  have HZ0 : Hid (Blk (World.drew w1) g2 46 #[.int .i64 0, .int .u32 0, .int .u32 0, .int .u64 0, .int .u32 0, .int .u32 0, .int .u32 0, .slice none 0 0, .slice none 0 0, .slice none 0 0, .int .i64 0, .int .u32 0, .slice none 0 0, .int .i64 0, .int .i64 0, .slice none 0 0]) := HZ.out
  have HX0 : Hid (Blk (World.drew w1) gx 46 #[.int .i64 5, .int .u32 (fr : Int), .int .u32 0, .int .u64 0, .int .u32 0, .int .u32 0, .int .u32 0, .slice none 0 0, .slice none 0 0, .slice none 0 0, .int .i64 0, .int .u32 0, .slice none 0 0, .int .i64 0, .int .i64 0, .slice none 0 0]) := HX.out
  have HB0 : Hid (Below w.heap.size w (World.drew w1)) := HB.out.drew
  refine wp_region_held_drew (S := (fun w2 => Blk w2 g1 46 #[.int .i64 5, .int .u32 (fr : Int), .int .u32 (ab : Int), .int .u64 (ntp : Int), .int .u32 (ts : Int), .int .u32 (pk : Int), .int .u32 (oc : Int), .slice Ab nb cb, .slice Ap np cp, .slice Af nf cf, .int .i64 ex, .int .u32 (mt : Int), .slice As ns cs, .int .i64 ty, .int .i64 ct, .slice Ad nd cd])) (by kernel_rfl) (HG0.out) (fun hHeld => ?_)
  refine wpAnyH_takeAt (i := 0) (v := (.pointer (some ⟨g1, 2, none⟩))) rfl (by kernel_rfl) (by kernel_rfl) (by kernel_rfl) (fun _ _ _ h => h) rfl (Or.inl ⟨by rfl, fun w' hS => ?_⟩) hHeld ?_
  · go_simp
  simp only [List.set_cons_zero, List.set_cons_succ]
  refine wpAnyH_takeAt (i := 1) (v := (.int .u32 (ab : Int))) rfl (by kernel_rfl) (by kernel_rfl) (by kernel_rfl) (fun _ _ _ h => h) rfl (Or.inl ⟨by rfl, fun w' hS => ?_⟩) hHeld ?_
  · have hc := hS.cell 2
    have hc' : w'.cell? ⟨g1, 2, none⟩ = some (.int .u32 (ab : Int)) := hc
    go_simp
  simp only [List.set_cons_zero, List.set_cons_succ]
  refine wpAnyH_takeAt (i := 2) (v := (.pointer (some ⟨g1, 9, none⟩))) rfl (by kernel_rfl) (by kernel_rfl) (by kernel_rfl) (fun _ _ _ h => h) rfl (Or.inl ⟨by rfl, fun w' hS => ?_⟩) hHeld ?_
  · go_simp
  simp only [List.set_cons_zero, List.set_cons_succ]
  refine wpAnyH_takeAt (i := 3) (v := (.slice Af nf cf)) rfl (by kernel_rfl) (by kernel_rfl) (by kernel_rfl) (fun _ _ _ h => h) rfl (Or.inl ⟨by rfl, fun w' hS => ?_⟩) hHeld ?_
  · have hc := hS.cell 9
    have hc' : w'.cell? ⟨g1, 9, none⟩ = some (.slice Af nf cf) := hc
    go_simp
  simp only [List.set_cons_zero, List.set_cons_succ]
  refine wpAnyH_takeAt (i := 4) (v := (.pointer (some ⟨gx, 2, none⟩))) rfl (by kernel_rfl) (by kernel_rfl) (by kernel_rfl) (fun _ _ _ h => h) rfl (Or.inl ⟨by rfl, fun w' hS => ?_⟩) hHeld ?_
  · go_simp
  simp only [List.set_cons_zero, List.set_cons_succ]
  refine wpAnyH_ready (rs := [5]) (by kernel_rfl) (by simp) (AllReadyH.cons rfl (fun K' hK => ?_) AllReadyH.nil)
  have hcell : (World.drew w1).cell? ⟨gx, 2, none⟩ = some (.int .u32 0) := HX0.out.cell 2
  have hfree : (World.drew w1).frozen? ⟨gx, 2, none⟩ = false := HX0.out.frozen 2
  have hcell0 : w1.cell? ⟨gx, 2, none⟩ = some (.int .u32 0) := HX0.out.cell 2
  have hfree0 : w1.frozen? ⟨gx, 2, none⟩ = false := HX0.out.frozen 2
  go_simp
  clear hcell hfree hcell0 hfree0
  have HG1 : Hid (Blk (World.setCell (World.drew w1) ⟨gx, 2, none⟩ (.int .u32 (ab : Int))) g1 46 #[.int .i64 5, .int .u32 (fr : Int), .int .u32 (ab : Int), .int .u64 (ntp : Int), .int .u32 (ts : Int), .int .u32 (pk : Int), .int .u32 (oc : Int), .slice Ab nb cb, .slice Ap np cp, .slice Af nf cf, .int .i64 ex, .int .u32 (mt : Int), .slice As ns cs, .int .i64 ty, .int .i64 ct, .slice Ad nd cd]) := HG0.out.far (p := ⟨gx, 2, none⟩) hne _
  have HZ1 : Hid (Blk (World.setCell (World.drew w1) ⟨gx, 2, none⟩ (.int .u32 (ab : Int))) g2 46 #[.int .i64 0, .int .u32 0, .int .u32 0, .int .u64 0, .int .u32 0, .int .u32 0, .int .u32 0, .slice none 0 0, .slice none 0 0, .slice none 0 0, .int .i64 0, .int .u32 0, .slice none 0 0, .int .i64 0, .int .i64 0, .slice none 0 0]) := HZ0.out.far (p := ⟨gx, 2, none⟩) hne2 _
  have HX1 : Hid (Blk (World.setCell (World.drew w1) ⟨gx, 2, none⟩ (.int .u32 (ab : Int))) gx 46 #[.int .i64 5, .int .u32 (fr : Int), .int .u32 (ab : Int), .int .u64 0, .int .u32 0, .int .u32 0, .int .u32 0, .slice none 0 0, .slice none 0 0, .slice none 0 0, .int .i64 0, .int .u32 0, .slice none 0 0, .int .i64 0, .int .i64 0, .slice none 0 0]) := HX0.out.set_ 2 _
  have HB1 : Hid (Below w.heap.size w (World.setCell (World.drew w1) ⟨gx, 2, none⟩ (.int .u32 (ab : Int)))) := bset HB0.out (p := ⟨gx, 2, none⟩) hwx _
  refine hK.out _ (World.setCell (World.drew w1) ⟨gx, 2, none⟩ (.int .u32 (ab : Int))) HG1.out (fun hHeld' => ?_)
  clear hK hHeld
  have hHeld := hHeld'
  clear hHeld'
  generalize (World.setCell (World.drew w1) ⟨gx, 2, none⟩ (.int .u32 (ab : Int))) = wn1 at *
  refine wpAnyH_takeAt (i := 6) (v := (.pointer (some ⟨gx, 9, none⟩))) rfl (by kernel_rfl) (by kernel_rfl) (by kernel_rfl) (fun _ _ _ h => h) rfl (Or.inl ⟨by rfl, fun w' hS => ?_⟩) hHeld ?_
  · go_simp
  simp only [List.set_cons_zero, List.set_cons_succ]
  refine wpAnyH_ready (rs := [7]) (by kernel_rfl) (by simp) (AllReadyH.cons rfl (fun K' hK => ?_) AllReadyH.nil)
  have hcell : wn1.cell? ⟨gx, 9, none⟩ = some (.slice none 0 0) := HX1.out.cell 9
  have hfree : wn1.frozen? ⟨gx, 9, none⟩ = false := HX1.out.frozen 9
  have hcell0 : w1.cell? ⟨gx, 9, none⟩ = some (.slice none 0 0) := HX0.out.cell 9
  have hfree0 : w1.frozen? ⟨gx, 9, none⟩ = false := HX0.out.frozen 9
  go_simp
  clear hcell hfree hcell0 hfree0
  have HG2 : Hid (Blk (World.setCell wn1 ⟨gx, 9, none⟩ (.slice Af nf cf)) g1 46 #[.int .i64 5, .int .u32 (fr : Int), .int .u32 (ab : Int), .int .u64 (ntp : Int), .int .u32 (ts : Int), .int .u32 (pk : Int), .int .u32 (oc : Int), .slice Ab nb cb, .slice Ap np cp, .slice Af nf cf, .int .i64 ex, .int .u32 (mt : Int), .slice As ns cs, .int .i64 ty, .int .i64 ct, .slice Ad nd cd]) := HG1.out.far (p := ⟨gx, 9, none⟩) hne _
  have HZ2 : Hid (Blk (World.setCell wn1 ⟨gx, 9, none⟩ (.slice Af nf cf)) g2 46 #[.int .i64 0, .int .u32 0, .int .u32 0, .int .u64 0, .int .u32 0, .int .u32 0, .int .u32 0, .slice none 0 0, .slice none 0 0, .slice none 0 0, .int .i64 0, .int .u32 0, .slice none 0 0, .int .i64 0, .int .i64 0, .slice none 0 0]) := HZ1.out.far (p := ⟨gx, 9, none⟩) hne2 _
  have HX2 : Hid (Blk (World.setCell wn1 ⟨gx, 9, none⟩ (.slice Af nf cf)) gx 46 #[.int .i64 5, .int .u32 (fr : Int), .int .u32 (ab : Int), .int .u64 0, .int .u32 0, .int .u32 0, .int .u32 0, .slice none 0 0, .slice none 0 0, .slice Af nf cf, .int .i64 0, .int .u32 0, .slice none 0 0, .int .i64 0, .int .i64 0, .slice none 0 0]) := HX1.out.set_ 9 _
  have HB2 : Hid (Below w.heap.size w (World.setCell wn1 ⟨gx, 9, none⟩ (.slice Af nf cf))) := bset HB1.out (p := ⟨gx, 9, none⟩) hwx _
  refine hK.out _ (World.setCell wn1 ⟨gx, 9, none⟩ (.slice Af nf cf)) HG2.out (fun hHeld' => ?_)
  clear hK hHeld
  have hHeld := hHeld'
  clear hHeld'
  generalize (World.setCell wn1 ⟨gx, 9, none⟩ (.slice Af nf cf)) = wn2 at *
  refine wpAnyH_done (by kernel_rfl) ?_ _
  go_upto_region 17 with fail
  have HXF : Hid (Blk wn2 gx 46 #[.int .i64 5, .int .u32 (fr : Int), .int .u32 (ab : Int), .int .u64 0, .int .u32 0, .int .u32 0, .int .u32 0, .slice none 0 0, .slice none 0 0, .slice Af nf cf, .int .i64 0, .int .u32 0, .slice none 0 0, .int .i64 0, .int .i64 0, .slice none 0 0]) := HX2.out
  have HZF := HZ2
  have HBF := HB2
  obtain ⟨wf, hwf⟩ : ∃ wf, wf = wn2 := ⟨_, rfl⟩
  rw [← hwf] at HXF HZF HBF ⊢
  clear hwf
  obtain ⟨R, hR⟩ : ∃ R, R = (#[.int .i64 5, .int .u32 (fr : Int), .int .u32 (ab : Int), .int .u64 0, .int .u32 0, .int .u32 0, .int .u32 0, .slice none 0 0, .slice none 0 0, .slice Af nf cf, .int .i64 0, .int .u32 0, .slice none 0 0, .int .i64 0, .int .i64 0, .slice none 0 0] : Array Value).toList := ⟨_, rfl⟩
  have HRA : Hid (R.toArray = #[.int .i64 5, .int .u32 (fr : Int), .int .u32 (ab : Int), .int .u64 0, .int .u32 0, .int .u32 0, .int .u32 0, .slice none 0 0, .slice none 0 0, .slice Af nf cf, .int .i64 0, .int .u32 0, .slice none 0 0, .int .i64 0, .int .i64 0, .slice none 0 0]) := by show _ = _; rw [hR]
  have HRL : Hid (R.length = 16) := by show _ = _; rw [hR]; rfl
  have HR1 : Hid (R.toArray.all (·.oneCell') = true) := by show _ = _; rw [hR]; simp [Value.oneCell']
  clear hR
  have HI : Hid ((Try.prog.info? 46).map (·.size) = some R.length) := by show _ = _; rw [HRL.out]; exact infoRep
  have HJ : Hid ((Try.prog.info? 46).map (·.size) = some R.toArray.size) := by show _ = _; rw [List.size_toArray, HRL.out]; exact infoRep
  have HXR : Hid (Blk wf gx 46 R.toArray) := by show Blk _ _ _ _; rw [HRA.out]; exact HXF.out
  have HRG : Hid (wf.rangeAt gx 0 R) := blk_range HXR.out
  have HTH : Hid (wf.there g2 0 R.toArray.size) := by show World.there _ _ _ R.toArray.size; rw [List.size_toArray, HRL.out]; exact blk_there (l := (#[.int .i64 0, .int .u32 0, .int .u32 0, .int .u64 0, .int .u32 0, .int .u32 0, .int .u32 0, .slice none 0 0, .slice none 0 0, .slice none 0 0, .int .i64 0, .int .u32 0, .slice none 0 0, .int .i64 0, .int .i64 0, .slice none 0 0] : Array Value).toList) HZF.out rfl
  go_wp2_with (first
    | ((with_reducible show wpList _ _ _ (⟨some 78, .load 46 (.tmp 3), _, _, _, _⟩ :: _) _ _); refine wpList_load_mid rfl 46 (.tmp 3) rfl gx 0 rfl R _ HRG.out Try.underlying46 rfl HI.out ?_)
    | ((with_reducible show wpList _ _ _ (⟨none, .store 46 (.tmp 2) (.tmp 78), _, _, _, _⟩ :: _) _ _); refine wpList_store_mid rfl 46 (.tmp 2) (.tmp 78) rfl g2 0 R.toArray rfl rfl HTH.out HJ.out HR1.out ?_))
  have hst : Blk (wf.setCells g2 0 R) g2 46 R.toArray := blk_setAll (l := (#[.int .i64 0, .int .u32 0, .int .u32 0, .int .u64 0, .int .u32 0, .int .u32 0, .int .u32 0, .slice none 0 0, .slice none 0 0, .slice none 0 0, .int .i64 0, .int .u32 0, .slice none 0 0, .int .i64 0, .int .i64 0, .slice none 0 0] : Array Value).toList) HZF.out (by rw [HRL.out]; rfl)
  have hload := run_loadVar_mid (P := Try.prog) (wf.setCells g2 0 R) g2 0 46 R _ (blk_range hst) Try.underlying46 rfl HI.out
  exact bodyPost_ret (results_one rfl _ _ g2 _ rfl hload) rfl ⟨by rw [HRA.out], below_setCells HBF.out (by have := HLT.out; omega) _ _⟩
end Go.Proofs.Ytkfimncbfbbopaa
/- What bare leaves of a report of one kind (contract). Conditions: none. (Printed by gen8g.py.) -/
set_option linter.unusedVariables false
set_option linter.unusedSimpArgs false
namespace Go.Proofs.Ytkfimncbfbbopaa
open Go.RowKit
attribute [local go_sem ↓] Go.wp_at_zero Go.wp_at_succ

set_option maxRecDepth 100000 in
set_option maxHeartbeats 12800000 in
theorem bare6_c (fr ab ntp ts pk oc mt nb cb np cp nf cf ns cs nd cd : Nat) (ex ty ct : Int) (Ab Ap Af As Ad : Option Addr) (w : World) :
    Calls Try.prog 40 #[.agg #[.int .i64 6, .int .u32 (fr : Int), .int .u32 (ab : Int), .int .u64 (ntp : Int), .int .u32 (ts : Int), .int .u32 (pk : Int), .int .u32 (oc : Int), .slice Ab nb cb, .slice Ap np cp, .slice Af nf cf, .int .i64 ex, .int .u32 (mt : Int), .slice As ns cs, .int .i64 ty, .int .i64 ct, .slice Ad nd cd]] w fun e w' => e = .returned (.agg #[.int .i64 6, .int .u32 (fr : Int), .int .u32 (ab : Int), .int .u64 0, .int .u32 0, .int .u32 0, .int .u32 0, .slice none 0 0, .slice none 0 0, .slice none 0 0, .int .i64 ex, .int .u32 (mt : Int), .slice As ns cs, .int .i64 0, .int .i64 0, .slice none 0 0]) ∧ Below w.heap.size w w' := by
  obtain ⟨C1, hC1⟩ : ∃ C1 : Array Value, C1 = #[.int .i64 6, .int .u32 (fr : Int), .int .u32 (ab : Int), .int .u64 (ntp : Int), .int .u32 (ts : Int), .int .u32 (pk : Int), .int .u32 (oc : Int), .slice Ab nb cb, .slice Ap np cp, .slice Af nf cf, .int .i64 ex, .int .u32 (mt : Int), .slice As ns cs, .int .i64 ty, .int .i64 ct, .slice Ad nd cd] := ⟨_, rfl⟩
  obtain ⟨g1, hg1⟩ : ∃ g1, g1 = w.heap.size := ⟨_, rfl⟩
  obtain ⟨g2, hg2⟩ : ∃ g2, g2 = w.heap.size + 1 := ⟨_, rfl⟩
  obtain ⟨gx, hgx⟩ : ∃ gx, gx = w.heap.size + 1 + 1 := ⟨_, rfl⟩
  obtain ⟨w1, hw1⟩ : ∃ w1, w1 = ((w.alloc (.cells #[.int .i64 6, .int .u32 (fr : Int), .int .u32 (ab : Int), .int .u64 (ntp : Int), .int .u32 (ts : Int), .int .u32 (pk : Int), .int .u32 (oc : Int), .slice Ab nb cb, .slice Ap np cp, .slice Af nf cf, .int .i64 ex, .int .u32 (mt : Int), .slice As ns cs, .int .i64 ty, .int .i64 ct, .slice Ad nd cd] 46)).alloc (.cells #[.int .i64 0, .int .u32 0, .int .u32 0, .int .u64 0, .int .u32 0, .int .u32 0, .int .u32 0, .slice none 0 0, .slice none 0 0, .slice none 0 0, .int .i64 0, .int .u32 0, .slice none 0 0, .int .i64 0, .int .i64 0, .slice none 0 0] 46)).alloc (.cells #[.int .i64 6, .int .u32 (fr : Int), .int .u32 0, .int .u64 0, .int .u32 0, .int .u32 0, .int .u32 0, .slice none 0 0, .slice none 0 0, .slice none 0 0, .int .i64 0, .int .u32 0, .slice none 0 0, .int .i64 0, .int .i64 0, .slice none 0 0] 46) := ⟨_, rfl⟩
  have HG : Hid (Blk w1 g1 46 #[.int .i64 6, .int .u32 (fr : Int), .int .u32 (ab : Int), .int .u64 (ntp : Int), .int .u32 (ts : Int), .int .u32 (pk : Int), .int .u32 (oc : Int), .slice Ab nb cb, .slice Ap np cp, .slice Af nf cf, .int .i64 ex, .int .u32 (mt : Int), .slice As ns cs, .int .i64 ty, .int .i64 ct, .slice Ad nd cd]) := by show Blk _ _ _ _; rw [hw1]; exact Blk.alloc (Blk.alloc (Blk.newAt hg1 _ _) _) _
  have HZ : Hid (Blk w1 g2 46 #[.int .i64 0, .int .u32 0, .int .u32 0, .int .u64 0, .int .u32 0, .int .u32 0, .int .u32 0, .slice none 0 0, .slice none 0 0, .slice none 0 0, .int .i64 0, .int .u32 0, .slice none 0 0, .int .i64 0, .int .i64 0, .slice none 0 0]) := by show Blk _ _ _ _; rw [hw1]; exact Blk.alloc (Blk.newAt (by simp; exact hg2) _ _) _
  have HX : Hid (Blk w1 gx 46 #[.int .i64 6, .int .u32 (fr : Int), .int .u32 0, .int .u64 0, .int .u32 0, .int .u32 0, .int .u32 0, .slice none 0 0, .slice none 0 0, .slice none 0 0, .int .i64 0, .int .u32 0, .slice none 0 0, .int .i64 0, .int .i64 0, .slice none 0 0]) := by show Blk _ _ _ _; rw [hw1]; exact Blk.newAt (by simp; exact hgx) _ _
  have HB : Hid (Below w.heap.size w w1) := by show Below _ _ _; rw [hw1]; exact balloc (balloc (balloc (Below.refl _ _) _) _) _
  have HLT : Hid (w.heap.size ≤ g1 ∧ g1 < g2 ∧ g2 < gx) := ⟨by omega, by omega, by omega⟩
  go_enter Try.func40, Try.ntmps40
  go_upto_region 2 with fail
  rw [← hw1, ← hgx, ← hg2, ← hg1]
  clear hw1 hgx hg2 hg1 hC1
  have k0 : w1.cell? ⟨g1, 0, none⟩ = some (.int .i64 6) := HG.out.cell 0
  go_upto_region 16 with fail
  clear k0
  have hne : g1 ≠ gx := by have := HLT.out; omega
  have hne2 : g2 ≠ gx := by have := HLT.out; omega
  have hwx : w.heap.size ≤ gx := by have := HLT.out; omega
  have HG0 : Hid (Blk (World.drew w1) g1 46 #[.int .i64 6, .int .u32 (fr : Int), .int .u32 (ab : Int), .int .u64 (ntp : Int), .int .u32 (ts : Int), .int .u32 (pk : Int), .int .u32 (oc : Int), .slice Ab nb cb, .slice Ap np cp, .slice Af nf cf, .int .i64 ex, .int .u32 (mt : Int), .slice As ns cs, .int .i64 ty, .int .i64 ct, .slice Ad nd cd]) := HG.out
  have HZ0 : Hid (Blk (World.drew w1) g2 46 #[.int .i64 0, .int .u32 0, .int .u32 0, .int .u64 0, .int .u32 0, .int .u32 0, .int .u32 0, .slice none 0 0, .slice none 0 0, .slice none 0 0, .int .i64 0, .int .u32 0, .slice none 0 0, .int .i64 0, .int .i64 0, .slice none 0 0]) := HZ.out
  have HX0 : Hid (Blk (World.drew w1) gx 46 #[.int .i64 6, .int .u32 (fr : Int), .int .u32 0, .int .u64 0, .int .u32 0, .int .u32 0, .int .u32 0, .slice none 0 0, .slice none 0 0, .slice none 0 0, .int .i64 0, .int .u32 0, .slice none 0 0, .int .i64 0, .int .i64 0, .slice none 0 0]) := HX.out
  have HB0 : Hid (Below w.heap.size w (World.drew w1)) := HB.out.drew
  refine wp_region_held_drew (S := (fun w2 => Blk w2 g1 46 #[.int .i64 6, .int .u32 (fr : Int), .int .u32 (ab : Int), .int .u64 (ntp : Int), .int .u32 (ts : Int), .int .u32 (pk : Int), .int .u32 (oc : Int), .slice Ab nb cb, .slice Ap np cp, .slice Af nf cf, .int .i64 ex, .int .u32 (mt : Int), .slice As ns cs, .int .i64 ty, .int .i64 ct, .slice Ad nd cd])) (by kernel_rfl) (HG0.out) (fun hHeld => ?_)
  refine wpAnyH_takeAt (i := 0) (v := (.pointer (some ⟨g1, 2, none⟩))) rfl (by kernel_rfl) (by kernel_rfl) (by kernel_rfl) (fun _ _ _ h => h) rfl (Or.inl ⟨by rfl, fun w' hS => ?_⟩) hHeld ?_
  · go_simp
  simp only [List.set_cons_zero, List.set_cons_succ]
  refine wpAnyH_takeAt (i := 1) (v := (.int .u32 (ab : Int))) rfl (by kernel_rfl) (by kernel_rfl) (by kernel_rfl) (fun _ _ _ h => h) rfl (Or.inl ⟨by rfl, fun w' hS => ?_⟩) hHeld ?_
  · have hc := hS.cell 2
    have hc' : w'.cell? ⟨g1, 2, none⟩ = some (.int .u32 (ab : Int)) := hc
    go_simp
  simp only [List.set_cons_zero, List.set_cons_succ]
  refine wpAnyH_takeAt (i := 2) (v := (.pointer (some ⟨g1, 10, none⟩))) rfl (by kernel_rfl) (by kernel_rfl) (by kernel_rfl) (fun _ _ _ h => h) rfl (Or.inl ⟨by rfl, fun w' hS => ?_⟩) hHeld ?_
  · go_simp
  simp only [List.set_cons_zero, List.set_cons_succ]
  refine wpAnyH_takeAt (i := 3) (v := (.int .i64 ex)) rfl (by kernel_rfl) (by kernel_rfl) (by kernel_rfl) (fun _ _ _ h => h) rfl (Or.inl ⟨by rfl, fun w' hS => ?_⟩) hHeld ?_
  · have hc := hS.cell 10
    have hc' : w'.cell? ⟨g1, 10, none⟩ = some (.int .i64 ex) := hc
    go_simp
  simp only [List.set_cons_zero, List.set_cons_succ]
  refine wpAnyH_takeAt (i := 4) (v := (.pointer (some ⟨g1, 11, none⟩))) rfl (by kernel_rfl) (by kernel_rfl) (by kernel_rfl) (fun _ _ _ h => h) rfl (Or.inl ⟨by rfl, fun w' hS => ?_⟩) hHeld ?_
  · go_simp
  simp only [List.set_cons_zero, List.set_cons_succ]
  refine wpAnyH_takeAt (i := 5) (v := (.int .u32 (mt : Int))) rfl (by kernel_rfl) (by kernel_rfl) (by kernel_rfl) (fun _ _ _ h => h) rfl (Or.inl ⟨by rfl, fun w' hS => ?_⟩) hHeld ?_
  · have hc := hS.cell 11
    have hc' : w'.cell? ⟨g1, 11, none⟩ = some (.int .u32 (mt : Int)) := hc
    go_simp
  simp only [List.set_cons_zero, List.set_cons_succ]
  refine wpAnyH_takeAt (i := 6) (v := (.pointer (some ⟨g1, 12, none⟩))) rfl (by kernel_rfl) (by kernel_rfl) (by kernel_rfl) (fun _ _ _ h => h) rfl (Or.inl ⟨by rfl, fun w' hS => ?_⟩) hHeld ?_
  · go_simp
  simp only [List.set_cons_zero, List.set_cons_succ]
  refine wpAnyH_takeAt (i := 7) (v := (.slice As ns cs)) rfl (by kernel_rfl) (by kernel_rfl) (by kernel_rfl) (fun _ _ _ h => h) rfl (Or.inl ⟨by rfl, fun w' hS => ?_⟩) hHeld ?_
  · have hc := hS.cell 12
    have hc' : w'.cell? ⟨g1, 12, none⟩ = some (.slice As ns cs) := hc
    go_simp
  simp only [List.set_cons_zero, List.set_cons_succ]
  refine wpAnyH_takeAt (i := 8) (v := (.pointer (some ⟨gx, 2, none⟩))) rfl (by kernel_rfl) (by kernel_rfl) (by kernel_rfl) (fun _ _ _ h => h) rfl (Or.inl ⟨by rfl, fun w' hS => ?_⟩) hHeld ?_
  · go_simp
  simp only [List.set_cons_zero, List.set_cons_succ]
  refine wpAnyH_ready (rs := [9]) (by kernel_rfl) (by simp) (AllReadyH.cons rfl (fun K' hK => ?_) AllReadyH.nil)
  have hcell : (World.drew w1).cell? ⟨gx, 2, none⟩ = some (.int .u32 0) := HX0.out.cell 2
  have hfree : (World.drew w1).frozen? ⟨gx, 2, none⟩ = false := HX0.out.frozen 2
  have hcell0 : w1.cell? ⟨gx, 2, none⟩ = some (.int .u32 0) := HX0.out.cell 2
  have hfree0 : w1.frozen? ⟨gx, 2, none⟩ = false := HX0.out.frozen 2
  go_simp
  clear hcell hfree hcell0 hfree0
  have HG1 : Hid (Blk (World.setCell (World.drew w1) ⟨gx, 2, none⟩ (.int .u32 (ab : Int))) g1 46 #[.int .i64 6, .int .u32 (fr : Int), .int .u32 (ab : Int), .int .u64 (ntp : Int), .int .u32 (ts : Int), .int .u32 (pk : Int), .int .u32 (oc : Int), .slice Ab nb cb, .slice Ap np cp, .slice Af nf cf, .int .i64 ex, .int .u32 (mt : Int), .slice As ns cs, .int .i64 ty, .int .i64 ct, .slice Ad nd cd]) := HG0.out.far (p := ⟨gx, 2, none⟩) hne _
  have HZ1 : Hid (Blk (World.setCell (World.drew w1) ⟨gx, 2, none⟩ (.int .u32 (ab : Int))) g2 46 #[.int .i64 0, .int .u32 0, .int .u32 0, .int .u64 0, .int .u32 0, .int .u32 0, .int .u32 0, .slice none 0 0, .slice none 0 0, .slice none 0 0, .int .i64 0, .int .u32 0, .slice none 0 0, .int .i64 0, .int .i64 0, .slice none 0 0]) := HZ0.out.far (p := ⟨gx, 2, none⟩) hne2 _
  have HX1 : Hid (Blk (World.setCell (World.drew w1) ⟨gx, 2, none⟩ (.int .u32 (ab : Int))) gx 46 #[.int .i64 6, .int .u32 (fr : Int), .int .u32 (ab : Int), .int .u64 0, .int .u32 0, .int .u32 0, .int .u32 0, .slice none 0 0, .slice none 0 0, .slice none 0 0, .int .i64 0, .int .u32 0, .slice none 0 0, .int .i64 0, .int .i64 0, .slice none 0 0]) := HX0.out.set_ 2 _
  have HB1 : Hid (Below w.heap.size w (World.setCell (World.drew w1) ⟨gx, 2, none⟩ (.int .u32 (ab : Int)))) := bset HB0.out (p := ⟨gx, 2, none⟩) hwx _
  refine hK.out _ (World.setCell (World.drew w1) ⟨gx, 2, none⟩ (.int .u32 (ab : Int))) HG1.out (fun hHeld' => ?_)
  clear hK hHeld
  have hHeld := hHeld'
  clear hHeld'
  generalize (World.setCell (World.drew w1) ⟨gx, 2, none⟩ (.int .u32 (ab : Int))) = wn1 at *
  refine wpAnyH_takeAt (i := 10) (v := (.pointer (some ⟨gx, 10, none⟩))) rfl (by kernel_rfl) (by kernel_rfl) (by kernel_rfl) (fun _ _ _ h => h) rfl (Or.inl ⟨by rfl, fun w' hS => ?_⟩) hHeld ?_
  · go_simp
  simp only [List.set_cons_zero, List.set_cons_succ]
  refine wpAnyH_ready (rs := [11]) (by kernel_rfl) (by simp) (AllReadyH.cons rfl (fun K' hK => ?_) AllReadyH.nil)
  have hcell : wn1.cell? ⟨gx, 10, none⟩ = some (.int .i64 0) := HX1.out.cell 10
  have hfree : wn1.frozen? ⟨gx, 10, none⟩ = false := HX1.out.frozen 10
  have hcell0 : w1.cell? ⟨gx, 10, none⟩ = some (.int .i64 0) := HX0.out.cell 10
  have hfree0 : w1.frozen? ⟨gx, 10, none⟩ = false := HX0.out.frozen 10
  go_simp
  clear hcell hfree hcell0 hfree0
  have HG2 : Hid (Blk (World.setCell wn1 ⟨gx, 10, none⟩ (.int .i64 ex)) g1 46 #[.int .i64 6, .int .u32 (fr : Int), .int .u32 (ab : Int), .int .u64 (ntp : Int), .int .u32 (ts : Int), .int .u32 (pk : Int), .int .u32 (oc : Int), .slice Ab nb cb, .slice Ap np cp, .slice Af nf cf, .int .i64 ex, .int .u32 (mt : Int), .slice As ns cs, .int .i64 ty, .int .i64 ct, .slice Ad nd cd]) := HG1.out.far (p := ⟨gx, 10, none⟩) hne _
  have HZ2 : Hid (Blk (World.setCell wn1 ⟨gx, 10, none⟩ (.int .i64 ex)) g2 46 #[.int .i64 0, .int .u32 0, .int .u32 0, .int .u64 0, .int .u32 0, .int .u32 0, .int .u32 0, .slice none 0 0, .slice none 0 0, .slice none 0 0, .int .i64 0, .int .u32 0, .slice none 0 0, .int .i64 0, .int .i64 0, .slice none 0 0]) := HZ1.out.far (p := ⟨gx, 10, none⟩) hne2 _
  have HX2 : Hid (Blk (World.setCell wn1 ⟨gx, 10, none⟩ (.int .i64 ex)) gx 46 #[.int .i64 6, .int .u32 (fr : Int), .int .u32 (ab : Int), .int .u64 0, .int .u32 0, .int .u32 0, .int .u32 0, .slice none 0 0, .slice none 0 0, .slice none 0 0, .int .i64 ex, .int .u32 0, .slice none 0 0, .int .i64 0, .int .i64 0, .slice none 0 0]) := HX1.out.set_ 10 _
  have HB2 : Hid (Below w.heap.size w (World.setCell wn1 ⟨gx, 10, none⟩ (.int .i64 ex))) := bset HB1.out (p := ⟨gx, 10, none⟩) hwx _
  refine hK.out _ (World.setCell wn1 ⟨gx, 10, none⟩ (.int .i64 ex)) HG2.out (fun hHeld' => ?_)
  clear hK hHeld
  have hHeld := hHeld'
  clear hHeld'
  generalize (World.setCell wn1 ⟨gx, 10, none⟩ (.int .i64 ex)) = wn2 at *
  refine wpAnyH_takeAt (i := 12) (v := (.pointer (some ⟨gx, 11, none⟩))) rfl (by kernel_rfl) (by kernel_rfl) (by kernel_rfl) (fun _ _ _ h => h) rfl (Or.inl ⟨by rfl, fun w' hS => ?_⟩) hHeld ?_
  · go_simp
  simp only [List.set_cons_zero, List.set_cons_succ]
  refine wpAnyH_ready (rs := [13]) (by kernel_rfl) (by simp) (AllReadyH.cons rfl (fun K' hK => ?_) AllReadyH.nil)
  have hcell : wn2.cell? ⟨gx, 11, none⟩ = some (.int .u32 0) := HX2.out.cell 11
  have hfree : wn2.frozen? ⟨gx, 11, none⟩ = false := HX2.out.frozen 11
  have hcell0 : w1.cell? ⟨gx, 11, none⟩ = some (.int .u32 0) := HX0.out.cell 11
  have hfree0 : w1.frozen? ⟨gx, 11, none⟩ = false := HX0.out.frozen 11
  go_simp
  clear hcell hfree hcell0 hfree0
  have HG3 : Hid (Blk (World.setCell wn2 ⟨gx, 11, none⟩ (.int .u32 (mt : Int))) g1 46 #[.int .i64 6, .int .u32 (fr : Int), .int .u32 (ab : Int), .int .u64 (ntp : Int), .int .u32 (ts : Int), .int .u32 (pk : Int), .int .u32 (oc : Int), .slice Ab nb cb, .slice Ap np cp, .slice Af nf cf, .int .i64 ex, .int .u32 (mt : Int), .slice As ns cs, .int .i64 ty, .int .i64 ct, .slice Ad nd cd]) := HG2.out.far (p := ⟨gx, 11, none⟩) hne _
  have HZ3 : Hid (Blk (World.setCell wn2 ⟨gx, 11, none⟩ (.int .u32 (mt : Int))) g2 46 #[.int .i64 0, .int .u32 0, .int .u32 0, .int .u64 0, .int .u32 0, .int .u32 0, .int .u32 0, .slice none 0 0, .slice none 0 0, .slice none 0 0, .int .i64 0, .int .u32 0, .slice none 0 0, .int .i64 0, .int .i64 0, .slice none 0 0]) := HZ2.out.far (p := ⟨gx, 11, none⟩) hne2 _
  have HX3 : Hid (Blk (World.setCell wn2 ⟨gx, 11, none⟩ (.int .u32 (mt : Int))) gx 46 #[.int .i64 6, .int .u32 (fr : Int), .int .u32 (ab : Int), .int .u64 0, .int .u32 0, .int .u32 0, .int .u32 0, .slice none 0 0, .slice none 0 0, .slice none 0 0, .int .i64 ex, .int .u32 (mt : Int), .slice none 0 0, .int .i64 0, .int .i64 0, .slice none 0 0]) := HX2.out.set_ 11 _
  have HB3 : Hid (Below w.heap.size w (World.setCell wn2 ⟨gx, 11, none⟩ (.int .u32 (mt : Int)))) := bset HB2.out (p := ⟨gx, 11, none⟩) hwx _
  refine hK.out _ (World.setCell wn2 ⟨gx, 11, none⟩ (.int .u32 (mt : Int))) HG3.out (fun hHeld' => ?_)
  clear hK hHeld
  have hHeld := hHeld'
  clear hHeld'
  generalize (World.setCell wn2 ⟨gx, 11, none⟩ (.int .u32 (mt : Int))) = wn3 at *
  refine wpAnyH_takeAt (i := 14) (v := (.pointer (some ⟨gx, 12, none⟩))) rfl (by kernel_rfl) (by kernel_rfl) (by kernel_rfl) (fun _ _ _ h => h) rfl (Or.inl ⟨by rfl, fun w' hS => ?_⟩) hHeld ?_
  · go_simp
  simp only [List.set_cons_zero, List.set_cons_succ]
  refine wpAnyH_ready (rs := [15]) (by kernel_rfl) (by simp) (AllReadyH.cons rfl (fun K' hK => ?_) AllReadyH.nil)
  have hcell : wn3.cell? ⟨gx, 12, none⟩ = some (.slice none 0 0) := HX3.out.cell 12
  have hfree : wn3.frozen? ⟨gx, 12, none⟩ = false := HX3.out.frozen 12
  have hcell0 : w1.cell? ⟨gx, 12, none⟩ = some (.slice none 0 0) := HX0.out.cell 12
  have hfree0 : w1.frozen? ⟨gx, 12, none⟩ = false := HX0.out.frozen 12
  go_simp
  clear hcell hfree hcell0 hfree0
  have HG4 : Hid (Blk (World.setCell wn3 ⟨gx, 12, none⟩ (.slice As ns cs)) g1 46 #[.int .i64 6, .int .u32 (fr : Int), .int .u32 (ab : Int), .int .u64 (ntp : Int), .int .u32 (ts : Int), .int .u32 (pk : Int), .int .u32 (oc : Int), .slice Ab nb cb, .slice Ap np cp, .slice Af nf cf, .int .i64 ex, .int .u32 (mt : Int), .slice As ns cs, .int .i64 ty, .int .i64 ct, .slice Ad nd cd]) := HG3.out.far (p := ⟨gx, 12, none⟩) hne _
  have HZ4 : Hid (Blk (World.setCell wn3 ⟨gx, 12, none⟩ (.slice As ns cs)) g2 46 #[.int .i64 0, .int .u32 0, .int .u32 0, .int .u64 0, .int .u32 0, .int .u32 0, .int .u32 0, .slice none 0 0, .slice none 0 0, .slice none 0 0, .int .i64 0, .int .u32 0, .slice none 0 0, .int .i64 0, .int .i64 0, .slice none 0 0]) := HZ3.out.far (p := ⟨gx, 12, none⟩) hne2 _
  have HX4 : Hid (Blk (World.setCell wn3 ⟨gx, 12, none⟩ (.slice As ns cs)) gx 46 #[.int .i64 6, .int .u32 (fr : Int), .int .u32 (ab : Int), .int .u64 0, .int .u32 0, .int .u32 0, .int .u32 0, .slice none 0 0, .slice none 0 0, .slice none 0 0, .int .i64 ex, .int .u32 (mt : Int), .slice As ns cs, .int .i64 0, .int .i64 0, .slice none 0 0]) := HX3.out.set_ 12 _
  have HB4 : Hid (Below w.heap.size w (World.setCell wn3 ⟨gx, 12, none⟩ (.slice As ns cs))) := bset HB3.out (p := ⟨gx, 12, none⟩) hwx _
  refine hK.out _ (World.setCell wn3 ⟨gx, 12, none⟩ (.slice As ns cs)) HG4.out (fun hHeld' => ?_)
  clear hK hHeld
  have hHeld := hHeld'
  clear hHeld'
  generalize (World.setCell wn3 ⟨gx, 12, none⟩ (.slice As ns cs)) = wn4 at *
  refine wpAnyH_done (by kernel_rfl) ?_ _
  go_upto_region 17 with fail
  have HXF : Hid (Blk wn4 gx 46 #[.int .i64 6, .int .u32 (fr : Int), .int .u32 (ab : Int), .int .u64 0, .int .u32 0, .int .u32 0, .int .u32 0, .slice none 0 0, .slice none 0 0, .slice none 0 0, .int .i64 ex, .int .u32 (mt : Int), .slice As ns cs, .int .i64 0, .int .i64 0, .slice none 0 0]) := HX4.out
  have HZF := HZ4
  have HBF := HB4
  obtain ⟨wf, hwf⟩ : ∃ wf, wf = wn4 := ⟨_, rfl⟩
  rw [← hwf] at HXF HZF HBF ⊢
  clear hwf
  obtain ⟨R, hR⟩ : ∃ R, R = (#[.int .i64 6, .int .u32 (fr : Int), .int .u32 (ab : Int), .int .u64 0, .int .u32 0, .int .u32 0, .int .u32 0, .slice none 0 0, .slice none 0 0, .slice none 0 0, .int .i64 ex, .int .u32 (mt : Int), .slice As ns cs, .int .i64 0, .int .i64 0, .slice none 0 0] : Array Value).toList := ⟨_, rfl⟩
  have HRA : Hid (R.toArray = #[.int .i64 6, .int .u32 (fr : Int), .int .u32 (ab : Int), .int .u64 0, .int .u32 0, .int .u32 0, .int .u32 0, .slice none 0 0, .slice none 0 0, .slice none 0 0, .int .i64 ex, .int .u32 (mt : Int), .slice As ns cs, .int .i64 0, .int .i64 0, .slice none 0 0]) := by show _ = _; rw [hR]
  have HRL : Hid (R.length = 16) := by show _ = _; rw [hR]; rfl
  have HR1 : Hid (R.toArray.all (·.oneCell') = true) := by show _ = _; rw [hR]; simp [Value.oneCell']
  clear hR
  have HI : Hid ((Try.prog.info? 46).map (·.size) = some R.length) := by show _ = _; rw [HRL.out]; exact infoRep
  have HJ : Hid ((Try.prog.info? 46).map (·.size) = some R.toArray.size) := by show _ = _; rw [List.size_toArray, HRL.out]; exact infoRep
  have HXR : Hid (Blk wf gx 46 R.toArray) := by show Blk _ _ _ _; rw [HRA.out]; exact HXF.out
  have HRG : Hid (wf.rangeAt gx 0 R) := blk_range HXR.out
  have HTH : Hid (wf.there g2 0 R.toArray.size) := by show World.there _ _ _ R.toArray.size; rw [List.size_toArray, HRL.out]; exact blk_there (l := (#[.int .i64 0, .int .u32 0, .int .u32 0, .int .u64 0, .int .u32 0, .int .u32 0, .int .u32 0, .slice none 0 0, .slice none 0 0, .slice none 0 0, .int .i64 0, .int .u32 0, .slice none 0 0, .int .i64 0, .int .i64 0, .slice none 0 0] : Array Value).toList) HZF.out rfl
  go_wp2_with (first
    | ((with_reducible show wpList _ _ _ (⟨some 78, .load 46 (.tmp 3), _, _, _, _⟩ :: _) _ _); refine wpList_load_mid rfl 46 (.tmp 3) rfl gx 0 rfl R _ HRG.out Try.underlying46 rfl HI.out ?_)
    | ((with_reducible show wpList _ _ _ (⟨none, .store 46 (.tmp 2) (.tmp 78), _, _, _, _⟩ :: _) _ _); refine wpList_store_mid rfl 46 (.tmp 2) (.tmp 78) rfl g2 0 R.toArray rfl rfl HTH.out HJ.out HR1.out ?_))
  have hst : Blk (wf.setCells g2 0 R) g2 46 R.toArray := blk_setAll (l := (#[.int .i64 0, .int .u32 0, .int .u32 0, .int .u64 0, .int .u32 0, .int .u32 0, .int .u32 0, .slice none 0 0, .slice none 0 0, .slice none 0 0, .int .i64 0, .int .u32 0, .slice none 0 0, .int .i64 0, .int .i64 0, .slice none 0 0] : Array Value).toList) HZF.out (by rw [HRL.out]; rfl)
  have hload := run_loadVar_mid (P := Try.prog) (wf.setCells g2 0 R) g2 0 46 R _ (blk_range hst) Try.underlying46 rfl HI.out
  exact bodyPost_ret (results_one rfl _ _ g2 _ rfl hload) rfl ⟨by rw [HRA.out], below_setCells HBF.out (by have := HLT.out; omega) _ _⟩
end Go.Proofs.Ytkfimncbfbbopaa
/- What bare leaves of a report of one kind (contract). Conditions: none. (Printed by gen8g.py.) -/
set_option linter.unusedVariables false
set_option linter.unusedSimpArgs false
namespace Go.Proofs.Ytkfimncbfbbopaa
open Go.RowKit
attribute [local go_sem ↓] Go.wp_at_zero Go.wp_at_succ

set_option maxRecDepth 100000 in
set_option maxHeartbeats 12800000 in
theorem bare7_c (fr ab ntp ts pk oc mt nb cb np cp nf cf ns cs nd cd : Nat) (ex ty ct : Int) (Ab Ap Af As Ad : Option Addr) (w : World) :
    Calls Try.prog 40 #[.agg #[.int .i64 7, .int .u32 (fr : Int), .int .u32 (ab : Int), .int .u64 (ntp : Int), .int .u32 (ts : Int), .int .u32 (pk : Int), .int .u32 (oc : Int), .slice Ab nb cb, .slice Ap np cp, .slice Af nf cf, .int .i64 ex, .int .u32 (mt : Int), .slice As ns cs, .int .i64 ty, .int .i64 ct, .slice Ad nd cd]] w fun e w' => e = .returned (.agg #[.int .i64 7, .int .u32 0, .int .u32 0, .int .u64 0, .int .u32 0, .int .u32 0, .int .u32 0, .slice none 0 0, .slice none 0 0, .slice none 0 0, .int .i64 0, .int .u32 0, .slice none 0 0, .int .i64 ty, .int .i64 ct, .slice Ad nd cd]) ∧ Below w.heap.size w w' := by
  obtain ⟨C1, hC1⟩ : ∃ C1 : Array Value, C1 = #[.int .i64 7, .int .u32 (fr : Int), .int .u32 (ab : Int), .int .u64 (ntp : Int), .int .u32 (ts : Int), .int .u32 (pk : Int), .int .u32 (oc : Int), .slice Ab nb cb, .slice Ap np cp, .slice Af nf cf, .int .i64 ex, .int .u32 (mt : Int), .slice As ns cs, .int .i64 ty, .int .i64 ct, .slice Ad nd cd] := ⟨_, rfl⟩
  obtain ⟨g1, hg1⟩ : ∃ g1, g1 = w.heap.size := ⟨_, rfl⟩
  obtain ⟨g2, hg2⟩ : ∃ g2, g2 = w.heap.size + 1 := ⟨_, rfl⟩
  obtain ⟨gx, hgx⟩ : ∃ gx, gx = w.heap.size + 1 + 1 := ⟨_, rfl⟩
  obtain ⟨w1, hw1⟩ : ∃ w1, w1 = ((w.alloc (.cells #[.int .i64 7, .int .u32 (fr : Int), .int .u32 (ab : Int), .int .u64 (ntp : Int), .int .u32 (ts : Int), .int .u32 (pk : Int), .int .u32 (oc : Int), .slice Ab nb cb, .slice Ap np cp, .slice Af nf cf, .int .i64 ex, .int .u32 (mt : Int), .slice As ns cs, .int .i64 ty, .int .i64 ct, .slice Ad nd cd] 46)).alloc (.cells #[.int .i64 0, .int .u32 0, .int .u32 0, .int .u64 0, .int .u32 0, .int .u32 0, .int .u32 0, .slice none 0 0, .slice none 0 0, .slice none 0 0, .int .i64 0, .int .u32 0, .slice none 0 0, .int .i64 0, .int .i64 0, .slice none 0 0] 46)).alloc (.cells #[.int .i64 7, .int .u32 (fr : Int), .int .u32 0, .int .u64 0, .int .u32 0, .int .u32 0, .int .u32 0, .slice none 0 0, .slice none 0 0, .slice none 0 0, .int .i64 0, .int .u32 0, .slice none 0 0, .int .i64 0, .int .i64 0, .slice none 0 0] 46) := ⟨_, rfl⟩
  have HG : Hid (Blk w1 g1 46 #[.int .i64 7, .int .u32 (fr : Int), .int .u32 (ab : Int), .int .u64 (ntp : Int), .int .u32 (ts : Int), .int .u32 (pk : Int), .int .u32 (oc : Int), .slice Ab nb cb, .slice Ap np cp, .slice Af nf cf, .int .i64 ex, .int .u32 (mt : Int), .slice As ns cs, .int .i64 ty, .int .i64 ct, .slice Ad nd cd]) := by show Blk _ _ _ _; rw [hw1]; exact Blk.alloc (Blk.alloc (Blk.newAt hg1 _ _) _) _
  have HZ : Hid (Blk w1 g2 46 #[.int .i64 0, .int .u32 0, .int .u32 0, .int .u64 0, .int .u32 0, .int .u32 0, .int .u32 0, .slice none 0 0, .slice none 0 0, .slice none 0 0, .int .i64 0, .int .u32 0, .slice none 0 0, .int .i64 0, .int .i64 0, .slice none 0 0]) := by show Blk _ _ _ _; rw [hw1]; exact Blk.alloc (Blk.newAt (by simp; exact hg2) _ _) _
  have HX : Hid (Blk w1 gx 46 #[.int .i64 7, .int .u32 (fr : Int), .int .u32 0, .int .u64 0, .int .u32 0, .int .u32 0, .int .u32 0, .slice none 0 0, .slice none 0 0, .slice none 0 0, .int .i64 0, .int .u32 0, .slice none 0 0, .int .i64 0, .int .i64 0, .slice none 0 0]) := by show Blk _ _ _ _; rw [hw1]; exact Blk.newAt (by simp; exact hgx) _ _
  have HB : Hid (Below w.heap.size w w1) := by show Below _ _ _; rw [hw1]; exact balloc (balloc (balloc (Below.refl _ _) _) _) _
  have HLT : Hid (w.heap.size ≤ g1 ∧ g1 < g2 ∧ g2 < gx) := ⟨by omega, by omega, by omega⟩
  go_enter Try.func40, Try.ntmps40
  go_upto_region 2 with fail
  rw [← hw1, ← hgx, ← hg2, ← hg1]
  clear hw1 hgx hg2 hg1 hC1
  have k0 : w1.cell? ⟨g1, 0, none⟩ = some (.int .i64 7) := HG.out.cell 0
  have kx1 : w1.cell? ⟨gx, 1, none⟩ = some (.int .u32 (fr : Int)) := HX.out.cell 1
  have fx1 := HX.out.frozen 1
  go_upto_region 4 with fail
  clear k0 kx1 fx1
  obtain ⟨wa, hwa⟩ : ∃ wa, wa = w1.setCell ⟨gx, 1, none⟩ (.int .u32 0) := ⟨_, rfl⟩
  rw [← hwa]
  have hne : g1 ≠ gx := by have := HLT.out; omega
  have hne2 : g2 ≠ gx := by have := HLT.out; omega
  have hwx : w.heap.size ≤ gx := by have := HLT.out; omega
  have HGa : Hid (Blk wa g1 46 #[.int .i64 7, .int .u32 (fr : Int), .int .u32 (ab : Int), .int .u64 (ntp : Int), .int .u32 (ts : Int), .int .u32 (pk : Int), .int .u32 (oc : Int), .slice Ab nb cb, .slice Ap np cp, .slice Af nf cf, .int .i64 ex, .int .u32 (mt : Int), .slice As ns cs, .int .i64 ty, .int .i64 ct, .slice Ad nd cd]) := by show Blk _ _ _ _; rw [hwa]; exact HG.out.far (p := ⟨gx, 1, none⟩) hne _
  have HZa : Hid (Blk wa g2 46 #[.int .i64 0, .int .u32 0, .int .u32 0, .int .u64 0, .int .u32 0, .int .u32 0, .int .u32 0, .slice none 0 0, .slice none 0 0, .slice none 0 0, .int .i64 0, .int .u32 0, .slice none 0 0, .int .i64 0, .int .i64 0, .slice none 0 0]) := by show Blk _ _ _ _; rw [hwa]; exact HZ.out.far (p := ⟨gx, 1, none⟩) hne2 _
  have HXa : Hid (Blk wa gx 46 #[.int .i64 7, .int .u32 0, .int .u32 0, .int .u64 0, .int .u32 0, .int .u32 0, .int .u32 0, .slice none 0 0, .slice none 0 0, .slice none 0 0, .int .i64 0, .int .u32 0, .slice none 0 0, .int .i64 0, .int .i64 0, .slice none 0 0]) := by show Blk _ _ _ _; rw [hwa]; exact HX.out.set_ 1 _
  have HBa : Hid (Below w.heap.size w wa) := by show Below _ _ _; rw [hwa]; exact bset HB.out (p := ⟨gx, 1, none⟩) hwx _
  clear hwa
  have HG0 : Hid (Blk (World.drew wa) g1 46 #[.int .i64 7, .int .u32 (fr : Int), .int .u32 (ab : Int), .int .u64 (ntp : Int), .int .u32 (ts : Int), .int .u32 (pk : Int), .int .u32 (oc : Int), .slice Ab nb cb, .slice Ap np cp, .slice Af nf cf, .int .i64 ex, .int .u32 (mt : Int), .slice As ns cs, .int .i64 ty, .int .i64 ct, .slice Ad nd cd]) := HGa.out
  have HZ0 : Hid (Blk (World.drew wa) g2 46 #[.int .i64 0, .int .u32 0, .int .u32 0, .int .u64 0, .int .u32 0, .int .u32 0, .int .u32 0, .slice none 0 0, .slice none 0 0, .slice none 0 0, .int .i64 0, .int .u32 0, .slice none 0 0, .int .i64 0, .int .i64 0, .slice none 0 0]) := HZa.out
  have HX0 : Hid (Blk (World.drew wa) gx 46 #[.int .i64 7, .int .u32 0, .int .u32 0, .int .u64 0, .int .u32 0, .int .u32 0, .int .u32 0, .slice none 0 0, .slice none 0 0, .slice none 0 0, .int .i64 0, .int .u32 0, .slice none 0 0, .int .i64 0, .int .i64 0, .slice none 0 0]) := HXa.out
  have HB0 : Hid (Below w.heap.size w (World.drew wa)) := HBa.out.drew
  refine wp_region_held_drew (S := (fun w2 => Blk w2 g1 46 #[.int .i64 7, .int .u32 (fr : Int), .int .u32 (ab : Int), .int .u64 (ntp : Int), .int .u32 (ts : Int), .int .u32 (pk : Int), .int .u32 (oc : Int), .slice Ab nb cb, .slice Ap np cp, .slice Af nf cf, .int .i64 ex, .int .u32 (mt : Int), .slice As ns cs, .int .i64 ty, .int .i64 ct, .slice Ad nd cd])) (by kernel_rfl) (HG0.out) (fun hHeld => ?_)
  refine wpAnyH_takeAt (i := 0) (v := (.pointer (some ⟨g1, 13, none⟩))) rfl (by kernel_rfl) (by kernel_rfl) (by kernel_rfl) (fun _ _ _ h => h) rfl (Or.inl ⟨by rfl, fun w' hS => ?_⟩) hHeld ?_
  · go_simp
  simp only [List.set_cons_zero, List.set_cons_succ]
  refine wpAnyH_takeAt (i := 1) (v := (.int .i64 ty)) rfl (by kernel_rfl) (by kernel_rfl) (by kernel_rfl) (fun _ _ _ h => h) rfl (Or.inl ⟨by rfl, fun w' hS => ?_⟩) hHeld ?_
  · have hc := hS.cell 13
    have hc' : w'.cell? ⟨g1, 13, none⟩ = some (.int .i64 ty) := hc
    go_simp
  simp only [List.set_cons_zero, List.set_cons_succ]
  refine wpAnyH_takeAt (i := 2) (v := (.pointer (some ⟨g1, 14, none⟩))) rfl (by kernel_rfl) (by kernel_rfl) (by kernel_rfl) (fun _ _ _ h => h) rfl (Or.inl ⟨by rfl, fun w' hS => ?_⟩) hHeld ?_
  · go_simp
  simp only [List.set_cons_zero, List.set_cons_succ]
  refine wpAnyH_takeAt (i := 3) (v := (.int .i64 ct)) rfl (by kernel_rfl) (by kernel_rfl) (by kernel_rfl) (fun _ _ _ h => h) rfl (Or.inl ⟨by rfl, fun w' hS => ?_⟩) hHeld ?_
  · have hc := hS.cell 14
    have hc' : w'.cell? ⟨g1, 14, none⟩ = some (.int .i64 ct) := hc
    go_simp
  simp only [List.set_cons_zero, List.set_cons_succ]
  refine wpAnyH_takeAt (i := 4) (v := (.pointer (some ⟨g1, 15, none⟩))) rfl (by kernel_rfl) (by kernel_rfl) (by kernel_rfl) (fun _ _ _ h => h) rfl (Or.inl ⟨by rfl, fun w' hS => ?_⟩) hHeld ?_
  · go_simp
  simp only [List.set_cons_zero, List.set_cons_succ]
  refine wpAnyH_takeAt (i := 5) (v := (.slice Ad nd cd)) rfl (by kernel_rfl) (by kernel_rfl) (by kernel_rfl) (fun _ _ _ h => h) rfl (Or.inl ⟨by rfl, fun w' hS => ?_⟩) hHeld ?_
  · have hc := hS.cell 15
    have hc' : w'.cell? ⟨g1, 15, none⟩ = some (.slice Ad nd cd) := hc
    go_simp
  simp only [List.set_cons_zero, List.set_cons_succ]
  refine wpAnyH_takeAt (i := 6) (v := (.pointer (some ⟨gx, 13, none⟩))) rfl (by kernel_rfl) (by kernel_rfl) (by kernel_rfl) (fun _ _ _ h => h) rfl (Or.inl ⟨by rfl, fun w' hS => ?_⟩) hHeld ?_
  · go_simp
  simp only [List.set_cons_zero, List.set_cons_succ]
  refine wpAnyH_ready (rs := [7]) (by kernel_rfl) (by simp) (AllReadyH.cons rfl (fun K' hK => ?_) AllReadyH.nil)
  have hcell : (World.drew wa).cell? ⟨gx, 13, none⟩ = some (.int .i64 0) := HX0.out.cell 13
  have hfree : (World.drew wa).frozen? ⟨gx, 13, none⟩ = false := HX0.out.frozen 13
  have hcell0 : wa.cell? ⟨gx, 13, none⟩ = some (.int .i64 0) := HX0.out.cell 13
  have hfree0 : wa.frozen? ⟨gx, 13, none⟩ = false := HX0.out.frozen 13
  go_simp
  clear hcell hfree hcell0 hfree0
  have HG1 : Hid (Blk (World.setCell (World.drew wa) ⟨gx, 13, none⟩ (.int .i64 ty)) g1 46 #[.int .i64 7, .int .u32 (fr : Int), .int .u32 (ab : Int), .int .u64 (ntp : Int), .int .u32 (ts : Int), .int .u32 (pk : Int), .int .u32 (oc : Int), .slice Ab nb cb, .slice Ap np cp, .slice Af nf cf, .int .i64 ex, .int .u32 (mt : Int), .slice As ns cs, .int .i64 ty, .int .i64 ct, .slice Ad nd cd]) := HG0.out.far (p := ⟨gx, 13, none⟩) hne _
  have HZ1 : Hid (Blk (World.setCell (World.drew wa) ⟨gx, 13, none⟩ (.int .i64 ty)) g2 46 #[.int .i64 0, .int .u32 0, .int .u32 0, .int .u64 0, .int .u32 0, .int .u32 0, .int .u32 0, .slice none 0 0, .slice none 0 0, .slice none 0 0, .int .i64 0, .int .u32 0, .slice none 0 0, .int .i64 0, .int .i64 0, .slice none 0 0]) := HZ0.out.far (p := ⟨gx, 13, none⟩) hne2 _
  have HX1 : Hid (Blk (World.setCell (World.drew wa) ⟨gx, 13, none⟩ (.int .i64 ty)) gx 46 #[.int .i64 7, .int .u32 0, .int .u32 0, .int .u64 0, .int .u32 0, .int .u32 0, .int .u32 0, .slice none 0 0, .slice none 0 0, .slice none 0 0, .int .i64 0, .int .u32 0, .slice none 0 0, .int .i64 ty, .int .i64 0, .slice none 0 0]) := HX0.out.set_ 13 _
  have HB1 : Hid (Below w.heap.size w (World.setCell (World.drew wa) ⟨gx, 13, none⟩ (.int .i64 ty))) := bset HB0.out (p := ⟨gx, 13, none⟩) hwx _
  refine hK.out _ (World.setCell (World.drew wa) ⟨gx, 13, none⟩ (.int .i64 ty)) HG1.out (fun hHeld' => ?_)
  clear hK hHeld
  have hHeld := hHeld'
  clear hHeld'
  generalize (World.setCell (World.drew wa) ⟨gx, 13, none⟩ (.int .i64 ty)) = wn1 at *
  refine wpAnyH_takeAt (i := 8) (v := (.pointer (some ⟨gx, 14, none⟩))) rfl (by kernel_rfl) (by kernel_rfl) (by kernel_rfl) (fun _ _ _ h => h) rfl (Or.inl ⟨by rfl, fun w' hS => ?_⟩) hHeld ?_
  · go_simp
  simp only [List.set_cons_zero, List.set_cons_succ]
  refine wpAnyH_ready (rs := [9]) (by kernel_rfl) (by simp) (AllReadyH.cons rfl (fun K' hK => ?_) AllReadyH.nil)
  have hcell : wn1.cell? ⟨gx, 14, none⟩ = some (.int .i64 0) := HX1.out.cell 14
  have hfree : wn1.frozen? ⟨gx, 14, none⟩ = false := HX1.out.frozen 14
  have hcell0 : wa.cell? ⟨gx, 14, none⟩ = some (.int .i64 0) := HX0.out.cell 14
  have hfree0 : wa.frozen? ⟨gx, 14, none⟩ = false := HX0.out.frozen 14
  go_simp
  clear hcell hfree hcell0 hfree0
  have HG2 : Hid (Blk (World.setCell wn1 ⟨gx, 14, none⟩ (.int .i64 ct)) g1 46 #[.int .i64 7, .int .u32 (fr : Int), .int .u32 (ab : Int), .int .u64 (ntp : Int), .int .u32 (ts : Int), .int .u32 (pk : Int), .int .u32 (oc : Int), .slice Ab nb cb, .slice Ap np cp, .slice Af nf cf, .int .i64 ex, .int .u32 (mt : Int), .slice As ns cs, .int .i64 ty, .int .i64 ct, .slice Ad nd cd]) := HG1.out.far (p := ⟨gx, 14, none⟩) hne _
  have HZ2 : Hid (Blk (World.setCell wn1 ⟨gx, 14, none⟩ (.int .i64 ct)) g2 46 #[.int .i64 0, .int .u32 0, .int .u32 0, .int .u64 0, .int .u32 0, .int .u32 0, .int .u32 0, .slice none 0 0, .slice none 0 0, .slice none 0 0, .int .i64 0, .int .u32 0, .slice none 0 0, .int .i64 0, .int .i64 0, .slice none 0 0]) := HZ1.out.far (p := ⟨gx, 14, none⟩) hne2 _
  have HX2 : Hid (Blk (World.setCell wn1 ⟨gx, 14, none⟩ (.int .i64 ct)) gx 46 #[.int .i64 7, .int .u32 0, .int .u32 0, .int .u64 0, .int .u32 0, .int .u32 0, .int .u32 0, .slice none 0 0, .slice none 0 0, .slice none 0 0, .int .i64 0, .int .u32 0, .slice none 0 0, .int .i64 ty, .int .i64 ct, .slice none 0 0]) := HX1.out.set_ 14 _
  have HB2 : Hid (Below w.heap.size w (World.setCell wn1 ⟨gx, 14, none⟩ (.int .i64 ct))) := bset HB1.out (p := ⟨gx, 14, none⟩) hwx _
  refine hK.out _ (World.setCell wn1 ⟨gx, 14, none⟩ (.int .i64 ct)) HG2.out (fun hHeld' => ?_)
  clear hK hHeld
  have hHeld := hHeld'
  clear hHeld'
  generalize (World.setCell wn1 ⟨gx, 14, none⟩ (.int .i64 ct)) = wn2 at *
  refine wpAnyH_takeAt (i := 10) (v := (.pointer (some ⟨gx, 15, none⟩))) rfl (by kernel_rfl) (by kernel_rfl) (by kernel_rfl) (fun _ _ _ h => h) rfl (Or.inl ⟨by rfl, fun w' hS => ?_⟩) hHeld ?_
  · go_simp
  simp only [List.set_cons_zero, List.set_cons_succ]
  refine wpAnyH_ready (rs := [11]) (by kernel_rfl) (by simp) (AllReadyH.cons rfl (fun K' hK => ?_) AllReadyH.nil)
  have hcell : wn2.cell? ⟨gx, 15, none⟩ = some (.slice none 0 0) := HX2.out.cell 15
  have hfree : wn2.frozen? ⟨gx, 15, none⟩ = false := HX2.out.frozen 15
  have hcell0 : wa.cell? ⟨gx, 15, none⟩ = some (.slice none 0 0) := HX0.out.cell 15
  have hfree0 : wa.frozen? ⟨gx, 15, none⟩ = false := HX0.out.frozen 15
  go_simp
  clear hcell hfree hcell0 hfree0
  have HG3 : Hid (Blk (World.setCell wn2 ⟨gx, 15, none⟩ (.slice Ad nd cd)) g1 46 #[.int .i64 7, .int .u32 (fr : Int), .int .u32 (ab : Int), .int .u64 (ntp : Int), .int .u32 (ts : Int), .int .u32 (pk : Int), .int .u32 (oc : Int), .slice Ab nb cb, .slice Ap np cp, .slice Af nf cf, .int .i64 ex, .int .u32 (mt : Int), .slice As ns cs, .int .i64 ty, .int .i64 ct, .slice Ad nd cd]) := HG2.out.far (p := ⟨gx, 15, none⟩) hne _
  have HZ3 : Hid (Blk (World.setCell wn2 ⟨gx, 15, none⟩ (.slice Ad nd cd)) g2 46 #[.int .i64 0, .int .u32 0, .int .u32 0, .int .u64 0, .int .u32 0, .int .u32 0, .int .u32 0, .slice none 0 0, .slice none 0 0, .slice none 0 0, .int .i64 0, .int .u32 0, .slice none 0 0, .int .i64 0, .int .i64 0, .slice none 0 0]) := HZ2.out.far (p := ⟨gx, 15, none⟩) hne2 _
  have HX3 : Hid (Blk (World.setCell wn2 ⟨gx, 15, none⟩ (.slice Ad nd cd)) gx 46 #[.int .i64 7, .int .u32 0, .int .u32 0, .int .u64 0, .int .u32 0, .int .u32 0, .int .u32 0, .slice none 0 0, .slice none 0 0, .slice none 0 0, .int .i64 0, .int .u32 0, .slice none 0 0, .int .i64 ty, .int .i64 ct, .slice Ad nd cd]) := HX2.out.set_ 15 _
  have HB3 : Hid (Below w.heap.size w (World.setCell wn2 ⟨gx, 15, none⟩ (.slice Ad nd cd))) := bset HB2.out (p := ⟨gx, 15, none⟩) hwx _
  refine hK.out _ (World.setCell wn2 ⟨gx, 15, none⟩ (.slice Ad nd cd)) HG3.out (fun hHeld' => ?_)
  clear hK hHeld
  have hHeld := hHeld'
  clear hHeld'
  generalize (World.setCell wn2 ⟨gx, 15, none⟩ (.slice Ad nd cd)) = wn3 at *
  refine wpAnyH_done (by kernel_rfl) ?_ _
  go_upto_region 17 with fail
  have HXF : Hid (Blk wn3 gx 46 #[.int .i64 7, .int .u32 0, .int .u32 0, .int .u64 0, .int .u32 0, .int .u32 0, .int .u32 0, .slice none 0 0, .slice none 0 0, .slice none 0 0, .int .i64 0, .int .u32 0, .slice none 0 0, .int .i64 ty, .int .i64 ct, .slice Ad nd cd]) := HX3.out
  have HZF := HZ3
  have HBF := HB3
  obtain ⟨wf, hwf⟩ : ∃ wf, wf = wn3 := ⟨_, rfl⟩
  rw [← hwf] at HXF HZF HBF ⊢
  clear hwf
  obtain ⟨R, hR⟩ : ∃ R, R = (#[.int .i64 7, .int .u32 0, .int .u32 0, .int .u64 0, .int .u32 0, .int .u32 0, .int .u32 0, .slice none 0 0, .slice none 0 0, .slice none 0 0, .int .i64 0, .int .u32 0, .slice none 0 0, .int .i64 ty, .int .i64 ct, .slice Ad nd cd] : Array Value).toList := ⟨_, rfl⟩
  have HRA : Hid (R.toArray = #[.int .i64 7, .int .u32 0, .int .u32 0, .int .u64 0, .int .u32 0, .int .u32 0, .int .u32 0, .slice none 0 0, .slice none 0 0, .slice none 0 0, .int .i64 0, .int .u32 0, .slice none 0 0, .int .i64 ty, .int .i64 ct, .slice Ad nd cd]) := by show _ = _; rw [hR]
  have HRL : Hid (R.length = 16) := by show _ = _; rw [hR]; rfl
  have HR1 : Hid (R.toArray.all (·.oneCell') = true) := by show _ = _; rw [hR]; simp [Value.oneCell']
  clear hR
  have HI : Hid ((Try.prog.info? 46).map (·.size) = some R.length) := by show _ = _; rw [HRL.out]; exact infoRep
  have HJ : Hid ((Try.prog.info? 46).map (·.size) = some R.toArray.size) := by show _ = _; rw [List.size_toArray, HRL.out]; exact infoRep
  have HXR : Hid (Blk wf gx 46 R.toArray) := by show Blk _ _ _ _; rw [HRA.out]; exact HXF.out
  have HRG : Hid (wf.rangeAt gx 0 R) := blk_range HXR.out
  have HTH : Hid (wf.there g2 0 R.toArray.size) := by show World.there _ _ _ R.toArray.size; rw [List.size_toArray, HRL.out]; exact blk_there (l := (#[.int .i64 0, .int .u32 0, .int .u32 0, .int .u64 0, .int .u32 0, .int .u32 0, .int .u32 0, .slice none 0 0, .slice none 0 0, .slice none 0 0, .int .i64 0, .int .u32 0, .slice none 0 0, .int .i64 0, .int .i64 0, .slice none 0 0] : Array Value).toList) HZF.out rfl
  go_wp2_with (first
    | ((with_reducible show wpList _ _ _ (⟨some 78, .load 46 (.tmp 3), _, _, _, _⟩ :: _) _ _); refine wpList_load_mid rfl 46 (.tmp 3) rfl gx 0 rfl R _ HRG.out Try.underlying46 rfl HI.out ?_)
    | ((with_reducible show wpList _ _ _ (⟨none, .store 46 (.tmp 2) (.tmp 78), _, _, _, _⟩ :: _) _ _); refine wpList_store_mid rfl 46 (.tmp 2) (.tmp 78) rfl g2 0 R.toArray rfl rfl HTH.out HJ.out HR1.out ?_))
  have hst : Blk (wf.setCells g2 0 R) g2 46 R.toArray := blk_setAll (l := (#[.int .i64 0, .int .u32 0, .int .u32 0, .int .u64 0, .int .u32 0, .int .u32 0, .int .u32 0, .slice none 0 0, .slice none 0 0, .slice none 0 0, .int .i64 0, .int .u32 0, .slice none 0 0, .int .i64 0, .int .i64 0, .slice none 0 0] : Array Value).toList) HZF.out (by rw [HRL.out]; rfl)
  have hload := run_loadVar_mid (P := Try.prog) (wf.setCells g2 0 R) g2 0 46 R _ (blk_range hst) Try.underlying46 rfl HI.out
  exact bodyPost_ret (results_one rfl _ _ g2 _ rfl hload) rfl ⟨by rw [HRA.out], below_setCells HBF.out (by have := HLT.out; omega) _ _⟩
end Go.Proofs.Ytkfimncbfbbopaa
/- ContainsFunc over blocks: does one tell more than may be lost? (contract). Conditions: the blocks lie in memory. -/
set_option linter.unusedVariables false
set_option linter.unusedSimpArgs false
namespace Go.Proofs.Ytkfimncbfbbopaa
open Go.RowKit
attribute [local go_sem ↓] Go.wp_at_zero Go.wp_at_succ

/-- A block tells too great a number. -/
def bigE (e : List Nat) : Prop := 16777216 ≤ e.getD 2 0
theorem dec_false {p : Prop} [Decidable p] (h : ¬ p) : decide p = false := decide_eq_false h
set_option maxRecDepth 100000 in
set_option maxHeartbeats 3200000 in
theorem closB_c (a0 a1 a2 a3 a4 a5 a6 : Nat) (w : World) :
    Calls Try.prog 42 #[.agg #[.int .u32 (a0 : Int), .int .u8 (a1 : Int), .int .u32 (a2 : Int), .int .u32 (a3 : Int), .int .u32 (a4 : Int), .int .u32 (a5 : Int), .int .u32 (a6 : Int)]] w (BoolIs (16777216 ≤ a2) w) := by
  by_cases h : 16777216 ≤ a2
  · have HP := Lib.hid h
    have q1 : (16777216 : Int) ≤ (a2 : Int) := by omega
    have q2 : decide ((16777216 : Int) ≤ (a2 : Int)) = true := by simp; omega
    clear h
    go_enter Try.func42, Try.ntmps42
    go_wp2_with fail
    go_ret
    exact BoolIs.yes HP.out (balloc (Below.refl _ _) _)
  · have HP : Hid (¬ 16777216 ≤ a2) := h
    have q1 : ¬ (16777216 : Int) ≤ (a2 : Int) := by omega
    have q2 : decide ((16777216 : Int) ≤ (a2 : Int)) = false := by simp; omega
    clear h
    go_enter Try.func42, Try.ntmps42
    go_wp2_with fail
    go_ret
    exact BoolIs.no HP.out (balloc (Below.refl _ _) _)
set_option maxRecDepth 100000 in
set_option maxHeartbeats 6400000 in
theorem idxB_c (l : List (List Nat)) (A : Option Addr) (n cap : Nat) (w : World) (h : SlR w ks7 (.slice A n cap) l) (hn : n ≤ 1000000) :
    Calls Try.prog 57 #[.slice A n cap, .func (.func 42) #[] #[]] w (IdxIs (∃ e ∈ l, bigE e) w) := by
  have hlen : l.length = n := by obtain ⟨_, _, e, _⟩ := h; injection e with _ e; exact e.symm
  have HLEN := Lib.hid hlen
  have H := Lib.hid h
  clear hlen h
  go_enter Try.func57, Try.ntmps57
  go_upto_region 2 with fail
  go_loopg [8] n (fun gg v8 wx => ∃ i : Nat, gg = n - i ∧ i ≤ n ∧ v8 = .int .i64 (i : Int) ∧ (∀ (j : Nat) (e : List Nat), j < i → l[j]? = some e → ¬ bigE e) ∧ Below w.heap.size w wx)
  case atStart => exact ⟨0, by omega, by omega, rfl, fun j e hj => absurd hj (by omega), Below.refl _ _⟩
  case round =>
    obtain ⟨i, hgg, hi, rfl, hno, hb⟩ := hrel
    have HB := Lib.hid hb
    have HNO := Lib.hid hno
    have HG := Lib.hid hgg
    clear hb hno hgg
    by_cases hin : i < n
    · have hini : (i : Int) < (n : Int) := by omega
      have hw1 : IntKind.i64.wrap ((i : Int) + 1) = ((i + 1 : Nat) : Int) := by rw [IntKind.wrap_i64]; omega
      obtain ⟨e, hei⟩ : ∃ e, l[i]? = some e := ⟨l[i]'(by have := HLEN.out; omega), List.getElem?_eq_getElem _⟩
      obtain ⟨hz, ga, oa, hA, hga, hc⟩ := SlR.cells H.out (by omega) (by decide)
      subst hA
      obtain ⟨hel, hcc⟩ := hc i e hei
      obtain ⟨a0, a1, a2, a3, a4, a5, a6, rr, he⟩ := of7 (ks := ks7) rfl hel
      have u0 : wr.cell? ⟨ga, oa + i * 7, none⟩ = some (.int .u32 (a0 : Int)) := (HB.out.cell (p := ⟨ga, oa + i * 7, none⟩) hga).trans (hcc 0 _ (by rw [he]; rfl))
      have u1 : wr.cell? ⟨ga, oa + i * 7 + 1, none⟩ = some (.int .u8 (a1 : Int)) := (HB.out.cell (p := ⟨ga, oa + i * 7 + 1, none⟩) hga).trans (hcc 1 _ (by rw [he]; rfl))
      have u2 : wr.cell? ⟨ga, oa + i * 7 + 2, none⟩ = some (.int .u32 (a2 : Int)) := (HB.out.cell (p := ⟨ga, oa + i * 7 + 2, none⟩) hga).trans (hcc 2 _ (by rw [he]; rfl))
      have u3 : wr.cell? ⟨ga, oa + i * 7 + 3, none⟩ = some (.int .u32 (a3 : Int)) := (HB.out.cell (p := ⟨ga, oa + i * 7 + 3, none⟩) hga).trans (hcc 3 _ (by rw [he]; rfl))
      have u4 : wr.cell? ⟨ga, oa + i * 7 + 4, none⟩ = some (.int .u32 (a4 : Int)) := (HB.out.cell (p := ⟨ga, oa + i * 7 + 4, none⟩) hga).trans (hcc 4 _ (by rw [he]; rfl))
      have u5 : wr.cell? ⟨ga, oa + i * 7 + 5, none⟩ = some (.int .u32 (a5 : Int)) := (HB.out.cell (p := ⟨ga, oa + i * 7 + 5, none⟩) hga).trans (hcc 5 _ (by rw [he]; rfl))
      have u6 : wr.cell? ⟨ga, oa + i * 7 + 6, none⟩ = some (.int .u32 (a6 : Int)) := (HB.out.cell (p := ⟨ga, oa + i * 7 + 6, none⟩) hga).trans (hcc 6 _ (by rw [he]; rfl))
      have HE := Lib.hid hei
      have HEE := Lib.hid he
      have HLT := Lib.hid hin
      have HI := Lib.hid hi
      clear hc hcc hei hin he hel hz hi
      go_upto_if 16 with (first
        | (go_at_call 42
           refine (closB_c a0 a1 a2 a3 a4 a5 a6 wr).mono ?_
           rintro e9 w9 ⟨q, rfl, hq, hb9⟩
           have HQ := Lib.hid hq
           have HB9 : Hid (Below w.heap.size w w9) := bcall HB.out hb9
           clear hq hb9))
      cases q with
      | true =>
        have hq := HQ.out
        have HP : Hid (∃ e ∈ l, bigE e) := ⟨e, List.mem_of_getElem? HE.out, by show 16777216 ≤ _; rw [HEE.out]; exact hq.1 rfl⟩
        clear hq
        go_wp2_with fail
        go_ret
        exact ⟨(i : Int), rfl, ⟨fun _ => HP.out, fun _ => by omega⟩, HB9.out⟩
      | false =>
        go_wp2_with fail
        go_roundg (n - (i + 1))
        case measure => have := HLT.out; have := HG.out; omega
        case rel =>
          have hlt := HLT.out
          refine ⟨i + 1, rfl, by omega, by first | rfl | go_num, fun j e' hj he' => ?_, HB9.out⟩
          by_cases hji : j < i
          · exact HNO.out j e' hji he'
          · have hje : j = i := by omega
            subst hje
            rw [HE.out] at he'
            injection he' with he'
            subst he'
            intro hbig
            have : 16777216 ≤ a2 := by have := hbig; unfold bigE at this; rw [HEE.out] at this; exact this
            exact absurd (HQ.out.2 this) (by decide)
    · have hini : ¬ (i : Int) < (n : Int) := by omega
      have hie : n = i := by omega
      subst hie
      have HP : Hid (¬ ∃ e ∈ l, bigE e) := by
        rintro ⟨e, he, hb⟩
        obtain ⟨j, hj⟩ := List.getElem?_of_mem he
        have hjl : j < l.length := by
          rcases Nat.lt_or_ge j l.length with h | h
          · exact h
          · rw [List.getElem?_eq_none h] at hj; cases hj
        exact HNO.out j e (by have := HLEN.out; omega) hj hb
      clear hin hi
      go_wp2_with fail
      go_ret
      exact ⟨-1, rfl, ⟨fun h => absurd h (by decide), fun h => absurd h HP.out⟩, HB.out⟩
set_option maxHeartbeats 3200000 in
theorem contB_c (l : List (List Nat)) (A : Option Addr) (n cap : Nat) (w : World) (h : SlR w ks7 (.slice A n cap) l) (hn : n ≤ 1000000) :
    Calls Try.prog 41 #[.slice A n cap, .func (.func 42) #[] #[]] w (BoolIs (∃ e ∈ l, bigE e) w) := by
  have H := Lib.hid h
  clear h
  go_enter Try.func41, Try.ntmps41
  go_wp2_with (first
    | (go_at_call 57
       refine (idxB_c l A n cap w H.out hn).mono ?_
       rintro e9 w9 ⟨z, rfl, hq, hb9⟩
       have HQ := Lib.hid hq
       have HB9 := Lib.hid hb9
       clear hq hb9))
  go_ret
  refine ⟨decide (0 ≤ z), rfl, ?_, HB9.out⟩
  rw [decide_eq_true_iff]
  exact HQ.out
end Go.Proofs.Ytkfimncbfbbopaa
