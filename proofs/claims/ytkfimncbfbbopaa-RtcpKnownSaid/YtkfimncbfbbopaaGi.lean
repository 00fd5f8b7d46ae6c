/- Texts of this claim, one behind the other: Bare1, Bare2, Bare3, Bare4. Each says ahead of itself what it proves, and its conditions. -/
import Derived.Test.YtkfimncbfbbopaaGg
/- What bare leaves of a report of one kind (contract). Conditions: none. (Printed by gen8g.py.) -/
set_option linter.unusedVariables false
set_option linter.unusedSimpArgs false
namespace Go.Proofs.Ytkfimncbfbbopaa
open Go.RowKit
attribute [local go_sem ↓] Go.wp_at_zero Go.wp_at_succ

set_option maxRecDepth 100000 in
set_option maxHeartbeats 12800000 in
theorem bare1_c (fr ab ntp ts pk oc mt nb cb np cp nf cf ns cs nd cd : Nat) (ex ty ct : Int) (Ab Ap Af As Ad : Option Addr) (w : World) :
    Calls Try.prog 40 #[.agg #[.int .i64 1, .int .u32 (fr : Int), .int .u32 (ab : Int), .int .u64 (ntp : Int), .int .u32 (ts : Int), .int .u32 (pk : Int), .int .u32 (oc : Int), .slice Ab nb cb, .slice Ap np cp, .slice Af nf cf, .int .i64 ex, .int .u32 (mt : Int), .slice As ns cs, .int .i64 ty, .int .i64 ct, .slice Ad nd cd]] w fun e w' => e = .returned (.agg #[.int .i64 1, .int .u32 (fr : Int), .int .u32 0, .int .u64 (ntp : Int), .int .u32 (ts : Int), .int .u32 (pk : Int), .int .u32 (oc : Int), .slice Ab nb cb, .slice none 0 0, .slice none 0 0, .int .i64 0, .int .u32 0, .slice none 0 0, .int .i64 0, .int .i64 0, .slice none 0 0]) ∧ Below w.heap.size w w' := by
  obtain ⟨C1, hC1⟩ : ∃ C1 : Array Value, C1 = #[.int .i64 1, .int .u32 (fr : Int), .int .u32 (ab : Int), .int .u64 (ntp : Int), .int .u32 (ts : Int), .int .u32 (pk : Int), .int .u32 (oc : Int), .slice Ab nb cb, .slice Ap np cp, .slice Af nf cf, .int .i64 ex, .int .u32 (mt : Int), .slice As ns cs, .int .i64 ty, .int .i64 ct, .slice Ad nd cd] := ⟨_, rfl⟩
  obtain ⟨g1, hg1⟩ : ∃ g1, g1 = w.heap.size := ⟨_, rfl⟩
  obtain ⟨g2, hg2⟩ : ∃ g2, g2 = w.heap.size + 1 := ⟨_, rfl⟩
  obtain ⟨gx, hgx⟩ : ∃ gx, gx = w.heap.size + 1 + 1 := ⟨_, rfl⟩
  obtain ⟨w1, hw1⟩ : ∃ w1, w1 = ((w.alloc (.cells #[.int .i64 1, .int .u32 (fr : Int), .int .u32 (ab : Int), .int .u64 (ntp : Int), .int .u32 (ts : Int), .int .u32 (pk : Int), .int .u32 (oc : Int), .slice Ab nb cb, .slice Ap np cp, .slice Af nf cf, .int .i64 ex, .int .u32 (mt : Int), .slice As ns cs, .int .i64 ty, .int .i64 ct, .slice Ad nd cd] 46)).alloc (.cells #[.int .i64 0, .int .u32 0, .int .u32 0, .int .u64 0, .int .u32 0, .int .u32 0, .int .u32 0, .slice none 0 0, .slice none 0 0, .slice none 0 0, .int .i64 0, .int .u32 0, .slice none 0 0, .int .i64 0, .int .i64 0, .slice none 0 0] 46)).alloc (.cells #[.int .i64 1, .int .u32 (fr : Int), .int .u32 0, .int .u64 0, .int .u32 0, .int .u32 0, .int .u32 0, .slice none 0 0, .slice none 0 0, .slice none 0 0, .int .i64 0, .int .u32 0, .slice none 0 0, .int .i64 0, .int .i64 0, .slice none 0 0] 46) := ⟨_, rfl⟩
  have HG : Hid (Blk w1 g1 46 #[.int .i64 1, .int .u32 (fr : Int), .int .u32 (ab : Int), .int .u64 (ntp : Int), .int .u32 (ts : Int), .int .u32 (pk : Int), .int .u32 (oc : Int), .slice Ab nb cb, .slice Ap np cp, .slice Af nf cf, .int .i64 ex, .int .u32 (mt : Int), .slice As ns cs, .int .i64 ty, .int .i64 ct, .slice Ad nd cd]) := by show Blk _ _ _ _; rw [hw1]; exact Blk.alloc (Blk.alloc (Blk.newAt hg1 _ _) _) _
  have HZ : Hid (Blk w1 g2 46 #[.int .i64 0, .int .u32 0, .int .u32 0, .int .u64 0, .int .u32 0, .int .u32 0, .int .u32 0, .slice none 0 0, .slice none 0 0, .slice none 0 0, .int .i64 0, .int .u32 0, .slice none 0 0, .int .i64 0, .int .i64 0, .slice none 0 0]) := by show Blk _ _ _ _; rw [hw1]; exact Blk.alloc (Blk.newAt (by simp; exact hg2) _ _) _
  have HX : Hid (Blk w1 gx 46 #[.int .i64 1, .int .u32 (fr : Int), .int .u32 0, .int .u64 0, .int .u32 0, .int .u32 0, .int .u32 0, .slice none 0 0, .slice none 0 0, .slice none 0 0, .int .i64 0, .int .u32 0, .slice none 0 0, .int .i64 0, .int .i64 0, .slice none 0 0]) := by show Blk _ _ _ _; rw [hw1]; exact Blk.newAt (by simp; exact hgx) _ _
  have HB : Hid (Below w.heap.size w w1) := by show Below _ _ _; rw [hw1]; exact balloc (balloc (balloc (Below.refl _ _) _) _) _
  have HLT : Hid (w.heap.size ≤ g1 ∧ g1 < g2 ∧ g2 < gx) := ⟨by omega, by omega, by omega⟩
  go_enter Try.func40, Try.ntmps40
  go_upto_region 2 with fail
  rw [← hw1, ← hgx, ← hg2, ← hg1]
  clear hw1 hgx hg2 hg1 hC1
  have k0 : w1.cell? ⟨g1, 0, none⟩ = some (.int .i64 1) := HG.out.cell 0
  go_upto_region 6 with fail
  clear k0
  have hne : g1 ≠ gx := by have := HLT.out; omega
  have hne2 : g2 ≠ gx := by have := HLT.out; omega
  have hwx : w.heap.size ≤ gx := by have := HLT.out; omega
  have HG0 : Hid (Blk (World.drew w1) g1 46 #[.int .i64 1, .int .u32 (fr : Int), .int .u32 (ab : Int), .int .u64 (ntp : Int), .int .u32 (ts : Int), .int .u32 (pk : Int), .int .u32 (oc : Int), .slice Ab nb cb, .slice Ap np cp, .slice Af nf cf, .int .i64 ex, .int .u32 (mt : Int), .slice As ns cs, .int .i64 ty, .int .i64 ct, .slice Ad nd cd]) := HG.out
  have HZ0 : Hid (Blk (World.drew w1) g2 46 #[.int .i64 0, .int .u32 0, .int .u32 0, .int .u64 0, .int .u32 0, .int .u32 0, .int .u32 0, .slice none 0 0, .slice none 0 0, .slice none 0 0, .int .i64 0, .int .u32 0, .slice none 0 0, .int .i64 0, .int .i64 0, .slice none 0 0]) := HZ.out
  have HX0 : Hid (Blk (World.drew w1) gx 46 #[.int .i64 1, .int .u32 (fr : Int), .int .u32 0, .int .u64 0, .int .u32 0, .int .u32 0, .int .u32 0, .slice none 0 0, .slice none 0 0, .slice none 0 0, .int .i64 0, .int .u32 0, .slice none 0 0, .int .i64 0, .int .i64 0, .slice none 0 0]) := HX.out
  have HB0 : Hid (Below w.heap.size w (World.drew w1)) := HB.out.drew
  refine wp_region_held_drew (S := (fun w2 => Blk w2 g1 46 #[.int .i64 1, .int .u32 (fr : Int), .int .u32 (ab : Int), .int .u64 (ntp : Int), .int .u32 (ts : Int), .int .u32 (pk : Int), .int .u32 (oc : Int), .slice Ab nb cb, .slice Ap np cp, .slice Af nf cf, .int .i64 ex, .int .u32 (mt : Int), .slice As ns cs, .int .i64 ty, .int .i64 ct, .slice Ad nd cd])) (by kernel_rfl) (HG0.out) (fun hHeld => ?_)
  refine wpAnyH_takeAt (i := 0) (v := (.pointer (some ⟨g1, 3, none⟩))) rfl (by kernel_rfl) (by kernel_rfl) (by kernel_rfl) (fun _ _ _ h => h) rfl (Or.inl ⟨by rfl, fun w' hS => ?_⟩) hHeld ?_
  · go_simp
  simp only [List.set_cons_zero, List.set_cons_succ]
  refine wpAnyH_takeAt (i := 1) (v := (.int .u64 (ntp : Int))) rfl (by kernel_rfl) (by kernel_rfl) (by kernel_rfl) (fun _ _ _ h => h) rfl (Or.inl ⟨by rfl, fun w' hS => ?_⟩) hHeld ?_
  · have hc := hS.cell 3
    have hc' : w'.cell? ⟨g1, 3, none⟩ = some (.int .u64 (ntp : Int)) := hc
    go_simp
  simp only [List.set_cons_zero, List.set_cons_succ]
  refine wpAnyH_takeAt (i := 2) (v := (.pointer (some ⟨g1, 4, none⟩))) rfl (by kernel_rfl) (by kernel_rfl) (by kernel_rfl) (fun _ _ _ h => h) rfl (Or.inl ⟨by rfl, fun w' hS => ?_⟩) hHeld ?_
  · go_simp
  simp only [List.set_cons_zero, List.set_cons_succ]
  refine wpAnyH_takeAt (i := 3) (v := (.int .u32 (ts : Int))) rfl (by kernel_rfl) (by kernel_rfl) (by kernel_rfl) (fun _ _ _ h => h) rfl (Or.inl ⟨by rfl, fun w' hS => ?_⟩) hHeld ?_
  · have hc := hS.cell 4
    have hc' : w'.cell? ⟨g1, 4, none⟩ = some (.int .u32 (ts : Int)) := hc
    go_simp
  simp only [List.set_cons_zero, List.set_cons_succ]
  refine wpAnyH_takeAt (i := 4) (v := (.pointer (some ⟨g1, 5, none⟩))) rfl (by kernel_rfl) (by kernel_rfl) (by kernel_rfl) (fun _ _ _ h => h) rfl (Or.inl ⟨by rfl, fun w' hS => ?_⟩) hHeld ?_
  · go_simp
  simp only [List.set_cons_zero, List.set_cons_succ]
  refine wpAnyH_takeAt (i := 5) (v := (.int .u32 (pk : Int))) rfl (by kernel_rfl) (by kernel_rfl) (by kernel_rfl) (fun _ _ _ h => h) rfl (Or.inl ⟨by rfl, fun w' hS => ?_⟩) hHeld ?_
  · have hc := hS.cell 5
    have hc' : w'.cell? ⟨g1, 5, none⟩ = some (.int .u32 (pk : Int)) := hc
    go_simp
  simp only [List.set_cons_zero, List.set_cons_succ]
  refine wpAnyH_takeAt (i := 6) (v := (.pointer (some ⟨g1, 6, none⟩))) rfl (by kernel_rfl) (by kernel_rfl) (by kernel_rfl) (fun _ _ _ h => h) rfl (Or.inl ⟨by rfl, fun w' hS => ?_⟩) hHeld ?_
  · go_simp
  simp only [List.set_cons_zero, List.set_cons_succ]
  refine wpAnyH_takeAt (i := 7) (v := (.int .u32 (oc : Int))) rfl (by kernel_rfl) (by kernel_rfl) (by kernel_rfl) (fun _ _ _ h => h) rfl (Or.inl ⟨by rfl, fun w' hS => ?_⟩) hHeld ?_
  · have hc := hS.cell 6
    have hc' : w'.cell? ⟨g1, 6, none⟩ = some (.int .u32 (oc : Int)) := hc
    go_simp
  simp only [List.set_cons_zero, List.set_cons_succ]
  refine wpAnyH_takeAt (i := 8) (v := (.pointer (some ⟨g1, 7, none⟩))) rfl (by kernel_rfl) (by kernel_rfl) (by kernel_rfl) (fun _ _ _ h => h) rfl (Or.inl ⟨by rfl, fun w' hS => ?_⟩) hHeld ?_
  · go_simp
  simp only [List.set_cons_zero, List.set_cons_succ]
  refine wpAnyH_takeAt (i := 9) (v := (.slice Ab nb cb)) rfl (by kernel_rfl) (by kernel_rfl) (by kernel_rfl) (fun _ _ _ h => h) rfl (Or.inl ⟨by rfl, fun w' hS => ?_⟩) hHeld ?_
  · have hc := hS.cell 7
    have hc' : w'.cell? ⟨g1, 7, none⟩ = some (.slice Ab nb cb) := hc
    go_simp
  simp only [List.set_cons_zero, List.set_cons_succ]
  refine wpAnyH_takeAt (i := 10) (v := (.pointer (some ⟨gx, 3, none⟩))) rfl (by kernel_rfl) (by kernel_rfl) (by kernel_rfl) (fun _ _ _ h => h) rfl (Or.inl ⟨by rfl, fun w' hS => ?_⟩) hHeld ?_
  · go_simp
  simp only [List.set_cons_zero, List.set_cons_succ]
  refine wpAnyH_ready (rs := [11]) (by kernel_rfl) (by simp) (AllReadyH.cons rfl (fun K' hK => ?_) AllReadyH.nil)
  have hcell : (World.drew w1).cell? ⟨gx, 3, none⟩ = some (.int .u64 0) := HX0.out.cell 3
  have hfree : (World.drew w1).frozen? ⟨gx, 3, none⟩ = false := HX0.out.frozen 3
  have hcell0 : w1.cell? ⟨gx, 3, none⟩ = some (.int .u64 0) := HX0.out.cell 3
  have hfree0 : w1.frozen? ⟨gx, 3, none⟩ = false := HX0.out.frozen 3
  go_simp
  clear hcell hfree hcell0 hfree0
  have HG1 : Hid (Blk (World.setCell (World.drew w1) ⟨gx, 3, none⟩ (.int .u64 (ntp : Int))) g1 46 #[.int .i64 1, .int .u32 (fr : Int), .int .u32 (ab : Int), .int .u64 (ntp : Int), .int .u32 (ts : Int), .int .u32 (pk : Int), .int .u32 (oc : Int), .slice Ab nb cb, .slice Ap np cp, .slice Af nf cf, .int .i64 ex, .int .u32 (mt : Int), .slice As ns cs, .int .i64 ty, .int .i64 ct, .slice Ad nd cd]) := HG0.out.far (p := ⟨gx, 3, none⟩) hne _
  have HZ1 : Hid (Blk (World.setCell (World.drew w1) ⟨gx, 3, none⟩ (.int .u64 (ntp : Int))) g2 46 #[.int .i64 0, .int .u32 0, .int .u32 0, .int .u64 0, .int .u32 0, .int .u32 0, .int .u32 0, .slice none 0 0, .slice none 0 0, .slice none 0 0, .int .i64 0, .int .u32 0, .slice none 0 0, .int .i64 0, .int .i64 0, .slice none 0 0]) := HZ0.out.far (p := ⟨gx, 3, none⟩) hne2 _
  have HX1 : Hid (Blk (World.setCell (World.drew w1) ⟨gx, 3, none⟩ (.int .u64 (ntp : Int))) gx 46 #[.int .i64 1, .int .u32 (fr : Int), .int .u32 0, .int .u64 (ntp : Int), .int .u32 0, .int .u32 0, .int .u32 0, .slice none 0 0, .slice none 0 0, .slice none 0 0, .int .i64 0, .int .u32 0, .slice none 0 0, .int .i64 0, .int .i64 0, .slice none 0 0]) := HX0.out.set_ 3 _
  have HB1 : Hid (Below w.heap.size w (World.setCell (World.drew w1) ⟨gx, 3, none⟩ (.int .u64 (ntp : Int)))) := bset HB0.out (p := ⟨gx, 3, none⟩) hwx _
  refine hK.out _ (World.setCell (World.drew w1) ⟨gx, 3, none⟩ (.int .u64 (ntp : Int))) HG1.out (fun hHeld' => ?_)
  clear hK hHeld
  have hHeld := hHeld'
  clear hHeld'
  generalize (World.setCell (World.drew w1) ⟨gx, 3, none⟩ (.int .u64 (ntp : Int))) = wn1 at *
  refine wpAnyH_takeAt (i := 12) (v := (.pointer (some ⟨gx, 4, none⟩))) rfl (by kernel_rfl) (by kernel_rfl) (by kernel_rfl) (fun _ _ _ h => h) rfl (Or.inl ⟨by rfl, fun w' hS => ?_⟩) hHeld ?_
  · go_simp
  simp only [List.set_cons_zero, List.set_cons_succ]
  refine wpAnyH_ready (rs := [13]) (by kernel_rfl) (by simp) (AllReadyH.cons rfl (fun K' hK => ?_) AllReadyH.nil)
  have hcell : wn1.cell? ⟨gx, 4, none⟩ = some (.int .u32 0) := HX1.out.cell 4
  have hfree : wn1.frozen? ⟨gx, 4, none⟩ = false := HX1.out.frozen 4
  have hcell0 : w1.cell? ⟨gx, 4, none⟩ = some (.int .u32 0) := HX0.out.cell 4
  have hfree0 : w1.frozen? ⟨gx, 4, none⟩ = false := HX0.out.frozen 4
  go_simp
  clear hcell hfree hcell0 hfree0
  have HG2 : Hid (Blk (World.setCell wn1 ⟨gx, 4, none⟩ (.int .u32 (ts : Int))) g1 46 #[.int .i64 1, .int .u32 (fr : Int), .int .u32 (ab : Int), .int .u64 (ntp : Int), .int .u32 (ts : Int), .int .u32 (pk : Int), .int .u32 (oc : Int), .slice Ab nb cb, .slice Ap np cp, .slice Af nf cf, .int .i64 ex, .int .u32 (mt : Int), .slice As ns cs, .int .i64 ty, .int .i64 ct, .slice Ad nd cd]) := HG1.out.far (p := ⟨gx, 4, none⟩) hne _
  have HZ2 : Hid (Blk (World.setCell wn1 ⟨gx, 4, none⟩ (.int .u32 (ts : Int))) g2 46 #[.int .i64 0, .int .u32 0, .int .u32 0, .int .u64 0, .int .u32 0, .int .u32 0, .int .u32 0, .slice none 0 0, .slice none 0 0, .slice none 0 0, .int .i64 0, .int .u32 0, .slice none 0 0, .int .i64 0, .int .i64 0, .slice none 0 0]) := HZ1.out.far (p := ⟨gx, 4, none⟩) hne2 _
  have HX2 : Hid (Blk (World.setCell wn1 ⟨gx, 4, none⟩ (.int .u32 (ts : Int))) gx 46 #[.int .i64 1, .int .u32 (fr : Int), .int .u32 0, .int .u64 (ntp : Int), .int .u32 (ts : Int), .int .u32 0, .int .u32 0, .slice none 0 0, .slice none 0 0, .slice none 0 0, .int .i64 0, .int .u32 0, .slice none 0 0, .int .i64 0, .int .i64 0, .slice none 0 0]) := HX1.out.set_ 4 _
  have HB2 : Hid (Below w.heap.size w (World.setCell wn1 ⟨gx, 4, none⟩ (.int .u32 (ts : Int)))) := bset HB1.out (p := ⟨gx, 4, none⟩) hwx _
  refine hK.out _ (World.setCell wn1 ⟨gx, 4, none⟩ (.int .u32 (ts : Int))) HG2.out (fun hHeld' => ?_)
  clear hK hHeld
  have hHeld := hHeld'
  clear hHeld'
  generalize (World.setCell wn1 ⟨gx, 4, none⟩ (.int .u32 (ts : Int))) = wn2 at *
  refine wpAnyH_takeAt (i := 14) (v := (.pointer (some ⟨gx, 5, none⟩))) rfl (by kernel_rfl) (by kernel_rfl) (by kernel_rfl) (fun _ _ _ h => h) rfl (Or.inl ⟨by rfl, fun w' hS => ?_⟩) hHeld ?_
  · go_simp
  simp only [List.set_cons_zero, List.set_cons_succ]
  refine wpAnyH_ready (rs := [15]) (by kernel_rfl) (by simp) (AllReadyH.cons rfl (fun K' hK => ?_) AllReadyH.nil)
  have hcell : wn2.cell? ⟨gx, 5, none⟩ = some (.int .u32 0) := HX2.out.cell 5
  have hfree : wn2.frozen? ⟨gx, 5, none⟩ = false := HX2.out.frozen 5
  have hcell0 : w1.cell? ⟨gx, 5, none⟩ = some (.int .u32 0) := HX0.out.cell 5
  have hfree0 : w1.frozen? ⟨gx, 5, none⟩ = false := HX0.out.frozen 5
  go_simp
  clear hcell hfree hcell0 hfree0
  have HG3 : Hid (Blk (World.setCell wn2 ⟨gx, 5, none⟩ (.int .u32 (pk : Int))) g1 46 #[.int .i64 1, .int .u32 (fr : Int), .int .u32 (ab : Int), .int .u64 (ntp : Int), .int .u32 (ts : Int), .int .u32 (pk : Int), .int .u32 (oc : Int), .slice Ab nb cb, .slice Ap np cp, .slice Af nf cf, .int .i64 ex, .int .u32 (mt : Int), .slice As ns cs, .int .i64 ty, .int .i64 ct, .slice Ad nd cd]) := HG2.out.far (p := ⟨gx, 5, none⟩) hne _
  have HZ3 : Hid (Blk (World.setCell wn2 ⟨gx, 5, none⟩ (.int .u32 (pk : Int))) g2 46 #[.int .i64 0, .int .u32 0, .int .u32 0, .int .u64 0, .int .u32 0, .int .u32 0, .int .u32 0, .slice none 0 0, .slice none 0 0, .slice none 0 0, .int .i64 0, .int .u32 0, .slice none 0 0, .int .i64 0, .int .i64 0, .slice none 0 0]) := HZ2.out.far (p := ⟨gx, 5, none⟩) hne2 _
  have HX3 : Hid (Blk (World.setCell wn2 ⟨gx, 5, none⟩ (.int .u32 (pk : Int))) gx 46 #[.int .i64 1, .int .u32 (fr : Int), .int .u32 0, .int .u64 (ntp : Int), .int .u32 (ts : Int), .int .u32 (pk : Int), .int .u32 0, .slice none 0 0, .slice none 0 0, .slice none 0 0, .int .i64 0, .int .u32 0, .slice none 0 0, .int .i64 0, .int .i64 0, .slice none 0 0]) := HX2.out.set_ 5 _
  have HB3 : Hid (Below w.heap.size w (World.setCell wn2 ⟨gx, 5, none⟩ (.int .u32 (pk : Int)))) := bset HB2.out (p := ⟨gx, 5, none⟩) hwx _
  refine hK.out _ (World.setCell wn2 ⟨gx, 5, none⟩ (.int .u32 (pk : Int))) HG3.out (fun hHeld' => ?_)
  clear hK hHeld
  have hHeld := hHeld'
  clear hHeld'
  generalize (World.setCell wn2 ⟨gx, 5, none⟩ (.int .u32 (pk : Int))) = wn3 at *
  refine wpAnyH_takeAt (i := 16) (v := (.pointer (some ⟨gx, 6, none⟩))) rfl (by kernel_rfl) (by kernel_rfl) (by kernel_rfl) (fun _ _ _ h => h) rfl (Or.inl ⟨by rfl, fun w' hS => ?_⟩) hHeld ?_
  · go_simp
  simp only [List.set_cons_zero, List.set_cons_succ]
  refine wpAnyH_ready (rs := [17]) (by kernel_rfl) (by simp) (AllReadyH.cons rfl (fun K' hK => ?_) AllReadyH.nil)
  have hcell : wn3.cell? ⟨gx, 6, none⟩ = some (.int .u32 0) := HX3.out.cell 6
  have hfree : wn3.frozen? ⟨gx, 6, none⟩ = false := HX3.out.frozen 6
  have hcell0 : w1.cell? ⟨gx, 6, none⟩ = some (.int .u32 0) := HX0.out.cell 6
  have hfree0 : w1.frozen? ⟨gx, 6, none⟩ = false := HX0.out.frozen 6
  go_simp
  clear hcell hfree hcell0 hfree0
  have HG4 : Hid (Blk (World.setCell wn3 ⟨gx, 6, none⟩ (.int .u32 (oc : Int))) g1 46 #[.int .i64 1, .int .u32 (fr : Int), .int .u32 (ab : Int), .int .u64 (ntp : Int), .int .u32 (ts : Int), .int .u32 (pk : Int), .int .u32 (oc : Int), .slice Ab nb cb, .slice Ap np cp, .slice Af nf cf, .int .i64 ex, .int .u32 (mt : Int), .slice As ns cs, .int .i64 ty, .int .i64 ct, .slice Ad nd cd]) := HG3.out.far (p := ⟨gx, 6, none⟩) hne _
  have HZ4 : Hid (Blk (World.setCell wn3 ⟨gx, 6, none⟩ (.int .u32 (oc : Int))) g2 46 #[.int .i64 0, .int .u32 0, .int .u32 0, .int .u64 0, .int .u32 0, .int .u32 0, .int .u32 0, .slice none 0 0, .slice none 0 0, .slice none 0 0, .int .i64 0, .int .u32 0, .slice none 0 0, .int .i64 0, .int .i64 0, .slice none 0 0]) := HZ3.out.far (p := ⟨gx, 6, none⟩) hne2 _
  have HX4 : Hid (Blk (World.setCell wn3 ⟨gx, 6, none⟩ (.int .u32 (oc : Int))) gx 46 #[.int .i64 1, .int .u32 (fr : Int), .int .u32 0, .int .u64 (ntp : Int), .int .u32 (ts : Int), .int .u32 (pk : Int), .int .u32 (oc : Int), .slice none 0 0, .slice none 0 0, .slice none 0 0, .int .i64 0, .int .u32 0, .slice none 0 0, .int .i64 0, .int .i64 0, .slice none 0 0]) := HX3.out.set_ 6 _
  have HB4 : Hid (Below w.heap.size w (World.setCell wn3 ⟨gx, 6, none⟩ (.int .u32 (oc : Int)))) := bset HB3.out (p := ⟨gx, 6, none⟩) hwx _
  refine hK.out _ (World.setCell wn3 ⟨gx, 6, none⟩ (.int .u32 (oc : Int))) HG4.out (fun hHeld' => ?_)
  clear hK hHeld
  have hHeld := hHeld'
  clear hHeld'
  generalize (World.setCell wn3 ⟨gx, 6, none⟩ (.int .u32 (oc : Int))) = wn4 at *
  refine wpAnyH_takeAt (i := 18) (v := (.pointer (some ⟨gx, 7, none⟩))) rfl (by kernel_rfl) (by kernel_rfl) (by kernel_rfl) (fun _ _ _ h => h) rfl (Or.inl ⟨by rfl, fun w' hS => ?_⟩) hHeld ?_
  · go_simp
  simp only [List.set_cons_zero, List.set_cons_succ]
  refine wpAnyH_ready (rs := [19]) (by kernel_rfl) (by simp) (AllReadyH.cons rfl (fun K' hK => ?_) AllReadyH.nil)
  have hcell : wn4.cell? ⟨gx, 7, none⟩ = some (.slice none 0 0) := HX4.out.cell 7
  have hfree : wn4.frozen? ⟨gx, 7, none⟩ = false := HX4.out.frozen 7
  have hcell0 : w1.cell? ⟨gx, 7, none⟩ = some (.slice none 0 0) := HX0.out.cell 7
  have hfree0 : w1.frozen? ⟨gx, 7, none⟩ = false := HX0.out.frozen 7
  go_simp
  clear hcell hfree hcell0 hfree0
  have HG5 : Hid (Blk (World.setCell wn4 ⟨gx, 7, none⟩ (.slice Ab nb cb)) g1 46 #[.int .i64 1, .int .u32 (fr : Int), .int .u32 (ab : Int), .int .u64 (ntp : Int), .int .u32 (ts : Int), .int .u32 (pk : Int), .int .u32 (oc : Int), .slice Ab nb cb, .slice Ap np cp, .slice Af nf cf, .int .i64 ex, .int .u32 (mt : Int), .slice As ns cs, .int .i64 ty, .int .i64 ct, .slice Ad nd cd]) := HG4.out.far (p := ⟨gx, 7, none⟩) hne _
  have HZ5 : Hid (Blk (World.setCell wn4 ⟨gx, 7, none⟩ (.slice Ab nb cb)) g2 46 #[.int .i64 0, .int .u32 0, .int .u32 0, .int .u64 0, .int .u32 0, .int .u32 0, .int .u32 0, .slice none 0 0, .slice none 0 0, .slice none 0 0, .int .i64 0, .int .u32 0, .slice none 0 0, .int .i64 0, .int .i64 0, .slice none 0 0]) := HZ4.out.far (p := ⟨gx, 7, none⟩) hne2 _
  have HX5 : Hid (Blk (World.setCell wn4 ⟨gx, 7, none⟩ (.slice Ab nb cb)) gx 46 #[.int .i64 1, .int .u32 (fr : Int), .int .u32 0, .int .u64 (ntp : Int), .int .u32 (ts : Int), .int .u32 (pk : Int), .int .u32 (oc : Int), .slice Ab nb cb, .slice none 0 0, .slice none 0 0, .int .i64 0, .int .u32 0, .slice none 0 0, .int .i64 0, .int .i64 0, .slice none 0 0]) := HX4.out.set_ 7 _
  have HB5 : Hid (Below w.heap.size w (World.setCell wn4 ⟨gx, 7, none⟩ (.slice Ab nb cb))) := bset HB4.out (p := ⟨gx, 7, none⟩) hwx _
  refine hK.out _ (World.setCell wn4 ⟨gx, 7, none⟩ (.slice Ab nb cb)) HG5.out (fun hHeld' => ?_)
  clear hK hHeld
  have hHeld := hHeld'
  clear hHeld'
  generalize (World.setCell wn4 ⟨gx, 7, none⟩ (.slice Ab nb cb)) = wn5 at *
  refine wpAnyH_done (by kernel_rfl) ?_ _
  go_upto_region 17 with fail
  have HXF : Hid (Blk wn5 gx 46 #[.int .i64 1, .int .u32 (fr : Int), .int .u32 0, .int .u64 (ntp : Int), .int .u32 (ts : Int), .int .u32 (pk : Int), .int .u32 (oc : Int), .slice Ab nb cb, .slice none 0 0, .slice none 0 0, .int .i64 0, .int .u32 0, .slice none 0 0, .int .i64 0, .int .i64 0, .slice none 0 0]) := HX5.out
  have HZF := HZ5
  have HBF := HB5
  obtain ⟨wf, hwf⟩ : ∃ wf, wf = wn5 := ⟨_, rfl⟩
  rw [← hwf] at HXF HZF HBF ⊢
  clear hwf
  obtain ⟨R, hR⟩ : ∃ R, R = (#[.int .i64 1, .int .u32 (fr : Int), .int .u32 0, .int .u64 (ntp : Int), .int .u32 (ts : Int), .int .u32 (pk : Int), .int .u32 (oc : Int), .slice Ab nb cb, .slice none 0 0, .slice none 0 0, .int .i64 0, .int .u32 0, .slice none 0 0, .int .i64 0, .int .i64 0, .slice none 0 0] : Array Value).toList := ⟨_, rfl⟩
  have HRA : Hid (R.toArray = #[.int .i64 1, .int .u32 (fr : Int), .int .u32 0, .int .u64 (ntp : Int), .int .u32 (ts : Int), .int .u32 (pk : Int), .int .u32 (oc : Int), .slice Ab nb cb, .slice none 0 0, .slice none 0 0, .int .i64 0, .int .u32 0, .slice none 0 0, .int .i64 0, .int .i64 0, .slice none 0 0]) := by show _ = _; rw [hR]
  have HRL : Hid (R.length = 16) := by show _ = _; rw [hR]; rfl
  have HR1 : Hid (R.toArray.all (·.oneCell') = true) := by show _ = _; rw [hR]; simp [Value.oneCell']
  clear hR
  have HI : Hid ((Try.prog.info? 46).map (·.size) = some R.length) := by show _ = _; rw [HRL.out]; exact infoRep
  have HJ : Hid ((Try.prog.info? 46).map (·.size) = some R.toArray.size) := by show _ = _; rw [List.size_toArray, HRL.out]; exact infoRep
  have HXR : Hid (Blk wf gx 46 R.toArray) := by show Blk _ _ _ _; rw [HRA.out]; exact HXF.out
  have HRG : Hid (wf.rangeAt gx 0 R) := blk_range HXR.out
  have HTH : Hid (wf.there g2 0 R.toArray.size) := by show World.there _ _ _ R.toArray.size; rw [List.size_toArray, HRL.out]; exact blk_there (l := (#[.int .i64 0, .int .u32 0, .int .u32 0, .int .u64 0, .int .u32 0, .int .u32 0, .int .u32 0, .slice none 0 0, .slice none 0 0, .slice none 0 0, .int .i64 0, .int .u32 0, .slice none 0 0, .int .i64 0, .int .i64 0, .slice none 0 0] : Array Value).toList) HZF.out rfl
  go_wp2_with (first
    | ((with_reducible show wpList _ _ _ (⟨some 78, .load 46 (.tmp 3), _, _, _, _⟩ :: _) _ _); refine wpList_load_mid rfl 46 (.tmp 3) rfl gx 0 rfl R _ HRG.out Try.underlying46 rfl HI.out ?_)
    | ((with_reducible show wpList _ _ _ (⟨none, .store 46 (.tmp 2) (.tmp 78), _, _, _, _⟩ :: _) _ _); refine wpList_store_mid rfl 46 (.tmp 2) (.tmp 78) rfl g2 0 R.toArray rfl rfl HTH.out HJ.out HR1.out ?_))
  have hst : Blk (wf.setCells g2 0 R) g2 46 R.toArray := blk_setAll (l := (#[.int .i64 0, .int .u32 0, .int .u32 0, .int .u64 0, .int .u32 0, .int .u32 0, .int .u32 0, .slice none 0 0, .slice none 0 0, .slice none 0 0, .int .i64 0, .int .u32 0, .slice none 0 0, .int .i64 0, .int .i64 0, .slice none 0 0] : Array Value).toList) HZF.out (by rw [HRL.out]; rfl)
  have hload := run_loadVar_mid (P := Try.prog) (wf.setCells g2 0 R) g2 0 46 R _ (blk_range hst) Try.underlying46 rfl HI.out
  exact bodyPost_ret (results_one rfl _ _ g2 _ rfl hload) rfl ⟨by rw [HRA.out], below_setCells HBF.out (by have := HLT.out; omega) _ _⟩
end Go.Proofs.Ytkfimncbfbbopaa
/- What bare leaves of a report of one kind (contract). Conditions: none. (Printed by gen8g.py.) -/
set_option linter.unusedVariables false
set_option linter.unusedSimpArgs false
namespace Go.Proofs.Ytkfimncbfbbopaa
open Go.RowKit
attribute [local go_sem ↓] Go.wp_at_zero Go.wp_at_succ

set_option maxRecDepth 100000 in
set_option maxHeartbeats 12800000 in
theorem bare2_c (fr ab ntp ts pk oc mt nb cb np cp nf cf ns cs nd cd : Nat) (ex ty ct : Int) (Ab Ap Af As Ad : Option Addr) (w : World) :
    Calls Try.prog 40 #[.agg #[.int .i64 2, .int .u32 (fr : Int), .int .u32 (ab : Int), .int .u64 (ntp : Int), .int .u32 (ts : Int), .int .u32 (pk : Int), .int .u32 (oc : Int), .slice Ab nb cb, .slice Ap np cp, .slice Af nf cf, .int .i64 ex, .int .u32 (mt : Int), .slice As ns cs, .int .i64 ty, .int .i64 ct, .slice Ad nd cd]] w fun e w' => e = .returned (.agg #[.int .i64 2, .int .u32 (fr : Int), .int .u32 0, .int .u64 0, .int .u32 0, .int .u32 0, .int .u32 0, .slice Ab nb cb, .slice none 0 0, .slice none 0 0, .int .i64 0, .int .u32 0, .slice none 0 0, .int .i64 0, .int .i64 0, .slice none 0 0]) ∧ Below w.heap.size w w' := by
  obtain ⟨C1, hC1⟩ : ∃ C1 : Array Value, C1 = #[.int .i64 2, .int .u32 (fr : Int), .int .u32 (ab : Int), .int .u64 (ntp : Int), .int .u32 (ts : Int), .int .u32 (pk : Int), .int .u32 (oc : Int), .slice Ab nb cb, .slice Ap np cp, .slice Af nf cf, .int .i64 ex, .int .u32 (mt : Int), .slice As ns cs, .int .i64 ty, .int .i64 ct, .slice Ad nd cd] := ⟨_, rfl⟩
  obtain ⟨g1, hg1⟩ : ∃ g1, g1 = w.heap.size := ⟨_, rfl⟩
  obtain ⟨g2, hg2⟩ : ∃ g2, g2 = w.heap.size + 1 := ⟨_, rfl⟩
  obtain ⟨gx, hgx⟩ : ∃ gx, gx = w.heap.size + 1 + 1 := ⟨_, rfl⟩
  obtain ⟨w1, hw1⟩ : ∃ w1, w1 = ((w.alloc (.cells #[.int .i64 2, .int .u32 (fr : Int), .int .u32 (ab : Int), .int .u64 (ntp : Int), .int .u32 (ts : Int), .int .u32 (pk : Int), .int .u32 (oc : Int), .slice Ab nb cb, .slice Ap np cp, .slice Af nf cf, .int .i64 ex, .int .u32 (mt : Int), .slice As ns cs, .int .i64 ty, .int .i64 ct, .slice Ad nd cd] 46)).alloc (.cells #[.int .i64 0, .int .u32 0, .int .u32 0, .int .u64 0, .int .u32 0, .int .u32 0, .int .u32 0, .slice none 0 0, .slice none 0 0, .slice none 0 0, .int .i64 0, .int .u32 0, .slice none 0 0, .int .i64 0, .int .i64 0, .slice none 0 0] 46)).alloc (.cells #[.int .i64 2, .int .u32 (fr : Int), .int .u32 0, .int .u64 0, .int .u32 0, .int .u32 0, .int .u32 0, .slice none 0 0, .slice none 0 0, .slice none 0 0, .int .i64 0, .int .u32 0, .slice none 0 0, .int .i64 0, .int .i64 0, .slice none 0 0] 46) := ⟨_, rfl⟩
  have HG : Hid (Blk w1 g1 46 #[.int .i64 2, .int .u32 (fr : Int), .int .u32 (ab : Int), .int .u64 (ntp : Int), .int .u32 (ts : Int), .int .u32 (pk : Int), .int .u32 (oc : Int), .slice Ab nb cb, .slice Ap np cp, .slice Af nf cf, .int .i64 ex, .int .u32 (mt : Int), .slice As ns cs, .int .i64 ty, .int .i64 ct, .slice Ad nd cd]) := by show Blk _ _ _ _; rw [hw1]; exact Blk.alloc (Blk.alloc (Blk.newAt hg1 _ _) _) _
  have HZ : Hid (Blk w1 g2 46 #[.int .i64 0, .int .u32 0, .int .u32 0, .int .u64 0, .int .u32 0, .int .u32 0, .int .u32 0, .slice none 0 0, .slice none 0 0, .slice none 0 0, .int .i64 0, .int .u32 0, .slice none 0 0, .int .i64 0, .int .i64 0, .slice none 0 0]) := by show Blk _ _ _ _; rw [hw1]; exact Blk.alloc (Blk.newAt (by simp; exact hg2) _ _) _
  have HX : Hid (Blk w1 gx 46 #[.int .i64 2, .int .u32 (fr : Int), .int .u32 0, .int .u64 0, .int .u32 0, .int .u32 0, .int .u32 0, .slice none 0 0, .slice none 0 0, .slice none 0 0, .int .i64 0, .int .u32 0, .slice none 0 0, .int .i64 0, .int .i64 0, .slice none 0 0]) := by show Blk _ _ _ _; rw [hw1]; exact Blk.newAt (by simp; exact hgx) _ _
  have HB : Hid (Below w.heap.size w w1) := by show Below _ _ _; rw [hw1]; exact balloc (balloc (balloc (Below.refl _ _) _) _) _
  have HLT : Hid (w.heap.size ≤ g1 ∧ g1 < g2 ∧ g2 < gx) := ⟨by omega, by omega, by omega⟩
  go_enter Try.func40, Try.ntmps40
  go_upto_region 2 with fail
  rw [← hw1, ← hgx, ← hg2, ← hg1]
  clear hw1 hgx hg2 hg1 hC1
  have k0 : w1.cell? ⟨g1, 0, none⟩ = some (.int .i64 2) := HG.out.cell 0
  have kk7 : w1.cell? ⟨g1, 7, none⟩ = some (.slice Ab nb cb) := HG.out.cell 7
  have kx7 : w1.cell? ⟨gx, 7, none⟩ = some (.slice none 0 0) := HX.out.cell 7
  have fx7 := HX.out.frozen 7
  have hne : g1 ≠ gx := by have := HLT.out; omega
  go_upto_region 17 with fail
  clear k0 kk7 kx7 fx7
  obtain ⟨wf, hwf⟩ : ∃ wf, wf = (World.setCell w1 ⟨gx, 7, none⟩ (.slice Ab nb cb)) := ⟨_, rfl⟩
  rw [← hwf]
  have HXF : Hid (Blk wf gx 46 #[.int .i64 2, .int .u32 (fr : Int), .int .u32 0, .int .u64 0, .int .u32 0, .int .u32 0, .int .u32 0, .slice Ab nb cb, .slice none 0 0, .slice none 0 0, .int .i64 0, .int .u32 0, .slice none 0 0, .int .i64 0, .int .i64 0, .slice none 0 0]) := by show Blk _ _ _ _; rw [hwf]; exact HX.out.set_ 7 _
  have HZF : Hid (Blk wf g2 46 #[.int .i64 0, .int .u32 0, .int .u32 0, .int .u64 0, .int .u32 0, .int .u32 0, .int .u32 0, .slice none 0 0, .slice none 0 0, .slice none 0 0, .int .i64 0, .int .u32 0, .slice none 0 0, .int .i64 0, .int .i64 0, .slice none 0 0]) := by show Blk _ _ _ _; rw [hwf]; exact HZ.out.far (p := ⟨gx, 7, none⟩) (by have := HLT.out; show g2 ≠ gx; omega) _
  have HBF : Hid (Below w.heap.size w wf) := by show Below _ _ _; rw [hwf]; exact bset HB.out (p := ⟨gx, 7, none⟩) (by have := HLT.out; show _ ≤ gx; omega) _
  clear hwf
  obtain ⟨R, hR⟩ : ∃ R, R = (#[.int .i64 2, .int .u32 (fr : Int), .int .u32 0, .int .u64 0, .int .u32 0, .int .u32 0, .int .u32 0, .slice Ab nb cb, .slice none 0 0, .slice none 0 0, .int .i64 0, .int .u32 0, .slice none 0 0, .int .i64 0, .int .i64 0, .slice none 0 0] : Array Value).toList := ⟨_, rfl⟩
  have HRA : Hid (R.toArray = #[.int .i64 2, .int .u32 (fr : Int), .int .u32 0, .int .u64 0, .int .u32 0, .int .u32 0, .int .u32 0, .slice Ab nb cb, .slice none 0 0, .slice none 0 0, .int .i64 0, .int .u32 0, .slice none 0 0, .int .i64 0, .int .i64 0, .slice none 0 0]) := by show _ = _; rw [hR]
  have HRL : Hid (R.length = 16) := by show _ = _; rw [hR]; rfl
  have HR1 : Hid (R.toArray.all (·.oneCell') = true) := by show _ = _; rw [hR]; simp [Value.oneCell']
  clear hR
  have HI : Hid ((Try.prog.info? 46).map (·.size) = some R.length) := by show _ = _; rw [HRL.out]; exact infoRep
  have HJ : Hid ((Try.prog.info? 46).map (·.size) = some R.toArray.size) := by show _ = _; rw [List.size_toArray, HRL.out]; exact infoRep
  have HXR : Hid (Blk wf gx 46 R.toArray) := by show Blk _ _ _ _; rw [HRA.out]; exact HXF.out
  have HRG : Hid (wf.rangeAt gx 0 R) := blk_range HXR.out
  have HTH : Hid (wf.there g2 0 R.toArray.size) := by show World.there _ _ _ R.toArray.size; rw [List.size_toArray, HRL.out]; exact blk_there (l := (#[.int .i64 0, .int .u32 0, .int .u32 0, .int .u64 0, .int .u32 0, .int .u32 0, .int .u32 0, .slice none 0 0, .slice none 0 0, .slice none 0 0, .int .i64 0, .int .u32 0, .slice none 0 0, .int .i64 0, .int .i64 0, .slice none 0 0] : Array Value).toList) HZF.out rfl
  go_wp2_with (first
    | ((with_reducible show wpList _ _ _ (⟨some 78, .load 46 (.tmp 3), _, _, _, _⟩ :: _) _ _); refine wpList_load_mid rfl 46 (.tmp 3) rfl gx 0 rfl R _ HRG.out Try.underlying46 rfl HI.out ?_)
    | ((with_reducible show wpList _ _ _ (⟨none, .store 46 (.tmp 2) (.tmp 78), _, _, _, _⟩ :: _) _ _); refine wpList_store_mid rfl 46 (.tmp 2) (.tmp 78) rfl g2 0 R.toArray rfl rfl HTH.out HJ.out HR1.out ?_))
  have hst : Blk (wf.setCells g2 0 R) g2 46 R.toArray := blk_setAll (l := (#[.int .i64 0, .int .u32 0, .int .u32 0, .int .u64 0, .int .u32 0, .int .u32 0, .int .u32 0, .slice none 0 0, .slice none 0 0, .slice none 0 0, .int .i64 0, .int .u32 0, .slice none 0 0, .int .i64 0, .int .i64 0, .slice none 0 0] : Array Value).toList) HZF.out (by rw [HRL.out]; rfl)
  have hload := run_loadVar_mid (P := Try.prog) (wf.setCells g2 0 R) g2 0 46 R _ (blk_range hst) Try.underlying46 rfl HI.out
  exact bodyPost_ret (results_one rfl _ _ g2 _ rfl hload) rfl ⟨by rw [HRA.out], below_setCells HBF.out (by have := HLT.out; omega) _ _⟩
end Go.Proofs.Ytkfimncbfbbopaa
/- What bare leaves of a report of one kind (contract). Conditions: none. (Printed by gen8g.py.) -/
set_option linter.unusedVariables false
set_option linter.unusedSimpArgs false
namespace Go.Proofs.Ytkfimncbfbbopaa
open Go.RowKit
attribute [local go_sem ↓] Go.wp_at_zero Go.wp_at_succ

set_option maxRecDepth 100000 in
set_option maxHeartbeats 12800000 in
theorem bare3_c (fr ab ntp ts pk oc mt nb cb np cp nf cf ns cs nd cd : Nat) (ex ty ct : Int) (Ab Ap Af As Ad : Option Addr) (w : World) :
    Calls Try.prog 40 #[.agg #[.int .i64 3, .int .u32 (fr : Int), .int .u32 (ab : Int), .int .u64 (ntp : Int), .int .u32 (ts : Int), .int .u32 (pk : Int), .int .u32 (oc : Int), .slice Ab nb cb, .slice Ap np cp, .slice Af nf cf, .int .i64 ex, .int .u32 (mt : Int), .slice As ns cs, .int .i64 ty, .int .i64 ct, .slice Ad nd cd]] w fun e w' => e = .returned (.agg #[.int .i64 3, .int .u32 (fr : Int), .int .u32 (ab : Int), .int .u64 0, .int .u32 0, .int .u32 0, .int .u32 0, .slice none 0 0, .slice Ap np cp, .slice none 0 0, .int .i64 0, .int .u32 0, .slice none 0 0, .int .i64 0, .int .i64 0, .slice none 0 0]) ∧ Below w.heap.size w w' := by
  obtain ⟨C1, hC1⟩ : ∃ C1 : Array Value, C1 = #[.int .i64 3, .int .u32 (fr : Int), .int .u32 (ab : Int), .int .u64 (ntp : Int), .int .u32 (ts : Int), .int .u32 (pk : Int), .int .u32 (oc : Int), .slice Ab nb cb, .slice Ap np cp, .slice Af nf cf, .int .i64 ex, .int .u32 (mt : Int), .slice As ns cs, .int .i64 ty, .int .i64 ct, .slice Ad nd cd] := ⟨_, rfl⟩
  obtain ⟨g1, hg1⟩ : ∃ g1, g1 = w.heap.size := ⟨_, rfl⟩
  obtain ⟨g2, hg2⟩ : ∃ g2, g2 = w.heap.size + 1 := ⟨_, rfl⟩
  obtain ⟨gx, hgx⟩ : ∃ gx, gx = w.heap.size + 1 + 1 := ⟨_, rfl⟩
  obtain ⟨w1, hw1⟩ : ∃ w1, w1 = ((w.alloc (.cells #[.int .i64 3, .int .u32 (fr : Int), .int .u32 (ab : Int), .int .u64 (ntp : Int), .int .u32 (ts : Int), .int .u32 (pk : Int), .int .u32 (oc : Int), .slice Ab nb cb, .slice Ap np cp, .slice Af nf cf, .int .i64 ex, .int .u32 (mt : Int), .slice As ns cs, .int .i64 ty, .int .i64 ct, .slice Ad nd cd] 46)).alloc (.cells #[.int .i64 0, .int .u32 0, .int .u32 0, .int .u64 0, .int .u32 0, .int .u32 0, .int .u32 0, .slice none 0 0, .slice none 0 0, .slice none 0 0, .int .i64 0, .int .u32 0, .slice none 0 0, .int .i64 0, .int .i64 0, .slice none 0 0] 46)).alloc (.cells #[.int .i64 3, .int .u32 (fr : Int), .int .u32 0, .int .u64 0, .int .u32 0, .int .u32 0, .int .u32 0, .slice none 0 0, .slice none 0 0, .slice none 0 0, .int .i64 0, .int .u32 0, .slice none 0 0, .int .i64 0, .int .i64 0, .slice none 0 0] 46) := ⟨_, rfl⟩
  have HG : Hid (Blk w1 g1 46 #[.int .i64 3, .int .u32 (fr : Int), .int .u32 (ab : Int), .int .u64 (ntp : Int), .int .u32 (ts : Int), .int .u32 (pk : Int), .int .u32 (oc : Int), .slice Ab nb cb, .slice Ap np cp, .slice Af nf cf, .int .i64 ex, .int .u32 (mt : Int), .slice As ns cs, .int .i64 ty, .int .i64 ct, .slice Ad nd cd]) := by show Blk _ _ _ _; rw [hw1]; exact Blk.alloc (Blk.alloc (Blk.newAt hg1 _ _) _) _
  have HZ : Hid (Blk w1 g2 46 #[.int .i64 0, .int .u32 0, .int .u32 0, .int .u64 0, .int .u32 0, .int .u32 0, .int .u32 0, .slice none 0 0, .slice none 0 0, .slice none 0 0, .int .i64 0, .int .u32 0, .slice none 0 0, .int .i64 0, .int .i64 0, .slice none 0 0]) := by show Blk _ _ _ _; rw [hw1]; exact Blk.alloc (Blk.newAt (by simp; exact hg2) _ _) _
  have HX : Hid (Blk w1 gx 46 #[.int .i64 3, .int .u32 (fr : Int), .int .u32 0, .int .u64 0, .int .u32 0, .int .u32 0, .int .u32 0, .slice none 0 0, .slice none 0 0, .slice none 0 0, .int .i64 0, .int .u32 0, .slice none 0 0, .int .i64 0, .int .i64 0, .slice none 0 0]) := by show Blk _ _ _ _; rw [hw1]; exact Blk.newAt (by simp; exact hgx) _ _
  have HB : Hid (Below w.heap.size w w1) := by show Below _ _ _; rw [hw1]; exact balloc (balloc (balloc (Below.refl _ _) _) _) _
  have HLT : Hid (w.heap.size ≤ g1 ∧ g1 < g2 ∧ g2 < gx) := ⟨by omega, by omega, by omega⟩
  go_enter Try.func40, Try.ntmps40
  go_upto_region 2 with fail
  rw [← hw1, ← hgx, ← hg2, ← hg1]
  clear hw1 hgx hg2 hg1 hC1
  have k0 : w1.cell? ⟨g1, 0, none⟩ = some (.int .i64 3) := HG.out.cell 0
  go_upto_region 10 with fail
  clear k0
  have hne : g1 ≠ gx := by have := HLT.out; omega
  have hne2 : g2 ≠ gx := by have := HLT.out; omega
  have hwx : w.heap.size ≤ gx := by have := HLT.out; omega
  have HG0 : Hid (Blk (World.drew w1) g1 46 #[.int .i64 3, .int .u32 (fr : Int), .int .u32 (ab : Int), .int .u64 (ntp : Int), .int .u32 (ts : Int), .int .u32 (pk : Int), .int .u32 (oc : Int), .slice Ab nb cb, .slice Ap np cp, .slice Af nf cf, .int .i64 ex, .int .u32 (mt : Int), .slice As ns cs, .int .i64 ty, .int .i64 ct, .slice Ad nd cd]) := HG.out
  have HZ0 : Hid (Blk (World.drew w1) g2 46 #[.int .i64 0, .int .u32 0, .int .u32 0, .int .u64 0, .int .u32 0, .int .u32 0, .int .u32 0, .slice none 0 0, .slice none 0 0, .slice none 0 0, .int .i64 0, .int .u32 0, .slice none 0 0, .int .i64 0, .int .i64 0, .slice none 0 0]) := HZ.out
  have HX0 : Hid (Blk (World.drew w1) gx 46 #[.int .i64 3, .int .u32 (fr : Int), .int .u32 0, .int .u64 0, .int .u32 0, .int .u32 0, .int .u32 0, .slice none 0 0, .slice none 0 0, .slice none 0 0, .int .i64 0, .int .u32 0, .slice none 0 0, .int .i64 0, .int .i64 0, .slice none 0 0]) := HX.out
  have HB0 : Hid (Below w.heap.size w (World.drew w1)) := HB.out.drew
  refine wp_region_held_drew (S := (fun w2 => Blk w2 g1 46 #[.int .i64 3, .int .u32 (fr : Int), .int .u32 (ab : Int), .int .u64 (ntp : Int), .int .u32 (ts : Int), .int .u32 (pk : Int), .int .u32 (oc : Int), .slice Ab nb cb, .slice Ap np cp, .slice Af nf cf, .int .i64 ex, .int .u32 (mt : Int), .slice As ns cs, .int .i64 ty, .int .i64 ct, .slice Ad nd cd])) (by kernel_rfl) (HG0.out) (fun hHeld => ?_)
  refine wpAnyH_takeAt (i := 0) (v := (.pointer (some ⟨g1, 2, none⟩))) rfl (by kernel_rfl) (by kernel_rfl) (by kernel_rfl) (fun _ _ _ h => h) rfl (Or.inl ⟨by rfl, fun w' hS => ?_⟩) hHeld ?_
  · go_simp
  simp only [List.set_cons_zero, List.set_cons_succ]
  refine wpAnyH_takeAt (i := 1) (v := (.int .u32 (ab : Int))) rfl (by kernel_rfl) (by kernel_rfl) (by kernel_rfl) (fun _ _ _ h => h) rfl (Or.inl ⟨by rfl, fun w' hS => ?_⟩) hHeld ?_
  · have hc := hS.cell 2
    have hc' : w'.cell? ⟨g1, 2, none⟩ = some (.int .u32 (ab : Int)) := hc
    go_simp
  simp only [List.set_cons_zero, List.set_cons_succ]
  refine wpAnyH_takeAt (i := 2) (v := (.pointer (some ⟨g1, 8, none⟩))) rfl (by kernel_rfl) (by kernel_rfl) (by kernel_rfl) (fun _ _ _ h => h) rfl (Or.inl ⟨by rfl, fun w' hS => ?_⟩) hHeld ?_
  · go_simp
  simp only [List.set_cons_zero, List.set_cons_succ]
  refine wpAnyH_takeAt (i := 3) (v := (.slice Ap np cp)) rfl (by kernel_rfl) (by kernel_rfl) (by kernel_rfl) (fun _ _ _ h => h) rfl (Or.inl ⟨by rfl, fun w' hS => ?_⟩) hHeld ?_
  · have hc := hS.cell 8
    have hc' : w'.cell? ⟨g1, 8, none⟩ = some (.slice Ap np cp) := hc
    go_simp
  simp only [List.set_cons_zero, List.set_cons_succ]
  refine wpAnyH_takeAt (i := 4) (v := (.pointer (some ⟨gx, 2, none⟩))) rfl (by kernel_rfl) (by kernel_rfl) (by kernel_rfl) (fun _ _ _ h => h) rfl (Or.inl ⟨by rfl, fun w' hS => ?_⟩) hHeld ?_
  · go_simp
  simp only [List.set_cons_zero, List.set_cons_succ]
  refine wpAnyH_ready (rs := [5]) (by kernel_rfl) (by simp) (AllReadyH.cons rfl (fun K' hK => ?_) AllReadyH.nil)
  have hcell : (World.drew w1).cell? ⟨gx, 2, none⟩ = some (.int .u32 0) := HX0.out.cell 2
  have hfree : (World.drew w1).frozen? ⟨gx, 2, none⟩ = false := HX0.out.frozen 2
  have hcell0 : w1.cell? ⟨gx, 2, none⟩ = some (.int .u32 0) := HX0.out.cell 2
  have hfree0 : w1.frozen? ⟨gx, 2, none⟩ = false := HX0.out.frozen 2
  go_simp
  clear hcell hfree hcell0 hfree0
  have HG1 : Hid (Blk (World.setCell (World.drew w1) ⟨gx, 2, none⟩ (.int .u32 (ab : Int))) g1 46 #[.int .i64 3, .int .u32 (fr : Int), .int .u32 (ab : Int), .int .u64 (ntp : Int), .int .u32 (ts : Int), .int .u32 (pk : Int), .int .u32 (oc : Int), .slice Ab nb cb, .slice Ap np cp, .slice Af nf cf, .int .i64 ex, .int .u32 (mt : Int), .slice As ns cs, .int .i64 ty, .int .i64 ct, .slice Ad nd cd]) := HG0.out.far (p := ⟨gx, 2, none⟩) hne _
  have HZ1 : Hid (Blk (World.setCell (World.drew w1) ⟨gx, 2, none⟩ (.int .u32 (ab : Int))) g2 46 #[.int .i64 0, .int .u32 0, .int .u32 0, .int .u64 0, .int .u32 0, .int .u32 0, .int .u32 0, .slice none 0 0, .slice none 0 0, .slice none 0 0, .int .i64 0, .int .u32 0, .slice none 0 0, .int .i64 0, .int .i64 0, .slice none 0 0]) := HZ0.out.far (p := ⟨gx, 2, none⟩) hne2 _
  have HX1 : Hid (Blk (World.setCell (World.drew w1) ⟨gx, 2, none⟩ (.int .u32 (ab : Int))) gx 46 #[.int .i64 3, .int .u32 (fr : Int), .int .u32 (ab : Int), .int .u64 0, .int .u32 0, .int .u32 0, .int .u32 0, .slice none 0 0, .slice none 0 0, .slice none 0 0, .int .i64 0, .int .u32 0, .slice none 0 0, .int .i64 0, .int .i64 0, .slice none 0 0]) := HX0.out.set_ 2 _
  have HB1 : Hid (Below w.heap.size w (World.setCell (World.drew w1) ⟨gx, 2, none⟩ (.int .u32 (ab : Int)))) := bset HB0.out (p := ⟨gx, 2, none⟩) hwx _
  refine hK.out _ (World.setCell (World.drew w1) ⟨gx, 2, none⟩ (.int .u32 (ab : Int))) HG1.out (fun hHeld' => ?_)
  clear hK hHeld
  have hHeld := hHeld'
  clear hHeld'
  generalize (World.setCell (World.drew w1) ⟨gx, 2, none⟩ (.int .u32 (ab : Int))) = wn1 at *
  refine wpAnyH_takeAt (i := 6) (v := (.pointer (some ⟨gx, 8, none⟩))) rfl (by kernel_rfl) (by kernel_rfl) (by kernel_rfl) (fun _ _ _ h => h) rfl (Or.inl ⟨by rfl, fun w' hS => ?_⟩) hHeld ?_
  · go_simp
  simp only [List.set_cons_zero, List.set_cons_succ]
  refine wpAnyH_ready (rs := [7]) (by kernel_rfl) (by simp) (AllReadyH.cons rfl (fun K' hK => ?_) AllReadyH.nil)
  have hcell : wn1.cell? ⟨gx, 8, none⟩ = some (.slice none 0 0) := HX1.out.cell 8
  have hfree : wn1.frozen? ⟨gx, 8, none⟩ = false := HX1.out.frozen 8
  have hcell0 : w1.cell? ⟨gx, 8, none⟩ = some (.slice none 0 0) := HX0.out.cell 8
  have hfree0 : w1.frozen? ⟨gx, 8, none⟩ = false := HX0.out.frozen 8
  go_simp
  clear hcell hfree hcell0 hfree0
  have HG2 : Hid (Blk (World.setCell wn1 ⟨gx, 8, none⟩ (.slice Ap np cp)) g1 46 #[.int .i64 3, .int .u32 (fr : Int), .int .u32 (ab : Int), .int .u64 (ntp : Int), .int .u32 (ts : Int), .int .u32 (pk : Int), .int .u32 (oc : Int), .slice Ab nb cb, .slice Ap np cp, .slice Af nf cf, .int .i64 ex, .int .u32 (mt : Int), .slice As ns cs, .int .i64 ty, .int .i64 ct, .slice Ad nd cd]) := HG1.out.far (p := ⟨gx, 8, none⟩) hne _
  have HZ2 : Hid (Blk (World.setCell wn1 ⟨gx, 8, none⟩ (.slice Ap np cp)) g2 46 #[.int .i64 0, .int .u32 0, .int .u32 0, .int .u64 0, .int .u32 0, .int .u32 0, .int .u32 0, .slice none 0 0, .slice none 0 0, .slice none 0 0, .int .i64 0, .int .u32 0, .slice none 0 0, .int .i64 0, .int .i64 0, .slice none 0 0]) := HZ1.out.far (p := ⟨gx, 8, none⟩) hne2 _
  have HX2 : Hid (Blk (World.setCell wn1 ⟨gx, 8, none⟩ (.slice Ap np cp)) gx 46 #[.int .i64 3, .int .u32 (fr : Int), .int .u32 (ab : Int), .int .u64 0, .int .u32 0, .int .u32 0, .int .u32 0, .slice none 0 0, .slice Ap np cp, .slice none 0 0, .int .i64 0, .int .u32 0, .slice none 0 0, .int .i64 0, .int .i64 0, .slice none 0 0]) := HX1.out.set_ 8 _
  have HB2 : Hid (Below w.heap.size w (World.setCell wn1 ⟨gx, 8, none⟩ (.slice Ap np cp))) := bset HB1.out (p := ⟨gx, 8, none⟩) hwx _
  refine hK.out _ (World.setCell wn1 ⟨gx, 8, none⟩ (.slice Ap np cp)) HG2.out (fun hHeld' => ?_)
  clear hK hHeld
  have hHeld := hHeld'
  clear hHeld'
  generalize (World.setCell wn1 ⟨gx, 8, none⟩ (.slice Ap np cp)) = wn2 at *
  refine wpAnyH_done (by kernel_rfl) ?_ _
  go_upto_region 17 with fail
  have HXF : Hid (Blk wn2 gx 46 #[.int .i64 3, .int .u32 (fr : Int), .int .u32 (ab : Int), .int .u64 0, .int .u32 0, .int .u32 0, .int .u32 0, .slice none 0 0, .slice Ap np cp, .slice none 0 0, .int .i64 0, .int .u32 0, .slice none 0 0, .int .i64 0, .int .i64 0, .slice none 0 0]) := HX2.out
  have HZF := HZ2
  have HBF := HB2
  obtain ⟨wf, hwf⟩ : ∃ wf, wf = wn2 := ⟨_, rfl⟩
  rw [← hwf] at HXF HZF HBF ⊢
  clear hwf
  obtain ⟨R, hR⟩ : ∃ R, R = (#[.int .i64 3, .int .u32 (fr : Int), .int .u32 (ab : Int), .int .u64 0, .int .u32 0, .int .u32 0, .int .u32 0, .slice none 0 0, .slice Ap np cp, .slice none 0 0, .int .i64 0, .int .u32 0, .slice none 0 0, .int .i64 0, .int .i64 0, .slice none 0 0] : Array Value).toList := ⟨_, rfl⟩
  have HRA : Hid (R.toArray = #[.int .i64 3, .int .u32 (fr : Int), .int .u32 (ab : Int), .int .u64 0, .int .u32 0, .int .u32 0, .int .u32 0, .slice none 0 0, .slice Ap np cp, .slice none 0 0, .int .i64 0, .int .u32 0, .slice none 0 0, .int .i64 0, .int .i64 0, .slice none 0 0]) := by show _ = _; rw [hR]
  have HRL : Hid (R.length = 16) := by show _ = _; rw [hR]; rfl
  have HR1 : Hid (R.toArray.all (·.oneCell') = true) := by show _ = _; rw [hR]; simp [Value.oneCell']
  clear hR
  have HI : Hid ((Try.prog.info? 46).map (·.size) = some R.length) := by show _ = _; rw [HRL.out]; exact infoRep
  have HJ : Hid ((Try.prog.info? 46).map (·.size) = some R.toArray.size) := by show _ = _; rw [List.size_toArray, HRL.out]; exact infoRep
  have HXR : Hid (Blk wf gx 46 R.toArray) := by show Blk _ _ _ _; rw [HRA.out]; exact HXF.out
  have HRG : Hid (wf.rangeAt gx 0 R) := blk_range HXR.out
  have HTH : Hid (wf.there g2 0 R.toArray.size) := by show World.there _ _ _ R.toArray.size; rw [List.size_toArray, HRL.out]; exact blk_there (l := (#[.int .i64 0, .int .u32 0, .int .u32 0, .int .u64 0, .int .u32 0, .int .u32 0, .int .u32 0, .slice none 0 0, .slice none 0 0, .slice none 0 0, .int .i64 0, .int .u32 0, .slice none 0 0, .int .i64 0, .int .i64 0, .slice none 0 0] : Array Value).toList) HZF.out rfl
  go_wp2_with (first
    | ((with_reducible show wpList _ _ _ (⟨some 78, .load 46 (.tmp 3), _, _, _, _⟩ :: _) _ _); refine wpList_load_mid rfl 46 (.tmp 3) rfl gx 0 rfl R _ HRG.out Try.underlying46 rfl HI.out ?_)
    | ((with_reducible show wpList _ _ _ (⟨none, .store 46 (.tmp 2) (.tmp 78), _, _, _, _⟩ :: _) _ _); refine wpList_store_mid rfl 46 (.tmp 2) (.tmp 78) rfl g2 0 R.toArray rfl rfl HTH.out HJ.out HR1.out ?_))
  have hst : Blk (wf.setCells g2 0 R) g2 46 R.toArray := blk_setAll (l := (#[.int .i64 0, .int .u32 0, .int .u32 0, .int .u64 0, .int .u32 0, .int .u32 0, .int .u32 0, .slice none 0 0, .slice none 0 0, .slice none 0 0, .int .i64 0, .int .u32 0, .slice none 0 0, .int .i64 0, .int .i64 0, .slice none 0 0] : Array Value).toList) HZF.out (by rw [HRL.out]; rfl)
  have hload := run_loadVar_mid (P := Try.prog) (wf.setCells g2 0 R) g2 0 46 R _ (blk_range hst) Try.underlying46 rfl HI.out
  exact bodyPost_ret (results_one rfl _ _ g2 _ rfl hload) rfl ⟨by rw [HRA.out], below_setCells HBF.out (by have := HLT.out; omega) _ _⟩
end Go.Proofs.Ytkfimncbfbbopaa
/- What bare leaves of a report of one kind (contract). Conditions: none. (Printed by gen8g.py.) -/
set_option linter.unusedVariables false
set_option linter.unusedSimpArgs false
namespace Go.Proofs.Ytkfimncbfbbopaa
open Go.RowKit
attribute [local go_sem ↓] Go.wp_at_zero Go.wp_at_succ

set_option maxRecDepth 100000 in
set_option maxHeartbeats 12800000 in
theorem bare4_c (fr ab ntp ts pk oc mt nb cb np cp nf cf ns cs nd cd : Nat) (ex ty ct : Int) (Ab Ap Af As Ad : Option Addr) (w : World) :
    Calls Try.prog 40 #[.agg #[.int .i64 4, .int .u32 (fr : Int), .int .u32 (ab : Int), .int .u64 (ntp : Int), .int .u32 (ts : Int), .int .u32 (pk : Int), .int .u32 (oc : Int), .slice Ab nb cb, .slice Ap np cp, .slice Af nf cf, .int .i64 ex, .int .u32 (mt : Int), .slice As ns cs, .int .i64 ty, .int .i64 ct, .slice Ad nd cd]] w fun e w' => e = .returned (.agg #[.int .i64 4, .int .u32 (fr : Int), .int .u32 (ab : Int), .int .u64 0, .int .u32 0, .int .u32 0, .int .u32 0, .slice none 0 0, .slice none 0 0, .slice none 0 0, .int .i64 0, .int .u32 0, .slice none 0 0, .int .i64 0, .int .i64 0, .slice none 0 0]) ∧ Below w.heap.size w w' := by
  obtain ⟨C1, hC1⟩ : ∃ C1 : Array Value, C1 = #[.int .i64 4, .int .u32 (fr : Int), .int .u32 (ab : Int), .int .u64 (ntp : Int), .int .u32 (ts : Int), .int .u32 (pk : Int), .int .u32 (oc : Int), .slice Ab nb cb, .slice Ap np cp, .slice Af nf cf, .int .i64 ex, .int .u32 (mt : Int), .slice As ns cs, .int .i64 ty, .int .i64 ct, .slice Ad nd cd] := ⟨_, rfl⟩
  obtain ⟨g1, hg1⟩ : ∃ g1, g1 = w.heap.size := ⟨_, rfl⟩
  obtain ⟨g2, hg2⟩ : ∃ g2, g2 = w.heap.size + 1 := ⟨_, rfl⟩
  obtain ⟨gx, hgx⟩ : ∃ gx, gx = w.heap.size + 1 + 1 := ⟨_, rfl⟩
  obtain ⟨w1, hw1⟩ : ∃ w1, w1 = ((w.alloc (.cells #[.int .i64 4, .int .u32 (fr : Int), .int .u32 (ab : Int), .int .u64 (ntp : Int), .int .u32 (ts : Int), .int .u32 (pk : Int), .int .u32 (oc : Int), .slice Ab nb cb, .slice Ap np cp, .slice Af nf cf, .int .i64 ex, .int .u32 (mt : Int), .slice As ns cs, .int .i64 ty, .int .i64 ct, .slice Ad nd cd] 46)).alloc (.cells #[.int .i64 0, .int .u32 0, .int .u32 0, .int .u64 0, .int .u32 0, .int .u32 0, .int .u32 0, .slice none 0 0, .slice none 0 0, .slice none 0 0, .int .i64 0, .int .u32 0, .slice none 0 0, .int .i64 0, .int .i64 0, .slice none 0 0] 46)).alloc (.cells #[.int .i64 4, .int .u32 (fr : Int), .int .u32 0, .int .u64 0, .int .u32 0, .int .u32 0, .int .u32 0, .slice none 0 0, .slice none 0 0, .slice none 0 0, .int .i64 0, .int .u32 0, .slice none 0 0, .int .i64 0, .int .i64 0, .slice none 0 0] 46) := ⟨_, rfl⟩
  have HG : Hid (Blk w1 g1 46 #[.int .i64 4, .int .u32 (fr : Int), .int .u32 (ab : Int), .int .u64 (ntp : Int), .int .u32 (ts : Int), .int .u32 (pk : Int), .int .u32 (oc : Int), .slice Ab nb cb, .slice Ap np cp, .slice Af nf cf, .int .i64 ex, .int .u32 (mt : Int), .slice As ns cs, .int .i64 ty, .int .i64 ct, .slice Ad nd cd]) := by show Blk _ _ _ _; rw [hw1]; exact Blk.alloc (Blk.alloc (Blk.newAt hg1 _ _) _) _
  have HZ : Hid (Blk w1 g2 46 #[.int .i64 0, .int .u32 0, .int .u32 0, .int .u64 0, .int .u32 0, .int .u32 0, .int .u32 0, .slice none 0 0, .slice none 0 0, .slice none 0 0, .int .i64 0, .int .u32 0, .slice none 0 0, .int .i64 0, .int .i64 0, .slice none 0 0]) := by show Blk _ _ _ _; rw [hw1]; exact Blk.alloc (Blk.newAt (by simp; exact hg2) _ _) _
  have HX : Hid (Blk w1 gx 46 #[.int .i64 4, .int .u32 (fr : Int), .int .u32 0, .int .u64 0, .int .u32 0, .int .u32 0, .int .u32 0, .slice none 0 0, .slice none 0 0, .slice none 0 0, .int .i64 0, .int .u32 0, .slice none 0 0, .int .i64 0, .int .i64 0, .slice none 0 0]) := by show Blk _ _ _ _; rw [hw1]; exact Blk.newAt (by simp; exact hgx) _ _
  have HB : Hid (Below w.heap.size w w1) := by show Below _ _ _; rw [hw1]; exact balloc (balloc (balloc (Below.refl _ _) _) _) _
  have HLT : Hid (w.heap.size ≤ g1 ∧ g1 < g2 ∧ g2 < gx) := ⟨by omega, by omega, by omega⟩
  go_enter Try.func40, Try.ntmps40
  go_upto_region 2 with fail
  rw [← hw1, ← hgx, ← hg2, ← hg1]
  clear hw1 hgx hg2 hg1 hC1
  have k0 : w1.cell? ⟨g1, 0, none⟩ = some (.int .i64 4) := HG.out.cell 0
  have kk2 : w1.cell? ⟨g1, 2, none⟩ = some (.int .u32 (ab : Int)) := HG.out.cell 2
  have kx2 : w1.cell? ⟨gx, 2, none⟩ = some (.int .u32 0) := HX.out.cell 2
  have fx2 := HX.out.frozen 2
  have hne : g1 ≠ gx := by have := HLT.out; omega
  go_upto_region 17 with fail
  clear k0 kk2 kx2 fx2
  obtain ⟨wf, hwf⟩ : ∃ wf, wf = (World.setCell w1 ⟨gx, 2, none⟩ (.int .u32 (ab : Int))) := ⟨_, rfl⟩
  rw [← hwf]
  have HXF : Hid (Blk wf gx 46 #[.int .i64 4, .int .u32 (fr : Int), .int .u32 (ab : Int), .int .u64 0, .int .u32 0, .int .u32 0, .int .u32 0, .slice none 0 0, .slice none 0 0, .slice none 0 0, .int .i64 0, .int .u32 0, .slice none 0 0, .int .i64 0, .int .i64 0, .slice none 0 0]) := by show Blk _ _ _ _; rw [hwf]; exact HX.out.set_ 2 _
  have HZF : Hid (Blk wf g2 46 #[.int .i64 0, .int .u32 0, .int .u32 0, .int .u64 0, .int .u32 0, .int .u32 0, .int .u32 0, .slice none 0 0, .slice none 0 0, .slice none 0 0, .int .i64 0, .int .u32 0, .slice none 0 0, .int .i64 0, .int .i64 0, .slice none 0 0]) := by show Blk _ _ _ _; rw [hwf]; exact HZ.out.far (p := ⟨gx, 2, none⟩) (by have := HLT.out; show g2 ≠ gx; omega) _
  have HBF : Hid (Below w.heap.size w wf) := by show Below _ _ _; rw [hwf]; exact bset HB.out (p := ⟨gx, 2, none⟩) (by have := HLT.out; show _ ≤ gx; omega) _
  clear hwf
  obtain ⟨R, hR⟩ : ∃ R, R = (#[.int .i64 4, .int .u32 (fr : Int), .int .u32 (ab : Int), .int .u64 0, .int .u32 0, .int .u32 0, .int .u32 0, .slice none 0 0, .slice none 0 0, .slice none 0 0, .int .i64 0, .int .u32 0, .slice none 0 0, .int .i64 0, .int .i64 0, .slice none 0 0] : Array Value).toList := ⟨_, rfl⟩
  have HRA : Hid (R.toArray = #[.int .i64 4, .int .u32 (fr : Int), .int .u32 (ab : Int), .int .u64 0, .int .u32 0, .int .u32 0, .int .u32 0, .slice none 0 0, .slice none 0 0, .slice none 0 0, .int .i64 0, .int .u32 0, .slice none 0 0, .int .i64 0, .int .i64 0, .slice none 0 0]) := by show _ = _; rw [hR]
  have HRL : Hid (R.length = 16) := by show _ = _; rw [hR]; rfl
  have HR1 : Hid (R.toArray.all (·.oneCell') = true) := by show _ = _; rw [hR]; simp [Value.oneCell']
  clear hR
  have HI : Hid ((Try.prog.info? 46).map (·.size) = some R.length) := by show _ = _; rw [HRL.out]; exact infoRep
  have HJ : Hid ((Try.prog.info? 46).map (·.size) = some R.toArray.size) := by show _ = _; rw [List.size_toArray, HRL.out]; exact infoRep
  have HXR : Hid (Blk wf gx 46 R.toArray) := by show Blk _ _ _ _; rw [HRA.out]; exact HXF.out
  have HRG : Hid (wf.rangeAt gx 0 R) := blk_range HXR.out
  have HTH : Hid (wf.there g2 0 R.toArray.size) := by show World.there _ _ _ R.toArray.size; rw [List.size_toArray, HRL.out]; exact blk_there (l := (#[.int .i64 0, .int .u32 0, .int .u32 0, .int .u64 0, .int .u32 0, .int .u32 0, .int .u32 0, .slice none 0 0, .slice none 0 0, .slice none 0 0, .int .i64 0, .int .u32 0, .slice none 0 0, .int .i64 0, .int .i64 0, .slice none 0 0] : Array Value).toList) HZF.out rfl
  go_wp2_with (first
    | ((with_reducible show wpList _ _ _ (⟨some 78, .load 46 (.tmp 3), _, _, _, _⟩ :: _) _ _); refine wpList_load_mid rfl 46 (.tmp 3) rfl gx 0 rfl R _ HRG.out Try.underlying46 rfl HI.out ?_)
    | ((with_reducible show wpList _ _ _ (⟨none, .store 46 (.tmp 2) (.tmp 78), _, _, _, _⟩ :: _) _ _); refine wpList_store_mid rfl 46 (.tmp 2) (.tmp 78) rfl g2 0 R.toArray rfl rfl HTH.out HJ.out HR1.out ?_))
  have hst : Blk (wf.setCells g2 0 R) g2 46 R.toArray := blk_setAll (l := (#[.int .i64 0, .int .u32 0, .int .u32 0, .int .u64 0, .int .u32 0, .int .u32 0, .int .u32 0, .slice none 0 0, .slice none 0 0, .slice none 0 0, .int .i64 0, .int .u32 0, .slice none 0 0, .int .i64 0, .int .i64 0, .slice none 0 0] : Array Value).toList) HZF.out (by rw [HRL.out]; rfl)
  have hload := run_loadVar_mid (P := Try.prog) (wf.setCells g2 0 R) g2 0 46 R _ (blk_range hst) Try.underlying46 rfl HI.out
  exact bodyPost_ret (results_one rfl _ _ g2 _ rfl hload) rfl ⟨by rw [HRA.out], below_setCells HBF.out (by have := HLT.out; omega) _ _⟩
end Go.Proofs.Ytkfimncbfbbopaa
