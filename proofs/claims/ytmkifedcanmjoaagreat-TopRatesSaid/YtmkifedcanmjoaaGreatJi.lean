/- Texts of this claim, one behind the other: QBare6, QGood6. Each says ahead of itself what it proves, and its conditions. -/
import Derived.Test.YtmkifedcanmjoaaGreatJf
import Derived.Test.YtmkifedcanmjoaaGreatJg
/- What bare leaves of a report of one kind (contract). Conditions: none. (Printed by gen8g.py.) -/
set_option linter.unusedVariables false
set_option linter.unusedSimpArgs false
namespace Go.Proofs.YtmkifedcanmjoaaGreat
open Go.RowKit
attribute [local go_sem ↓] Go.wp_at_zero Go.wp_at_succ

set_option maxRecDepth 100000 in
set_option maxHeartbeats 12800000 in
theorem bare6_c (fr ab ntp ts pk oc mt nb cb np cp nf cf ns cs nd cd : Nat) (ex ty ct : Int) (Ab Ap Af As Ad : Option Addr) (w : World) :
    Calls Tryz.prog 73 #[.agg #[.int .i64 6, .int .u32 (fr : Int), .int .u32 (ab : Int), .int .u64 (ntp : Int), .int .u32 (ts : Int), .int .u32 (pk : Int), .int .u32 (oc : Int), .slice Ab nb cb, .slice Ap np cp, .slice Af nf cf, .int .i64 ex, .int .u32 (mt : Int), .slice As ns cs, .int .i64 ty, .int .i64 ct, .slice Ad nd cd]] w fun e w' => e = .returned (.agg #[.int .i64 6, .int .u32 (fr : Int), .int .u32 (ab : Int), .int .u64 0, .int .u32 0, .int .u32 0, .int .u32 0, .slice none 0 0, .slice none 0 0, .slice none 0 0, .int .i64 ex, .int .u32 (mt : Int), .slice As ns cs, .int .i64 0, .int .i64 0, .slice none 0 0]) ∧ Below w.heap.size w w' := by
  obtain ⟨C1, hC1⟩ : ∃ C1 : Array Value, C1 = #[.int .i64 6, .int .u32 (fr : Int), .int .u32 (ab : Int), .int .u64 (ntp : Int), .int .u32 (ts : Int), .int .u32 (pk : Int), .int .u32 (oc : Int), .slice Ab nb cb, .slice Ap np cp, .slice Af nf cf, .int .i64 ex, .int .u32 (mt : Int), .slice As ns cs, .int .i64 ty, .int .i64 ct, .slice Ad nd cd] := ⟨_, rfl⟩
  obtain ⟨g1, hg1⟩ : ∃ g1, g1 = w.heap.size := ⟨_, rfl⟩
  obtain ⟨g2, hg2⟩ : ∃ g2, g2 = w.heap.size + 1 := ⟨_, rfl⟩
  obtain ⟨gx, hgx⟩ : ∃ gx, gx = w.heap.size + 1 + 1 := ⟨_, rfl⟩
  obtain ⟨w1, hw1⟩ : ∃ w1, w1 = ((w.alloc (.cells #[.int .i64 6, .int .u32 (fr : Int), .int .u32 (ab : Int), .int .u64 (ntp : Int), .int .u32 (ts : Int), .int .u32 (pk : Int), .int .u32 (oc : Int), .slice Ab nb cb, .slice Ap np cp, .slice Af nf cf, .int .i64 ex, .int .u32 (mt : Int), .slice As ns cs, .int .i64 ty, .int .i64 ct, .slice Ad nd cd] 81)).alloc (.cells #[.int .i64 0, .int .u32 0, .int .u32 0, .int .u64 0, .int .u32 0, .int .u32 0, .int .u32 0, .slice none 0 0, .slice none 0 0, .slice none 0 0, .int .i64 0, .int .u32 0, .slice none 0 0, .int .i64 0, .int .i64 0, .slice none 0 0] 81)).alloc (.cells #[.int .i64 6, .int .u32 (fr : Int), .int .u32 0, .int .u64 0, .int .u32 0, .int .u32 0, .int .u32 0, .slice none 0 0, .slice none 0 0, .slice none 0 0, .int .i64 0, .int .u32 0, .slice none 0 0, .int .i64 0, .int .i64 0, .slice none 0 0] 81) := ⟨_, rfl⟩
  have HG : Hid (Blk w1 g1 81 #[.int .i64 6, .int .u32 (fr : Int), .int .u32 (ab : Int), .int .u64 (ntp : Int), .int .u32 (ts : Int), .int .u32 (pk : Int), .int .u32 (oc : Int), .slice Ab nb cb, .slice Ap np cp, .slice Af nf cf, .int .i64 ex, .int .u32 (mt : Int), .slice As ns cs, .int .i64 ty, .int .i64 ct, .slice Ad nd cd]) := by show Blk _ _ _ _; rw [hw1]; exact Blk.alloc (Blk.alloc (Blk.newAt hg1 _ _) _) _
  have HZ : Hid (Blk w1 g2 81 #[.int .i64 0, .int .u32 0, .int .u32 0, .int .u64 0, .int .u32 0, .int .u32 0, .int .u32 0, .slice none 0 0, .slice none 0 0, .slice none 0 0, .int .i64 0, .int .u32 0, .slice none 0 0, .int .i64 0, .int .i64 0, .slice none 0 0]) := by show Blk _ _ _ _; rw [hw1]; exact Blk.alloc (Blk.newAt (by simp; exact hg2) _ _) _
  have HX : Hid (Blk w1 gx 81 #[.int .i64 6, .int .u32 (fr : Int), .int .u32 0, .int .u64 0, .int .u32 0, .int .u32 0, .int .u32 0, .slice none 0 0, .slice none 0 0, .slice none 0 0, .int .i64 0, .int .u32 0, .slice none 0 0, .int .i64 0, .int .i64 0, .slice none 0 0]) := by show Blk _ _ _ _; rw [hw1]; exact Blk.newAt (by simp; exact hgx) _ _
  have HB : Hid (Below w.heap.size w w1) := by show Below _ _ _; rw [hw1]; exact balloc (balloc (balloc (Below.refl _ _) _) _) _
  have HLT : Hid (w.heap.size ≤ g1 ∧ g1 < g2 ∧ g2 < gx) := ⟨by omega, by omega, by omega⟩
  go_enter Tryz.func73, Tryz.ntmps73
  go_upto_region 2 with fail
  rw [← hw1, ← hgx, ← hg2, ← hg1]
  clear hw1 hgx hg2 hg1 hC1
  have k0 : w1.cell? ⟨g1, 0, none⟩ = some (.int .i64 6) := HG.out.cell 0
  go_upto_region 16 with fail
  clear k0
  have hne : g1 ≠ gx := by have := HLT.out; omega
  have hne2 : g2 ≠ gx := by have := HLT.out; omega
  have hwx : w.heap.size ≤ gx := by have := HLT.out; omega
  have HG0 : Hid (Blk (World.drew w1) g1 81 #[.int .i64 6, .int .u32 (fr : Int), .int .u32 (ab : Int), .int .u64 (ntp : Int), .int .u32 (ts : Int), .int .u32 (pk : Int), .int .u32 (oc : Int), .slice Ab nb cb, .slice Ap np cp, .slice Af nf cf, .int .i64 ex, .int .u32 (mt : Int), .slice As ns cs, .int .i64 ty, .int .i64 ct, .slice Ad nd cd]) := HG.out
  have HZ0 : Hid (Blk (World.drew w1) g2 81 #[.int .i64 0, .int .u32 0, .int .u32 0, .int .u64 0, .int .u32 0, .int .u32 0, .int .u32 0, .slice none 0 0, .slice none 0 0, .slice none 0 0, .int .i64 0, .int .u32 0, .slice none 0 0, .int .i64 0, .int .i64 0, .slice none 0 0]) := HZ.out
  have HX0 : Hid (Blk (World.drew w1) gx 81 #[.int .i64 6, .int .u32 (fr : Int), .int .u32 0, .int .u64 0, .int .u32 0, .int .u32 0, .int .u32 0, .slice none 0 0, .slice none 0 0, .slice none 0 0, .int .i64 0, .int .u32 0, .slice none 0 0, .int .i64 0, .int .i64 0, .slice none 0 0]) := HX.out
  have HB0 : Hid (Below w.heap.size w (World.drew w1)) := HB.out.drew
  refine wp_region_held_drew (S := (fun w2 => Blk w2 g1 81 #[.int .i64 6, .int .u32 (fr : Int), .int .u32 (ab : Int), .int .u64 (ntp : Int), .int .u32 (ts : Int), .int .u32 (pk : Int), .int .u32 (oc : Int), .slice Ab nb cb, .slice Ap np cp, .slice Af nf cf, .int .i64 ex, .int .u32 (mt : Int), .slice As ns cs, .int .i64 ty, .int .i64 ct, .slice Ad nd cd])) (by kernel_rfl) (HG0.out) (fun hHeld => ?_)
  refine wpAnyH_takeAt (i := 0) (v := (.pointer (some ⟨g1, 2, none⟩))) rfl (by kernel_rfl) (by kernel_rfl) (by kernel_rfl) (fun _ _ _ h => h) rfl (Or.inl ⟨by rfl, fun w' hS => ?_⟩) hHeld ?_
  · go_simp
  simp only [List.set_cons_zero, List.set_cons_succ]
  refine wpAnyH_takeAt (i := 1) (v := (.int .u32 (ab : Int))) rfl (by kernel_rfl) (by kernel_rfl) (by kernel_rfl) (fun _ _ _ h => h) rfl (Or.inl ⟨by rfl, fun w' hS => ?_⟩) hHeld ?_
  · have hc := hS.cell 2
    have hc' : w'.cell? ⟨g1, 2, none⟩ = some (.int .u32 (ab : Int)) := hc
    go_simp
  simp only [List.set_cons_zero, List.set_cons_succ]
  refine wpAnyH_takeAt (i := 2) (v := (.pointer (some ⟨g1, 10, none⟩))) rfl (by kernel_rfl) (by kernel_rfl) (by kernel_rfl) (fun _ _ _ h => h) rfl (Or.inl ⟨by rfl, fun w' hS => ?_⟩) hHeld ?_
  · go_simp
  simp only [List.set_cons_zero, List.set_cons_succ]
  refine wpAnyH_takeAt (i := 3) (v := (.int .i64 ex)) rfl (by kernel_rfl) (by kernel_rfl) (by kernel_rfl) (fun _ _ _ h => h) rfl (Or.inl ⟨by rfl, fun w' hS => ?_⟩) hHeld ?_
  · have hc := hS.cell 10
    have hc' : w'.cell? ⟨g1, 10, none⟩ = some (.int .i64 ex) := hc
    go_simp
  simp only [List.set_cons_zero, List.set_cons_succ]
  refine wpAnyH_takeAt (i := 4) (v := (.pointer (some ⟨g1, 11, none⟩))) rfl (by kernel_rfl) (by kernel_rfl) (by kernel_rfl) (fun _ _ _ h => h) rfl (Or.inl ⟨by rfl, fun w' hS => ?_⟩) hHeld ?_
  · go_simp
  simp only [List.set_cons_zero, List.set_cons_succ]
  refine wpAnyH_takeAt (i := 5) (v := (.int .u32 (mt : Int))) rfl (by kernel_rfl) (by kernel_rfl) (by kernel_rfl) (fun _ _ _ h => h) rfl (Or.inl ⟨by rfl, fun w' hS => ?_⟩) hHeld ?_
  · have hc := hS.cell 11
    have hc' : w'.cell? ⟨g1, 11, none⟩ = some (.int .u32 (mt : Int)) := hc
    go_simp
  simp only [List.set_cons_zero, List.set_cons_succ]
  refine wpAnyH_takeAt (i := 6) (v := (.pointer (some ⟨g1, 12, none⟩))) rfl (by kernel_rfl) (by kernel_rfl) (by kernel_rfl) (fun _ _ _ h => h) rfl (Or.inl ⟨by rfl, fun w' hS => ?_⟩) hHeld ?_
  · go_simp
  simp only [List.set_cons_zero, List.set_cons_succ]
  refine wpAnyH_takeAt (i := 7) (v := (.slice As ns cs)) rfl (by kernel_rfl) (by kernel_rfl) (by kernel_rfl) (fun _ _ _ h => h) rfl (Or.inl ⟨by rfl, fun w' hS => ?_⟩) hHeld ?_
  · have hc := hS.cell 12
    have hc' : w'.cell? ⟨g1, 12, none⟩ = some (.slice As ns cs) := hc
    go_simp
  simp only [List.set_cons_zero, List.set_cons_succ]
  refine wpAnyH_takeAt (i := 8) (v := (.pointer (some ⟨gx, 2, none⟩))) rfl (by kernel_rfl) (by kernel_rfl) (by kernel_rfl) (fun _ _ _ h => h) rfl (Or.inl ⟨by rfl, fun w' hS => ?_⟩) hHeld ?_
  · go_simp
  simp only [List.set_cons_zero, List.set_cons_succ]
  refine wpAnyH_ready (rs := [9]) (by kernel_rfl) (by simp) (AllReadyH.cons rfl (fun K' hK => ?_) AllReadyH.nil)
  have hcell : (World.drew w1).cell? ⟨gx, 2, none⟩ = some (.int .u32 0) := HX0.out.cell 2
  have hfree : (World.drew w1).frozen? ⟨gx, 2, none⟩ = false := HX0.out.frozen 2
  have hcell0 : w1.cell? ⟨gx, 2, none⟩ = some (.int .u32 0) := HX0.out.cell 2
  have hfree0 : w1.frozen? ⟨gx, 2, none⟩ = false := HX0.out.frozen 2
  go_simp
  clear hcell hfree hcell0 hfree0
  have HG1 : Hid (Blk (World.setCell (World.drew w1) ⟨gx, 2, none⟩ (.int .u32 (ab : Int))) g1 81 #[.int .i64 6, .int .u32 (fr : Int), .int .u32 (ab : Int), .int .u64 (ntp : Int), .int .u32 (ts : Int), .int .u32 (pk : Int), .int .u32 (oc : Int), .slice Ab nb cb, .slice Ap np cp, .slice Af nf cf, .int .i64 ex, .int .u32 (mt : Int), .slice As ns cs, .int .i64 ty, .int .i64 ct, .slice Ad nd cd]) := HG0.out.far (p := ⟨gx, 2, none⟩) hne _
  have HZ1 : Hid (Blk (World.setCell (World.drew w1) ⟨gx, 2, none⟩ (.int .u32 (ab : Int))) g2 81 #[.int .i64 0, .int .u32 0, .int .u32 0, .int .u64 0, .int .u32 0, .int .u32 0, .int .u32 0, .slice none 0 0, .slice none 0 0, .slice none 0 0, .int .i64 0, .int .u32 0, .slice none 0 0, .int .i64 0, .int .i64 0, .slice none 0 0]) := HZ0.out.far (p := ⟨gx, 2, none⟩) hne2 _
  have HX1 : Hid (Blk (World.setCell (World.drew w1) ⟨gx, 2, none⟩ (.int .u32 (ab : Int))) gx 81 #[.int .i64 6, .int .u32 (fr : Int), .int .u32 (ab : Int), .int .u64 0, .int .u32 0, .int .u32 0, .int .u32 0, .slice none 0 0, .slice none 0 0, .slice none 0 0, .int .i64 0, .int .u32 0, .slice none 0 0, .int .i64 0, .int .i64 0, .slice none 0 0]) := HX0.out.set_ 2 _
  have HB1 : Hid (Below w.heap.size w (World.setCell (World.drew w1) ⟨gx, 2, none⟩ (.int .u32 (ab : Int)))) := bset HB0.out (p := ⟨gx, 2, none⟩) hwx _
  refine hK.out _ (World.setCell (World.drew w1) ⟨gx, 2, none⟩ (.int .u32 (ab : Int))) HG1.out (fun hHeld' => ?_)
  clear hK hHeld
  have hHeld := hHeld'
  clear hHeld'
  generalize (World.setCell (World.drew w1) ⟨gx, 2, none⟩ (.int .u32 (ab : Int))) = wn1 at *
  refine wpAnyH_takeAt (i := 10) (v := (.pointer (some ⟨gx, 10, none⟩))) rfl (by kernel_rfl) (by kernel_rfl) (by kernel_rfl) (fun _ _ _ h => h) rfl (Or.inl ⟨by rfl, fun w' hS => ?_⟩) hHeld ?_
  · go_simp
  simp only [List.set_cons_zero, List.set_cons_succ]
  refine wpAnyH_ready (rs := [11]) (by kernel_rfl) (by simp) (AllReadyH.cons rfl (fun K' hK => ?_) AllReadyH.nil)
  have hcell : wn1.cell? ⟨gx, 10, none⟩ = some (.int .i64 0) := HX1.out.cell 10
  have hfree : wn1.frozen? ⟨gx, 10, none⟩ = false := HX1.out.frozen 10
  have hcell0 : w1.cell? ⟨gx, 10, none⟩ = some (.int .i64 0) := HX0.out.cell 10
  have hfree0 : w1.frozen? ⟨gx, 10, none⟩ = false := HX0.out.frozen 10
  go_simp
  clear hcell hfree hcell0 hfree0
  have HG2 : Hid (Blk (World.setCell wn1 ⟨gx, 10, none⟩ (.int .i64 ex)) g1 81 #[.int .i64 6, .int .u32 (fr : Int), .int .u32 (ab : Int), .int .u64 (ntp : Int), .int .u32 (ts : Int), .int .u32 (pk : Int), .int .u32 (oc : Int), .slice Ab nb cb, .slice Ap np cp, .slice Af nf cf, .int .i64 ex, .int .u32 (mt : Int), .slice As ns cs, .int .i64 ty, .int .i64 ct, .slice Ad nd cd]) := HG1.out.far (p := ⟨gx, 10, none⟩) hne _
  have HZ2 : Hid (Blk (World.setCell wn1 ⟨gx, 10, none⟩ (.int .i64 ex)) g2 81 #[.int .i64 0, .int .u32 0, .int .u32 0, .int .u64 0, .int .u32 0, .int .u32 0, .int .u32 0, .slice none 0 0, .slice none 0 0, .slice none 0 0, .int .i64 0, .int .u32 0, .slice none 0 0, .int .i64 0, .int .i64 0, .slice none 0 0]) := HZ1.out.far (p := ⟨gx, 10, none⟩) hne2 _
  have HX2 : Hid (Blk (World.setCell wn1 ⟨gx, 10, none⟩ (.int .i64 ex)) gx 81 #[.int .i64 6, .int .u32 (fr : Int), .int .u32 (ab : Int), .int .u64 0, .int .u32 0, .int .u32 0, .int .u32 0, .slice none 0 0, .slice none 0 0, .slice none 0 0, .int .i64 ex, .int .u32 0, .slice none 0 0, .int .i64 0, .int .i64 0, .slice none 0 0]) := HX1.out.set_ 10 _
  have HB2 : Hid (Below w.heap.size w (World.setCell wn1 ⟨gx, 10, none⟩ (.int .i64 ex))) := bset HB1.out (p := ⟨gx, 10, none⟩) hwx _
  refine hK.out _ (World.setCell wn1 ⟨gx, 10, none⟩ (.int .i64 ex)) HG2.out (fun hHeld' => ?_)
  clear hK hHeld
  have hHeld := hHeld'
  clear hHeld'
  generalize (World.setCell wn1 ⟨gx, 10, none⟩ (.int .i64 ex)) = wn2 at *
  refine wpAnyH_takeAt (i := 12) (v := (.pointer (some ⟨gx, 11, none⟩))) rfl (by kernel_rfl) (by kernel_rfl) (by kernel_rfl) (fun _ _ _ h => h) rfl (Or.inl ⟨by rfl, fun w' hS => ?_⟩) hHeld ?_
  · go_simp
  simp only [List.set_cons_zero, List.set_cons_succ]
  refine wpAnyH_ready (rs := [13]) (by kernel_rfl) (by simp) (AllReadyH.cons rfl (fun K' hK => ?_) AllReadyH.nil)
  have hcell : wn2.cell? ⟨gx, 11, none⟩ = some (.int .u32 0) := HX2.out.cell 11
  have hfree : wn2.frozen? ⟨gx, 11, none⟩ = false := HX2.out.frozen 11
  have hcell0 : w1.cell? ⟨gx, 11, none⟩ = some (.int .u32 0) := HX0.out.cell 11
  have hfree0 : w1.frozen? ⟨gx, 11, none⟩ = false := HX0.out.frozen 11
  go_simp
  clear hcell hfree hcell0 hfree0
  have HG3 : Hid (Blk (World.setCell wn2 ⟨gx, 11, none⟩ (.int .u32 (mt : Int))) g1 81 #[.int .i64 6, .int .u32 (fr : Int), .int .u32 (ab : Int), .int .u64 (ntp : Int), .int .u32 (ts : Int), .int .u32 (pk : Int), .int .u32 (oc : Int), .slice Ab nb cb, .slice Ap np cp, .slice Af nf cf, .int .i64 ex, .int .u32 (mt : Int), .slice As ns cs, .int .i64 ty, .int .i64 ct, .slice Ad nd cd]) := HG2.out.far (p := ⟨gx, 11, none⟩) hne _
  have HZ3 : Hid (Blk (World.setCell wn2 ⟨gx, 11, none⟩ (.int .u32 (mt : Int))) g2 81 #[.int .i64 0, .int .u32 0, .int .u32 0, .int .u64 0, .int .u32 0, .int .u32 0, .int .u32 0, .slice none 0 0, .slice none 0 0, .slice none 0 0, .int .i64 0, .int .u32 0, .slice none 0 0, .int .i64 0, .int .i64 0, .slice none 0 0]) := HZ2.out.far (p := ⟨gx, 11, none⟩) hne2 _
  have HX3 : Hid (Blk (World.setCell wn2 ⟨gx, 11, none⟩ (.int .u32 (mt : Int))) gx 81 #[.int .i64 6, .int .u32 (fr : Int), .int .u32 (ab : Int), .int .u64 0, .int .u32 0, .int .u32 0, .int .u32 0, .slice none 0 0, .slice none 0 0, .slice none 0 0, .int .i64 ex, .int .u32 (mt : Int), .slice none 0 0, .int .i64 0, .int .i64 0, .slice none 0 0]) := HX2.out.set_ 11 _
  have HB3 : Hid (Below w.heap.size w (World.setCell wn2 ⟨gx, 11, none⟩ (.int .u32 (mt : Int)))) := bset HB2.out (p := ⟨gx, 11, none⟩) hwx _
  refine hK.out _ (World.setCell wn2 ⟨gx, 11, none⟩ (.int .u32 (mt : Int))) HG3.out (fun hHeld' => ?_)
  clear hK hHeld
  have hHeld := hHeld'
  clear hHeld'
  generalize (World.setCell wn2 ⟨gx, 11, none⟩ (.int .u32 (mt : Int))) = wn3 at *
  refine wpAnyH_takeAt (i := 14) (v := (.pointer (some ⟨gx, 12, none⟩))) rfl (by kernel_rfl) (by kernel_rfl) (by kernel_rfl) (fun _ _ _ h => h) rfl (Or.inl ⟨by rfl, fun w' hS => ?_⟩) hHeld ?_
  · go_simp
  simp only [List.set_cons_zero, List.set_cons_succ]
  refine wpAnyH_ready (rs := [15]) (by kernel_rfl) (by simp) (AllReadyH.cons rfl (fun K' hK => ?_) AllReadyH.nil)
  have hcell : wn3.cell? ⟨gx, 12, none⟩ = some (.slice none 0 0) := HX3.out.cell 12
  have hfree : wn3.frozen? ⟨gx, 12, none⟩ = false := HX3.out.frozen 12
  have hcell0 : w1.cell? ⟨gx, 12, none⟩ = some (.slice none 0 0) := HX0.out.cell 12
  have hfree0 : w1.frozen? ⟨gx, 12, none⟩ = false := HX0.out.frozen 12
  go_simp
  clear hcell hfree hcell0 hfree0
  have HG4 : Hid (Blk (World.setCell wn3 ⟨gx, 12, none⟩ (.slice As ns cs)) g1 81 #[.int .i64 6, .int .u32 (fr : Int), .int .u32 (ab : Int), .int .u64 (ntp : Int), .int .u32 (ts : Int), .int .u32 (pk : Int), .int .u32 (oc : Int), .slice Ab nb cb, .slice Ap np cp, .slice Af nf cf, .int .i64 ex, .int .u32 (mt : Int), .slice As ns cs, .int .i64 ty, .int .i64 ct, .slice Ad nd cd]) := HG3.out.far (p := ⟨gx, 12, none⟩) hne _
  have HZ4 : Hid (Blk (World.setCell wn3 ⟨gx, 12, none⟩ (.slice As ns cs)) g2 81 #[.int .i64 0, .int .u32 0, .int .u32 0, .int .u64 0, .int .u32 0, .int .u32 0, .int .u32 0, .slice none 0 0, .slice none 0 0, .slice none 0 0, .int .i64 0, .int .u32 0, .slice none 0 0, .int .i64 0, .int .i64 0, .slice none 0 0]) := HZ3.out.far (p := ⟨gx, 12, none⟩) hne2 _
  have HX4 : Hid (Blk (World.setCell wn3 ⟨gx, 12, none⟩ (.slice As ns cs)) gx 81 #[.int .i64 6, .int .u32 (fr : Int), .int .u32 (ab : Int), .int .u64 0, .int .u32 0, .int .u32 0, .int .u32 0, .slice none 0 0, .slice none 0 0, .slice none 0 0, .int .i64 ex, .int .u32 (mt : Int), .slice As ns cs, .int .i64 0, .int .i64 0, .slice none 0 0]) := HX3.out.set_ 12 _
  have HB4 : Hid (Below w.heap.size w (World.setCell wn3 ⟨gx, 12, none⟩ (.slice As ns cs))) := bset HB3.out (p := ⟨gx, 12, none⟩) hwx _
  refine hK.out _ (World.setCell wn3 ⟨gx, 12, none⟩ (.slice As ns cs)) HG4.out (fun hHeld' => ?_)
  clear hK hHeld
  have hHeld := hHeld'
  clear hHeld'
  generalize (World.setCell wn3 ⟨gx, 12, none⟩ (.slice As ns cs)) = wn4 at *
  refine wpAnyH_done (by kernel_rfl) ?_ _
  go_upto_region 17 with fail
  have HXF : Hid (Blk wn4 gx 81 #[.int .i64 6, .int .u32 (fr : Int), .int .u32 (ab : Int), .int .u64 0, .int .u32 0, .int .u32 0, .int .u32 0, .slice none 0 0, .slice none 0 0, .slice none 0 0, .int .i64 ex, .int .u32 (mt : Int), .slice As ns cs, .int .i64 0, .int .i64 0, .slice none 0 0]) := HX4.out
  have HZF := HZ4
  have HBF := HB4
  obtain ⟨wf, hwf⟩ : ∃ wf, wf = wn4 := ⟨_, rfl⟩
  rw [← hwf] at HXF HZF HBF ⊢
  clear hwf
  obtain ⟨R, hR⟩ : ∃ R, R = (#[.int .i64 6, .int .u32 (fr : Int), .int .u32 (ab : Int), .int .u64 0, .int .u32 0, .int .u32 0, .int .u32 0, .slice none 0 0, .slice none 0 0, .slice none 0 0, .int .i64 ex, .int .u32 (mt : Int), .slice As ns cs, .int .i64 0, .int .i64 0, .slice none 0 0] : Array Value).toList := ⟨_, rfl⟩
  have HRA : Hid (R.toArray = #[.int .i64 6, .int .u32 (fr : Int), .int .u32 (ab : Int), .int .u64 0, .int .u32 0, .int .u32 0, .int .u32 0, .slice none 0 0, .slice none 0 0, .slice none 0 0, .int .i64 ex, .int .u32 (mt : Int), .slice As ns cs, .int .i64 0, .int .i64 0, .slice none 0 0]) := by show _ = _; rw [hR]
  have HRL : Hid (R.length = 16) := by show _ = _; rw [hR]; rfl
  have HR1 : Hid (R.toArray.all (·.oneCell') = true) := by show _ = _; rw [hR]; simp [Value.oneCell']
  clear hR
  have HI : Hid ((Tryz.prog.info? 81).map (·.size) = some R.length) := by show _ = _; rw [HRL.out]; exact infoRep
  have HJ : Hid ((Tryz.prog.info? 81).map (·.size) = some R.toArray.size) := by show _ = _; rw [List.size_toArray, HRL.out]; exact infoRep
  have HXR : Hid (Blk wf gx 81 R.toArray) := by show Blk _ _ _ _; rw [HRA.out]; exact HXF.out
  have HRG : Hid (wf.rangeAt gx 0 R) := blk_range HXR.out
  have HTH : Hid (wf.there g2 0 R.toArray.size) := by show World.there _ _ _ R.toArray.size; rw [List.size_toArray, HRL.out]; exact blk_there0 (l := (#[.int .i64 0, .int .u32 0, .int .u32 0, .int .u64 0, .int .u32 0, .int .u32 0, .int .u32 0, .slice none 0 0, .slice none 0 0, .slice none 0 0, .int .i64 0, .int .u32 0, .slice none 0 0, .int .i64 0, .int .i64 0, .slice none 0 0] : Array Value).toList) HZF.out rfl
  go_wp2_with (first
    | ((with_reducible show wpList _ _ _ (⟨some 78, .load 81 (.tmp 3), _, _, _, _⟩ :: _) _ _); refine wpList_load_mid rfl 81 (.tmp 3) rfl gx 0 rfl R _ HRG.out Tryz.underlying81 rfl HI.out ?_)
    | ((with_reducible show wpList _ _ _ (⟨none, .store 81 (.tmp 2) (.tmp 78), _, _, _, _⟩ :: _) _ _); refine wpList_store_mid rfl 81 (.tmp 2) (.tmp 78) rfl g2 0 R.toArray rfl rfl HTH.out HJ.out HR1.out ?_))
  have hst : Blk (wf.setCells g2 0 R) g2 81 R.toArray := blk_setAll (l := (#[.int .i64 0, .int .u32 0, .int .u32 0, .int .u64 0, .int .u32 0, .int .u32 0, .int .u32 0, .slice none 0 0, .slice none 0 0, .slice none 0 0, .int .i64 0, .int .u32 0, .slice none 0 0, .int .i64 0, .int .i64 0, .slice none 0 0] : Array Value).toList) HZF.out (by rw [HRL.out]; rfl)
  have hload := run_loadVar_mid (P := Tryz.prog) (wf.setCells g2 0 R) g2 0 81 R _ (blk_range hst) Tryz.underlying81 rfl HI.out
  exact bodyPost_ret (results_one rfl _ _ g2 _ rfl hload) rfl ⟨by rw [HRA.out], below_setCells HBF.out (by have := HLT.out; omega) _ _⟩
end Go.Proofs.YtmkifedcanmjoaaGreat
/- What Good tells of a report of one kind (contract). Conditions: what it has lies in memory. (Printed by gen8g.py.) -/
set_option linter.unusedVariables false
set_option linter.unusedSimpArgs false
namespace Go.Proofs.YtmkifedcanmjoaaGreat
open Go.RowKit
attribute [local go_sem ↓] Go.wp_at_zero Go.wp_at_succ

set_option maxRecDepth 100000 in
set_option maxHeartbeats 12800000 in
theorem good6_c (fr ab ntp ts pk oc mt nb cb np cp nf cf ns cs nd cd : Nat) (ex ty ct : Int) (Ab Ap Af As Ad : Option Addr) (w : World) (hx1 : -9223372036854775808 ≤ ex) (hx2 : ex ≤ 9223372036854775807) :
    Calls Tryz.prog 43 #[.agg #[.int .i64 6, .int .u32 (fr : Int), .int .u32 (ab : Int), .int .u64 (ntp : Int), .int .u32 (ts : Int), .int .u32 (pk : Int), .int .u32 (oc : Int), .slice Ab nb cb, .slice Ap np cp, .slice Af nf cf, .int .i64 ex, .int .u32 (mt : Int), .slice As ns cs, .int .i64 ty, .int .i64 ct, .slice Ad nd cd]] w (BoolIs (AlikeV fr ab ntp ts pk oc mt nb cb np cp nf cf ns cs nd cd ex ty ct Ab Ap Af As Ad fr ab 0 0 0 0 mt 0 0 0 0 0 0 ns cs 0 0 ex 0 0 none none none As none ∧ (ns ≤ 255 ∧ 0 ≤ ex ∧ ex ≤ 63 ∧ mt < 262144)) w) := by
  obtain ⟨P, hP⟩ : ∃ P : Prop, P = (AlikeV fr ab ntp ts pk oc mt nb cb np cp nf cf ns cs nd cd ex ty ct Ab Ap Af As Ad fr ab 0 0 0 0 mt 0 0 0 0 0 0 ns cs 0 0 ex 0 0 none none none As none ∧ (ns ≤ 255 ∧ 0 ≤ ex ∧ ex ≤ 63 ∧ mt < 262144)) := ⟨_, rfl⟩
  rw [← hP]
  obtain ⟨g1, hg1⟩ : ∃ g1, g1 = w.heap.size := ⟨_, rfl⟩
  obtain ⟨w1, hw1⟩ : ∃ w1, w1 = w.alloc (.cells #[.int .i64 6, .int .u32 (fr : Int), .int .u32 (ab : Int), .int .u64 (ntp : Int), .int .u32 (ts : Int), .int .u32 (pk : Int), .int .u32 (oc : Int), .slice Ab nb cb, .slice Ap np cp, .slice Af nf cf, .int .i64 ex, .int .u32 (mt : Int), .slice As ns cs, .int .i64 ty, .int .i64 ct, .slice Ad nd cd] 81) := ⟨_, rfl⟩
  have HG : Hid (Blk w1 g1 81 #[.int .i64 6, .int .u32 (fr : Int), .int .u32 (ab : Int), .int .u64 (ntp : Int), .int .u32 (ts : Int), .int .u32 (pk : Int), .int .u32 (oc : Int), .slice Ab nb cb, .slice Ap np cp, .slice Af nf cf, .int .i64 ex, .int .u32 (mt : Int), .slice As ns cs, .int .i64 ty, .int .i64 ct, .slice Ad nd cd]) := by show Blk _ _ _ _; rw [hw1]; exact Blk.newAt hg1 _ _
  have HB : Hid (Below w.heap.size w w1) := by show Below _ _ _; rw [hw1]; exact balloc (Below.refl _ _) _
  have HPE := Lib.hid hP
  have HGL : Hid (g1 < w1.heap.size) := HG.out.lt
  clear hP
  go_enter Tryz.func43, Tryz.ntmps43
  go_upto_region 1 with fail
  rw [← hw1, ← hg1]
  clear hw1 hg1
  obtain ⟨Bq, hBq⟩ : ∃ Bq, Bq = w1.heap.size := ⟨_, rfl⟩
  have HBQ := Lib.hid hBq
  clear hBq
  have HBd : Hid (Below w1.heap.size w1 (World.drew w1)) := bdrew (Below.refl _ _)
  have HI : Hid ((Tryz.prog.info? 81).map (·.size) = some ([.int .i64 6, .int .u32 (fr : Int), .int .u32 (ab : Int), .int .u64 (ntp : Int), .int .u32 (ts : Int), .int .u32 (pk : Int), .int .u32 (oc : Int), .slice Ab nb cb, .slice Ap np cp, .slice Af nf cf, .int .i64 ex, .int .u32 (mt : Int), .slice As ns cs, .int .i64 ty, .int .i64 ct, .slice Ad nd cd] : List Value).length) := infoRep
  have HRG : Hid (w1.rangeAt g1 0 [.int .i64 6, .int .u32 (fr : Int), .int .u32 (ab : Int), .int .u64 (ntp : Int), .int .u32 (ts : Int), .int .u32 (pk : Int), .int .u32 (oc : Int), .slice Ab nb cb, .slice Ap np cp, .slice Af nf cf, .int .i64 ex, .int .u32 (mt : Int), .slice As ns cs, .int .i64 ty, .int .i64 ct, .slice Ad nd cd]) := blk_range (l := [.int .i64 6, .int .u32 (fr : Int), .int .u32 (ab : Int), .int .u64 (ntp : Int), .int .u32 (ts : Int), .int .u32 (pk : Int), .int .u32 (oc : Int), .slice Ab nb cb, .slice Ap np cp, .slice Af nf cf, .int .i64 ex, .int .u32 (mt : Int), .slice As ns cs, .int .i64 ty, .int .i64 ct, .slice Ad nd cd]) HG.out
  refine wp_region_held_drew (S := (fun w2 => Below Bq w1 w2)) (by kernel_rfl) (HBQ.out.symm ▸ HBd.out) (fun hHeld => ?_)
  refine wpAnyH_takeAt (i := 0) (v := (.pointer (some ⟨g1, 0, none⟩))) rfl (by kernel_rfl) (by kernel_rfl) (by kernel_rfl) (fun _ _ _ h => h) rfl (Or.inl ⟨by rfl, fun w' hS => ?_⟩) hHeld ?_
  · go_simp
  simp only [List.set_cons_zero, List.set_cons_succ]
  refine wpAnyH_takeAt (i := 1) (v := (.int .i64 6)) rfl (by kernel_rfl) (by kernel_rfl) (by kernel_rfl) (fun _ _ _ h => h) rfl (Or.inl ⟨by rfl, fun w' hS => ?_⟩) hHeld ?_
  · have hc := (Below.cell hS (p := ⟨g1, 0, none⟩) (HBQ.out.symm ▸ HGL.out)).trans (HG.out.cell 0)
    have hc' : w'.cell? ⟨g1, 0, none⟩ = some (.int .i64 6) := hc
    go_simp
  simp only [List.set_cons_zero, List.set_cons_succ]
  refine wpAnyH_takeAt (i := 2) (v := (.bool false)) rfl (by kernel_rfl) (by kernel_rfl) (by kernel_rfl) (fun _ _ _ h => h) rfl (Or.inl ⟨by rfl, fun w' hS => ?_⟩) hHeld ?_
  · go_simp
  simp only [List.set_cons_zero, List.set_cons_succ]
  refine wpAnyH_takeAt (i := 3) (v := (.bool false)) rfl (by kernel_rfl) (by kernel_rfl) (by kernel_rfl) (fun _ _ _ h => h) rfl (Or.inl ⟨by rfl, fun w' hS => ?_⟩) hHeld ?_
  · go_simp
  simp only [List.set_cons_zero, List.set_cons_succ]
  refine wpAnyH_takeAt (i := 4) (v := (.pointer (some ⟨g1, 0, none⟩))) rfl (by kernel_rfl) (by kernel_rfl) (by kernel_rfl) (fun _ _ _ h => h) rfl (Or.inl ⟨by rfl, fun w' hS => ?_⟩) hHeld ?_
  · go_simp
  simp only [List.set_cons_zero, List.set_cons_succ]
  refine wpAnyH_takeAt (i := 5) (v := (.int .i64 6)) rfl (by kernel_rfl) (by kernel_rfl) (by kernel_rfl) (fun _ _ _ h => h) rfl (Or.inl ⟨by rfl, fun w' hS => ?_⟩) hHeld ?_
  · have hc := (Below.cell hS (p := ⟨g1, 0, none⟩) (HBQ.out.symm ▸ HGL.out)).trans (HG.out.cell 0)
    have hc' : w'.cell? ⟨g1, 0, none⟩ = some (.int .i64 6) := hc
    go_simp
  simp only [List.set_cons_zero, List.set_cons_succ]
  refine wpAnyH_takeAt (i := 6) (v := (.bool false)) rfl (by kernel_rfl) (by kernel_rfl) (by kernel_rfl) (fun _ _ _ h => h) rfl (Or.inl ⟨by rfl, fun w' hS => ?_⟩) hHeld ?_
  · go_simp
  simp only [List.set_cons_zero, List.set_cons_succ]
  refine wpAnyH_takeAt (i := 7) (v := (.bool false)) rfl (by kernel_rfl) (by kernel_rfl) (by kernel_rfl) (fun _ _ _ h => h) rfl (Or.inl ⟨by rfl, fun w' hS => ?_⟩) hHeld ?_
  · go_simp
  simp only [List.set_cons_zero, List.set_cons_succ]
  refine wpAnyH_takeAt (i := 8) (v := (.bool false)) rfl (by kernel_rfl) (by kernel_rfl) (by kernel_rfl) (fun _ _ _ h => h) rfl (Or.inl ⟨by rfl, fun w' hS => ?_⟩) hHeld ?_
  · go_simp
  simp only [List.set_cons_zero, List.set_cons_succ]
  refine wpAnyH_takeAt (i := 9) (v := (.agg #[.int .i64 6, .int .u32 (fr : Int), .int .u32 (ab : Int), .int .u64 (ntp : Int), .int .u32 (ts : Int), .int .u32 (pk : Int), .int .u32 (oc : Int), .slice Ab nb cb, .slice Ap np cp, .slice Af nf cf, .int .i64 ex, .int .u32 (mt : Int), .slice As ns cs, .int .i64 ty, .int .i64 ct, .slice Ad nd cd])) rfl (by kernel_rfl) (by kernel_rfl) (by kernel_rfl) (fun _ _ _ h => h) rfl (yieldsIf_load_mid (by rfl) 81 _ rfl g1 0 rfl [.int .i64 6, .int .u32 (fr : Int), .int .u32 (ab : Int), .int .u64 (ntp : Int), .int .u32 (ts : Int), .int .u32 (pk : Int), .int .u32 (oc : Int), .slice Ab nb cb, .slice Ap np cp, .slice Af nf cf, .int .i64 ex, .int .u32 (mt : Int), .slice As ns cs, .int .i64 ty, .int .i64 ct, .slice Ad nd cd] _ (fun w' hS => below_range HRG.out hS (HBQ.out.symm ▸ HGL.out)) Tryz.underlying81 rfl HI.out) hHeld ?_
  simp only [List.set_cons_zero, List.set_cons_succ]
  refine wpAnyH_takeAt (i := 10) (v := (.agg #[.int .i64 6, .int .u32 (fr : Int), .int .u32 (ab : Int), .int .u64 (ntp : Int), .int .u32 (ts : Int), .int .u32 (pk : Int), .int .u32 (oc : Int), .slice Ab nb cb, .slice Ap np cp, .slice Af nf cf, .int .i64 ex, .int .u32 (mt : Int), .slice As ns cs, .int .i64 ty, .int .i64 ct, .slice Ad nd cd])) rfl (by kernel_rfl) (by kernel_rfl) (by kernel_rfl) (fun _ _ _ h => h) rfl (yieldsIf_load_mid (by rfl) 81 _ rfl g1 0 rfl [.int .i64 6, .int .u32 (fr : Int), .int .u32 (ab : Int), .int .u64 (ntp : Int), .int .u32 (ts : Int), .int .u32 (pk : Int), .int .u32 (oc : Int), .slice Ab nb cb, .slice Ap np cp, .slice Af nf cf, .int .i64 ex, .int .u32 (mt : Int), .slice As ns cs, .int .i64 ty, .int .i64 ct, .slice Ad nd cd] _ (fun w' hS => below_range HRG.out hS (HBQ.out.symm ▸ HGL.out)) Tryz.underlying81 rfl HI.out) hHeld ?_
  simp only [List.set_cons_zero, List.set_cons_succ]
  refine wpAnyH_ready (rs := [11]) (by kernel_rfl) (by simp) (AllReadyH.cons rfl (fun K' hK => ?_) AllReadyH.nil)
  go_simp
  go_at_call 73
  refine (bare6_c _ _ _ _ _ _ _ _ _ _ _ _ _ _ _ _ _ _ _ _ _ _ _ _ _ _).mono ?_
  rintro e0 w2 ⟨rfl, hb2⟩
  go_wp2_with fail
  have HB2 : Hid (Below w1.heap.size w1 w2) := bcall HBd.out hb2
  clear hb2
  refine hK.out _ _ (HBQ.out.symm ▸ HB2.out) (fun hHeld' => ?_)
  clear hK hHeld
  have hHeld := hHeld'
  clear hHeld'
  refine wpAnyH_ready (rs := [12]) (by kernel_rfl) (by simp) (AllReadyH.cons rfl (fun K' hK => ?_) AllReadyH.nil)
  go_simp
  go_at_call 72
  refine (alike_c _ _ fr ab ntp ts pk oc mt nb cb np cp nf cf ns cs nd cd ex ty ct Ab Ap Af As Ad fr ab 0 0 0 0 mt 0 0 0 0 0 0 ns cs 0 0 ex 0 0 none none none As none _).mono ?_
  rintro e0 w3 ⟨q, rfl, hq, hb3⟩
  go_wp2_with fail
  have HQ := Lib.hid hq
  have HB3 : Hid (Below w1.heap.size w1 w3) := bcall HB2.out hb3
  clear hq hb3
  refine hK.out _ _ (HBQ.out.symm ▸ HB3.out) (fun hHeld' => ?_)
  clear hK hHeld
  have hHeld := hHeld'
  clear hHeld'
  refine wpAnyH_takeAt (i := 13) (v := (.bool (!q))) rfl (by kernel_rfl) (by kernel_rfl) (by kernel_rfl) (fun _ _ _ h => h) rfl (Or.inl ⟨by rfl, fun w' hS => ?_⟩) hHeld ?_
  · go_simp
  simp only [List.set_cons_zero, List.set_cons_succ]
  refine wpAnyH_takeAt (i := 14) (v := (.bool (!q))) rfl (by kernel_rfl) (by kernel_rfl) (by kernel_rfl) (fun _ _ _ h => h) rfl (Or.inl ⟨by rfl, fun w' hS => ?_⟩) hHeld ?_
  · go_simp
  simp only [List.set_cons_zero, List.set_cons_succ]
  refine wpAnyH_done (by kernel_rfl) ?_ _
  have HBW : Hid (Below w.heap.size w w3) := bcall HB.out HB3.out
  cases q with
  | false =>
    have HN : Hid (¬ P) := by show ¬ P; rw [HPE.out]; exact fun h => absurd (HQ.out.2 h.1) (by decide)
    go_wp2_with fail
    go_ret
    exact BoolIs.no HN.out HBW.out
  | true =>
    have HA : Hid (P ↔ (ns ≤ 255 ∧ 0 ≤ ex ∧ ex ≤ 63 ∧ mt < 262144)) := by show _ ↔ _; rw [HPE.out]; exact and_iff_right (HQ.out.1 rfl)
    have HG3 : Hid (Blk w3 g1 81 #[.int .i64 6, .int .u32 (fr : Int), .int .u32 (ab : Int), .int .u64 (ntp : Int), .int .u32 (ts : Int), .int .u32 (pk : Int), .int .u32 (oc : Int), .slice Ab nb cb, .slice Ap np cp, .slice Af nf cf, .int .i64 ex, .int .u32 (mt : Int), .slice As ns cs, .int .i64 ty, .int .i64 ct, .slice Ad nd cd]) := HG.out.below HB3.out
    have k0 : w3.cell? ⟨g1, 0, none⟩ = some (.int .i64 6) := HG3.out.cell 0
    obtain ⟨mz, hmz⟩ : ∃ mz : Int, mz = (mt : Int) := ⟨_, rfl⟩
    have k12 : w3.cell? ⟨g1, 12, none⟩ = some (.slice As ns cs) := HG3.out.cell 12
    have k10 : w3.cell? ⟨g1, 10, none⟩ = some (.int .i64 ex) := HG3.out.cell 10
    have k11 : w3.cell? ⟨g1, 11, none⟩ = some (.int .u32 mz) := by rw [hmz]; exact HG3.out.cell 11
    have HMZ := Lib.hid hmz
    have HMI : Hid ((mt < 262144) ↔ mz < 262144) := by show _ ↔ _; omega
    clear hmz hx1 hx2
    by_cases h0 : ns ≤ 255
    case neg =>
      have n1 : ¬ ((ns : Int) ≤ 255) := by omega
      have n2 : decide ((ns : Int) ≤ 255) = false := by simp; omega
      have HN : Hid (¬ P) := by show ¬ P; rw [HA.out]; exact fun h => h0 h.1
      clear h0
      go_wp2_with fail
      go_ret
      exact BoolIs.no HN.out HBW.out
    have y0 : (ns : Int) ≤ 255 := by omega
    have z0 : decide ((ns : Int) ≤ 255) = true := by simp; omega
    by_cases h1 : 0 ≤ ex
    case neg =>
      have n1 : ¬ (0 ≤ ex) := by omega
      have n2 : decide (0 ≤ ex) = false := by simp; omega
      have HN : Hid (¬ P) := by show ¬ P; rw [HA.out]; exact fun h => h1 h.2.1
      clear h0 h1
      go_wp2_with fail
      go_ret
      exact BoolIs.no HN.out HBW.out
    have y1 : 0 ≤ ex := by omega
    have z1 : decide (0 ≤ ex) = true := by simp; omega
    by_cases h2 : ex ≤ 63
    case neg =>
      have n1 : ¬ (ex ≤ 63) := by omega
      have n2 : decide (ex ≤ 63) = false := by simp; omega
      have HN : Hid (¬ P) := by show ¬ P; rw [HA.out]; exact fun h => h2 h.2.2.1
      clear h0 h1 h2
      go_wp2_with fail
      go_ret
      exact BoolIs.no HN.out HBW.out
    have y2 : ex ≤ 63 := by omega
    have z2 : decide (ex ≤ 63) = true := by simp; omega
    by_cases h3 : mz < 262144
    case neg =>
      have n2 : decide (mz < 262144) = false := by simp; omega
      have HN : Hid (¬ P) := by show ¬ P; rw [HA.out]; exact fun h => h3 (HMI.out.1 h.2.2.2)
      clear h0 h1 h2 h3
      go_wp2_with fail
      go_ret
      exact BoolIs.no HN.out HBW.out
    have y3 : mz < 262144 := by omega
    have z3 : decide (mz < 262144) = true := by simp; omega
    have HY : Hid P := by show P; rw [HA.out]; exact ⟨h0, h1, h2, HMI.out.2 h3⟩
    clear h0 h1 h2 h3
    go_wp2_with fail
    go_ret
    exact BoolIs.yes HY.out HBW.out
end Go.Proofs.YtmkifedcanmjoaaGreat
