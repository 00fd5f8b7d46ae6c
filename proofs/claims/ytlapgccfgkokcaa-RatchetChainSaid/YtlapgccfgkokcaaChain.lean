/- What the chain's New, Step, At, Go do (contracts). Conditions: the chain lies in memory. (Printed by gen1c.py.) -/
import Derived.Test.YtlapgccfgkokcaaRatchet
set_option linter.unusedVariables false
set_option linter.unusedSimpArgs false
namespace Go.Proofs.Ytlapgccfgkokcaa
open Go.RowKit
attribute [local go_sem ↓] Go.wp_at_zero Go.wp_at_succ

set_option maxRecDepth 100000 in
set_option maxHeartbeats 1600000 in
theorem cnew_c (b : List UInt8) (A : Option Addr) (n c st : Nat) (w : World) (h : SlV w (.slice A n c) b) (hl : n ≤ 140737488355328) (hk : st ≤ 31) :
    Calls Try.prog 44 #[.int .i64 (st : Int), .slice A n c] w fun e w' => ∃ p A' c', e = .returned (.tuple #[.pointer (some ⟨p, 0, none⟩), .int .i64 0]) ∧ w.heap.size ≤ p ∧ Blk w' p 94 #[.int .i64 (st : Int), .slice A' n c'] ∧ SlV w' (.slice A' n c') b ∧ Below w.heap.size w w' := by
  have HW := Lib.hid (within_t (st : Int) w (by omega) (by omega))
  have HC := Lib.hid (clone_s b A n c w h hl)
  clear h
  go_enter Try.func44, Try.ntmps44
  go_wp2_with (first
    | (go_at_call 53
       refine HW.out.mono ?_
       rintro e0 wx ⟨rfl, rfl⟩)
    | (go_at_call 54
       refine HC.out.mono ?_
       rintro e0 w1 ⟨A1, c1, rfl, hs1, hb1⟩
       have HS1 := Lib.hid hs1
       have HB1 := Lib.hid hb1
       clear hs1 hb1))
  go_ret2
  exact ⟨w1.heap.size, A1, c1, rfl, HB1.out.size, Blk.new _ _ _, HS1.out.below (balloc (Below.refl _ _) _), balloc HB1.out _⟩
theorem cnew_bad (A : Option Addr) (n c : Nat) (z : Int) (w : World) (hz : z < 0 ∨ 31 < z) :
    Calls Try.prog 44 #[.int .i64 z, .slice A n c] w fun e w' => e = .returned (.tuple #[.pointer none, .int .i64 1]) ∧ w = w' := by
  have HW := Lib.hid (within_f z w hz)
  clear hz
  go_enter Try.func44, Try.ntmps44
  go_wp2_with (first
    | (go_at_call 53
       refine HW.out.mono ?_
       rintro e0 wx ⟨rfl, rfl⟩))
  go_ret2
  exact ⟨rfl, rfl⟩
theorem step_c (p st : Nat) (v : Value) (w : World) (h : Blk w p 94 #[.int .i64 (st : Int), v]) :
    Calls Try.prog 47 #[.pointer (some ⟨p, 0, none⟩)] w fun e w' => e = .returned (.int .i64 (st : Int)) ∧ w = w' := by
  have hc := h.cell2
  clear h
  go_enter Try.func47, Try.ntmps47
  go_wp2_with fail
  go_ret
  exact ⟨rfl, rfl⟩
theorem at_bad (p : Nat) (z : Int) (w : World) (hz : z < 0 ∨ 31 < z) :
    Calls Try.prog 45 #[.pointer (some ⟨p, 0, none⟩), .int .i64 z] w fun e w' => e = .returned (.tuple #[.slice none 0 0, .int .i64 1]) ∧ w = w' := by
  have HW := Lib.hid (within_f z w hz)
  clear hz
  go_enter Try.func45, Try.ntmps45
  go_wp2_with (first
    | (go_at_call 53
       refine HW.out.mono ?_
       rintro e0 wx ⟨rfl, rfl⟩))
  go_ret2
  exact ⟨rfl, rfl⟩
set_option maxRecDepth 100000 in
set_option maxHeartbeats 1600000 in
theorem at_old (p st z : Nat) (v : Value) (w : World) (h : Blk w p 94 #[.int .i64 (st : Int), v]) (hz : z ≤ 31) (hs : z < st) :
    Calls Try.prog 45 #[.pointer (some ⟨p, 0, none⟩), .int .i64 (z : Int)] w fun e w' => ∃ n, e = .returned (.tuple #[.slice none 0 0, .int .i64 9]) ∧ w' = w.drewN n := by
  have HW := Lib.hid (within_t (z : Int) w (by omega) (by omega))
  have hc := h.cell2
  have hlt : (z : Int) < (st : Int) := by omega
  clear h hz
  go_enter Try.func45, Try.ntmps45
  go_wp2_with (first
    | (go_at_call 53
       refine HW.out.mono ?_
       rintro e0 wx ⟨rfl, rfl⟩))
  go_ret2
  exact ⟨0, rfl, rfl⟩
set_option maxRecDepth 100000 in
set_option maxHeartbeats 3200000 in
theorem at_c (b : List UInt8) (A : Option Addr) (n c p st z : Nat) (w : World) (h : Blk w p 94 #[.int .i64 (st : Int), .slice A n c]) (hs : SlV w (.slice A n c) b) (hl : n ≤ 140737488355328) (hz : z ≤ 31) (hst : st ≤ z) :
    Calls Try.prog 45 #[.pointer (some ⟨p, 0, none⟩), .int .i64 (z : Int)] w fun e w' => ∃ A' n' c', e = .returned (.tuple #[.slice A' n' c', .int .i64 0]) ∧ SlV w' (.slice A' n' c') (iterS b (z - st)) ∧ Below w.heap.size w w' := by
  have HW := Lib.hid (within_t (z : Int) w (by omega) (by omega))
  obtain ⟨k, hk⟩ : ∃ k, k = z - st := ⟨_, rfl⟩
  have hc := h.cell2
  have hlt : ¬ (z : Int) < (st : Int) := by omega
  have hsub : IntKind.i64.wrap ((z : Int) - (st : Int)) = (k : Int) := by rw [IntKind.wrap_i64]; omega
  have HK31 : Hid (k ≤ 31) := by show k ≤ 31; omega
  have HK := Lib.hid h
  have HS := Lib.hid hs
  have HKE := Lib.hid hk
  clear h hs hz hst hk
  go_enter Try.func45, Try.ntmps45
  go_upto_region 5 with (first
    | (go_at_call 53
       refine HW.out.mono ?_
       rintro e0 wx ⟨rfl, rfl⟩))
  refine wp_region_held_drew (S := (fun w' => Blk w' p 94 #[.int .i64 (st : Int), .slice A n c] ∧ Below w.heap.size w w')) (by kernel_rfl) (⟨HK.out, bdrew (Below.refl _ _)⟩) (fun hHeld => ?_)
  refine wpAnyH_takeAt (i := 0) (v := (.pointer (some ⟨p, 0, none⟩))) rfl (by kernel_rfl) (by kernel_rfl) (by kernel_rfl) (fun _ _ _ h => h) rfl (Or.inl ⟨by rfl, fun w' hS => ?_⟩) hHeld ?_
  · go_simp
  simp only [List.set_cons_zero, List.set_cons_succ]
  refine wpAnyH_takeAt (i := 1) (v := (.pointer (some ⟨p, 0, none⟩))) rfl (by kernel_rfl) (by kernel_rfl) (by kernel_rfl) (fun _ _ _ h => h) rfl (Or.inl ⟨by rfl, fun w' hS => ?_⟩) hHeld ?_
  · go_simp
  simp only [List.set_cons_zero, List.set_cons_succ]
  refine wpAnyH_takeAt (i := 2) (v := (.pointer (some ⟨p, 1, none⟩))) rfl (by kernel_rfl) (by kernel_rfl) (by kernel_rfl) (fun _ _ _ h => h) rfl (Or.inl ⟨by rfl, fun w' hS => ?_⟩) hHeld ?_
  · go_simp
  simp only [List.set_cons_zero, List.set_cons_succ]
  refine wpAnyH_takeAt (i := 3) (v := (.slice A n c)) rfl (by kernel_rfl) (by kernel_rfl) (by kernel_rfl) (fun _ _ _ h => h) rfl (Or.inl ⟨by rfl, fun w' hS => ?_⟩) hHeld ?_
  · have hc2 := hS.1.cell2
    go_simp
  simp only [List.set_cons_zero, List.set_cons_succ]
  refine wpAnyH_takeAt (i := 4) (v := (.int .i64 (z : Int))) rfl (by kernel_rfl) (by kernel_rfl) (by kernel_rfl) (fun _ _ _ h => h) rfl (Or.inl ⟨by rfl, fun w' hS => ?_⟩) hHeld ?_
  · go_simp
  simp only [List.set_cons_zero, List.set_cons_succ]
  refine wpAnyH_takeAt (i := 5) (v := (.pointer (some ⟨p, 0, none⟩))) rfl (by kernel_rfl) (by kernel_rfl) (by kernel_rfl) (fun _ _ _ h => h) rfl (Or.inl ⟨by rfl, fun w' hS => ?_⟩) hHeld ?_
  · go_simp
  simp only [List.set_cons_zero, List.set_cons_succ]
  refine wpAnyH_takeAt (i := 6) (v := (.pointer (some ⟨p, 0, none⟩))) rfl (by kernel_rfl) (by kernel_rfl) (by kernel_rfl) (fun _ _ _ h => h) rfl (Or.inl ⟨by rfl, fun w' hS => ?_⟩) hHeld ?_
  · go_simp
  simp only [List.set_cons_zero, List.set_cons_succ]
  refine wpAnyH_takeAt (i := 7) (v := (.pointer (some ⟨p, 0, none⟩))) rfl (by kernel_rfl) (by kernel_rfl) (by kernel_rfl) (fun _ _ _ h => h) rfl (Or.inl ⟨by rfl, fun w' hS => ?_⟩) hHeld ?_
  · go_simp
  simp only [List.set_cons_zero, List.set_cons_succ]
  refine wpAnyH_takeAt (i := 8) (v := (.int .i64 (st : Int))) rfl (by kernel_rfl) (by kernel_rfl) (by kernel_rfl) (fun _ _ _ h => h) rfl (Or.inl ⟨by rfl, fun w' hS => ?_⟩) hHeld ?_
  · have hc2 := hS.1.cell2
    go_simp
  simp only [List.set_cons_zero, List.set_cons_succ]
  refine wpAnyH_takeAt (i := 9) (v := (.int .i64 (k : Int))) rfl (by kernel_rfl) (by kernel_rfl) (by kernel_rfl) (fun _ _ _ h => h) rfl (Or.inl ⟨by rfl, fun w' hS => ?_⟩) hHeld ?_
  · go_simp
  simp only [List.set_cons_zero, List.set_cons_succ]
  refine wpAnyH_ready (rs := [10]) (by kernel_rfl) (by simp) (AllReadyH.cons rfl (fun K' hK => ?_) AllReadyH.nil)
  go_simp
  go_at_call 42
  refine (after_c b A n c k _ (HS.out.below (bdrew (Below.refl _ _))) hl HK31.out).mono ?_
  rintro e0 w2 ⟨A2, n2, c2, rfl, hs2, hb2⟩
  go_wp2_with fail
  have HS2 := Lib.hid hs2
  have HB2 : Hid (Below w.heap.size w w2) := bcall (bdrew (Below.refl _ _)) hb2
  refine hK.out _ _ ⟨Blk.below (w := World.drew w) HK.out hb2, HB2.out⟩ (fun hHeld' => ?_)
  clear hK hHeld hb2 hs2
  have hHeld := hHeld'
  clear hHeld'
  refine wpAnyH_takeAt (i := 11) (v := (.slice A2 n2 c2)) rfl (by kernel_rfl) (by kernel_rfl) (by kernel_rfl) (fun _ _ _ h => h) rfl (Or.inl ⟨by rfl, fun w' hS => ?_⟩) hHeld ?_
  · go_simp
  simp only [List.set_cons_zero, List.set_cons_succ]
  refine wpAnyH_takeAt (i := 12) (v := (.int .i64 0)) rfl (by kernel_rfl) (by kernel_rfl) (by kernel_rfl) (fun _ _ _ h => h) rfl (Or.inl ⟨by rfl, fun w' hS => ?_⟩) hHeld ?_
  · go_simp
  simp only [List.set_cons_zero, List.set_cons_succ]
  refine wpAnyH_takeAt (i := 13) (v := (.slice A2 n2 c2)) rfl (by kernel_rfl) (by kernel_rfl) (by kernel_rfl) (fun _ _ _ h => h) rfl (Or.inl ⟨by rfl, fun w' hS => ?_⟩) hHeld ?_
  · go_simp
  simp only [List.set_cons_zero, List.set_cons_succ]
  refine wpAnyH_takeAt (i := 14) (v := (.int .i64 0)) rfl (by kernel_rfl) (by kernel_rfl) (by kernel_rfl) (fun _ _ _ h => h) rfl (Or.inl ⟨by rfl, fun w' hS => ?_⟩) hHeld ?_
  · go_simp
  simp only [List.set_cons_zero, List.set_cons_succ]
  refine wpAnyH_done (by kernel_rfl) ?_ _
  go_wp2_with fail
  go_ret2
  exact ⟨A2, n2, c2, rfl, by rw [← HKE.out]; exact HS2.out, HB2.out⟩
end Go.Proofs.Ytlapgccfgkokcaa
