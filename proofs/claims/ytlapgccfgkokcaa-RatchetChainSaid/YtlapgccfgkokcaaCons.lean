/- The constants filled, sync.Once over them, the program's all (contracts). Conditions: the constants are new, or done. -/
import Derived.Test.YtlapgccfgkokcaaOnce
import Derived.Deep.RegionHeld3
set_option linter.unusedVariables false
namespace Go.Proofs.Ytlapgccfgkokcaa
open Go.RowKit
attribute [local go_sem ↓] Go.wp_at_zero Go.wp_at_succ

def pk (k : Nat) : Nat := if k = 0 then 0 else primesL.getD (k - 1) 0
theorem gap_all : ((List.range 64).all fun k => decide (pk k < primesL.getD k 0) && primeB (primesL.getD k 0) && (startN (primesL.getD k 0)).isSome && (List.range 312).all fun n => decide (n ≤ pk k) || decide (primesL.getD k 0 ≤ n) || !primeB n) = true := by decide +kernel
theorem gap_at (k : Nat) (hk : k < 64) : pk k < primesL.getD k 0 ∧ primeB (primesL.getD k 0) = true ∧ (∃ x0, startN (primesL.getD k 0) = some x0) ∧ ∀ n, pk k < n → n < primesL.getD k 0 → primeB n = false := by
  have := List.all_eq_true.1 gap_all k (List.mem_range.2 hk)
  simp only [Bool.and_eq_true, decide_eq_true_eq] at this
  obtain ⟨⟨⟨h1, h2⟩, h3⟩, h4⟩ := this
  refine ⟨h1, h2, Option.isSome_iff_exists.1 h3, fun n hn1 hn2 => ?_⟩
  have hb := (cL_at k hk).2.2.2
  have := List.all_eq_true.1 h4 n (List.mem_range.2 (by omega))
  simp only [Bool.or_eq_true, decide_eq_true_eq, Bool.not_eq_true'] at this
  rcases this with (h | h) | h
  · omega
  · omega
  · exact h
theorem kF (k : Nat) (hk : k < 64) : kL.getD k 0 = UInt32.ofNat (cL.getD k 0) := (cL_at k hk).2.2.1.symm
set_option maxRecDepth 100000 in
set_option maxHeartbeats 1600000 in
theorem fill_c (g p : Nat) (d s : Value) (w : World) (hp : w.cell? ⟨p, 0, none⟩ = some (.pointer (some ⟨g, 0, none⟩))) (hpl : p < w.heap.size) (hpg : p ≠ g) (ht : CT w g d s (List.replicate 64 0)) :
    Calls Try.prog 60 #[.pointer (some ⟨p, 0, none⟩)] w fun e w' => e = .returned (.tuple #[]) ∧ CT w' g d s kL ∧ But g w w' := by
  have HT := Lib.hid ht
  have HP := Lib.hid hp
  have HPL := Lib.hid hpl
  have HPG := Lib.hid hpg
  have HZ : Hid (List.replicate 64 (0 : UInt32) = upW 64 0 (fun i => kL.getD i 0) (fun _ => 0)) := by show _ = _; decide
  have HE : Hid (upW 64 64 (fun i => kL.getD i 0) (fun _ => 0) = kL) := by show _ = _; decide
  clear ht hp hpl hpg
  go_enter Try.func60, Try.ntmps60
  go_wp2_with fail
  go_loopg [1, 3] 64 (fun gg v1 v3 wr => ∃ k : Nat, k ≤ 64 ∧ gg = 64 - k ∧ v3 = .int .i64 (k : Int) ∧ v1 = .int .i64 ((pk k : Nat) : Int) ∧ CT wr g d s (upW 64 k (fun i => kL.getD i 0) (fun _ => 0)) ∧ But g w wr)
  case atStart => exact ⟨0, by omega, rfl, rfl, rfl, by rw [← HZ.out]; exact HT.out, But.refl _ _⟩
  case round =>
    obtain ⟨k, hk, rfl, rfl, rfl, hct, hbut⟩ := hrel
    have HCT := Lib.hid hct
    have HBUT := Lib.hid hbut
    clear hct hbut
    by_cases hk2 : k < 64
    · have hki : (k : Int) < 64 := by omega
      obtain ⟨h1, h2, ⟨x0, h3⟩, h4⟩ := gap_at k hk2
      obtain ⟨hc1, hc2, hc3, hc4⟩ := cL_at k hk2
      obtain ⟨P, hP⟩ : ∃ P, P = primesL.getD k 0 := ⟨_, rfl⟩
      obtain ⟨c, hc⟩ : ∃ c, c = cL.getD k 0 := ⟨_, rfl⟩
      rw [← hP] at h1 h2 h3 h4 hc1 hc2 hc4
      rw [← hc] at hc1 hc2 hc3
      obtain ⟨n0, hn0⟩ : ∃ n, n = pk k := ⟨_, rfl⟩
      rw [← hn0] at h1 h4 ⊢
      have hroot := fun wx => root_c P c x0 wx h3 hc4 hc1 hc2
      obtain ⟨y, hy⟩ : ∃ y, y = kL.getD k 0 := ⟨_, rfl⟩
      rw [hc3, ← hy] at hroot
      have HROOT := Lib.hid hroot
      have H2 := Lib.hid h2
      have H4 := Lib.hid h4
      have HPK : Hid (P = pk (k + 1)) := by show _ = _; rw [hP, pk, if_neg (by omega), Nat.add_sub_cancel]
      have HY := Lib.hid hy
      have hn1 : (n0 : Int) ≤ 311 := by omega
      clear h2 h3 h4 hc1 hc2 hc3 hP hc hn0 hroot hy
      go_wp2_with fail
      go_loopg [1] (P - (n0 + 1)) (fun gg v1 wx => ∃ n : Nat, n0 < n ∧ n ≤ P ∧ gg = P - n ∧ v1 = .int .i64 (n : Int) ∧ wr = wx)
      case atStart => exact ⟨n0 + 1, by omega, by omega, rfl, by go_num, rfl⟩
      case round =>
        obtain ⟨n, hn, hnP, rfl, rfl, rfl⟩ := hrel
        have hni : (n : Int) ≤ 311 := by omega
        have HPC := Lib.hid (prime_c n wr (by omega))
        by_cases hlt : n < P
        · have HPF := Lib.hid (H4.out n hn hlt)
          go_wp2_with (go_at_call 61
                       have hpc := HPC.out
                       rw [HPF.out] at hpc
                       refine hpc.mono ?_
                       rintro e0 w' ⟨rfl, rfl⟩)
          go_roundg (P - (n + 1))
          case measure => omega
          case rel => exact ⟨n + 1, by omega, by omega, rfl, by go_num, rfl⟩
        · have hnP2 : n = P := by omega
          subst hnP2
          have HPT : Hid (primeB n = true) := H2.out
          have cp : wr.cell? ⟨p, 0, none⟩ = some (.pointer (some ⟨g, 0, none⟩)) := (HBUT.out.cell (p := ⟨p, 0, none⟩) HPL.out HPG.out).trans HP.out
          have cx := HCT.out.cell k (by rw [upW_len]; exact hk2)
          have fx := HCT.out.free (3 + k)
          have hpgs : g ≠ p := Ne.symm HPG.out
          have hwn : IntKind.u64.wrap (n : Int) = (n : Int) := by
            simp [IntKind.wrap, IntKind.bits, IntKind.signed]; omega
          go_upto_region 7 with (go_at_call 61
                                 have hpc := HPC.out
                                 rw [HPT.out] at hpc
                                 refine hpc.mono ?_
                                 rintro e0 w' ⟨rfl, rfl⟩)
          go_region_held3 (fun w' => w'.cell? ⟨p, 0, none⟩ = some (.pointer (some ⟨g, 0, none⟩)))
            (first | exact cp | exact (World.cell?_setCell_other wr ⟨g, 3 + k, none⟩ ⟨p, 0, none⟩ _ (by intro h; have := congrArg Addr.block h; simp at this; omega)).trans cp)
            (first
              | (go_at_call 62; refine (HROOT.out _).mono ?_; rintro e0 w1 ⟨rfl, rfl⟩))
          go_wp2_with fail
          go_roundg (64 - (k + 1))
          case measure => omega
          case rel => exact ⟨k + 1, by omega, rfl, by go_num, by rw [← HPK.out], by rw [← upW_set (fun i => kL.getD i 0) (fun _ => 0) hk2, ← HY.out]; exact CT.set HCT.out k y, But.drew (But.set HBUT.out _ _)⟩
    · have hk3 : k = 64 := by omega
      subst hk3
      have HF : Hid (CT wr g d s kL) := by show CT _ _ _ _ _; rw [← HE.out]; exact HCT.out
      go_wp2
      go_end0
      exact ⟨rfl, HF.out, HBUT.out⟩
end Go.Proofs.Ytlapgccfgkokcaa
