/- Texts of this claim, one behind the other: NOf, NWelcome, NGood, NFields, NSeats. Each says ahead of itself what it proves, and its conditions. -/
import Derived.Test.YtmkifedcanmjoaaGreatJm
import Derived.Laws.BitsAllLaws
import Derived.Laws.BitsLemmas
/- What the program's of and within return (contracts). Conditions: none. -/
set_option linter.unusedVariables false
namespace Go.Proofs.YtmkifedcanmjoaaGreat.Nt
open Go.RowKit
attribute [local go_sem ↓] Go.wp_at_zero Go.wp_at_succ

def bndV (b : Bnd) : Value := .agg #[.int .i64 b.room, .int .i64 b.slot, .int .i64 b.epoch, .int .i64 b.n, .int .i64 b.m, .int .i64 b.least, .int .i64 b.most]
theorem within_c (x y : Int) (w : World) : Calls Tryz.prog 155 #[.int .i64 x, .int .i64 y] w fun e w' => e = .returned (.bool (wB x y)) ∧ w = w' := by
  by_cases h0 : 0 ≤ x
  · by_cases h1 : x ≤ y
    · have H : Hid (wB x y = true) := by show _ = _; simp [wB, h0, h1]
      go_enter Tryz.func155, Tryz.ntmps155
      go_wp2
      go_ret
      exact ⟨by rw [H.out]; rfl, rfl⟩
    · have H : Hid (wB x y = false) := by show _ = _; simp [wB, h0, h1]
      go_enter Tryz.func155, Tryz.ntmps155
      go_wp2
      go_ret
      exact ⟨by rw [H.out]; rfl, rfl⟩
  · have H : Hid (wB x y = false) := by show _ = _; simp [wB, h0]
    go_enter Tryz.func155, Tryz.ntmps155
    go_wp2
    go_ret
    exact ⟨by rw [H.out]; rfl, rfl⟩
theorem of_1 (w : World) : Calls Tryz.prog 154 #[.int .i64 1] w fun e w' => e = .returned (.tuple #[bndV (bnd 1), .bool true]) ∧ Below w.heap.size w w' := by
  have H : Hid (bndV (bnd 1) = .agg #[.int .i64 3, .int .i64 0, .int .i64 0, .int .i64 0, .int .i64 0, .int .i64 0, .int .i64 0]) := by show _ = _; simp [bndV, bnd]
  rw [H.out]
  go_enter Tryz.func154, Tryz.ntmps154
  go_wp2
  exact bodyPost_ret (v := .tuple #[.agg #[.int .i64 3, .int .i64 0, .int .i64 0, .int .i64 0, .int .i64 0, .int .i64 0, .int .i64 0], .bool true]) (by simp [results, Tryz.results154, go_sem]) rfl ⟨rfl, (Below.refl _ _).alloc (Nat.le_refl _) _⟩
theorem of_2 (w : World) : Calls Tryz.prog 154 #[.int .i64 2] w fun e w' => e = .returned (.tuple #[bndV (bnd 2), .bool true]) ∧ Below w.heap.size w w' := by
  have H : Hid (bndV (bnd 2) = .agg #[.int .i64 0, .int .i64 0, .int .i64 0, .int .i64 0, .int .i64 0, .int .i64 0, .int .i64 0]) := by show _ = _; simp [bndV, bnd]
  rw [H.out]
  go_enter Tryz.func154, Tryz.ntmps154
  go_wp2
  exact bodyPost_ret (v := .tuple #[.agg #[.int .i64 0, .int .i64 0, .int .i64 0, .int .i64 0, .int .i64 0, .int .i64 0, .int .i64 0], .bool true]) (by simp [results, Tryz.results154, go_sem]) rfl ⟨rfl, (Below.refl _ _).alloc (Nat.le_refl _) _⟩
theorem of_3 (w : World) : Calls Tryz.prog 154 #[.int .i64 3] w fun e w' => e = .returned (.tuple #[bndV (bnd 3), .bool true]) ∧ Below w.heap.size w w' := by
  have H : Hid (bndV (bnd 3) = .agg #[.int .i64 0, .int .i64 7, .int .i64 0, .int .i64 0, .int .i64 0, .int .i64 0, .int .i64 0]) := by show _ = _; simp [bndV, bnd]
  rw [H.out]
  go_enter Tryz.func154, Tryz.ntmps154
  go_wp2
  exact bodyPost_ret (v := .tuple #[.agg #[.int .i64 0, .int .i64 7, .int .i64 0, .int .i64 0, .int .i64 0, .int .i64 0, .int .i64 0], .bool true]) (by simp [results, Tryz.results154, go_sem]) rfl ⟨rfl, (Below.refl _ _).alloc (Nat.le_refl _) _⟩
theorem of_4 (w : World) : Calls Tryz.prog 154 #[.int .i64 4] w fun e w' => e = .returned (.tuple #[bndV (bnd 4), .bool true]) ∧ Below w.heap.size w w' := by
  have H : Hid (bndV (bnd 4) = .agg #[.int .i64 0, .int .i64 0, .int .i64 0, .int .i64 2, .int .i64 65535, .int .i64 4, .int .i64 4]) := by show _ = _; simp [bndV, bnd]
  rw [H.out]
  go_enter Tryz.func154, Tryz.ntmps154
  go_wp2
  exact bodyPost_ret (v := .tuple #[.agg #[.int .i64 0, .int .i64 0, .int .i64 0, .int .i64 2, .int .i64 65535, .int .i64 4, .int .i64 4], .bool true]) (by simp [results, Tryz.results154, go_sem]) rfl ⟨rfl, (Below.refl _ _).alloc (Nat.le_refl _) _⟩
theorem of_5 (w : World) : Calls Tryz.prog 154 #[.int .i64 5] w fun e w' => e = .returned (.tuple #[bndV (bnd 5), .bool true]) ∧ Below w.heap.size w w' := by
  have H : Hid (bndV (bnd 5) = .agg #[.int .i64 0, .int .i64 7, .int .i64 0, .int .i64 3, .int .i64 7, .int .i64 0, .int .i64 0]) := by show _ = _; simp [bndV, bnd]
  rw [H.out]
  go_enter Tryz.func154, Tryz.ntmps154
  go_wp2
  exact bodyPost_ret (v := .tuple #[.agg #[.int .i64 0, .int .i64 7, .int .i64 0, .int .i64 3, .int .i64 7, .int .i64 0, .int .i64 0], .bool true]) (by simp [results, Tryz.results154, go_sem]) rfl ⟨rfl, (Below.refl _ _).alloc (Nat.le_refl _) _⟩
theorem of_6 (w : World) : Calls Tryz.prog 154 #[.int .i64 6] w fun e w' => e = .returned (.tuple #[bndV (bnd 6), .bool true]) ∧ Below w.heap.size w w' := by
  have H : Hid (bndV (bnd 6) = .agg #[.int .i64 0, .int .i64 7, .int .i64 0, .int .i64 0, .int .i64 0, .int .i64 0, .int .i64 0]) := by show _ = _; simp [bndV, bnd]
  rw [H.out]
  go_enter Tryz.func154, Tryz.ntmps154
  go_wp2
  exact bodyPost_ret (v := .tuple #[.agg #[.int .i64 0, .int .i64 7, .int .i64 0, .int .i64 0, .int .i64 0, .int .i64 0, .int .i64 0], .bool true]) (by simp [results, Tryz.results154, go_sem]) rfl ⟨rfl, (Below.refl _ _).alloc (Nat.le_refl _) _⟩
theorem of_7 (w : World) : Calls Tryz.prog 154 #[.int .i64 7] w fun e w' => e = .returned (.tuple #[bndV (bnd 7), .bool true]) ∧ Below w.heap.size w w' := by
  have H : Hid (bndV (bnd 7) = .agg #[.int .i64 0, .int .i64 7, .int .i64 65535, .int .i64 31, .int .i64 0, .int .i64 1, .int .i64 200]) := by show _ = _; simp [bndV, bnd]
  rw [H.out]
  go_enter Tryz.func154, Tryz.ntmps154
  go_wp2
  exact bodyPost_ret (v := .tuple #[.agg #[.int .i64 0, .int .i64 7, .int .i64 65535, .int .i64 31, .int .i64 0, .int .i64 1, .int .i64 200], .bool true]) (by simp [results, Tryz.results154, go_sem]) rfl ⟨rfl, (Below.refl _ _).alloc (Nat.le_refl _) _⟩
theorem of_8 (w : World) : Calls Tryz.prog 154 #[.int .i64 8] w fun e w' => e = .returned (.tuple #[bndV (bnd 8), .bool true]) ∧ Below w.heap.size w w' := by
  have H : Hid (bndV (bnd 8) = .agg #[.int .i64 0, .int .i64 0, .int .i64 65535, .int .i64 0, .int .i64 0, .int .i64 0, .int .i64 0]) := by show _ = _; simp [bndV, bnd]
  rw [H.out]
  go_enter Tryz.func154, Tryz.ntmps154
  go_wp2
  exact bodyPost_ret (v := .tuple #[.agg #[.int .i64 0, .int .i64 0, .int .i64 65535, .int .i64 0, .int .i64 0, .int .i64 0, .int .i64 0], .bool true]) (by simp [results, Tryz.results154, go_sem]) rfl ⟨rfl, (Below.refl _ _).alloc (Nat.le_refl _) _⟩
theorem of_9 (w : World) : Calls Tryz.prog 154 #[.int .i64 9] w fun e w' => e = .returned (.tuple #[bndV (bnd 9), .bool true]) ∧ Below w.heap.size w w' := by
  have H : Hid (bndV (bnd 9) = .agg #[.int .i64 0, .int .i64 0, .int .i64 0, .int .i64 0, .int .i64 0, .int .i64 0, .int .i64 0]) := by show _ = _; simp [bndV, bnd]
  rw [H.out]
  go_enter Tryz.func154, Tryz.ntmps154
  go_wp2
  exact bodyPost_ret (v := .tuple #[.agg #[.int .i64 0, .int .i64 0, .int .i64 0, .int .i64 0, .int .i64 0, .int .i64 0, .int .i64 0], .bool true]) (by simp [results, Tryz.results154, go_sem]) rfl ⟨rfl, (Below.refl _ _).alloc (Nat.le_refl _) _⟩
theorem of_17 (w : World) : Calls Tryz.prog 154 #[.int .i64 17] w fun e w' => e = .returned (.tuple #[bndV (bnd 17), .bool true]) ∧ Below w.heap.size w w' := by
  have H : Hid (bndV (bnd 17) = .agg #[.int .i64 3, .int .i64 7, .int .i64 65535, .int .i64 255, .int .i64 65535, .int .i64 8, .int .i64 8]) := by show _ = _; simp [bndV, bnd]
  rw [H.out]
  go_enter Tryz.func154, Tryz.ntmps154
  go_wp2
  exact bodyPost_ret (v := .tuple #[.agg #[.int .i64 3, .int .i64 7, .int .i64 65535, .int .i64 255, .int .i64 65535, .int .i64 8, .int .i64 8], .bool true]) (by simp [results, Tryz.results154, go_sem]) rfl ⟨rfl, (Below.refl _ _).alloc (Nat.le_refl _) _⟩
theorem of_18 (w : World) : Calls Tryz.prog 154 #[.int .i64 18] w fun e w' => e = .returned (.tuple #[bndV (bnd 18), .bool true]) ∧ Below w.heap.size w w' := by
  have H : Hid (bndV (bnd 18) = .agg #[.int .i64 0, .int .i64 0, .int .i64 0, .int .i64 13, .int .i64 9, .int .i64 0, .int .i64 0]) := by show _ = _; simp [bndV, bnd]
  rw [H.out]
  go_enter Tryz.func154, Tryz.ntmps154
  go_wp2
  exact bodyPost_ret (v := .tuple #[.agg #[.int .i64 0, .int .i64 0, .int .i64 0, .int .i64 13, .int .i64 9, .int .i64 0, .int .i64 0], .bool true]) (by simp [results, Tryz.results154, go_sem]) rfl ⟨rfl, (Below.refl _ _).alloc (Nat.le_refl _) _⟩
theorem of_19 (w : World) : Calls Tryz.prog 154 #[.int .i64 19] w fun e w' => e = .returned (.tuple #[bndV (bnd 19), .bool true]) ∧ Below w.heap.size w w' := by
  have H : Hid (bndV (bnd 19) = .agg #[.int .i64 0, .int .i64 7, .int .i64 65535, .int .i64 255, .int .i64 63, .int .i64 0, .int .i64 0]) := by show _ = _; simp [bndV, bnd]
  rw [H.out]
  go_enter Tryz.func154, Tryz.ntmps154
  go_wp2
  exact bodyPost_ret (v := .tuple #[.agg #[.int .i64 0, .int .i64 7, .int .i64 65535, .int .i64 255, .int .i64 63, .int .i64 0, .int .i64 0], .bool true]) (by simp [results, Tryz.results154, go_sem]) rfl ⟨rfl, (Below.refl _ _).alloc (Nat.le_refl _) _⟩
theorem of_20 (w : World) : Calls Tryz.prog 154 #[.int .i64 20] w fun e w' => e = .returned (.tuple #[bndV (bnd 20), .bool true]) ∧ Below w.heap.size w w' := by
  have H : Hid (bndV (bnd 20) = .agg #[.int .i64 0, .int .i64 7, .int .i64 65535, .int .i64 255, .int .i64 0, .int .i64 0, .int .i64 0]) := by show _ = _; simp [bndV, bnd]
  rw [H.out]
  go_enter Tryz.func154, Tryz.ntmps154
  go_wp2
  exact bodyPost_ret (v := .tuple #[.agg #[.int .i64 0, .int .i64 7, .int .i64 65535, .int .i64 255, .int .i64 0, .int .i64 0, .int .i64 0], .bool true]) (by simp [results, Tryz.results154, go_sem]) rfl ⟨rfl, (Below.refl _ _).alloc (Nat.le_refl _) _⟩
theorem of_21 (w : World) : Calls Tryz.prog 154 #[.int .i64 21] w fun e w' => e = .returned (.tuple #[bndV (bnd 21), .bool true]) ∧ Below w.heap.size w w' := by
  have H : Hid (bndV (bnd 21) = .agg #[.int .i64 0, .int .i64 7, .int .i64 65535, .int .i64 31, .int .i64 0, .int .i64 1, .int .i64 200]) := by show _ = _; simp [bndV, bnd]
  rw [H.out]
  go_enter Tryz.func154, Tryz.ntmps154
  go_wp2
  exact bodyPost_ret (v := .tuple #[.agg #[.int .i64 0, .int .i64 7, .int .i64 65535, .int .i64 31, .int .i64 0, .int .i64 1, .int .i64 200], .bool true]) (by simp [results, Tryz.results154, go_sem]) rfl ⟨rfl, (Below.refl _ _).alloc (Nat.le_refl _) _⟩
theorem of_22 (w : World) : Calls Tryz.prog 154 #[.int .i64 22] w fun e w' => e = .returned (.tuple #[bndV (bnd 22), .bool true]) ∧ Below w.heap.size w w' := by
  have H : Hid (bndV (bnd 22) = .agg #[.int .i64 0, .int .i64 0, .int .i64 65535, .int .i64 0, .int .i64 0, .int .i64 0, .int .i64 0]) := by show _ = _; simp [bndV, bnd]
  rw [H.out]
  go_enter Tryz.func154, Tryz.ntmps154
  go_wp2
  exact bodyPost_ret (v := .tuple #[.agg #[.int .i64 0, .int .i64 0, .int .i64 65535, .int .i64 0, .int .i64 0, .int .i64 0, .int .i64 0], .bool true]) (by simp [results, Tryz.results154, go_sem]) rfl ⟨rfl, (Below.refl _ _).alloc (Nat.le_refl _) _⟩
theorem of_23 (w : World) : Calls Tryz.prog 154 #[.int .i64 23] w fun e w' => e = .returned (.tuple #[bndV (bnd 23), .bool true]) ∧ Below w.heap.size w w' := by
  have H : Hid (bndV (bnd 23) = .agg #[.int .i64 0, .int .i64 0, .int .i64 0, .int .i64 0, .int .i64 0, .int .i64 0, .int .i64 0]) := by show _ = _; simp [bndV, bnd]
  rw [H.out]
  go_enter Tryz.func154, Tryz.ntmps154
  go_wp2
  exact bodyPost_ret (v := .tuple #[.agg #[.int .i64 0, .int .i64 0, .int .i64 0, .int .i64 0, .int .i64 0, .int .i64 0, .int .i64 0], .bool true]) (by simp [results, Tryz.results154, go_sem]) rfl ⟨rfl, (Below.refl _ _).alloc (Nat.le_refl _) _⟩
theorem of_24 (w : World) : Calls Tryz.prog 154 #[.int .i64 24] w fun e w' => e = .returned (.tuple #[bndV (bnd 24), .bool true]) ∧ Below w.heap.size w w' := by
  have H : Hid (bndV (bnd 24) = .agg #[.int .i64 0, .int .i64 7, .int .i64 0, .int .i64 0, .int .i64 0, .int .i64 4, .int .i64 4]) := by show _ = _; simp [bndV, bnd]
  rw [H.out]
  go_enter Tryz.func154, Tryz.ntmps154
  go_wp2
  exact bodyPost_ret (v := .tuple #[.agg #[.int .i64 0, .int .i64 7, .int .i64 0, .int .i64 0, .int .i64 0, .int .i64 4, .int .i64 4], .bool true]) (by simp [results, Tryz.results154, go_sem]) rfl ⟨rfl, (Below.refl _ _).alloc (Nat.le_refl _) _⟩
theorem bnd_other {k : Int} (h : ¬ isKind k) : bnd k = ⟨0, 0, 0, 0, 0, 0, 0, false⟩ := by
  simp only [isKind, not_or] at h
  obtain ⟨h1, h2, h3, h4, h5, h6, h7, h8, h9, h17, h18, h19, h20, h21, h22, h23, h24⟩ := h
  simp [bnd, h1, h2, h3, h4, h5, h6, h7, h8, h9, h17, h18, h19, h20, h21, h22, h23, h24]
theorem of_other (k : Int) (h : ¬ isKind k) (w : World) : Calls Tryz.prog 154 #[.int .i64 k] w fun e w' => e = .returned (.tuple #[bndV (bnd k), .bool false]) ∧ Below w.heap.size w w' := by
  have H : Hid (bndV (bnd k) = .agg #[.int .i64 0, .int .i64 0, .int .i64 0, .int .i64 0, .int .i64 0, .int .i64 0, .int .i64 0]) := by show _ = _; rw [bnd_other h]; rfl
  rw [H.out]
  simp only [isKind, not_or] at h
  obtain ⟨h1, h2, h3, h4, h5, h6, h7, h8, h9, h17, h18, h19, h20, h21, h22, h23, h24⟩ := h
  have e1 : (k == 1) = false := by simpa using h1
  have e2 : (k == 2) = false := by simpa using h2
  have e3 : (k == 3) = false := by simpa using h3
  have e4 : (k == 4) = false := by simpa using h4
  have e5 : (k == 5) = false := by simpa using h5
  have e6 : (k == 6) = false := by simpa using h6
  have e7 : (k == 7) = false := by simpa using h7
  have e8 : (k == 8) = false := by simpa using h8
  have e9 : (k == 9) = false := by simpa using h9
  have e17 : (k == 17) = false := by simpa using h17
  have e18 : (k == 18) = false := by simpa using h18
  have e19 : (k == 19) = false := by simpa using h19
  have e20 : (k == 20) = false := by simpa using h20
  have e21 : (k == 21) = false := by simpa using h21
  have e22 : (k == 22) = false := by simpa using h22
  have e23 : (k == 23) = false := by simpa using h23
  have e24 : (k == 24) = false := by simpa using h24
  clear h1 h2 h3 h4 h5 h6 h7 h8 h9 h17 h18 h19 h20 h21 h22 h23 h24
  go_enter Tryz.func154, Tryz.ntmps154
  go_wp2
  exact bodyPost_ret (v := .tuple #[.agg #[.int .i64 0, .int .i64 0, .int .i64 0, .int .i64 0, .int .i64 0, .int .i64 0, .int .i64 0], .bool false]) (by simp [results, Tryz.results154, go_sem]) rfl ⟨rfl, (Below.refl _ _).alloc (Nat.le_refl _) _⟩
theorem of_c (k : Int) (w : World) : Calls Tryz.prog 154 #[.int .i64 k] w fun e w' => e = .returned (.tuple #[bndV (bnd k), .bool (bnd k).ok]) ∧ Below w.heap.size w w' := by
  by_cases h : isKind k
  · simp only [isKind] at h
    rcases h with rfl | rfl | rfl | rfl | rfl | rfl | rfl | rfl | rfl | rfl | rfl | rfl | rfl | rfl | rfl | rfl | rfl
    · exact of_1 w
    · exact of_2 w
    · exact of_3 w
    · exact of_4 w
    · exact of_5 w
    · exact of_6 w
    · exact of_7 w
    · exact of_8 w
    · exact of_9 w
    · exact of_17 w
    · exact of_18 w
    · exact of_19 w
    · exact of_20 w
    · exact of_21 w
    · exact of_22 w
    · exact of_23 w
    · exact of_24 w
  · rw [show (bnd k).ok = false by rw [bnd_other h]]
    exact of_other k h w
end Go.Proofs.YtmkifedcanmjoaaGreat.Nt
/- What the program's welcome returns (contract). Conditions: the note's bytes read; its numbers are those of a welcome. (ofInt_i64, i64_and_nat began as lines of the guide's copy page.) -/
set_option linter.unusedVariables false
namespace Go.Proofs.YtmkifedcanmjoaaGreat.Nt
open Go.RowKit
attribute [local go_sem ↓] Go.wp_at_zero Go.wp_at_succ

theorem ofInt_i64 (a : Nat) (ha : a < 9223372036854775808) : (BitVec.ofInt 64 (a : Int)).toNat = a := by
  rw [BitVec.ofInt_natCast, BitVec.toNat_ofNat]; exact Nat.mod_eq_of_lt (by omega)
theorem i64_and_nat (a b : Nat) (ha : a < 9223372036854775808) (hb : b < 9223372036854775808) : bits .and .i64 (a : Int) (b : Int) = ((a &&& b : Nat) : Int) := by
  have hx : a &&& b < 2 ^ 63 := Nat.and_lt_two_pow _ (by omega)
  show IntKind.i64.wrap ((BitVec.ofInt 64 (a : Int) &&& BitVec.ofInt 64 (b : Int)).toNat : Int) = _
  rw [BitVec.toNat_and, ofInt_i64 a ha, ofInt_i64 b hb, IntKind.wrap_i64]
  omega
theorem bit_i64 (n k : Nat) (hn : n < 65536) : bits .and .i64 ((n : Int) / 2 ^ k) 1 = if n.testBit k then 1 else 0 := by
  have e : ((n : Int) / 2 ^ k) = ((n / 2 ^ k : Nat) : Int) := by simp
  have hle : n / 2 ^ k ≤ n := Nat.div_le_self _ _
  rw [e, show (1 : Int) = ((1 : Nat) : Int) from rfl, i64_and_nat _ _ (by omega) (by omega), Nat.and_one_is_mod, Nat.testBit_eq_decide_div_mod_eq]
  rcases Nat.mod_two_eq_zero_or_one (n / 2 ^ k) with h | h <;> simp [h]
theorem bit_on {n k : Nat} (hn : n < 65536) (h : n.testBit k = true) : bits .and .i64 ((n : Int) / 2 ^ k) 1 = 1 := by rw [bit_i64 n k hn, if_pos h]
theorem bit_off {n k : Nat} (hn : n < 65536) (h : n.testBit k = false) : bits .and .i64 ((n : Int) / 2 ^ k) 1 = 0 := by rw [bit_i64 n k hn, if_neg (by simp [h])]
theorem allAt_iff (n : Nat) : ∀ (l : List UInt8) (i : Nat), allAt n i l = true ↔ ∀ k (h : k < l.length), okAt n (i + k) l[k] = true
  | [], i => by simp [allAt]
  | a :: l, i => by
    rw [allAt, Bool.and_eq_true, allAt_iff n l (i + 1)]
    constructor
    · rintro ⟨h1, h2⟩ k hk
      cases k with
      | zero => exact h1
      | succ k => have := h2 k (by simpa using hk); simpa [Nat.add_assoc, Nat.add_comm 1] using this
    · intro h
      refine ⟨h 0 (by simp), fun k hk => ?_⟩
      have := h (k + 1) (by simpa using hk)
      simpa [Nat.add_assoc, Nat.add_comm 1] using this
theorem allAt_no {n k : Nat} {l : List UInt8} (hk : k < l.length) (h : okAt n k l[k] = false) : allAt n 0 l = false := by
  cases h0 : allAt n 0 l with
  | false => rfl
  | true => have := (allAt_iff n l 0).1 h0 k hk; rw [Nat.zero_add, h] at this; cases this
theorem allAt_next {n k : Nat} {l : List UInt8} (hk : k < l.length) (h0 : allAt n 0 (l.take k) = true) (h : okAt n k l[k] = true) : allAt n 0 (l.take (k + 1)) = true := by
  rw [List.take_succ_eq_append_getElem hk, allAt_snoc, h0]
  simp only [List.length_take, Nat.zero_add, Bool.true_and]
  rwa [Nat.min_eq_left (by omega)]

def noteV (d : NoteD) (A : Option Addr) (c : Nat) : Value := .agg #[.int .i64 d.kind, .int .i64 d.room, .int .i64 d.slot, .int .i64 d.epoch, .int .i64 d.n, .int .i64 d.m, .slice A d.bs.length c]

set_option maxHeartbeats 800000 in
theorem welcome_c (d : NoteD) (A : Option Addr) (c N S : Nat) (w : World) (hr : Reads w w.heap.size 1 A d.bs.length (d.bs.map u8v)) (hN : d.n = N) (hN2 : N < 256) (hS : d.slot = S) (hS2 : S < 8) (hl : d.bs.length ≤ 8) :
    Calls Tryz.prog 156 #[noteV d A c] w fun e w' => e = .returned (.bool (allAt N 0 d.bs && decide (d.epoch ≤ d.m) && N.testBit S)) ∧ Below w.heap.size w w' := by
  obtain ⟨kind, room, slot, epoch, n, m, bs⟩ := d
  simp only at hN hS hr hl ⊢
  subst hN hS
  have HR := Lib.hid hr
  clear hr
  unfold noteV
  obtain ⟨res, hres⟩ : ∃ res, res = (allAt N 0 bs && decide (epoch ≤ m) && N.testBit S) := ⟨_, rfl⟩
  rw [← hres]
  have HRES := Lib.hid hres
  clear hres
  go_enter Tryz.func156, Tryz.ntmps156
  go_wp2_with fail
  go_loopg [9] bs.length (fun gg i wr => ∃ k, k ≤ bs.length ∧ gg = bs.length - k ∧ i = .int .i64 k ∧ allAt N 0 (bs.take k) = true ∧ Below w.heap.size w wr ∧ w.heap.size < wr.heap.size ∧ (wr.cell? ⟨w.heap.size, 2, none⟩ = some (.int .i64 S) ∧ wr.cell? ⟨w.heap.size, 3, none⟩ = some (.int .i64 epoch) ∧ wr.cell? ⟨w.heap.size, 4, none⟩ = some (.int .i64 N) ∧ wr.cell? ⟨w.heap.size, 5, none⟩ = some (.int .i64 m)))
  case atStart => exact ⟨0, by omega, rfl, rfl, by simp [allAt], (Below.refl _ _).alloc (Nat.le_refl _) _, by simp, by simp⟩
  case round =>
    obtain ⟨k, hk, rfl, rfl, hall, hbel, hlt, hcells⟩ := hrel
    obtain ⟨hc2, hc3, hc4, hc5⟩ := hcells
    have HA := Lib.hid hall
    clear hall
    by_cases hkn : k < bs.length
    · obtain ⟨ad, rfl, hadl, hcell⟩ := (HR.out.below hbel).2 (by omega)
      obtain ⟨a, ha⟩ : ∃ a, a = bs[k] := ⟨_, rfl⟩
      have ck := hcell k (u8v a) (by simp [hkn, ha])
      have c00 := hcell 0 (u8v (bs[0]'(by omega))) (by rw [List.getElem?_map, List.getElem?_eq_getElem (by omega)]; rfl)
      obtain ⟨b, off, rfl⟩ := addr_plain c00
      rw [Go.WideShapes.add_plain] at ck
      have HK := Lib.hid ha
      clear c00 hcell ha
      unfold u8v at ck
      have hk8 : (k : Int) < 8 := by omega
      by_cases hb : N.testBit k = true
      · have hbit := bit_on (n := N) (k := k) (by omega) hb
        have HB := Lib.hid hb
        clear hb
        by_cases hu : a.toNat ≤ 63
        · have hui : (a.toNat : Int) ≤ 63 := by omega
          go_wp2
          go_roundg (bs.length - (k + 1))
          case measure => omega
          case rel => exact ⟨k + 1, by omega, rfl, by go_num, allAt_next hkn HA.out (by rw [← HK.out]; simp [okAt, HB.out, hu]), hbel, hlt, hc2, hc3, hc4, hc5⟩
        · have hui : ¬ (a.toNat : Int) ≤ 63 := by omega
          have HP : Hid (res = false) := by show _ = _; rw [HRES.out, allAt_no hkn (by rw [← HK.out]; simp [okAt, HB.out, hu])]; rfl
          go_wp2
          go_ret
          exact ⟨by rw [HP.out]; rfl, hbel⟩
      · have hb2 : N.testBit k = false := by simpa using hb
        have hbit := bit_off (n := N) (k := k) (by omega) hb2
        have HB := Lib.hid hb2
        clear hb hb2
        by_cases hu : a = 255
        · subst hu
          go_wp2
          go_roundg (bs.length - (k + 1))
          case measure => omega
          case rel => exact ⟨k + 1, by omega, rfl, by go_num, allAt_next hkn HA.out (by rw [← HK.out]; simp [okAt, HB.out]), hbel, hlt, hc2, hc3, hc4, hc5⟩
        · have hu2 : ((a.toNat : Int) != 255) = true := by
            rw [bne_iff_ne]; intro e; exact hu (UInt8.toNat_inj.1 (by show a.toNat = 255; omega))
          have HP : Hid (res = false) := by show _ = _; rw [HRES.out, allAt_no hkn (by rw [← HK.out]; simp [okAt, HB.out, hu])]; rfl
          clear hu
          go_wp2
          go_ret
          exact ⟨by rw [HP.out]; rfl, hbel⟩
    · have hkn' : k = bs.length := by omega
      have HALL : Hid (allAt N 0 bs = true) := by have := HA.out; rw [hkn', List.take_length] at this; exact this
      subst hkn'
      by_cases hem : epoch ≤ m
      · cases hb : N.testBit S with
        | true =>
          have hbit := bit_on (n := N) (k := S) (by omega) hb
          have HP : Hid (res = true) := by show _ = _; rw [HRES.out, HALL.out, hb]; simp [hem]
          have hS8 : (S : Int) < 8 := by omega
          clear hb
          go_wp2
          go_ret
          exact ⟨by rw [HP.out]; rfl, hbel⟩
        | false =>
          have hbit := bit_off (n := N) (k := S) (by omega) hb
          have HP : Hid (res = false) := by show _ = _; rw [HRES.out, hb]; simp
          have hS8 : (S : Int) < 8 := by omega
          clear hb
          go_wp2
          go_ret
          exact ⟨by rw [HP.out]; rfl, hbel⟩
      · have HP : Hid (res = false) := by show _ = _; rw [HRES.out]; simp [hem]
        go_wp2
        go_ret
        exact ⟨by rw [HP.out]; rfl, hbel⟩
end Go.Proofs.YtmkifedcanmjoaaGreat.Nt
/- What the program's Good returns (contract). Conditions: the note's bytes read. -/
set_option linter.unusedVariables false
namespace Go.Proofs.YtmkifedcanmjoaaGreat.Nt
open Go.RowKit
attribute [local go_sem ↓] Go.wp_at_zero Go.wp_at_succ


/-- What a note within its kind's bounds has. -/
theorem goodB_fit {d : NoteD} (h : goodB d = true) : (d.kind = 17 ∨ d.kind = 19 ∨ d.kind = 20 → 0 ≤ d.n ∧ d.n ≤ 255 ∧ 0 ≤ d.slot ∧ d.slot ≤ 7) ∧ (d.kind = 17 → d.bs.length = 8) := by
  constructor
  · rintro (hk | hk | hk) <;> (simp [goodB, hk, bnd, wB] at h; omega)
  · intro hk
    simp [goodB, hk, bnd, wB] at h
    omega
set_option maxRecDepth 100000 in
set_option maxHeartbeats 1600000 in
theorem good_c (d : NoteD) (A : Option Addr) (c : Nat) (w : World) (hr : Reads w w.heap.size 1 A d.bs.length (d.bs.map u8v)) (hlen : d.bs.length ≤ 9223372036854775807) :
    Calls Tryz.prog 106 #[noteV d A c] w fun e w' => e = .returned (.bool (good d)) ∧ Below w.heap.size w w' := by
  obtain ⟨res, hres⟩ : ∃ res, res = good d := ⟨_, rfl⟩
  rw [← hres]
  have HFIT := Lib.hid (goodB_fit (d := d))
  obtain ⟨kind, room, slot, epoch, n, m, bs⟩ := d
  simp only at hr hlen ⊢
  have HR := Lib.hid hr
  have HB0 : Hid (∀ br bsl be bn bm bl bmo bok, bnd kind = ⟨br, bsl, be, bn, bm, bl, bmo, bok⟩ → goodB ⟨kind, room, slot, epoch, n, m, bs⟩ = (bok && wB room br && wB slot bsl && wB epoch be && wB n bn && wB m bm && decide (bl ≤ bs.length) && decide ((bs.length : Int) ≤ bmo))) := by
    intro br bsl be bn bm bl bmo bok h
    simp only [goodB, h]
  obtain ⟨br, bsl, be, bn, bm, bl, bmo, bok, hbnd⟩ : ∃ br bsl be bn bm bl bmo bok, bnd kind = ⟨br, bsl, be, bn, bm, bl, bmo, bok⟩ := ⟨_, _, _, _, _, _, _, _, rfl⟩
  have HGB := Lib.hid (HB0.out _ _ _ _ _ _ _ _ hbnd)
  have HOF : Hid (∀ wx : World, Calls Tryz.prog 154 #[.int .i64 kind] wx fun e w' => e = .returned (.tuple #[.agg #[.int .i64 br, .int .i64 bsl, .int .i64 be, .int .i64 bn, .int .i64 bm, .int .i64 bl, .int .i64 bmo], .bool bok]) ∧ Below wx.heap.size wx w') := by
    intro wx
    have := of_c kind wx
    rw [hbnd] at this
    exact this
  have HRES : Hid (res = (goodB ⟨kind, room, slot, epoch, n, m, bs⟩ && goodK ⟨kind, room, slot, epoch, n, m, bs⟩)) := hres
  have HN : Hid (goodB ⟨kind, room, slot, epoch, n, m, bs⟩ = false → res = false) := fun h => by rw [HRES.out, h]; rfl
  clear hr hres hbnd HB0
  unfold noteV
  go_enter Tryz.func106, Tryz.ntmps106
  go_wp2_with fail
  refine (HOF.out _).mono ?_
  rintro e0 w1 ⟨rfl, hb1⟩
  have k1 := bcall (balloc (Below.refl w.heap.size w) (.cells #[.int .i64 kind, .int .i64 room, .int .i64 slot, .int .i64 epoch, .int .i64 n, .int .i64 m, .slice A bs.length c] 172)) hb1
  have bx := (Blk.new w 172 #[.int .i64 kind, .int .i64 room, .int .i64 slot, .int .i64 epoch, .int .i64 n, .int .i64 m, .slice A bs.length c]).below hb1
  have x0 : w1.cell? ⟨w.heap.size, 0, none⟩ = some (.int .i64 kind) := bx.cell 0
  have x1 : w1.cell? ⟨w.heap.size, 1, none⟩ = some (.int .i64 room) := bx.cell 1
  have x2 : w1.cell? ⟨w.heap.size, 2, none⟩ = some (.int .i64 slot) := bx.cell 2
  have x3 : w1.cell? ⟨w.heap.size, 3, none⟩ = some (.int .i64 epoch) := bx.cell 3
  have x4 : w1.cell? ⟨w.heap.size, 4, none⟩ = some (.int .i64 n) := bx.cell 4
  have x5 : w1.cell? ⟨w.heap.size, 5, none⟩ = some (.int .i64 m) := bx.cell 5
  have x6 : w1.cell? ⟨w.heap.size, 6, none⟩ = some (.slice A bs.length c) := bx.cell 6
  have hlt := bx.lt
  have HK1 := Lib.hid k1
  clear k1 bx hb1
  cases hok : bok with
  | false =>
    have HP : Hid (res = false) := HN.out (by rw [HGB.out, hok]; rfl)
    clear hok
    go_wp2
    go_ret
    exact ⟨by rw [HP.out]; rfl, balloc HK1.out _⟩
  | true =>
    have HOK := Lib.hid hok
    clear hok
    go_wp2_with fail
    refine (within_c _ _ _).mono ?_
    rintro e0 wy ⟨rfl, rfl⟩
    cases h1 : wB room br with
    | false =>
      have HP : Hid (res = false) := HN.out (by rw [HGB.out, HOK.out, h1]; simp)
      clear h1
      go_wp2
      go_ret
      exact ⟨by rw [HP.out]; rfl, balloc HK1.out _⟩
    | true =>
      have Hh1 := Lib.hid h1
      clear h1
      go_wp2_with fail
      refine (within_c _ _ _).mono ?_
      rintro e0 wy ⟨rfl, rfl⟩
      cases h2 : wB slot bsl with
      | false =>
        have HP : Hid (res = false) := HN.out (by rw [HGB.out, HOK.out, Hh1.out, h2]; simp)
        clear h2
        go_wp2
        go_ret
        exact ⟨by rw [HP.out]; rfl, balloc HK1.out _⟩
      | true =>
        have Hh2 := Lib.hid h2
        clear h2
        go_wp2_with fail
        refine (within_c _ _ _).mono ?_
        rintro e0 wy ⟨rfl, rfl⟩
        cases h3 : wB epoch be with
        | false =>
          have HP : Hid (res = false) := HN.out (by rw [HGB.out, HOK.out, Hh1.out, Hh2.out, h3]; simp)
          clear h3
          go_wp2
          go_ret
          exact ⟨by rw [HP.out]; rfl, balloc HK1.out _⟩
        | true =>
          have Hh3 := Lib.hid h3
          clear h3
          go_wp2_with fail
          refine (within_c _ _ _).mono ?_
          rintro e0 wy ⟨rfl, rfl⟩
          cases h4 : wB n bn with
          | false =>
            have HP : Hid (res = false) := HN.out (by rw [HGB.out, HOK.out, Hh1.out, Hh2.out, Hh3.out, h4]; simp)
            clear h4
            go_wp2
            go_ret
            exact ⟨by rw [HP.out]; rfl, balloc HK1.out _⟩
          | true =>
            have Hh4 := Lib.hid h4
            clear h4
            go_wp2_with fail
            refine (within_c _ _ _).mono ?_
            rintro e0 wy ⟨rfl, rfl⟩
            cases h5 : wB m bm with
            | false =>
              have HP : Hid (res = false) := HN.out (by rw [HGB.out, HOK.out, Hh1.out, Hh2.out, Hh3.out, Hh4.out, h5]; simp)
              clear h5
              go_wp2
              go_ret
              exact ⟨by rw [HP.out]; rfl, balloc HK1.out _⟩
            | true =>
              have Hh5 := Lib.hid h5
              clear h5
              by_cases h6 : bl ≤ (bs.length : Int)
              · by_cases h7 : (bs.length : Int) ≤ bmo
                · have HGT := Lib.hid (by rw [HGB.out, HOK.out, Hh1.out, Hh2.out, Hh3.out, Hh4.out, Hh5.out]; simp [h6, h7] : goodB ⟨kind, room, slot, epoch, n, m, bs⟩ = true)
                  have HRG : Hid (res = goodK ⟨kind, room, slot, epoch, n, m, bs⟩) := by show _ = _; rw [HRES.out, HGT.out, Bool.true_and]
                  have hfit : (kind = 17 ∨ kind = 19 ∨ kind = 20 → 0 ≤ n ∧ n ≤ 255 ∧ 0 ≤ slot ∧ slot ≤ 7) ∧ (kind = 17 → bs.length = 8) := HFIT.out HGT.out
                  obtain ⟨hf1, hf2⟩ := hfit
                  have HF1 := Lib.hid hf1
                  have HF2 := Lib.hid hf2
                  clear hf1 hf2
                  by_cases k17 : kind = 17
                  · obtain ⟨n0, n1, s0, s1⟩ := HF1.out (.inl k17)
                    have hl8 := HF2.out k17
                    have HL8 : Hid (bs.length ≤ 8) := by show _ ≤ _; omega
                    have hk1 : (kind == 17) = true := by simpa using k17
                    have HRG2 : Hid (res = (allAt n.toNat 0 bs && decide (epoch ≤ m) && n.toNat.testBit slot.toNat)) := by show _ = _; rw [HRG.out, goodK, if_pos k17]
                    have HNN : Hid ((n.toNat : Int) = n) := by show _ = _; omega
                    have HSS : Hid ((slot.toNat : Int) = slot) := by show _ = _; omega
                    have HN2 : Hid (n.toNat < 256) := by show _ < _; omega
                    have HS2 : Hid (slot.toNat < 8) := by show _ < _; omega
                    clear k17 hl8
                    go_wp2_with fail
                    refine (welcome_c ⟨kind, room, slot, epoch, n, m, bs⟩ A c n.toNat slot.toNat _ (HR.out.to_ (balloc HK1.out _)) HNN.out.symm HN2.out HSS.out.symm HS2.out HL8.out).mono ?_
                    rintro e0 w2 ⟨rfl, hb2⟩
                    go_wp2
                    go_ret
                    exact ⟨by rw [HRG2.out]; rfl, bcall (balloc HK1.out _) hb2⟩
                  · have hk1 : (kind == 17) = false := by simpa using k17
                    by_cases k18 : kind = 18
                    · have hk2 : (kind == 18) = true := by simpa using k18
                      have HRG2 : Hid (res = decide (1 ≤ n)) := by show _ = _; rw [HRG.out, goodK, if_neg k17, if_pos k18]
                      clear k17 k18
                      go_wp2
                      go_ret
                      exact ⟨by rw [HRG2.out]; rfl, balloc HK1.out _⟩
                    · have hk2 : (kind == 18) = false := by simpa using k18
                      by_cases k19 : kind = 19
                      · have hk3 : (kind == 19) = true := by simpa using k19
                        obtain ⟨n0, n1, s0, s1⟩ := HF1.out (.inr (.inl k19))
                        have HRG2 : Hid (res = n.toNat.testBit slot.toNat) := by show _ = _; rw [HRG.out, goodK, if_neg k17, if_neg k18, if_pos k19]
                        clear k17 k18 k19
                        obtain ⟨N, rfl⟩ := Int.eq_ofNat_of_zero_le n0
                        obtain ⟨S, rfl⟩ := Int.eq_ofNat_of_zero_le s0
                        cases hb : N.testBit S with
                        | true =>
                          have hbit := bit_on (n := N) (k := S) (by omega) hb
                          have HRG3 : Hid (res = true) := by show _ = _; rw [HRG2.out]; first | exact hb | (show (!N.testBit S) = _; rw [hb]; rfl)
                          clear hb
                          go_wp2
                          go_ret
                          exact ⟨by rw [HRG3.out]; rfl, balloc HK1.out _⟩
                        | false =>
                          have hbit := bit_off (n := N) (k := S) (by omega) hb
                          have HRG3 : Hid (res = false) := by show _ = _; rw [HRG2.out]; first | exact hb | (show (!N.testBit S) = _; rw [hb]; rfl)
                          clear hb
                          go_wp2
                          go_ret
                          exact ⟨by rw [HRG3.out]; rfl, balloc HK1.out _⟩
                      · have hk3 : (kind == 19) = false := by simpa using k19
                        by_cases k20 : kind = 20
                        · have hk4 : (kind == 20) = true := by simpa using k20
                          obtain ⟨n0, n1, s0, s1⟩ := HF1.out (.inr (.inr k20))
                          have HRG2 : Hid (res = !n.toNat.testBit slot.toNat) := by show _ = _; rw [HRG.out, goodK, if_neg k17, if_neg k18, if_neg k19, if_pos k20]
                          clear k17 k18 k19 k20
                          obtain ⟨N, rfl⟩ := Int.eq_ofNat_of_zero_le n0
                          obtain ⟨S, rfl⟩ := Int.eq_ofNat_of_zero_le s0
                          cases hb : N.testBit S with
                          | true =>
                            have hbit := bit_on (n := N) (k := S) (by omega) hb
                            have HRG3 : Hid (res = false) := by show _ = _; rw [HRG2.out]; first | exact hb | (show (!N.testBit S) = _; rw [hb]; rfl)
                            clear hb
                            go_wp2
                            go_ret
                            exact ⟨by rw [HRG3.out]; rfl, balloc HK1.out _⟩
                          | false =>
                            have hbit := bit_off (n := N) (k := S) (by omega) hb
                            have HRG3 : Hid (res = true) := by show _ = _; rw [HRG2.out]; first | exact hb | (show (!N.testBit S) = _; rw [hb]; rfl)
                            clear hb
                            go_wp2
                            go_ret
                            exact ⟨by rw [HRG3.out]; rfl, balloc HK1.out _⟩
                        · have hk4 : (kind == 20) = false := by simpa using k20
                          have HRG2 : Hid (res = true) := by show _ = _; rw [HRG.out, goodK, if_neg k17, if_neg k18, if_neg k19, if_neg k20]
                          clear k17 k18 k19 k20
                          go_wp2
                          go_ret
                          exact ⟨by rw [HRG2.out]; rfl, balloc HK1.out _⟩
                · have HP : Hid (res = false) := HN.out (by rw [HGB.out]; simp [h7])
                  go_wp2
                  go_ret
                  exact ⟨by rw [HP.out]; rfl, balloc HK1.out _⟩
              · have HP : Hid (res = false) := HN.out (by rw [HGB.out]; simp [h6])
                go_wp2
                go_ret
                exact ⟨by rw [HP.out]; rfl, balloc HK1.out _⟩
end Go.Proofs.YtmkifedcanmjoaaGreat.Nt
/- What the reference's fields, in and has return (contracts). Conditions: none. -/
set_option linter.unusedVariables false
namespace Go.Proofs.YtmkifedcanmjoaaGreat.Nt
open Go.RowKit
attribute [local go_sem ↓] Go.wp_at_zero Go.wp_at_succ

theorem in_c (x lo hi : Int) (w : World) : Calls Tryz.prog 84 #[.int .i64 x, .int .i64 lo, .int .i64 hi] w fun e w' => e = .returned (.bool (inB x lo hi)) ∧ w = w' := by
  by_cases h0 : lo ≤ x
  · by_cases h1 : x ≤ hi
    · have H : Hid (inB x lo hi = true) := by show _ = _; simp [inB, h0, h1]
      go_enter Tryz.func84, Tryz.ntmps84
      go_wp2
      go_ret
      exact ⟨by rw [H.out]; rfl, rfl⟩
    · have H : Hid (inB x lo hi = false) := by show _ = _; simp [inB, h0, h1]
      go_enter Tryz.func84, Tryz.ntmps84
      go_wp2
      go_ret
      exact ⟨by rw [H.out]; rfl, rfl⟩
  · have H : Hid (inB x lo hi = false) := by show _ = _; simp [inB, h0]
    go_enter Tryz.func84, Tryz.ntmps84
    go_wp2
    go_ret
    exact ⟨by rw [H.out]; rfl, rfl⟩
theorem has_c (s : ByteArray) (c : UInt8) (b : Bool) (w : World) (hs : s.size ≤ 1000) (h : s.data.toList.contains c = b) : Calls Tryz.prog 85 #[.string s, .int .u8 (c.toNat : Int)] w fun e w' => e = .returned (.bool b) ∧ w = w' := by
  have HB := Lib.hid h
  clear h
  go_enter Tryz.func85, Tryz.ntmps85
  go_wp2_with fail
  go_loop [5] (fun i => ∃ k : Nat, k ≤ s.size ∧ i = .int .i64 k ∧ ∀ j (hj : j < s.size), j < k → s[j] ≠ c) (fun i => s.size - (intOf i).toNat)
  case atStart => exact ⟨0, Nat.zero_le _, rfl, fun j _ hj => absurd hj (by omega)⟩
  case round =>
    obtain ⟨k, hk, rfl, hno⟩ := hrel
    have HNO := Lib.hid hno
    clear hno
    by_cases hlt : k < s.size
    · by_cases he : s[k] = c
      · have he1 : ((s[k].toNat : Int) == (c.toNat : Int)) = true := by rw [he]; simp
        have HP : Hid (b = true) := by
          show _ = _
          rw [← HB.out, List.contains_iff_mem, ← he]
          exact Array.getElem_mem_toList (xs := s.data) (i := k) hlt
        clear he
        go_wp2
        go_ret
        exact ⟨by rw [HP.out]; rfl, rfl⟩
      · have he1 : ((s[k].toNat : Int) == (c.toNat : Int)) = false := by
          rw [beq_eq_false_iff_ne]; intro e; exact he (UInt8.toNat_inj.1 (by omega))
        have HE := Lib.hid he
        clear he
        go_wp2
        go_round
        case rel =>
          refine ⟨k + 1, by omega, by go_num, fun j hj hjk => ?_⟩
          rcases Nat.lt_or_ge j k with h | h
          · exact HNO.out j hj h
          · obtain rfl : j = k := by omega
            exact HE.out
        case measure => simp [intOf]; omega
    · have HP : Hid (b = false) := by
        show _ = _
        rw [← HB.out]
        cases hc : s.data.toList.contains c with
        | false => rfl
        | true =>
          rw [List.contains_iff_mem] at hc
          obtain ⟨j, hj, e⟩ := List.getElem_of_mem hc
          have hj2 : j < s.size := by simpa using hj
          exact absurd (show s[j] = c by rw [← e]; rfl) (HNO.out j hj2 (by omega))
      go_wp2
      go_ret
      exact ⟨by rw [HP.out]; rfl, rfl⟩
theorem fields_1 (w : World) : Calls Tryz.prog 83 #[.int .i64 1] w fun e w' => e = .returned (.string ⟨#[114]⟩) ∧ w = w' := by
  go_enter Tryz.func83, Tryz.ntmps83
  go_wp2
  go_ret
  exact ⟨rfl, rfl⟩
theorem fields_2 (w : World) : Calls Tryz.prog 83 #[.int .i64 2] w fun e w' => e = .returned (.string ⟨#[45]⟩) ∧ w = w' := by
  go_enter Tryz.func83, Tryz.ntmps83
  go_wp2
  go_ret
  exact ⟨rfl, rfl⟩
theorem fields_3 (w : World) : Calls Tryz.prog 83 #[.int .i64 3] w fun e w' => e = .returned (.string ⟨#[115]⟩) ∧ w = w' := by
  go_enter Tryz.func83, Tryz.ntmps83
  go_wp2
  go_ret
  exact ⟨rfl, rfl⟩
theorem fields_4 (w : World) : Calls Tryz.prog 83 #[.int .i64 4] w fun e w' => e = .returned (.string ⟨#[110, 109, 98]⟩) ∧ w = w' := by
  go_enter Tryz.func83, Tryz.ntmps83
  go_wp2
  go_ret
  exact ⟨rfl, rfl⟩
theorem fields_5 (w : World) : Calls Tryz.prog 83 #[.int .i64 5] w fun e w' => e = .returned (.string ⟨#[115, 110, 109]⟩) ∧ w = w' := by
  go_enter Tryz.func83, Tryz.ntmps83
  go_wp2
  go_ret
  exact ⟨rfl, rfl⟩
theorem fields_6 (w : World) : Calls Tryz.prog 83 #[.int .i64 6] w fun e w' => e = .returned (.string ⟨#[115]⟩) ∧ w = w' := by
  go_enter Tryz.func83, Tryz.ntmps83
  go_wp2
  go_ret
  exact ⟨rfl, rfl⟩
theorem fields_7 (w : World) : Calls Tryz.prog 83 #[.int .i64 7] w fun e w' => e = .returned (.string ⟨#[115, 101, 110, 98]⟩) ∧ w = w' := by
  go_enter Tryz.func83, Tryz.ntmps83
  go_wp2
  go_ret
  exact ⟨rfl, rfl⟩
theorem fields_8 (w : World) : Calls Tryz.prog 83 #[.int .i64 8] w fun e w' => e = .returned (.string ⟨#[101]⟩) ∧ w = w' := by
  go_enter Tryz.func83, Tryz.ntmps83
  go_wp2
  go_ret
  exact ⟨rfl, rfl⟩
theorem fields_9 (w : World) : Calls Tryz.prog 83 #[.int .i64 9] w fun e w' => e = .returned (.string ⟨#[45]⟩) ∧ w = w' := by
  go_enter Tryz.func83, Tryz.ntmps83
  go_wp2
  go_ret
  exact ⟨rfl, rfl⟩
theorem fields_17 (w : World) : Calls Tryz.prog 83 #[.int .i64 17] w fun e w' => e = .returned (.string ⟨#[114, 115, 101, 110, 109, 98]⟩) ∧ w = w' := by
  go_enter Tryz.func83, Tryz.ntmps83
  go_wp2
  go_ret
  exact ⟨rfl, rfl⟩
theorem fields_18 (w : World) : Calls Tryz.prog 83 #[.int .i64 18] w fun e w' => e = .returned (.string ⟨#[110, 109]⟩) ∧ w = w' := by
  go_enter Tryz.func83, Tryz.ntmps83
  go_wp2
  go_ret
  exact ⟨rfl, rfl⟩
theorem fields_19 (w : World) : Calls Tryz.prog 83 #[.int .i64 19] w fun e w' => e = .returned (.string ⟨#[115, 101, 110, 109]⟩) ∧ w = w' := by
  go_enter Tryz.func83, Tryz.ntmps83
  go_wp2
  go_ret
  exact ⟨rfl, rfl⟩
theorem fields_20 (w : World) : Calls Tryz.prog 83 #[.int .i64 20] w fun e w' => e = .returned (.string ⟨#[115, 101, 110]⟩) ∧ w = w' := by
  go_enter Tryz.func83, Tryz.ntmps83
  go_wp2
  go_ret
  exact ⟨rfl, rfl⟩
theorem fields_21 (w : World) : Calls Tryz.prog 83 #[.int .i64 21] w fun e w' => e = .returned (.string ⟨#[115, 101, 110, 98]⟩) ∧ w = w' := by
  go_enter Tryz.func83, Tryz.ntmps83
  go_wp2
  go_ret
  exact ⟨rfl, rfl⟩
theorem fields_22 (w : World) : Calls Tryz.prog 83 #[.int .i64 22] w fun e w' => e = .returned (.string ⟨#[101]⟩) ∧ w = w' := by
  go_enter Tryz.func83, Tryz.ntmps83
  go_wp2
  go_ret
  exact ⟨rfl, rfl⟩
theorem fields_23 (w : World) : Calls Tryz.prog 83 #[.int .i64 23] w fun e w' => e = .returned (.string ⟨#[45]⟩) ∧ w = w' := by
  go_enter Tryz.func83, Tryz.ntmps83
  go_wp2
  go_ret
  exact ⟨rfl, rfl⟩
theorem fields_24 (w : World) : Calls Tryz.prog 83 #[.int .i64 24] w fun e w' => e = .returned (.string ⟨#[115, 98]⟩) ∧ w = w' := by
  go_enter Tryz.func83, Tryz.ntmps83
  go_wp2
  go_ret
  exact ⟨rfl, rfl⟩
theorem fields_other (k : Int) (h : ¬ isKind k) (w : World) : Calls Tryz.prog 83 #[.int .i64 k] w fun e w' => e = .returned (.string ⟨#[]⟩) ∧ w = w' := by
  simp only [isKind, not_or] at h
  obtain ⟨h1, h2, h3, h4, h5, h6, h7, h8, h9, h17, h18, h19, h20, h21, h22, h23, h24⟩ := h
  have e1 : (k == 1) = false := by simpa using h1
  have e2 : (k == 2) = false := by simpa using h2
  have e3 : (k == 3) = false := by simpa using h3
  have e4 : (k == 4) = false := by simpa using h4
  have e5 : (k == 5) = false := by simpa using h5
  have e6 : (k == 6) = false := by simpa using h6
  have e7 : (k == 7) = false := by simpa using h7
  have e8 : (k == 8) = false := by simpa using h8
  have e9 : (k == 9) = false := by simpa using h9
  have e17 : (k == 17) = false := by simpa using h17
  have e18 : (k == 18) = false := by simpa using h18
  have e19 : (k == 19) = false := by simpa using h19
  have e20 : (k == 20) = false := by simpa using h20
  have e21 : (k == 21) = false := by simpa using h21
  have e22 : (k == 22) = false := by simpa using h22
  have e23 : (k == 23) = false := by simpa using h23
  have e24 : (k == 24) = false := by simpa using h24
  clear h1 h2 h3 h4 h5 h6 h7 h8 h9 h17 h18 h19 h20 h21 h22 h23 h24
  go_enter Tryz.func83, Tryz.ntmps83
  go_wp2
  go_ret
  exact ⟨rfl, rfl⟩
end Go.Proofs.YtmkifedcanmjoaaGreat.Nt
/- What the reference's seats returns, and its Good where its first tests fail (contracts). Conditions: the note's bytes read. -/
set_option linter.unusedVariables false
namespace Go.Proofs.YtmkifedcanmjoaaGreat.Nt
open Go.RowKit
attribute [local go_sem ↓] Go.wp_at_zero Go.wp_at_succ
theorem has_114 (l : List UInt8) (w : World) (h : l.length ≤ 1000) : Calls Tryz.prog 85 #[.string ⟨l.toArray⟩, .int .u8 114] w fun e w' => e = .returned (.bool (l.contains 114)) ∧ w = w' :=
  has_c ⟨l.toArray⟩ 114 _ w (by simpa [ByteArray.size] using h) rfl
theorem has_115 (l : List UInt8) (w : World) (h : l.length ≤ 1000) : Calls Tryz.prog 85 #[.string ⟨l.toArray⟩, .int .u8 115] w fun e w' => e = .returned (.bool (l.contains 115)) ∧ w = w' :=
  has_c ⟨l.toArray⟩ 115 _ w (by simpa [ByteArray.size] using h) rfl
theorem has_101 (l : List UInt8) (w : World) (h : l.length ≤ 1000) : Calls Tryz.prog 85 #[.string ⟨l.toArray⟩, .int .u8 101] w fun e w' => e = .returned (.bool (l.contains 101)) ∧ w = w' :=
  has_c ⟨l.toArray⟩ 101 _ w (by simpa [ByteArray.size] using h) rfl
theorem has_110 (l : List UInt8) (w : World) (h : l.length ≤ 1000) : Calls Tryz.prog 85 #[.string ⟨l.toArray⟩, .int .u8 110] w fun e w' => e = .returned (.bool (l.contains 110)) ∧ w = w' :=
  has_c ⟨l.toArray⟩ 110 _ w (by simpa [ByteArray.size] using h) rfl
theorem has_109 (l : List UInt8) (w : World) (h : l.length ≤ 1000) : Calls Tryz.prog 85 #[.string ⟨l.toArray⟩, .int .u8 109] w fun e w' => e = .returned (.bool (l.contains 109)) ∧ w = w' :=
  has_c ⟨l.toArray⟩ 109 _ w (by simpa [ByteArray.size] using h) rfl
theorem has_98 (l : List UInt8) (w : World) (h : l.length ≤ 1000) : Calls Tryz.prog 85 #[.string ⟨l.toArray⟩, .int .u8 98] w fun e w' => e = .returned (.bool (l.contains 98)) ∧ w = w' :=
  has_c ⟨l.toArray⟩ 98 _ w (by simpa [ByteArray.size] using h) rfl

set_option maxRecDepth 100000 in
set_option maxHeartbeats 1600000 in
theorem goodr_no (d : NoteD) (A : Option Addr) (c : Nat) (w : World) (hlen : d.bs.length ≤ 9223372036854775807) (hno : goodR1 d = false) (s : ByteArray) (hs : ∀ wx : World, Calls Tryz.prog 83 #[.int .i64 d.kind] wx fun e w' => e = .returned (.string s) ∧ wx = w') (hs2 : s.toList.isEmpty = (fieldsS d.kind).isEmpty) :
    Calls Tryz.prog 49 #[noteV d A c] w fun e w' => e = .returned (.bool false) ∧ Below w.heap.size w w' := by
  have HS := Lib.hid hs
  have HNO := Lib.hid hno
  obtain ⟨kind, room, slot, epoch, n, m, bs⟩ := d
  simp only at hlen
  obtain ⟨em, hem⟩ : ∃ em, em = (fieldsS kind).isEmpty := ⟨_, rfl⟩
  have HEM := Lib.hid hem
  rw [show (fieldsS (NoteD.mk kind room slot epoch n m bs).kind).isEmpty = em from hem.symm] at hs2
  clear hs hno hem
  unfold noteV
  go_enter Tryz.func49, Tryz.ntmps49
  go_wp2_with fail
  refine (HS.out _).mono ?_
  rintro e0 w1 ⟨rfl, rfl⟩
  cases em with
  | true =>
    go_wp2
    go_ret
    exact ⟨rfl, balloc (Below.refl _ _) _⟩
  | false =>
    go_wp2_with fail
    refine (in_c _ _ _ _).mono ?_
    rintro e0 wy ⟨rfl, rfl⟩
    cases h1 : inB room 0 3 with
    | false =>
      clear h1
      go_wp2
      go_ret
      exact ⟨rfl, balloc (Below.refl _ _) _⟩
    | true =>
      have Hh1 := Lib.hid h1
      clear h1
      go_wp2_with fail
      refine (in_c _ _ _ _).mono ?_
      rintro e0 wy ⟨rfl, rfl⟩
      cases h2 : inB slot 0 7 with
      | false =>
        clear h2
        go_wp2
        go_ret
        exact ⟨rfl, balloc (Below.refl _ _) _⟩
      | true =>
        have Hh2 := Lib.hid h2
        clear h2
        go_wp2_with fail
        refine (in_c _ _ _ _).mono ?_
        rintro e0 wy ⟨rfl, rfl⟩
        cases h3 : inB epoch 0 65535 with
        | false =>
          clear h3
          go_wp2
          go_ret
          exact ⟨rfl, balloc (Below.refl _ _) _⟩
        | true =>
          have Hh3 := Lib.hid h3
          clear h3
          go_wp2_with fail
          refine (in_c _ _ _ _).mono ?_
          rintro e0 wy ⟨rfl, rfl⟩
          cases h4 : inB n 0 65535 with
          | false =>
            clear h4
            go_wp2
            go_ret
            exact ⟨rfl, balloc (Below.refl _ _) _⟩
          | true =>
            have Hh4 := Lib.hid h4
            clear h4
            go_wp2_with fail
            refine (in_c _ _ _ _).mono ?_
            rintro e0 wy ⟨rfl, rfl⟩
            cases h5 : inB m 0 65535 with
            | false =>
              clear h5
              go_wp2
              go_ret
              exact ⟨rfl, balloc (Below.refl _ _) _⟩
            | true =>
              have Hh5 := Lib.hid h5
              clear h5
              have h6 : ¬ bs.length ≤ 200 := by
                intro h6
                have := HNO.out
                simp only [goodR1, ← HEM.out, Hh1.out, Hh2.out, Hh3.out, Hh4.out, Hh5.out, h6] at this
                simp at this
              go_wp2
              go_ret
              exact ⟨rfl, balloc (Below.refl _ _) _⟩

set_option maxHeartbeats 800000 in
theorem seats_c (d : NoteD) (A : Option Addr) (c N : Nat) (w : World) (hr : Reads w w.heap.size 1 A d.bs.length (d.bs.map u8v)) (hN : d.n = N) (hN2 : N < 256) :
    Calls Tryz.prog 86 #[noteV d A c] w fun e w' => e = .returned (.bool (decide (d.bs.length = 8) && allAt N 0 d.bs)) ∧ Below w.heap.size w w' := by
  obtain ⟨kind, room, slot, epoch, n, m, bs⟩ := d
  simp only at hN hr ⊢
  subst hN
  have HR := Lib.hid hr
  clear hr
  unfold noteV
  obtain ⟨res, hres⟩ : ∃ res, res = (decide (bs.length = 8) && allAt N 0 bs) := ⟨_, rfl⟩
  rw [← hres]
  have HRES := Lib.hid hres
  clear hres
  by_cases hl : bs.length = 8
  · have hl1 : ((bs.length : Int) != 8) = false := by simp [hl]
    have HL := Lib.hid hl
    have hl2 : 8 ≤ bs.length := by omega
    have hl3 : (8 : Int) ≤ (bs.length : Int) := by omega
    clear hl
    go_enter Tryz.func86, Tryz.ntmps86
    go_wp2_with fail
    go_loopg [3] 8 (fun gg i wr => ∃ k, k ≤ 8 ∧ gg = 8 - k ∧ i = .int .i64 k ∧ allAt N 0 (bs.take k) = true ∧ Below w.heap.size w wr ∧ w.heap.size < wr.heap.size ∧ (wr.cell? ⟨w.heap.size, 4, none⟩ = some (.int .i64 N) ∧ wr.cell? ⟨w.heap.size, 6, none⟩ = some (.slice A bs.length c)))
    case atStart => exact ⟨0, by omega, rfl, rfl, by simp [allAt], (Below.refl _ _).alloc (Nat.le_refl _) _, by simp, by simp⟩
    case round =>
      obtain ⟨k, hk, rfl, rfl, hall, hbel, hlt, hcells⟩ := hrel
      obtain ⟨hc4, hc6⟩ := hcells
      have HA := Lib.hid hall
      clear hall
      by_cases hk8 : k < 8
      · have hkn : k < bs.length := by omega
        obtain ⟨ad, rfl, hadl, hcell⟩ := (HR.out.below hbel).2 (by omega)
        obtain ⟨a, ha⟩ : ∃ a, a = bs[k] := ⟨_, rfl⟩
        have ck := hcell k (u8v a) (by simp [hkn, ha])
        have c00 := hcell 0 (u8v (bs[0]'(by omega))) (by rw [List.getElem?_map, List.getElem?_eq_getElem (by omega)]; rfl)
        obtain ⟨b, off, rfl⟩ := addr_plain c00
        rw [Go.WideShapes.add_plain] at ck
        have HK := Lib.hid ha
        clear c00 hcell ha
        unfold u8v at ck
        have hk8i : (k : Int) < 8 := by omega
        by_cases hb : N.testBit k = true
        · have hbit := bit_on (n := N) (k := k) (by omega) hb
          have HB := Lib.hid hb
          clear hb
          by_cases hu : a.toNat ≤ 63
          · have hui : (a.toNat : Int) ≤ 63 := by omega
            go_wp2
            go_roundg (8 - (k + 1))
            case measure => omega
            case rel => exact ⟨k + 1, by omega, rfl, by go_num, allAt_next hkn HA.out (by rw [← HK.out]; simp [okAt, HB.out, hu]), hbel, hlt, hc4, hc6⟩
          · have hui : ¬ (a.toNat : Int) ≤ 63 := by omega
            have HP : Hid (res = false) := by show _ = _; rw [HRES.out, allAt_no hkn (by rw [← HK.out]; simp [okAt, HB.out, hu]), Bool.and_false]
            go_wp2
            go_ret
            exact ⟨by rw [HP.out]; rfl, hbel⟩
        · have hb2 : N.testBit k = false := by simpa using hb
          have hbit := bit_off (n := N) (k := k) (by omega) hb2
          have HB := Lib.hid hb2
          clear hb hb2
          by_cases hu : a = 255
          · subst hu
            go_wp2
            go_roundg (8 - (k + 1))
            case measure => omega
            case rel => exact ⟨k + 1, by omega, rfl, by go_num, allAt_next hkn HA.out (by rw [← HK.out]; simp [okAt, HB.out]), hbel, hlt, hc4, hc6⟩
          · have hu2 : ((a.toNat : Int) != 255) = true := by
              rw [bne_iff_ne]; intro e; exact hu (UInt8.toNat_inj.1 (by show a.toNat = 255; omega))
            have HP : Hid (res = false) := by show _ = _; rw [HRES.out, allAt_no hkn (by rw [← HK.out]; simp [okAt, HB.out, hu]), Bool.and_false]
            clear hu
            go_wp2
            go_ret
            exact ⟨by rw [HP.out]; rfl, hbel⟩
      · have hkn' : k = 8 := by omega
        have HALL : Hid (allAt N 0 bs = true) := by
          have := HA.out
          rw [hkn', show 8 = bs.length from HL.out.symm, List.take_length] at this; exact this
        subst hkn'
        have HP : Hid (res = true) := by show _ = _; rw [HRES.out, HALL.out, HL.out]; rfl
        go_wp2
        go_ret
        exact ⟨by rw [HP.out]; rfl, hbel⟩
  · have hl1 : ((bs.length : Int) != 8) = true := by rw [bne_iff_ne]; omega
    have HP : Hid (res = false) := by show _ = _; rw [HRES.out]; simp [hl]
    clear hl
    go_enter Tryz.func86, Tryz.ntmps86
    go_wp2
    go_ret
    exact ⟨by rw [HP.out]; rfl, (Below.refl _ _).alloc (Nat.le_refl _) _⟩
end Go.Proofs.YtmkifedcanmjoaaGreat.Nt
