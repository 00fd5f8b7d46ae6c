/- What the program's of and within return (contracts). Conditions: none. -/
import Derived.Test.YtmaemfjepdicfaaPlain
set_option linter.unusedVariables false
namespace Go.Proofs.Ytmaemfjepdicfaa
open Go.RowKit
attribute [local go_sem ↓] Go.wp_at_zero Go.wp_at_succ

def bndV (b : Bnd) : Value := .agg #[.int .i64 b.room, .int .i64 b.slot, .int .i64 b.epoch, .int .i64 b.n, .int .i64 b.m, .int .i64 b.least, .int .i64 b.most]
theorem within_c (x y : Int) (w : World) : Calls Try.prog 19 #[.int .i64 x, .int .i64 y] w fun e w' => e = .returned (.bool (wB x y)) ∧ w = w' := by
  by_cases h0 : 0 ≤ x
  · by_cases h1 : x ≤ y
    · have H : Hid (wB x y = true) := by show _ = _; simp [wB, h0, h1]
      go_enter Try.func19, Try.ntmps19
      go_wp2
      go_ret
      exact ⟨by rw [H.out]; rfl, rfl⟩
    · have H : Hid (wB x y = false) := by show _ = _; simp [wB, h0, h1]
      go_enter Try.func19, Try.ntmps19
      go_wp2
      go_ret
      exact ⟨by rw [H.out]; rfl, rfl⟩
  · have H : Hid (wB x y = false) := by show _ = _; simp [wB, h0]
    go_enter Try.func19, Try.ntmps19
    go_wp2
    go_ret
    exact ⟨by rw [H.out]; rfl, rfl⟩
theorem of_1 (w : World) : Calls Try.prog 18 #[.int .i64 1] w fun e w' => e = .returned (.tuple #[bndV (bnd 1), .bool true]) ∧ Below w.heap.size w w' := by
  have H : Hid (bndV (bnd 1) = .agg #[.int .i64 3, .int .i64 0, .int .i64 0, .int .i64 0, .int .i64 0, .int .i64 0, .int .i64 0]) := by show _ = _; simp [bndV, bnd]
  rw [H.out]
  go_enter Try.func18, Try.ntmps18
  go_wp2
  exact bodyPost_ret (v := .tuple #[.agg #[.int .i64 3, .int .i64 0, .int .i64 0, .int .i64 0, .int .i64 0, .int .i64 0, .int .i64 0], .bool true]) (by simp [results, Try.results18, go_sem]) rfl ⟨rfl, (Below.refl _ _).alloc (Nat.le_refl _) _⟩
theorem of_2 (w : World) : Calls Try.prog 18 #[.int .i64 2] w fun e w' => e = .returned (.tuple #[bndV (bnd 2), .bool true]) ∧ Below w.heap.size w w' := by
  have H : Hid (bndV (bnd 2) = .agg #[.int .i64 0, .int .i64 0, .int .i64 0, .int .i64 0, .int .i64 0, .int .i64 0, .int .i64 0]) := by show _ = _; simp [bndV, bnd]
  rw [H.out]
  go_enter Try.func18, Try.ntmps18
  go_wp2
  exact bodyPost_ret (v := .tuple #[.agg #[.int .i64 0, .int .i64 0, .int .i64 0, .int .i64 0, .int .i64 0, .int .i64 0, .int .i64 0], .bool true]) (by simp [results, Try.results18, go_sem]) rfl ⟨rfl, (Below.refl _ _).alloc (Nat.le_refl _) _⟩
theorem of_3 (w : World) : Calls Try.prog 18 #[.int .i64 3] w fun e w' => e = .returned (.tuple #[bndV (bnd 3), .bool true]) ∧ Below w.heap.size w w' := by
  have H : Hid (bndV (bnd 3) = .agg #[.int .i64 0, .int .i64 7, .int .i64 0, .int .i64 0, .int .i64 0, .int .i64 0, .int .i64 0]) := by show _ = _; simp [bndV, bnd]
  rw [H.out]
  go_enter Try.func18, Try.ntmps18
  go_wp2
  exact bodyPost_ret (v := .tuple #[.agg #[.int .i64 0, .int .i64 7, .int .i64 0, .int .i64 0, .int .i64 0, .int .i64 0, .int .i64 0], .bool true]) (by simp [results, Try.results18, go_sem]) rfl ⟨rfl, (Below.refl _ _).alloc (Nat.le_refl _) _⟩
theorem of_4 (w : World) : Calls Try.prog 18 #[.int .i64 4] w fun e w' => e = .returned (.tuple #[bndV (bnd 4), .bool true]) ∧ Below w.heap.size w w' := by
  have H : Hid (bndV (bnd 4) = .agg #[.int .i64 0, .int .i64 0, .int .i64 0, .int .i64 2, .int .i64 65535, .int .i64 4, .int .i64 4]) := by show _ = _; simp [bndV, bnd]
  rw [H.out]
  go_enter Try.func18, Try.ntmps18
  go_wp2
  exact bodyPost_ret (v := .tuple #[.agg #[.int .i64 0, .int .i64 0, .int .i64 0, .int .i64 2, .int .i64 65535, .int .i64 4, .int .i64 4], .bool true]) (by simp [results, Try.results18, go_sem]) rfl ⟨rfl, (Below.refl _ _).alloc (Nat.le_refl _) _⟩
theorem of_5 (w : World) : Calls Try.prog 18 #[.int .i64 5] w fun e w' => e = .returned (.tuple #[bndV (bnd 5), .bool true]) ∧ Below w.heap.size w w' := by
  have H : Hid (bndV (bnd 5) = .agg #[.int .i64 0, .int .i64 7, .int .i64 0, .int .i64 3, .int .i64 7, .int .i64 0, .int .i64 0]) := by show _ = _; simp [bndV, bnd]
  rw [H.out]
  go_enter Try.func18, Try.ntmps18
  go_wp2
  exact bodyPost_ret (v := .tuple #[.agg #[.int .i64 0, .int .i64 7, .int .i64 0, .int .i64 3, .int .i64 7, .int .i64 0, .int .i64 0], .bool true]) (by simp [results, Try.results18, go_sem]) rfl ⟨rfl, (Below.refl _ _).alloc (Nat.le_refl _) _⟩
theorem of_6 (w : World) : Calls Try.prog 18 #[.int .i64 6] w fun e w' => e = .returned (.tuple #[bndV (bnd 6), .bool true]) ∧ Below w.heap.size w w' := by
  have H : Hid (bndV (bnd 6) = .agg #[.int .i64 0, .int .i64 7, .int .i64 0, .int .i64 0, .int .i64 0, .int .i64 0, .int .i64 0]) := by show _ = _; simp [bndV, bnd]
  rw [H.out]
  go_enter Try.func18, Try.ntmps18
  go_wp2
  exact bodyPost_ret (v := .tuple #[.agg #[.int .i64 0, .int .i64 7, .int .i64 0, .int .i64 0, .int .i64 0, .int .i64 0, .int .i64 0], .bool true]) (by simp [results, Try.results18, go_sem]) rfl ⟨rfl, (Below.refl _ _).alloc (Nat.le_refl _) _⟩
theorem of_7 (w : World) : Calls Try.prog 18 #[.int .i64 7] w fun e w' => e = .returned (.tuple #[bndV (bnd 7), .bool true]) ∧ Below w.heap.size w w' := by
  have H : Hid (bndV (bnd 7) = .agg #[.int .i64 0, .int .i64 7, .int .i64 65535, .int .i64 31, .int .i64 0, .int .i64 1, .int .i64 200]) := by show _ = _; simp [bndV, bnd]
  rw [H.out]
  go_enter Try.func18, Try.ntmps18
  go_wp2
  exact bodyPost_ret (v := .tuple #[.agg #[.int .i64 0, .int .i64 7, .int .i64 65535, .int .i64 31, .int .i64 0, .int .i64 1, .int .i64 200], .bool true]) (by simp [results, Try.results18, go_sem]) rfl ⟨rfl, (Below.refl _ _).alloc (Nat.le_refl _) _⟩
theorem of_8 (w : World) : Calls Try.prog 18 #[.int .i64 8] w fun e w' => e = .returned (.tuple #[bndV (bnd 8), .bool true]) ∧ Below w.heap.size w w' := by
  have H : Hid (bndV (bnd 8) = .agg #[.int .i64 0, .int .i64 0, .int .i64 65535, .int .i64 0, .int .i64 0, .int .i64 0, .int .i64 0]) := by show _ = _; simp [bndV, bnd]
  rw [H.out]
  go_enter Try.func18, Try.ntmps18
  go_wp2
  exact bodyPost_ret (v := .tuple #[.agg #[.int .i64 0, .int .i64 0, .int .i64 65535, .int .i64 0, .int .i64 0, .int .i64 0, .int .i64 0], .bool true]) (by simp [results, Try.results18, go_sem]) rfl ⟨rfl, (Below.refl _ _).alloc (Nat.le_refl _) _⟩
theorem of_9 (w : World) : Calls Try.prog 18 #[.int .i64 9] w fun e w' => e = .returned (.tuple #[bndV (bnd 9), .bool true]) ∧ Below w.heap.size w w' := by
  have H : Hid (bndV (bnd 9) = .agg #[.int .i64 0, .int .i64 0, .int .i64 0, .int .i64 0, .int .i64 0, .int .i64 0, .int .i64 0]) := by show _ = _; simp [bndV, bnd]
  rw [H.out]
  go_enter Try.func18, Try.ntmps18
  go_wp2
  exact bodyPost_ret (v := .tuple #[.agg #[.int .i64 0, .int .i64 0, .int .i64 0, .int .i64 0, .int .i64 0, .int .i64 0, .int .i64 0], .bool true]) (by simp [results, Try.results18, go_sem]) rfl ⟨rfl, (Below.refl _ _).alloc (Nat.le_refl _) _⟩
theorem of_17 (w : World) : Calls Try.prog 18 #[.int .i64 17] w fun e w' => e = .returned (.tuple #[bndV (bnd 17), .bool true]) ∧ Below w.heap.size w w' := by
  have H : Hid (bndV (bnd 17) = .agg #[.int .i64 3, .int .i64 7, .int .i64 65535, .int .i64 255, .int .i64 65535, .int .i64 8, .int .i64 8]) := by show _ = _; simp [bndV, bnd]
  rw [H.out]
  go_enter Try.func18, Try.ntmps18
  go_wp2
  exact bodyPost_ret (v := .tuple #[.agg #[.int .i64 3, .int .i64 7, .int .i64 65535, .int .i64 255, .int .i64 65535, .int .i64 8, .int .i64 8], .bool true]) (by simp [results, Try.results18, go_sem]) rfl ⟨rfl, (Below.refl _ _).alloc (Nat.le_refl _) _⟩
theorem of_18 (w : World) : Calls Try.prog 18 #[.int .i64 18] w fun e w' => e = .returned (.tuple #[bndV (bnd 18), .bool true]) ∧ Below w.heap.size w w' := by
  have H : Hid (bndV (bnd 18) = .agg #[.int .i64 0, .int .i64 0, .int .i64 0, .int .i64 13, .int .i64 9, .int .i64 0, .int .i64 0]) := by show _ = _; simp [bndV, bnd]
  rw [H.out]
  go_enter Try.func18, Try.ntmps18
  go_wp2
  exact bodyPost_ret (v := .tuple #[.agg #[.int .i64 0, .int .i64 0, .int .i64 0, .int .i64 13, .int .i64 9, .int .i64 0, .int .i64 0], .bool true]) (by simp [results, Try.results18, go_sem]) rfl ⟨rfl, (Below.refl _ _).alloc (Nat.le_refl _) _⟩
theorem of_19 (w : World) : Calls Try.prog 18 #[.int .i64 19] w fun e w' => e = .returned (.tuple #[bndV (bnd 19), .bool true]) ∧ Below w.heap.size w w' := by
  have H : Hid (bndV (bnd 19) = .agg #[.int .i64 0, .int .i64 7, .int .i64 65535, .int .i64 255, .int .i64 63, .int .i64 0, .int .i64 0]) := by show _ = _; simp [bndV, bnd]
  rw [H.out]
  go_enter Try.func18, Try.ntmps18
  go_wp2
  exact bodyPost_ret (v := .tuple #[.agg #[.int .i64 0, .int .i64 7, .int .i64 65535, .int .i64 255, .int .i64 63, .int .i64 0, .int .i64 0], .bool true]) (by simp [results, Try.results18, go_sem]) rfl ⟨rfl, (Below.refl _ _).alloc (Nat.le_refl _) _⟩
theorem of_20 (w : World) : Calls Try.prog 18 #[.int .i64 20] w fun e w' => e = .returned (.tuple #[bndV (bnd 20), .bool true]) ∧ Below w.heap.size w w' := by
  have H : Hid (bndV (bnd 20) = .agg #[.int .i64 0, .int .i64 7, .int .i64 65535, .int .i64 255, .int .i64 0, .int .i64 0, .int .i64 0]) := by show _ = _; simp [bndV, bnd]
  rw [H.out]
  go_enter Try.func18, Try.ntmps18
  go_wp2
  exact bodyPost_ret (v := .tuple #[.agg #[.int .i64 0, .int .i64 7, .int .i64 65535, .int .i64 255, .int .i64 0, .int .i64 0, .int .i64 0], .bool true]) (by simp [results, Try.results18, go_sem]) rfl ⟨rfl, (Below.refl _ _).alloc (Nat.le_refl _) _⟩
theorem of_21 (w : World) : Calls Try.prog 18 #[.int .i64 21] w fun e w' => e = .returned (.tuple #[bndV (bnd 21), .bool true]) ∧ Below w.heap.size w w' := by
  have H : Hid (bndV (bnd 21) = .agg #[.int .i64 0, .int .i64 7, .int .i64 65535, .int .i64 31, .int .i64 0, .int .i64 1, .int .i64 200]) := by show _ = _; simp [bndV, bnd]
  rw [H.out]
  go_enter Try.func18, Try.ntmps18
  go_wp2
  exact bodyPost_ret (v := .tuple #[.agg #[.int .i64 0, .int .i64 7, .int .i64 65535, .int .i64 31, .int .i64 0, .int .i64 1, .int .i64 200], .bool true]) (by simp [results, Try.results18, go_sem]) rfl ⟨rfl, (Below.refl _ _).alloc (Nat.le_refl _) _⟩
theorem of_22 (w : World) : Calls Try.prog 18 #[.int .i64 22] w fun e w' => e = .returned (.tuple #[bndV (bnd 22), .bool true]) ∧ Below w.heap.size w w' := by
  have H : Hid (bndV (bnd 22) = .agg #[.int .i64 0, .int .i64 0, .int .i64 65535, .int .i64 0, .int .i64 0, .int .i64 0, .int .i64 0]) := by show _ = _; simp [bndV, bnd]
  rw [H.out]
  go_enter Try.func18, Try.ntmps18
  go_wp2
  exact bodyPost_ret (v := .tuple #[.agg #[.int .i64 0, .int .i64 0, .int .i64 65535, .int .i64 0, .int .i64 0, .int .i64 0, .int .i64 0], .bool true]) (by simp [results, Try.results18, go_sem]) rfl ⟨rfl, (Below.refl _ _).alloc (Nat.le_refl _) _⟩
theorem of_23 (w : World) : Calls Try.prog 18 #[.int .i64 23] w fun e w' => e = .returned (.tuple #[bndV (bnd 23), .bool true]) ∧ Below w.heap.size w w' := by
  have H : Hid (bndV (bnd 23) = .agg #[.int .i64 0, .int .i64 0, .int .i64 0, .int .i64 0, .int .i64 0, .int .i64 0, .int .i64 0]) := by show _ = _; simp [bndV, bnd]
  rw [H.out]
  go_enter Try.func18, Try.ntmps18
  go_wp2
  exact bodyPost_ret (v := .tuple #[.agg #[.int .i64 0, .int .i64 0, .int .i64 0, .int .i64 0, .int .i64 0, .int .i64 0, .int .i64 0], .bool true]) (by simp [results, Try.results18, go_sem]) rfl ⟨rfl, (Below.refl _ _).alloc (Nat.le_refl _) _⟩
theorem of_24 (w : World) : Calls Try.prog 18 #[.int .i64 24] w fun e w' => e = .returned (.tuple #[bndV (bnd 24), .bool true]) ∧ Below w.heap.size w w' := by
  have H : Hid (bndV (bnd 24) = .agg #[.int .i64 0, .int .i64 7, .int .i64 0, .int .i64 0, .int .i64 0, .int .i64 4, .int .i64 4]) := by show _ = _; simp [bndV, bnd]
  rw [H.out]
  go_enter Try.func18, Try.ntmps18
  go_wp2
  exact bodyPost_ret (v := .tuple #[.agg #[.int .i64 0, .int .i64 7, .int .i64 0, .int .i64 0, .int .i64 0, .int .i64 4, .int .i64 4], .bool true]) (by simp [results, Try.results18, go_sem]) rfl ⟨rfl, (Below.refl _ _).alloc (Nat.le_refl _) _⟩
theorem bnd_other {k : Int} (h : ¬ isKind k) : bnd k = ⟨0, 0, 0, 0, 0, 0, 0, false⟩ := by
  simp only [isKind, not_or] at h
  obtain ⟨h1, h2, h3, h4, h5, h6, h7, h8, h9, h17, h18, h19, h20, h21, h22, h23, h24⟩ := h
  simp [bnd, h1, h2, h3, h4, h5, h6, h7, h8, h9, h17, h18, h19, h20, h21, h22, h23, h24]
theorem of_other (k : Int) (h : ¬ isKind k) (w : World) : Calls Try.prog 18 #[.int .i64 k] w fun e w' => e = .returned (.tuple #[bndV (bnd k), .bool false]) ∧ Below w.heap.size w w' := by
  have H : Hid (bndV (bnd k) = .agg #[.int .i64 0, .int .i64 0, .int .i64 0, .int .i64 0, .int .i64 0, .int .i64 0, .int .i64 0]) := by show _ = _; rw [bnd_other h]; rfl
  rw [H.out]
  simp only [isKind, not_or] at h
  obtain ⟨h1, h2, h3, h4, h5, h6, h7, h8, h9, h17, h18, h19, h20, h21, h22, h23, h24⟩ := h
  have e1 : (k == 1) = false := by simpa using h1
  have e2 : (k == 2) = false := by simpa using h2
  have e3 : (k == 3) = false := by simpa using h3
  have e4 : (k == 4) = false := by simpa using h4
  have e5 : (k == 5) = false := by simpa using h5
  have e6 : (k == 6) = false := by simpa using h6
  have e7 : (k == 7) = false := by simpa using h7
  have e8 : (k == 8) = false := by simpa using h8
  have e9 : (k == 9) = false := by simpa using h9
  have e17 : (k == 17) = false := by simpa using h17
  have e18 : (k == 18) = false := by simpa using h18
  have e19 : (k == 19) = false := by simpa using h19
  have e20 : (k == 20) = false := by simpa using h20
  have e21 : (k == 21) = false := by simpa using h21
  have e22 : (k == 22) = false := by simpa using h22
  have e23 : (k == 23) = false := by simpa using h23
  have e24 : (k == 24) = false := by simpa using h24
  clear h1 h2 h3 h4 h5 h6 h7 h8 h9 h17 h18 h19 h20 h21 h22 h23 h24
  go_enter Try.func18, Try.ntmps18
  go_wp2
  exact bodyPost_ret (v := .tuple #[.agg #[.int .i64 0, .int .i64 0, .int .i64 0, .int .i64 0, .int .i64 0, .int .i64 0, .int .i64 0], .bool false]) (by simp [results, Try.results18, go_sem]) rfl ⟨rfl, (Below.refl _ _).alloc (Nat.le_refl _) _⟩
theorem of_c (k : Int) (w : World) : Calls Try.prog 18 #[.int .i64 k] w fun e w' => e = .returned (.tuple #[bndV (bnd k), .bool (bnd k).ok]) ∧ Below w.heap.size w w' := by
  by_cases h : isKind k
  · simp only [isKind] at h
    rcases h with rfl | rfl | rfl | rfl | rfl | rfl | rfl | rfl | rfl | rfl | rfl | rfl | rfl | rfl | rfl | rfl | rfl
    · exact of_1 w
    · exact of_2 w
    · exact of_3 w
    · exact of_4 w
    · exact of_5 w
    · exact of_6 w
    · exact of_7 w
    · exact of_8 w
    · exact of_9 w
    · exact of_17 w
    · exact of_18 w
    · exact of_19 w
    · exact of_20 w
    · exact of_21 w
    · exact of_22 w
    · exact of_23 w
    · exact of_24 w
  · rw [show (bnd k).ok = false by rw [bnd_other h]]
    exact of_other k h w
end Go.Proofs.Ytmaemfjepdicfaa
