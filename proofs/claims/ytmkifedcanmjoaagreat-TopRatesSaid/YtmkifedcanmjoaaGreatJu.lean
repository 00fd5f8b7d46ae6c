/- What the reference's Good returns, kind by kind (contracts). Conditions: the note's bytes read. -/
import Derived.Test.YtmkifedcanmjoaaGreatJs
set_option linter.unusedVariables false
namespace Go.Proofs.YtmkifedcanmjoaaGreat.Nt
open Go.RowKit
attribute [local go_sem ↓] Go.wp_at_zero Go.wp_at_succ

set_option maxRecDepth 100000 in
set_option maxHeartbeats 3200000 in
theorem goodr_8 (room slot epoch n m : Int) (bs : List UInt8) (A : Option Addr) (c : Nat) (w : World) (hr : Reads w w.heap.size 1 A bs.length (bs.map u8v)) (hlen : bs.length ≤ 9223372036854775807) (hyes : goodR1 ⟨8, room, slot, epoch, n, m, bs⟩ = true) :
    Calls Tryz.prog 49 #[noteV ⟨8, room, slot, epoch, n, m, bs⟩ A c] w fun e w' => e = .returned (.bool (good ⟨8, room, slot, epoch, n, m, bs⟩)) ∧ Below w.heap.size w w' := by
  obtain ⟨res, hres⟩ : ∃ res, res = good ⟨8, room, slot, epoch, n, m, bs⟩ := ⟨_, rfl⟩
  rw [← hres]
  simp only [goodR1, Bool.and_eq_true, decide_eq_true_eq] at hyes
  obtain ⟨⟨⟨⟨⟨⟨_, y1⟩, y2⟩, y3⟩, y4⟩, y5⟩, y6⟩ := hyes
  have hb : (0 ≤ room ∧ room ≤ 3) ∧ (0 ≤ slot ∧ slot ≤ 7) ∧ (0 ≤ epoch ∧ epoch ≤ 65535) ∧ (0 ≤ n ∧ n ≤ 65535) ∧ 0 ≤ m ∧ m ≤ 65535 := by
    simp only [inB, Bool.and_eq_true, decide_eq_true_eq] at y1 y2 y3 y4 y5
    exact ⟨y1, y2, y3, y4, y5⟩
  obtain ⟨⟨r0, r1⟩, ⟨s0, s1⟩, ⟨e0, e1⟩, ⟨n0, n1⟩, m0, m1⟩ := hb
  have HR := Lib.hid hr
  have HRES := Lib.hid hres
  clear hr hres
  have c114 : ([101] : List UInt8).contains 114 = false := by decide
  have c115 : ([101] : List UInt8).contains 115 = false := by decide
  have c101 : ([101] : List UInt8).contains 101 = true := by decide
  have c110 : ([101] : List UInt8).contains 110 = false := by decide
  have c109 : ([101] : List UInt8).contains 109 = false := by decide
  have c98 : ([101] : List UInt8).contains 98 = false := by decide
  unfold noteV
  go_enter Tryz.func49, Tryz.ntmps49
  go_wp2_with fail
  refine (fields_8 _).mono ?_
  rintro e0 w1 ⟨rfl, rfl⟩
  go_wp2_with (first
    | (go_at_call 84; refine (in_c _ _ _ _).mono ?_; rintro e0 wy ⟨rfl, rfl⟩)
    | (go_at_call 85; (first | (with_reducible refine (has_114 [101] _ (by decide)).mono ?_) | (with_reducible refine (has_115 [101] _ (by decide)).mono ?_) | (with_reducible refine (has_101 [101] _ (by decide)).mono ?_) | (with_reducible refine (has_110 [101] _ (by decide)).mono ?_) | (with_reducible refine (has_109 [101] _ (by decide)).mono ?_) | (with_reducible refine (has_98 [101] _ (by decide)).mono ?_)); rintro e0 wy ⟨rfl, rfl⟩))
  all_goals
    (go_ret
     first
       | exact ⟨ret_bool (by rw [HRES.out, Bool.eq_iff_iff]; simp [good, goodB, goodK, bnd, wB, -List.length_eq_zero_iff]; omega), balloc (Below.refl _ _) _⟩
       | exact ⟨ret_bool (by rw [HRES.out, Bool.eq_iff_iff]; simp [good, goodB, goodK, bnd, wB]), balloc (Below.refl _ _) _⟩)

set_option maxRecDepth 100000 in
set_option maxHeartbeats 3200000 in
theorem goodr_9 (room slot epoch n m : Int) (bs : List UInt8) (A : Option Addr) (c : Nat) (w : World) (hr : Reads w w.heap.size 1 A bs.length (bs.map u8v)) (hlen : bs.length ≤ 9223372036854775807) (hyes : goodR1 ⟨9, room, slot, epoch, n, m, bs⟩ = true) :
    Calls Tryz.prog 49 #[noteV ⟨9, room, slot, epoch, n, m, bs⟩ A c] w fun e w' => e = .returned (.bool (good ⟨9, room, slot, epoch, n, m, bs⟩)) ∧ Below w.heap.size w w' := by
  obtain ⟨res, hres⟩ : ∃ res, res = good ⟨9, room, slot, epoch, n, m, bs⟩ := ⟨_, rfl⟩
  rw [← hres]
  simp only [goodR1, Bool.and_eq_true, decide_eq_true_eq] at hyes
  obtain ⟨⟨⟨⟨⟨⟨_, y1⟩, y2⟩, y3⟩, y4⟩, y5⟩, y6⟩ := hyes
  have hb : (0 ≤ room ∧ room ≤ 3) ∧ (0 ≤ slot ∧ slot ≤ 7) ∧ (0 ≤ epoch ∧ epoch ≤ 65535) ∧ (0 ≤ n ∧ n ≤ 65535) ∧ 0 ≤ m ∧ m ≤ 65535 := by
    simp only [inB, Bool.and_eq_true, decide_eq_true_eq] at y1 y2 y3 y4 y5
    exact ⟨y1, y2, y3, y4, y5⟩
  obtain ⟨⟨r0, r1⟩, ⟨s0, s1⟩, ⟨e0, e1⟩, ⟨n0, n1⟩, m0, m1⟩ := hb
  have HR := Lib.hid hr
  have HRES := Lib.hid hres
  clear hr hres
  have c114 : ([45] : List UInt8).contains 114 = false := by decide
  have c115 : ([45] : List UInt8).contains 115 = false := by decide
  have c101 : ([45] : List UInt8).contains 101 = false := by decide
  have c110 : ([45] : List UInt8).contains 110 = false := by decide
  have c109 : ([45] : List UInt8).contains 109 = false := by decide
  have c98 : ([45] : List UInt8).contains 98 = false := by decide
  unfold noteV
  go_enter Tryz.func49, Tryz.ntmps49
  go_wp2_with fail
  refine (fields_9 _).mono ?_
  rintro e0 w1 ⟨rfl, rfl⟩
  go_wp2_with (first
    | (go_at_call 84; refine (in_c _ _ _ _).mono ?_; rintro e0 wy ⟨rfl, rfl⟩)
    | (go_at_call 85; (first | (with_reducible refine (has_114 [45] _ (by decide)).mono ?_) | (with_reducible refine (has_115 [45] _ (by decide)).mono ?_) | (with_reducible refine (has_101 [45] _ (by decide)).mono ?_) | (with_reducible refine (has_110 [45] _ (by decide)).mono ?_) | (with_reducible refine (has_109 [45] _ (by decide)).mono ?_) | (with_reducible refine (has_98 [45] _ (by decide)).mono ?_)); rintro e0 wy ⟨rfl, rfl⟩))
  all_goals
    (go_ret
     first
       | exact ⟨ret_bool (by rw [HRES.out, Bool.eq_iff_iff]; simp [good, goodB, goodK, bnd, wB, -List.length_eq_zero_iff]; omega), balloc (Below.refl _ _) _⟩
       | exact ⟨ret_bool (by rw [HRES.out, Bool.eq_iff_iff]; simp [good, goodB, goodK, bnd, wB]), balloc (Below.refl _ _) _⟩)

set_option maxRecDepth 100000 in
set_option maxHeartbeats 3200000 in
theorem goodr_18 (room slot epoch n m : Int) (bs : List UInt8) (A : Option Addr) (c : Nat) (w : World) (hr : Reads w w.heap.size 1 A bs.length (bs.map u8v)) (hlen : bs.length ≤ 9223372036854775807) (hyes : goodR1 ⟨18, room, slot, epoch, n, m, bs⟩ = true) :
    Calls Tryz.prog 49 #[noteV ⟨18, room, slot, epoch, n, m, bs⟩ A c] w fun e w' => e = .returned (.bool (good ⟨18, room, slot, epoch, n, m, bs⟩)) ∧ Below w.heap.size w w' := by
  obtain ⟨res, hres⟩ : ∃ res, res = good ⟨18, room, slot, epoch, n, m, bs⟩ := ⟨_, rfl⟩
  rw [← hres]
  simp only [goodR1, Bool.and_eq_true, decide_eq_true_eq] at hyes
  obtain ⟨⟨⟨⟨⟨⟨_, y1⟩, y2⟩, y3⟩, y4⟩, y5⟩, y6⟩ := hyes
  have hb : (0 ≤ room ∧ room ≤ 3) ∧ (0 ≤ slot ∧ slot ≤ 7) ∧ (0 ≤ epoch ∧ epoch ≤ 65535) ∧ (0 ≤ n ∧ n ≤ 65535) ∧ 0 ≤ m ∧ m ≤ 65535 := by
    simp only [inB, Bool.and_eq_true, decide_eq_true_eq] at y1 y2 y3 y4 y5
    exact ⟨y1, y2, y3, y4, y5⟩
  obtain ⟨⟨r0, r1⟩, ⟨s0, s1⟩, ⟨e0, e1⟩, ⟨n0, n1⟩, m0, m1⟩ := hb
  have HR := Lib.hid hr
  have HRES := Lib.hid hres
  clear hr hres
  have c114 : ([110, 109] : List UInt8).contains 114 = false := by decide
  have c115 : ([110, 109] : List UInt8).contains 115 = false := by decide
  have c101 : ([110, 109] : List UInt8).contains 101 = false := by decide
  have c110 : ([110, 109] : List UInt8).contains 110 = true := by decide
  have c109 : ([110, 109] : List UInt8).contains 109 = true := by decide
  have c98 : ([110, 109] : List UInt8).contains 98 = false := by decide
  cases hin : inB n 1 13 with
  | true =>
    have hn2 : 1 ≤ n ∧ n ≤ 13 := by simpa [inB] using hin
    unfold noteV
    go_enter Tryz.func49, Tryz.ntmps49
    go_wp2_with fail
    refine (fields_18 _).mono ?_
    rintro e0 w1 ⟨rfl, rfl⟩
    go_wp2_with (first
      | (go_at_call 84; refine (in_c _ _ _ _).mono ?_; rintro e0 wy ⟨rfl, rfl⟩)
      | (go_at_call 85; (first | (with_reducible refine (has_114 [110, 109] _ (by decide)).mono ?_) | (with_reducible refine (has_115 [110, 109] _ (by decide)).mono ?_) | (with_reducible refine (has_101 [110, 109] _ (by decide)).mono ?_) | (with_reducible refine (has_110 [110, 109] _ (by decide)).mono ?_) | (with_reducible refine (has_109 [110, 109] _ (by decide)).mono ?_) | (with_reducible refine (has_98 [110, 109] _ (by decide)).mono ?_)); rintro e0 wy ⟨rfl, rfl⟩))
    all_goals
      (go_ret
       first
         | exact ⟨ret_bool (by rw [HRES.out, Bool.eq_iff_iff]; simp [good, goodB, goodK, bnd, wB, -List.length_eq_zero_iff]; omega), balloc (Below.refl _ _) _⟩
         | exact ⟨ret_bool (by rw [HRES.out, Bool.eq_iff_iff]; simp [good, goodB, goodK, bnd, wB]), balloc (Below.refl _ _) _⟩)

  | false =>
    have hn2 : n < 1 ∨ 13 < n := by
      simp only [inB, Bool.and_eq_false_iff, decide_eq_false_iff_not] at hin
      omega
    unfold noteV
    go_enter Tryz.func49, Tryz.ntmps49
    go_wp2_with fail
    refine (fields_18 _).mono ?_
    rintro e0 w1 ⟨rfl, rfl⟩
    go_wp2_with (first
      | (go_at_call 84; refine (in_c _ _ _ _).mono ?_; rintro e0 wy ⟨rfl, rfl⟩)
      | (go_at_call 85; (first | (with_reducible refine (has_114 [110, 109] _ (by decide)).mono ?_) | (with_reducible refine (has_115 [110, 109] _ (by decide)).mono ?_) | (with_reducible refine (has_101 [110, 109] _ (by decide)).mono ?_) | (with_reducible refine (has_110 [110, 109] _ (by decide)).mono ?_) | (with_reducible refine (has_109 [110, 109] _ (by decide)).mono ?_) | (with_reducible refine (has_98 [110, 109] _ (by decide)).mono ?_)); rintro e0 wy ⟨rfl, rfl⟩))
    all_goals
      (go_ret
       first
         | exact ⟨ret_bool (by rw [HRES.out, Bool.eq_iff_iff]; simp [good, goodB, goodK, bnd, wB, -List.length_eq_zero_iff]; omega), balloc (Below.refl _ _) _⟩
         | exact ⟨ret_bool (by rw [HRES.out, Bool.eq_iff_iff]; simp [good, goodB, goodK, bnd, wB]), balloc (Below.refl _ _) _⟩)


set_option maxRecDepth 100000 in
set_option maxHeartbeats 3200000 in
theorem goodr_21 (room slot epoch n m : Int) (bs : List UInt8) (A : Option Addr) (c : Nat) (w : World) (hr : Reads w w.heap.size 1 A bs.length (bs.map u8v)) (hlen : bs.length ≤ 9223372036854775807) (hyes : goodR1 ⟨21, room, slot, epoch, n, m, bs⟩ = true) :
    Calls Tryz.prog 49 #[noteV ⟨21, room, slot, epoch, n, m, bs⟩ A c] w fun e w' => e = .returned (.bool (good ⟨21, room, slot, epoch, n, m, bs⟩)) ∧ Below w.heap.size w w' := by
  obtain ⟨res, hres⟩ : ∃ res, res = good ⟨21, room, slot, epoch, n, m, bs⟩ := ⟨_, rfl⟩
  rw [← hres]
  simp only [goodR1, Bool.and_eq_true, decide_eq_true_eq] at hyes
  obtain ⟨⟨⟨⟨⟨⟨_, y1⟩, y2⟩, y3⟩, y4⟩, y5⟩, y6⟩ := hyes
  have hb : (0 ≤ room ∧ room ≤ 3) ∧ (0 ≤ slot ∧ slot ≤ 7) ∧ (0 ≤ epoch ∧ epoch ≤ 65535) ∧ (0 ≤ n ∧ n ≤ 65535) ∧ 0 ≤ m ∧ m ≤ 65535 := by
    simp only [inB, Bool.and_eq_true, decide_eq_true_eq] at y1 y2 y3 y4 y5
    exact ⟨y1, y2, y3, y4, y5⟩
  obtain ⟨⟨r0, r1⟩, ⟨s0, s1⟩, ⟨e0, e1⟩, ⟨n0, n1⟩, m0, m1⟩ := hb
  have HR := Lib.hid hr
  have HRES := Lib.hid hres
  clear hr hres
  have c114 : ([115, 101, 110, 98] : List UInt8).contains 114 = false := by decide
  have c115 : ([115, 101, 110, 98] : List UInt8).contains 115 = true := by decide
  have c101 : ([115, 101, 110, 98] : List UInt8).contains 101 = true := by decide
  have c110 : ([115, 101, 110, 98] : List UInt8).contains 110 = true := by decide
  have c109 : ([115, 101, 110, 98] : List UInt8).contains 109 = false := by decide
  have c98 : ([115, 101, 110, 98] : List UInt8).contains 98 = true := by decide
  unfold noteV
  go_enter Tryz.func49, Tryz.ntmps49
  go_wp2_with fail
  refine (fields_21 _).mono ?_
  rintro e0 w1 ⟨rfl, rfl⟩
  go_wp2_with (first
    | (go_at_call 84; refine (in_c _ _ _ _).mono ?_; rintro e0 wy ⟨rfl, rfl⟩)
    | (go_at_call 85; (first | (with_reducible refine (has_114 [115, 101, 110, 98] _ (by decide)).mono ?_) | (with_reducible refine (has_115 [115, 101, 110, 98] _ (by decide)).mono ?_) | (with_reducible refine (has_101 [115, 101, 110, 98] _ (by decide)).mono ?_) | (with_reducible refine (has_110 [115, 101, 110, 98] _ (by decide)).mono ?_) | (with_reducible refine (has_109 [115, 101, 110, 98] _ (by decide)).mono ?_) | (with_reducible refine (has_98 [115, 101, 110, 98] _ (by decide)).mono ?_)); rintro e0 wy ⟨rfl, rfl⟩))
  all_goals
    (go_ret
     first
       | exact ⟨ret_bool (by rw [HRES.out, Bool.eq_iff_iff]; simp [good, goodB, goodK, bnd, wB, -List.length_eq_zero_iff]; omega), balloc (Below.refl _ _) _⟩
       | exact ⟨ret_bool (by rw [HRES.out, Bool.eq_iff_iff]; simp [good, goodB, goodK, bnd, wB]), balloc (Below.refl _ _) _⟩)

set_option maxRecDepth 100000 in
set_option maxHeartbeats 3200000 in
theorem goodr_22 (room slot epoch n m : Int) (bs : List UInt8) (A : Option Addr) (c : Nat) (w : World) (hr : Reads w w.heap.size 1 A bs.length (bs.map u8v)) (hlen : bs.length ≤ 9223372036854775807) (hyes : goodR1 ⟨22, room, slot, epoch, n, m, bs⟩ = true) :
    Calls Tryz.prog 49 #[noteV ⟨22, room, slot, epoch, n, m, bs⟩ A c] w fun e w' => e = .returned (.bool (good ⟨22, room, slot, epoch, n, m, bs⟩)) ∧ Below w.heap.size w w' := by
  obtain ⟨res, hres⟩ : ∃ res, res = good ⟨22, room, slot, epoch, n, m, bs⟩ := ⟨_, rfl⟩
  rw [← hres]
  simp only [goodR1, Bool.and_eq_true, decide_eq_true_eq] at hyes
  obtain ⟨⟨⟨⟨⟨⟨_, y1⟩, y2⟩, y3⟩, y4⟩, y5⟩, y6⟩ := hyes
  have hb : (0 ≤ room ∧ room ≤ 3) ∧ (0 ≤ slot ∧ slot ≤ 7) ∧ (0 ≤ epoch ∧ epoch ≤ 65535) ∧ (0 ≤ n ∧ n ≤ 65535) ∧ 0 ≤ m ∧ m ≤ 65535 := by
    simp only [inB, Bool.and_eq_true, decide_eq_true_eq] at y1 y2 y3 y4 y5
    exact ⟨y1, y2, y3, y4, y5⟩
  obtain ⟨⟨r0, r1⟩, ⟨s0, s1⟩, ⟨e0, e1⟩, ⟨n0, n1⟩, m0, m1⟩ := hb
  have HR := Lib.hid hr
  have HRES := Lib.hid hres
  clear hr hres
  have c114 : ([101] : List UInt8).contains 114 = false := by decide
  have c115 : ([101] : List UInt8).contains 115 = false := by decide
  have c101 : ([101] : List UInt8).contains 101 = true := by decide
  have c110 : ([101] : List UInt8).contains 110 = false := by decide
  have c109 : ([101] : List UInt8).contains 109 = false := by decide
  have c98 : ([101] : List UInt8).contains 98 = false := by decide
  unfold noteV
  go_enter Tryz.func49, Tryz.ntmps49
  go_wp2_with fail
  refine (fields_22 _).mono ?_
  rintro e0 w1 ⟨rfl, rfl⟩
  go_wp2_with (first
    | (go_at_call 84; refine (in_c _ _ _ _).mono ?_; rintro e0 wy ⟨rfl, rfl⟩)
    | (go_at_call 85; (first | (with_reducible refine (has_114 [101] _ (by decide)).mono ?_) | (with_reducible refine (has_115 [101] _ (by decide)).mono ?_) | (with_reducible refine (has_101 [101] _ (by decide)).mono ?_) | (with_reducible refine (has_110 [101] _ (by decide)).mono ?_) | (with_reducible refine (has_109 [101] _ (by decide)).mono ?_) | (with_reducible refine (has_98 [101] _ (by decide)).mono ?_)); rintro e0 wy ⟨rfl, rfl⟩))
  all_goals
    (go_ret
     first
       | exact ⟨ret_bool (by rw [HRES.out, Bool.eq_iff_iff]; simp [good, goodB, goodK, bnd, wB, -List.length_eq_zero_iff]; omega), balloc (Below.refl _ _) _⟩
       | exact ⟨ret_bool (by rw [HRES.out, Bool.eq_iff_iff]; simp [good, goodB, goodK, bnd, wB]), balloc (Below.refl _ _) _⟩)

set_option maxRecDepth 100000 in
set_option maxHeartbeats 3200000 in
theorem goodr_23 (room slot epoch n m : Int) (bs : List UInt8) (A : Option Addr) (c : Nat) (w : World) (hr : Reads w w.heap.size 1 A bs.length (bs.map u8v)) (hlen : bs.length ≤ 9223372036854775807) (hyes : goodR1 ⟨23, room, slot, epoch, n, m, bs⟩ = true) :
    Calls Tryz.prog 49 #[noteV ⟨23, room, slot, epoch, n, m, bs⟩ A c] w fun e w' => e = .returned (.bool (good ⟨23, room, slot, epoch, n, m, bs⟩)) ∧ Below w.heap.size w w' := by
  obtain ⟨res, hres⟩ : ∃ res, res = good ⟨23, room, slot, epoch, n, m, bs⟩ := ⟨_, rfl⟩
  rw [← hres]
  simp only [goodR1, Bool.and_eq_true, decide_eq_true_eq] at hyes
  obtain ⟨⟨⟨⟨⟨⟨_, y1⟩, y2⟩, y3⟩, y4⟩, y5⟩, y6⟩ := hyes
  have hb : (0 ≤ room ∧ room ≤ 3) ∧ (0 ≤ slot ∧ slot ≤ 7) ∧ (0 ≤ epoch ∧ epoch ≤ 65535) ∧ (0 ≤ n ∧ n ≤ 65535) ∧ 0 ≤ m ∧ m ≤ 65535 := by
    simp only [inB, Bool.and_eq_true, decide_eq_true_eq] at y1 y2 y3 y4 y5
    exact ⟨y1, y2, y3, y4, y5⟩
  obtain ⟨⟨r0, r1⟩, ⟨s0, s1⟩, ⟨e0, e1⟩, ⟨n0, n1⟩, m0, m1⟩ := hb
  have HR := Lib.hid hr
  have HRES := Lib.hid hres
  clear hr hres
  have c114 : ([45] : List UInt8).contains 114 = false := by decide
  have c115 : ([45] : List UInt8).contains 115 = false := by decide
  have c101 : ([45] : List UInt8).contains 101 = false := by decide
  have c110 : ([45] : List UInt8).contains 110 = false := by decide
  have c109 : ([45] : List UInt8).contains 109 = false := by decide
  have c98 : ([45] : List UInt8).contains 98 = false := by decide
  unfold noteV
  go_enter Tryz.func49, Tryz.ntmps49
  go_wp2_with fail
  refine (fields_23 _).mono ?_
  rintro e0 w1 ⟨rfl, rfl⟩
  go_wp2_with (first
    | (go_at_call 84; refine (in_c _ _ _ _).mono ?_; rintro e0 wy ⟨rfl, rfl⟩)
    | (go_at_call 85; (first | (with_reducible refine (has_114 [45] _ (by decide)).mono ?_) | (with_reducible refine (has_115 [45] _ (by decide)).mono ?_) | (with_reducible refine (has_101 [45] _ (by decide)).mono ?_) | (with_reducible refine (has_110 [45] _ (by decide)).mono ?_) | (with_reducible refine (has_109 [45] _ (by decide)).mono ?_) | (with_reducible refine (has_98 [45] _ (by decide)).mono ?_)); rintro e0 wy ⟨rfl, rfl⟩))
  all_goals
    (go_ret
     first
       | exact ⟨ret_bool (by rw [HRES.out, Bool.eq_iff_iff]; simp [good, goodB, goodK, bnd, wB, -List.length_eq_zero_iff]; omega), balloc (Below.refl _ _) _⟩
       | exact ⟨ret_bool (by rw [HRES.out, Bool.eq_iff_iff]; simp [good, goodB, goodK, bnd, wB]), balloc (Below.refl _ _) _⟩)

set_option maxRecDepth 100000 in
set_option maxHeartbeats 3200000 in
theorem goodr_24 (room slot epoch n m : Int) (bs : List UInt8) (A : Option Addr) (c : Nat) (w : World) (hr : Reads w w.heap.size 1 A bs.length (bs.map u8v)) (hlen : bs.length ≤ 9223372036854775807) (hyes : goodR1 ⟨24, room, slot, epoch, n, m, bs⟩ = true) :
    Calls Tryz.prog 49 #[noteV ⟨24, room, slot, epoch, n, m, bs⟩ A c] w fun e w' => e = .returned (.bool (good ⟨24, room, slot, epoch, n, m, bs⟩)) ∧ Below w.heap.size w w' := by
  obtain ⟨res, hres⟩ : ∃ res, res = good ⟨24, room, slot, epoch, n, m, bs⟩ := ⟨_, rfl⟩
  rw [← hres]
  simp only [goodR1, Bool.and_eq_true, decide_eq_true_eq] at hyes
  obtain ⟨⟨⟨⟨⟨⟨_, y1⟩, y2⟩, y3⟩, y4⟩, y5⟩, y6⟩ := hyes
  have hb : (0 ≤ room ∧ room ≤ 3) ∧ (0 ≤ slot ∧ slot ≤ 7) ∧ (0 ≤ epoch ∧ epoch ≤ 65535) ∧ (0 ≤ n ∧ n ≤ 65535) ∧ 0 ≤ m ∧ m ≤ 65535 := by
    simp only [inB, Bool.and_eq_true, decide_eq_true_eq] at y1 y2 y3 y4 y5
    exact ⟨y1, y2, y3, y4, y5⟩
  obtain ⟨⟨r0, r1⟩, ⟨s0, s1⟩, ⟨e0, e1⟩, ⟨n0, n1⟩, m0, m1⟩ := hb
  have HR := Lib.hid hr
  have HRES := Lib.hid hres
  clear hr hres
  have c114 : ([115, 98] : List UInt8).contains 114 = false := by decide
  have c115 : ([115, 98] : List UInt8).contains 115 = true := by decide
  have c101 : ([115, 98] : List UInt8).contains 101 = false := by decide
  have c110 : ([115, 98] : List UInt8).contains 110 = false := by decide
  have c109 : ([115, 98] : List UInt8).contains 109 = false := by decide
  have c98 : ([115, 98] : List UInt8).contains 98 = true := by decide
  unfold noteV
  go_enter Tryz.func49, Tryz.ntmps49
  go_wp2_with fail
  refine (fields_24 _).mono ?_
  rintro e0 w1 ⟨rfl, rfl⟩
  go_wp2_with (first
    | (go_at_call 84; refine (in_c _ _ _ _).mono ?_; rintro e0 wy ⟨rfl, rfl⟩)
    | (go_at_call 85; (first | (with_reducible refine (has_114 [115, 98] _ (by decide)).mono ?_) | (with_reducible refine (has_115 [115, 98] _ (by decide)).mono ?_) | (with_reducible refine (has_101 [115, 98] _ (by decide)).mono ?_) | (with_reducible refine (has_110 [115, 98] _ (by decide)).mono ?_) | (with_reducible refine (has_109 [115, 98] _ (by decide)).mono ?_) | (with_reducible refine (has_98 [115, 98] _ (by decide)).mono ?_)); rintro e0 wy ⟨rfl, rfl⟩))
  all_goals
    (go_ret
     first
       | exact ⟨ret_bool (by rw [HRES.out, Bool.eq_iff_iff]; simp [good, goodB, goodK, bnd, wB, -List.length_eq_zero_iff]; omega), balloc (Below.refl _ _) _⟩
       | exact ⟨ret_bool (by rw [HRES.out, Bool.eq_iff_iff]; simp [good, goodB, goodK, bnd, wB]), balloc (Below.refl _ _) _⟩)
end Go.Proofs.YtmkifedcanmjoaaGreat.Nt
