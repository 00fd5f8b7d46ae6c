/- What the reference's Good returns, kind by kind (contracts). Conditions: the note's bytes read. -/
import Derived.Test.YtmkifedcanmjoaaGreatJs
set_option linter.unusedVariables false
namespace Go.Proofs.YtmkifedcanmjoaaGreat.Nt
open Go.RowKit
attribute [local go_sem ↓] Go.wp_at_zero Go.wp_at_succ

set_option maxRecDepth 100000 in
set_option maxHeartbeats 3200000 in
theorem goodr_1 (room slot epoch n m : Int) (bs : List UInt8) (A : Option Addr) (c : Nat) (w : World) (hr : Reads w w.heap.size 1 A bs.length (bs.map u8v)) (hlen : bs.length ≤ 9223372036854775807) (hyes : goodR1 ⟨1, room, slot, epoch, n, m, bs⟩ = true) :
    Calls Tryz.prog 49 #[noteV ⟨1, room, slot, epoch, n, m, bs⟩ A c] w fun e w' => e = .returned (.bool (good ⟨1, room, slot, epoch, n, m, bs⟩)) ∧ Below w.heap.size w w' := by
  obtain ⟨res, hres⟩ : ∃ res, res = good ⟨1, room, slot, epoch, n, m, bs⟩ := ⟨_, rfl⟩
  rw [← hres]
  simp only [goodR1, Bool.and_eq_true, decide_eq_true_eq] at hyes
  obtain ⟨⟨⟨⟨⟨⟨_, y1⟩, y2⟩, y3⟩, y4⟩, y5⟩, y6⟩ := hyes
  have hb : (0 ≤ room ∧ room ≤ 3) ∧ (0 ≤ slot ∧ slot ≤ 7) ∧ (0 ≤ epoch ∧ epoch ≤ 65535) ∧ (0 ≤ n ∧ n ≤ 65535) ∧ 0 ≤ m ∧ m ≤ 65535 := by
    simp only [inB, Bool.and_eq_true, decide_eq_true_eq] at y1 y2 y3 y4 y5
    exact ⟨y1, y2, y3, y4, y5⟩
  obtain ⟨⟨r0, r1⟩, ⟨s0, s1⟩, ⟨e0, e1⟩, ⟨n0, n1⟩, m0, m1⟩ := hb
  have HR := Lib.hid hr
  have HRES := Lib.hid hres
  clear hr hres
  have c114 : ([114] : List UInt8).contains 114 = true := by decide
  have c115 : ([114] : List UInt8).contains 115 = false := by decide
  have c101 : ([114] : List UInt8).contains 101 = false := by decide
  have c110 : ([114] : List UInt8).contains 110 = false := by decide
  have c109 : ([114] : List UInt8).contains 109 = false := by decide
  have c98 : ([114] : List UInt8).contains 98 = false := by decide
  unfold noteV
  go_enter Tryz.func49, Tryz.ntmps49
  go_wp2_with fail
  refine (fields_1 _).mono ?_
  rintro e0 w1 ⟨rfl, rfl⟩
  go_wp2_with (first
    | (go_at_call 84; refine (in_c _ _ _ _).mono ?_; rintro e0 wy ⟨rfl, rfl⟩)
    | (go_at_call 85; (first | (with_reducible refine (has_114 [114] _ (by decide)).mono ?_) | (with_reducible refine (has_115 [114] _ (by decide)).mono ?_) | (with_reducible refine (has_101 [114] _ (by decide)).mono ?_) | (with_reducible refine (has_110 [114] _ (by decide)).mono ?_) | (with_reducible refine (has_109 [114] _ (by decide)).mono ?_) | (with_reducible refine (has_98 [114] _ (by decide)).mono ?_)); rintro e0 wy ⟨rfl, rfl⟩))
  all_goals
    (go_ret
     first
       | exact ⟨ret_bool (by rw [HRES.out, Bool.eq_iff_iff]; simp [good, goodB, goodK, bnd, wB, -List.length_eq_zero_iff]; omega), balloc (Below.refl _ _) _⟩
       | exact ⟨ret_bool (by rw [HRES.out, Bool.eq_iff_iff]; simp [good, goodB, goodK, bnd, wB]), balloc (Below.refl _ _) _⟩)

set_option maxRecDepth 100000 in
set_option maxHeartbeats 3200000 in
theorem goodr_2 (room slot epoch n m : Int) (bs : List UInt8) (A : Option Addr) (c : Nat) (w : World) (hr : Reads w w.heap.size 1 A bs.length (bs.map u8v)) (hlen : bs.length ≤ 9223372036854775807) (hyes : goodR1 ⟨2, room, slot, epoch, n, m, bs⟩ = true) :
    Calls Tryz.prog 49 #[noteV ⟨2, room, slot, epoch, n, m, bs⟩ A c] w fun e w' => e = .returned (.bool (good ⟨2, room, slot, epoch, n, m, bs⟩)) ∧ Below w.heap.size w w' := by
  obtain ⟨res, hres⟩ : ∃ res, res = good ⟨2, room, slot, epoch, n, m, bs⟩ := ⟨_, rfl⟩
  rw [← hres]
  simp only [goodR1, Bool.and_eq_true, decide_eq_true_eq] at hyes
  obtain ⟨⟨⟨⟨⟨⟨_, y1⟩, y2⟩, y3⟩, y4⟩, y5⟩, y6⟩ := hyes
  have hb : (0 ≤ room ∧ room ≤ 3) ∧ (0 ≤ slot ∧ slot ≤ 7) ∧ (0 ≤ epoch ∧ epoch ≤ 65535) ∧ (0 ≤ n ∧ n ≤ 65535) ∧ 0 ≤ m ∧ m ≤ 65535 := by
    simp only [inB, Bool.and_eq_true, decide_eq_true_eq] at y1 y2 y3 y4 y5
    exact ⟨y1, y2, y3, y4, y5⟩
  obtain ⟨⟨r0, r1⟩, ⟨s0, s1⟩, ⟨e0, e1⟩, ⟨n0, n1⟩, m0, m1⟩ := hb
  have HR := Lib.hid hr
  have HRES := Lib.hid hres
  clear hr hres
  have c114 : ([45] : List UInt8).contains 114 = false := by decide
  have c115 : ([45] : List UInt8).contains 115 = false := by decide
  have c101 : ([45] : List UInt8).contains 101 = false := by decide
  have c110 : ([45] : List UInt8).contains 110 = false := by decide
  have c109 : ([45] : List UInt8).contains 109 = false := by decide
  have c98 : ([45] : List UInt8).contains 98 = false := by decide
  unfold noteV
  go_enter Tryz.func49, Tryz.ntmps49
  go_wp2_with fail
  refine (fields_2 _).mono ?_
  rintro e0 w1 ⟨rfl, rfl⟩
  go_wp2_with (first
    | (go_at_call 84; refine (in_c _ _ _ _).mono ?_; rintro e0 wy ⟨rfl, rfl⟩)
    | (go_at_call 85; (first | (with_reducible refine (has_114 [45] _ (by decide)).mono ?_) | (with_reducible refine (has_115 [45] _ (by decide)).mono ?_) | (with_reducible refine (has_101 [45] _ (by decide)).mono ?_) | (with_reducible refine (has_110 [45] _ (by decide)).mono ?_) | (with_reducible refine (has_109 [45] _ (by decide)).mono ?_) | (with_reducible refine (has_98 [45] _ (by decide)).mono ?_)); rintro e0 wy ⟨rfl, rfl⟩))
  all_goals
    (go_ret
     first
       | exact ⟨ret_bool (by rw [HRES.out, Bool.eq_iff_iff]; simp [good, goodB, goodK, bnd, wB, -List.length_eq_zero_iff]; omega), balloc (Below.refl _ _) _⟩
       | exact ⟨ret_bool (by rw [HRES.out, Bool.eq_iff_iff]; simp [good, goodB, goodK, bnd, wB]), balloc (Below.refl _ _) _⟩)

set_option maxRecDepth 100000 in
set_option maxHeartbeats 3200000 in
theorem goodr_3 (room slot epoch n m : Int) (bs : List UInt8) (A : Option Addr) (c : Nat) (w : World) (hr : Reads w w.heap.size 1 A bs.length (bs.map u8v)) (hlen : bs.length ≤ 9223372036854775807) (hyes : goodR1 ⟨3, room, slot, epoch, n, m, bs⟩ = true) :
    Calls Tryz.prog 49 #[noteV ⟨3, room, slot, epoch, n, m, bs⟩ A c] w fun e w' => e = .returned (.bool (good ⟨3, room, slot, epoch, n, m, bs⟩)) ∧ Below w.heap.size w w' := by
  obtain ⟨res, hres⟩ : ∃ res, res = good ⟨3, room, slot, epoch, n, m, bs⟩ := ⟨_, rfl⟩
  rw [← hres]
  simp only [goodR1, Bool.and_eq_true, decide_eq_true_eq] at hyes
  obtain ⟨⟨⟨⟨⟨⟨_, y1⟩, y2⟩, y3⟩, y4⟩, y5⟩, y6⟩ := hyes
  have hb : (0 ≤ room ∧ room ≤ 3) ∧ (0 ≤ slot ∧ slot ≤ 7) ∧ (0 ≤ epoch ∧ epoch ≤ 65535) ∧ (0 ≤ n ∧ n ≤ 65535) ∧ 0 ≤ m ∧ m ≤ 65535 := by
    simp only [inB, Bool.and_eq_true, decide_eq_true_eq] at y1 y2 y3 y4 y5
    exact ⟨y1, y2, y3, y4, y5⟩
  obtain ⟨⟨r0, r1⟩, ⟨s0, s1⟩, ⟨e0, e1⟩, ⟨n0, n1⟩, m0, m1⟩ := hb
  have HR := Lib.hid hr
  have HRES := Lib.hid hres
  clear hr hres
  have c114 : ([115] : List UInt8).contains 114 = false := by decide
  have c115 : ([115] : List UInt8).contains 115 = true := by decide
  have c101 : ([115] : List UInt8).contains 101 = false := by decide
  have c110 : ([115] : List UInt8).contains 110 = false := by decide
  have c109 : ([115] : List UInt8).contains 109 = false := by decide
  have c98 : ([115] : List UInt8).contains 98 = false := by decide
  unfold noteV
  go_enter Tryz.func49, Tryz.ntmps49
  go_wp2_with fail
  refine (fields_3 _).mono ?_
  rintro e0 w1 ⟨rfl, rfl⟩
  go_wp2_with (first
    | (go_at_call 84; refine (in_c _ _ _ _).mono ?_; rintro e0 wy ⟨rfl, rfl⟩)
    | (go_at_call 85; (first | (with_reducible refine (has_114 [115] _ (by decide)).mono ?_) | (with_reducible refine (has_115 [115] _ (by decide)).mono ?_) | (with_reducible refine (has_101 [115] _ (by decide)).mono ?_) | (with_reducible refine (has_110 [115] _ (by decide)).mono ?_) | (with_reducible refine (has_109 [115] _ (by decide)).mono ?_) | (with_reducible refine (has_98 [115] _ (by decide)).mono ?_)); rintro e0 wy ⟨rfl, rfl⟩))
  all_goals
    (go_ret
     first
       | exact ⟨ret_bool (by rw [HRES.out, Bool.eq_iff_iff]; simp [good, goodB, goodK, bnd, wB, -List.length_eq_zero_iff]; omega), balloc (Below.refl _ _) _⟩
       | exact ⟨ret_bool (by rw [HRES.out, Bool.eq_iff_iff]; simp [good, goodB, goodK, bnd, wB]), balloc (Below.refl _ _) _⟩)

set_option maxRecDepth 100000 in
set_option maxHeartbeats 3200000 in
theorem goodr_4 (room slot epoch n m : Int) (bs : List UInt8) (A : Option Addr) (c : Nat) (w : World) (hr : Reads w w.heap.size 1 A bs.length (bs.map u8v)) (hlen : bs.length ≤ 9223372036854775807) (hyes : goodR1 ⟨4, room, slot, epoch, n, m, bs⟩ = true) :
    Calls Tryz.prog 49 #[noteV ⟨4, room, slot, epoch, n, m, bs⟩ A c] w fun e w' => e = .returned (.bool (good ⟨4, room, slot, epoch, n, m, bs⟩)) ∧ Below w.heap.size w w' := by
  obtain ⟨res, hres⟩ : ∃ res, res = good ⟨4, room, slot, epoch, n, m, bs⟩ := ⟨_, rfl⟩
  rw [← hres]
  simp only [goodR1, Bool.and_eq_true, decide_eq_true_eq] at hyes
  obtain ⟨⟨⟨⟨⟨⟨_, y1⟩, y2⟩, y3⟩, y4⟩, y5⟩, y6⟩ := hyes
  have hb : (0 ≤ room ∧ room ≤ 3) ∧ (0 ≤ slot ∧ slot ≤ 7) ∧ (0 ≤ epoch ∧ epoch ≤ 65535) ∧ (0 ≤ n ∧ n ≤ 65535) ∧ 0 ≤ m ∧ m ≤ 65535 := by
    simp only [inB, Bool.and_eq_true, decide_eq_true_eq] at y1 y2 y3 y4 y5
    exact ⟨y1, y2, y3, y4, y5⟩
  obtain ⟨⟨r0, r1⟩, ⟨s0, s1⟩, ⟨e0, e1⟩, ⟨n0, n1⟩, m0, m1⟩ := hb
  have HR := Lib.hid hr
  have HRES := Lib.hid hres
  clear hr hres
  have c114 : ([110, 109, 98] : List UInt8).contains 114 = false := by decide
  have c115 : ([110, 109, 98] : List UInt8).contains 115 = false := by decide
  have c101 : ([110, 109, 98] : List UInt8).contains 101 = false := by decide
  have c110 : ([110, 109, 98] : List UInt8).contains 110 = true := by decide
  have c109 : ([110, 109, 98] : List UInt8).contains 109 = true := by decide
  have c98 : ([110, 109, 98] : List UInt8).contains 98 = true := by decide
  unfold noteV
  go_enter Tryz.func49, Tryz.ntmps49
  go_wp2_with fail
  refine (fields_4 _).mono ?_
  rintro e0 w1 ⟨rfl, rfl⟩
  go_wp2_with (first
    | (go_at_call 84; refine (in_c _ _ _ _).mono ?_; rintro e0 wy ⟨rfl, rfl⟩)
    | (go_at_call 85; (first | (with_reducible refine (has_114 [110, 109, 98] _ (by decide)).mono ?_) | (with_reducible refine (has_115 [110, 109, 98] _ (by decide)).mono ?_) | (with_reducible refine (has_101 [110, 109, 98] _ (by decide)).mono ?_) | (with_reducible refine (has_110 [110, 109, 98] _ (by decide)).mono ?_) | (with_reducible refine (has_109 [110, 109, 98] _ (by decide)).mono ?_) | (with_reducible refine (has_98 [110, 109, 98] _ (by decide)).mono ?_)); rintro e0 wy ⟨rfl, rfl⟩))
  all_goals
    (go_ret
     first
       | exact ⟨ret_bool (by rw [HRES.out, Bool.eq_iff_iff]; simp [good, goodB, goodK, bnd, wB, -List.length_eq_zero_iff]; omega), balloc (Below.refl _ _) _⟩
       | exact ⟨ret_bool (by rw [HRES.out, Bool.eq_iff_iff]; simp [good, goodB, goodK, bnd, wB]), balloc (Below.refl _ _) _⟩)

set_option maxRecDepth 100000 in
set_option maxHeartbeats 3200000 in
theorem goodr_5 (room slot epoch n m : Int) (bs : List UInt8) (A : Option Addr) (c : Nat) (w : World) (hr : Reads w w.heap.size 1 A bs.length (bs.map u8v)) (hlen : bs.length ≤ 9223372036854775807) (hyes : goodR1 ⟨5, room, slot, epoch, n, m, bs⟩ = true) :
    Calls Tryz.prog 49 #[noteV ⟨5, room, slot, epoch, n, m, bs⟩ A c] w fun e w' => e = .returned (.bool (good ⟨5, room, slot, epoch, n, m, bs⟩)) ∧ Below w.heap.size w w' := by
  obtain ⟨res, hres⟩ : ∃ res, res = good ⟨5, room, slot, epoch, n, m, bs⟩ := ⟨_, rfl⟩
  rw [← hres]
  simp only [goodR1, Bool.and_eq_true, decide_eq_true_eq] at hyes
  obtain ⟨⟨⟨⟨⟨⟨_, y1⟩, y2⟩, y3⟩, y4⟩, y5⟩, y6⟩ := hyes
  have hb : (0 ≤ room ∧ room ≤ 3) ∧ (0 ≤ slot ∧ slot ≤ 7) ∧ (0 ≤ epoch ∧ epoch ≤ 65535) ∧ (0 ≤ n ∧ n ≤ 65535) ∧ 0 ≤ m ∧ m ≤ 65535 := by
    simp only [inB, Bool.and_eq_true, decide_eq_true_eq] at y1 y2 y3 y4 y5
    exact ⟨y1, y2, y3, y4, y5⟩
  obtain ⟨⟨r0, r1⟩, ⟨s0, s1⟩, ⟨e0, e1⟩, ⟨n0, n1⟩, m0, m1⟩ := hb
  have HR := Lib.hid hr
  have HRES := Lib.hid hres
  clear hr hres
  have c114 : ([115, 110, 109] : List UInt8).contains 114 = false := by decide
  have c115 : ([115, 110, 109] : List UInt8).contains 115 = true := by decide
  have c101 : ([115, 110, 109] : List UInt8).contains 101 = false := by decide
  have c110 : ([115, 110, 109] : List UInt8).contains 110 = true := by decide
  have c109 : ([115, 110, 109] : List UInt8).contains 109 = true := by decide
  have c98 : ([115, 110, 109] : List UInt8).contains 98 = false := by decide
  unfold noteV
  go_enter Tryz.func49, Tryz.ntmps49
  go_wp2_with fail
  refine (fields_5 _).mono ?_
  rintro e0 w1 ⟨rfl, rfl⟩
  go_wp2_with (first
    | (go_at_call 84; refine (in_c _ _ _ _).mono ?_; rintro e0 wy ⟨rfl, rfl⟩)
    | (go_at_call 85; (first | (with_reducible refine (has_114 [115, 110, 109] _ (by decide)).mono ?_) | (with_reducible refine (has_115 [115, 110, 109] _ (by decide)).mono ?_) | (with_reducible refine (has_101 [115, 110, 109] _ (by decide)).mono ?_) | (with_reducible refine (has_110 [115, 110, 109] _ (by decide)).mono ?_) | (with_reducible refine (has_109 [115, 110, 109] _ (by decide)).mono ?_) | (with_reducible refine (has_98 [115, 110, 109] _ (by decide)).mono ?_)); rintro e0 wy ⟨rfl, rfl⟩))
  all_goals
    (go_ret
     first
       | exact ⟨ret_bool (by rw [HRES.out, Bool.eq_iff_iff]; simp [good, goodB, goodK, bnd, wB, -List.length_eq_zero_iff]; omega), balloc (Below.refl _ _) _⟩
       | exact ⟨ret_bool (by rw [HRES.out, Bool.eq_iff_iff]; simp [good, goodB, goodK, bnd, wB]), balloc (Below.refl _ _) _⟩)

set_option maxRecDepth 100000 in
set_option maxHeartbeats 3200000 in
theorem goodr_6 (room slot epoch n m : Int) (bs : List UInt8) (A : Option Addr) (c : Nat) (w : World) (hr : Reads w w.heap.size 1 A bs.length (bs.map u8v)) (hlen : bs.length ≤ 9223372036854775807) (hyes : goodR1 ⟨6, room, slot, epoch, n, m, bs⟩ = true) :
    Calls Tryz.prog 49 #[noteV ⟨6, room, slot, epoch, n, m, bs⟩ A c] w fun e w' => e = .returned (.bool (good ⟨6, room, slot, epoch, n, m, bs⟩)) ∧ Below w.heap.size w w' := by
  obtain ⟨res, hres⟩ : ∃ res, res = good ⟨6, room, slot, epoch, n, m, bs⟩ := ⟨_, rfl⟩
  rw [← hres]
  simp only [goodR1, Bool.and_eq_true, decide_eq_true_eq] at hyes
  obtain ⟨⟨⟨⟨⟨⟨_, y1⟩, y2⟩, y3⟩, y4⟩, y5⟩, y6⟩ := hyes
  have hb : (0 ≤ room ∧ room ≤ 3) ∧ (0 ≤ slot ∧ slot ≤ 7) ∧ (0 ≤ epoch ∧ epoch ≤ 65535) ∧ (0 ≤ n ∧ n ≤ 65535) ∧ 0 ≤ m ∧ m ≤ 65535 := by
    simp only [inB, Bool.and_eq_true, decide_eq_true_eq] at y1 y2 y3 y4 y5
    exact ⟨y1, y2, y3, y4, y5⟩
  obtain ⟨⟨r0, r1⟩, ⟨s0, s1⟩, ⟨e0, e1⟩, ⟨n0, n1⟩, m0, m1⟩ := hb
  have HR := Lib.hid hr
  have HRES := Lib.hid hres
  clear hr hres
  have c114 : ([115] : List UInt8).contains 114 = false := by decide
  have c115 : ([115] : List UInt8).contains 115 = true := by decide
  have c101 : ([115] : List UInt8).contains 101 = false := by decide
  have c110 : ([115] : List UInt8).contains 110 = false := by decide
  have c109 : ([115] : List UInt8).contains 109 = false := by decide
  have c98 : ([115] : List UInt8).contains 98 = false := by decide
  unfold noteV
  go_enter Tryz.func49, Tryz.ntmps49
  go_wp2_with fail
  refine (fields_6 _).mono ?_
  rintro e0 w1 ⟨rfl, rfl⟩
  go_wp2_with (first
    | (go_at_call 84; refine (in_c _ _ _ _).mono ?_; rintro e0 wy ⟨rfl, rfl⟩)
    | (go_at_call 85; (first | (with_reducible refine (has_114 [115] _ (by decide)).mono ?_) | (with_reducible refine (has_115 [115] _ (by decide)).mono ?_) | (with_reducible refine (has_101 [115] _ (by decide)).mono ?_) | (with_reducible refine (has_110 [115] _ (by decide)).mono ?_) | (with_reducible refine (has_109 [115] _ (by decide)).mono ?_) | (with_reducible refine (has_98 [115] _ (by decide)).mono ?_)); rintro e0 wy ⟨rfl, rfl⟩))
  all_goals
    (go_ret
     first
       | exact ⟨ret_bool (by rw [HRES.out, Bool.eq_iff_iff]; simp [good, goodB, goodK, bnd, wB, -List.length_eq_zero_iff]; omega), balloc (Below.refl _ _) _⟩
       | exact ⟨ret_bool (by rw [HRES.out, Bool.eq_iff_iff]; simp [good, goodB, goodK, bnd, wB]), balloc (Below.refl _ _) _⟩)

set_option maxRecDepth 100000 in
set_option maxHeartbeats 3200000 in
theorem goodr_7 (room slot epoch n m : Int) (bs : List UInt8) (A : Option Addr) (c : Nat) (w : World) (hr : Reads w w.heap.size 1 A bs.length (bs.map u8v)) (hlen : bs.length ≤ 9223372036854775807) (hyes : goodR1 ⟨7, room, slot, epoch, n, m, bs⟩ = true) :
    Calls Tryz.prog 49 #[noteV ⟨7, room, slot, epoch, n, m, bs⟩ A c] w fun e w' => e = .returned (.bool (good ⟨7, room, slot, epoch, n, m, bs⟩)) ∧ Below w.heap.size w w' := by
  obtain ⟨res, hres⟩ : ∃ res, res = good ⟨7, room, slot, epoch, n, m, bs⟩ := ⟨_, rfl⟩
  rw [← hres]
  simp only [goodR1, Bool.and_eq_true, decide_eq_true_eq] at hyes
  obtain ⟨⟨⟨⟨⟨⟨_, y1⟩, y2⟩, y3⟩, y4⟩, y5⟩, y6⟩ := hyes
  have hb : (0 ≤ room ∧ room ≤ 3) ∧ (0 ≤ slot ∧ slot ≤ 7) ∧ (0 ≤ epoch ∧ epoch ≤ 65535) ∧ (0 ≤ n ∧ n ≤ 65535) ∧ 0 ≤ m ∧ m ≤ 65535 := by
    simp only [inB, Bool.and_eq_true, decide_eq_true_eq] at y1 y2 y3 y4 y5
    exact ⟨y1, y2, y3, y4, y5⟩
  obtain ⟨⟨r0, r1⟩, ⟨s0, s1⟩, ⟨e0, e1⟩, ⟨n0, n1⟩, m0, m1⟩ := hb
  have HR := Lib.hid hr
  have HRES := Lib.hid hres
  clear hr hres
  have c114 : ([115, 101, 110, 98] : List UInt8).contains 114 = false := by decide
  have c115 : ([115, 101, 110, 98] : List UInt8).contains 115 = true := by decide
  have c101 : ([115, 101, 110, 98] : List UInt8).contains 101 = true := by decide
  have c110 : ([115, 101, 110, 98] : List UInt8).contains 110 = true := by decide
  have c109 : ([115, 101, 110, 98] : List UInt8).contains 109 = false := by decide
  have c98 : ([115, 101, 110, 98] : List UInt8).contains 98 = true := by decide
  unfold noteV
  go_enter Tryz.func49, Tryz.ntmps49
  go_wp2_with fail
  refine (fields_7 _).mono ?_
  rintro e0 w1 ⟨rfl, rfl⟩
  go_wp2_with (first
    | (go_at_call 84; refine (in_c _ _ _ _).mono ?_; rintro e0 wy ⟨rfl, rfl⟩)
    | (go_at_call 85; (first | (with_reducible refine (has_114 [115, 101, 110, 98] _ (by decide)).mono ?_) | (with_reducible refine (has_115 [115, 101, 110, 98] _ (by decide)).mono ?_) | (with_reducible refine (has_101 [115, 101, 110, 98] _ (by decide)).mono ?_) | (with_reducible refine (has_110 [115, 101, 110, 98] _ (by decide)).mono ?_) | (with_reducible refine (has_109 [115, 101, 110, 98] _ (by decide)).mono ?_) | (with_reducible refine (has_98 [115, 101, 110, 98] _ (by decide)).mono ?_)); rintro e0 wy ⟨rfl, rfl⟩))
  all_goals
    (go_ret
     first
       | exact ⟨ret_bool (by rw [HRES.out, Bool.eq_iff_iff]; simp [good, goodB, goodK, bnd, wB, -List.length_eq_zero_iff]; omega), balloc (Below.refl _ _) _⟩
       | exact ⟨ret_bool (by rw [HRES.out, Bool.eq_iff_iff]; simp [good, goodB, goodK, bnd, wB]), balloc (Below.refl _ _) _⟩)
end Go.Proofs.YtmkifedcanmjoaaGreat.Nt
