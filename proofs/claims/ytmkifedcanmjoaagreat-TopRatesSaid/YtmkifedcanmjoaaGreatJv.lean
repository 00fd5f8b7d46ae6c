/- Texts of this claim, one behind the other: NGoodR3, NGoodR4, NGoodR. Each says ahead of itself what it proves, and its conditions. -/
import Derived.Test.YtmkifedcanmjoaaGreatJs
import Derived.Test.YtmkifedcanmjoaaGreatJt
import Derived.Test.YtmkifedcanmjoaaGreatJu
/- What the reference's Good returns, kind by kind (contracts). Conditions: the note's bytes read. -/
set_option linter.unusedVariables false
namespace Go.Proofs.YtmkifedcanmjoaaGreat.Nt
open Go.RowKit
attribute [local go_sem ↓] Go.wp_at_zero Go.wp_at_succ

set_option maxRecDepth 100000 in
set_option maxHeartbeats 3200000 in
theorem goodr_19 (room slot epoch n m : Int) (bs : List UInt8) (A : Option Addr) (c : Nat) (w : World) (hr : Reads w w.heap.size 1 A bs.length (bs.map u8v)) (hlen : bs.length ≤ 9223372036854775807) (hyes : goodR1 ⟨19, room, slot, epoch, n, m, bs⟩ = true) :
    Calls Tryz.prog 49 #[noteV ⟨19, room, slot, epoch, n, m, bs⟩ A c] w fun e w' => e = .returned (.bool (good ⟨19, room, slot, epoch, n, m, bs⟩)) ∧ Below w.heap.size w w' := by
  obtain ⟨res, hres⟩ : ∃ res, res = good ⟨19, room, slot, epoch, n, m, bs⟩ := ⟨_, rfl⟩
  rw [← hres]
  simp only [goodR1, Bool.and_eq_true, decide_eq_true_eq] at hyes
  obtain ⟨⟨⟨⟨⟨⟨_, y1⟩, y2⟩, y3⟩, y4⟩, y5⟩, y6⟩ := hyes
  have hb : (0 ≤ room ∧ room ≤ 3) ∧ (0 ≤ slot ∧ slot ≤ 7) ∧ (0 ≤ epoch ∧ epoch ≤ 65535) ∧ (0 ≤ n ∧ n ≤ 65535) ∧ 0 ≤ m ∧ m ≤ 65535 := by
    simp only [inB, Bool.and_eq_true, decide_eq_true_eq] at y1 y2 y3 y4 y5
    exact ⟨y1, y2, y3, y4, y5⟩
  obtain ⟨⟨r0, r1⟩, ⟨s0, s1⟩, ⟨e0, e1⟩, ⟨n0, n1⟩, m0, m1⟩ := hb
  have HR := Lib.hid hr
  have HRES := Lib.hid hres
  clear hr hres
  have c114 : ([115, 101, 110, 109] : List UInt8).contains 114 = false := by decide
  have c115 : ([115, 101, 110, 109] : List UInt8).contains 115 = true := by decide
  have c101 : ([115, 101, 110, 109] : List UInt8).contains 101 = true := by decide
  have c110 : ([115, 101, 110, 109] : List UInt8).contains 110 = true := by decide
  have c109 : ([115, 101, 110, 109] : List UInt8).contains 109 = true := by decide
  have c98 : ([115, 101, 110, 109] : List UInt8).contains 98 = false := by decide
  obtain ⟨N, rfl⟩ := Int.eq_ofNat_of_zero_le n0
  obtain ⟨S, rfl⟩ := Int.eq_ofNat_of_zero_le s0
  have HT : Hid (∀ b, N.testBit S = b → good ⟨19, room, (S : Int), epoch, (N : Int), m, bs⟩ = (goodB ⟨19, room, (S : Int), epoch, (N : Int), m, bs⟩ && b)) := by
    intro b h
    subst h
    simp [good, goodK]
  cases hb : N.testBit S with
  | true =>
    have HBT := Lib.hid hb
    by_cases hn : (N : Int) < 256
    · have hbit := bit_on (n := N) (k := S) (by omega) hb
      clear hb
      unfold noteV
      go_enter Tryz.func49, Tryz.ntmps49
      go_wp2_with fail
      refine (fields_19 _).mono ?_
      rintro e0 w1 ⟨rfl, rfl⟩
      go_wp2_with (first
        | (go_at_call 84; refine (in_c _ _ _ _).mono ?_; rintro e0 wy ⟨rfl, rfl⟩)
        | (go_at_call 85; (first | (with_reducible refine (has_114 [115, 101, 110, 109] _ (by decide)).mono ?_) | (with_reducible refine (has_115 [115, 101, 110, 109] _ (by decide)).mono ?_) | (with_reducible refine (has_101 [115, 101, 110, 109] _ (by decide)).mono ?_) | (with_reducible refine (has_110 [115, 101, 110, 109] _ (by decide)).mono ?_) | (with_reducible refine (has_109 [115, 101, 110, 109] _ (by decide)).mono ?_) | (with_reducible refine (has_98 [115, 101, 110, 109] _ (by decide)).mono ?_)); rintro e0 wy ⟨rfl, rfl⟩))
      all_goals
        (go_ret
         first
           | exact ⟨ret_bool (by rw [HRES.out, HT.out _ HBT.out, Bool.eq_iff_iff]; simp [goodB, bnd, wB, -List.length_eq_zero_iff]; omega), balloc (Below.refl _ _) _⟩
           | exact ⟨ret_bool (by rw [HRES.out, HT.out _ HBT.out, Bool.eq_iff_iff]; simp [goodB, bnd, wB, -List.length_eq_zero_iff]), balloc (Below.refl _ _) _⟩)
    · clear hb
      unfold noteV
      go_enter Tryz.func49, Tryz.ntmps49
      go_wp2_with fail
      refine (fields_19 _).mono ?_
      rintro e0 w1 ⟨rfl, rfl⟩
      go_wp2_with (first
        | (go_at_call 84; refine (in_c _ _ _ _).mono ?_; rintro e0 wy ⟨rfl, rfl⟩)
        | (go_at_call 85; (first | (with_reducible refine (has_114 [115, 101, 110, 109] _ (by decide)).mono ?_) | (with_reducible refine (has_115 [115, 101, 110, 109] _ (by decide)).mono ?_) | (with_reducible refine (has_101 [115, 101, 110, 109] _ (by decide)).mono ?_) | (with_reducible refine (has_110 [115, 101, 110, 109] _ (by decide)).mono ?_) | (with_reducible refine (has_109 [115, 101, 110, 109] _ (by decide)).mono ?_) | (with_reducible refine (has_98 [115, 101, 110, 109] _ (by decide)).mono ?_)); rintro e0 wy ⟨rfl, rfl⟩))
      all_goals
        (go_ret
         first
           | exact ⟨ret_bool (by rw [HRES.out, HT.out _ HBT.out, Bool.eq_iff_iff]; simp [goodB, bnd, wB, -List.length_eq_zero_iff]; omega), balloc (Below.refl _ _) _⟩
           | exact ⟨ret_bool (by rw [HRES.out, HT.out _ HBT.out, Bool.eq_iff_iff]; simp [goodB, bnd, wB, -List.length_eq_zero_iff]), balloc (Below.refl _ _) _⟩)
  | false =>
    have HBT := Lib.hid hb
    by_cases hn : (N : Int) < 256
    · have hbit := bit_off (n := N) (k := S) (by omega) hb
      clear hb
      unfold noteV
      go_enter Tryz.func49, Tryz.ntmps49
      go_wp2_with fail
      refine (fields_19 _).mono ?_
      rintro e0 w1 ⟨rfl, rfl⟩
      go_wp2_with (first
        | (go_at_call 84; refine (in_c _ _ _ _).mono ?_; rintro e0 wy ⟨rfl, rfl⟩)
        | (go_at_call 85; (first | (with_reducible refine (has_114 [115, 101, 110, 109] _ (by decide)).mono ?_) | (with_reducible refine (has_115 [115, 101, 110, 109] _ (by decide)).mono ?_) | (with_reducible refine (has_101 [115, 101, 110, 109] _ (by decide)).mono ?_) | (with_reducible refine (has_110 [115, 101, 110, 109] _ (by decide)).mono ?_) | (with_reducible refine (has_109 [115, 101, 110, 109] _ (by decide)).mono ?_) | (with_reducible refine (has_98 [115, 101, 110, 109] _ (by decide)).mono ?_)); rintro e0 wy ⟨rfl, rfl⟩))
      all_goals
        (go_ret
         first
           | exact ⟨ret_bool (by rw [HRES.out, HT.out _ HBT.out, Bool.eq_iff_iff]; simp [goodB, bnd, wB, -List.length_eq_zero_iff]; omega), balloc (Below.refl _ _) _⟩
           | exact ⟨ret_bool (by rw [HRES.out, HT.out _ HBT.out, Bool.eq_iff_iff]; simp [goodB, bnd, wB, -List.length_eq_zero_iff]), balloc (Below.refl _ _) _⟩)
    · clear hb
      unfold noteV
      go_enter Tryz.func49, Tryz.ntmps49
      go_wp2_with fail
      refine (fields_19 _).mono ?_
      rintro e0 w1 ⟨rfl, rfl⟩
      go_wp2_with (first
        | (go_at_call 84; refine (in_c _ _ _ _).mono ?_; rintro e0 wy ⟨rfl, rfl⟩)
        | (go_at_call 85; (first | (with_reducible refine (has_114 [115, 101, 110, 109] _ (by decide)).mono ?_) | (with_reducible refine (has_115 [115, 101, 110, 109] _ (by decide)).mono ?_) | (with_reducible refine (has_101 [115, 101, 110, 109] _ (by decide)).mono ?_) | (with_reducible refine (has_110 [115, 101, 110, 109] _ (by decide)).mono ?_) | (with_reducible refine (has_109 [115, 101, 110, 109] _ (by decide)).mono ?_) | (with_reducible refine (has_98 [115, 101, 110, 109] _ (by decide)).mono ?_)); rintro e0 wy ⟨rfl, rfl⟩))
      all_goals
        (go_ret
         first
           | exact ⟨ret_bool (by rw [HRES.out, HT.out _ HBT.out, Bool.eq_iff_iff]; simp [goodB, bnd, wB, -List.length_eq_zero_iff]; omega), balloc (Below.refl _ _) _⟩
           | exact ⟨ret_bool (by rw [HRES.out, HT.out _ HBT.out, Bool.eq_iff_iff]; simp [goodB, bnd, wB, -List.length_eq_zero_iff]), balloc (Below.refl _ _) _⟩)

set_option maxRecDepth 100000 in
set_option maxHeartbeats 3200000 in
theorem goodr_20 (room slot epoch n m : Int) (bs : List UInt8) (A : Option Addr) (c : Nat) (w : World) (hr : Reads w w.heap.size 1 A bs.length (bs.map u8v)) (hlen : bs.length ≤ 9223372036854775807) (hyes : goodR1 ⟨20, room, slot, epoch, n, m, bs⟩ = true) :
    Calls Tryz.prog 49 #[noteV ⟨20, room, slot, epoch, n, m, bs⟩ A c] w fun e w' => e = .returned (.bool (good ⟨20, room, slot, epoch, n, m, bs⟩)) ∧ Below w.heap.size w w' := by
  obtain ⟨res, hres⟩ : ∃ res, res = good ⟨20, room, slot, epoch, n, m, bs⟩ := ⟨_, rfl⟩
  rw [← hres]
  simp only [goodR1, Bool.and_eq_true, decide_eq_true_eq] at hyes
  obtain ⟨⟨⟨⟨⟨⟨_, y1⟩, y2⟩, y3⟩, y4⟩, y5⟩, y6⟩ := hyes
  have hb : (0 ≤ room ∧ room ≤ 3) ∧ (0 ≤ slot ∧ slot ≤ 7) ∧ (0 ≤ epoch ∧ epoch ≤ 65535) ∧ (0 ≤ n ∧ n ≤ 65535) ∧ 0 ≤ m ∧ m ≤ 65535 := by
    simp only [inB, Bool.and_eq_true, decide_eq_true_eq] at y1 y2 y3 y4 y5
    exact ⟨y1, y2, y3, y4, y5⟩
  obtain ⟨⟨r0, r1⟩, ⟨s0, s1⟩, ⟨e0, e1⟩, ⟨n0, n1⟩, m0, m1⟩ := hb
  have HR := Lib.hid hr
  have HRES := Lib.hid hres
  clear hr hres
  have c114 : ([115, 101, 110] : List UInt8).contains 114 = false := by decide
  have c115 : ([115, 101, 110] : List UInt8).contains 115 = true := by decide
  have c101 : ([115, 101, 110] : List UInt8).contains 101 = true := by decide
  have c110 : ([115, 101, 110] : List UInt8).contains 110 = true := by decide
  have c109 : ([115, 101, 110] : List UInt8).contains 109 = false := by decide
  have c98 : ([115, 101, 110] : List UInt8).contains 98 = false := by decide
  obtain ⟨N, rfl⟩ := Int.eq_ofNat_of_zero_le n0
  obtain ⟨S, rfl⟩ := Int.eq_ofNat_of_zero_le s0
  have HT : Hid (∀ b, N.testBit S = b → good ⟨20, room, (S : Int), epoch, (N : Int), m, bs⟩ = (goodB ⟨20, room, (S : Int), epoch, (N : Int), m, bs⟩ && !b)) := by
    intro b h
    subst h
    simp [good, goodK]
  cases hb : N.testBit S with
  | true =>
    have HBT := Lib.hid hb
    by_cases hn : (N : Int) < 256
    · have hbit := bit_on (n := N) (k := S) (by omega) hb
      clear hb
      unfold noteV
      go_enter Tryz.func49, Tryz.ntmps49
      go_wp2_with fail
      refine (fields_20 _).mono ?_
      rintro e0 w1 ⟨rfl, rfl⟩
      go_wp2_with (first
        | (go_at_call 84; refine (in_c _ _ _ _).mono ?_; rintro e0 wy ⟨rfl, rfl⟩)
        | (go_at_call 85; (first | (with_reducible refine (has_114 [115, 101, 110] _ (by decide)).mono ?_) | (with_reducible refine (has_115 [115, 101, 110] _ (by decide)).mono ?_) | (with_reducible refine (has_101 [115, 101, 110] _ (by decide)).mono ?_) | (with_reducible refine (has_110 [115, 101, 110] _ (by decide)).mono ?_) | (with_reducible refine (has_109 [115, 101, 110] _ (by decide)).mono ?_) | (with_reducible refine (has_98 [115, 101, 110] _ (by decide)).mono ?_)); rintro e0 wy ⟨rfl, rfl⟩))
      all_goals
        (go_ret
         first
           | exact ⟨ret_bool (by rw [HRES.out, HT.out _ HBT.out, Bool.eq_iff_iff]; simp [goodB, bnd, wB, -List.length_eq_zero_iff]; omega), balloc (Below.refl _ _) _⟩
           | exact ⟨ret_bool (by rw [HRES.out, HT.out _ HBT.out, Bool.eq_iff_iff]; simp [goodB, bnd, wB, -List.length_eq_zero_iff]), balloc (Below.refl _ _) _⟩)
    · clear hb
      unfold noteV
      go_enter Tryz.func49, Tryz.ntmps49
      go_wp2_with fail
      refine (fields_20 _).mono ?_
      rintro e0 w1 ⟨rfl, rfl⟩
      go_wp2_with (first
        | (go_at_call 84; refine (in_c _ _ _ _).mono ?_; rintro e0 wy ⟨rfl, rfl⟩)
        | (go_at_call 85; (first | (with_reducible refine (has_114 [115, 101, 110] _ (by decide)).mono ?_) | (with_reducible refine (has_115 [115, 101, 110] _ (by decide)).mono ?_) | (with_reducible refine (has_101 [115, 101, 110] _ (by decide)).mono ?_) | (with_reducible refine (has_110 [115, 101, 110] _ (by decide)).mono ?_) | (with_reducible refine (has_109 [115, 101, 110] _ (by decide)).mono ?_) | (with_reducible refine (has_98 [115, 101, 110] _ (by decide)).mono ?_)); rintro e0 wy ⟨rfl, rfl⟩))
      all_goals
        (go_ret
         first
           | exact ⟨ret_bool (by rw [HRES.out, HT.out _ HBT.out, Bool.eq_iff_iff]; simp [goodB, bnd, wB, -List.length_eq_zero_iff]; omega), balloc (Below.refl _ _) _⟩
           | exact ⟨ret_bool (by rw [HRES.out, HT.out _ HBT.out, Bool.eq_iff_iff]; simp [goodB, bnd, wB, -List.length_eq_zero_iff]), balloc (Below.refl _ _) _⟩)
  | false =>
    have HBT := Lib.hid hb
    by_cases hn : (N : Int) < 256
    · have hbit := bit_off (n := N) (k := S) (by omega) hb
      clear hb
      unfold noteV
      go_enter Tryz.func49, Tryz.ntmps49
      go_wp2_with fail
      refine (fields_20 _).mono ?_
      rintro e0 w1 ⟨rfl, rfl⟩
      go_wp2_with (first
        | (go_at_call 84; refine (in_c _ _ _ _).mono ?_; rintro e0 wy ⟨rfl, rfl⟩)
        | (go_at_call 85; (first | (with_reducible refine (has_114 [115, 101, 110] _ (by decide)).mono ?_) | (with_reducible refine (has_115 [115, 101, 110] _ (by decide)).mono ?_) | (with_reducible refine (has_101 [115, 101, 110] _ (by decide)).mono ?_) | (with_reducible refine (has_110 [115, 101, 110] _ (by decide)).mono ?_) | (with_reducible refine (has_109 [115, 101, 110] _ (by decide)).mono ?_) | (with_reducible refine (has_98 [115, 101, 110] _ (by decide)).mono ?_)); rintro e0 wy ⟨rfl, rfl⟩))
      all_goals
        (go_ret
         first
           | exact ⟨ret_bool (by rw [HRES.out, HT.out _ HBT.out, Bool.eq_iff_iff]; simp [goodB, bnd, wB, -List.length_eq_zero_iff]; omega), balloc (Below.refl _ _) _⟩
           | exact ⟨ret_bool (by rw [HRES.out, HT.out _ HBT.out, Bool.eq_iff_iff]; simp [goodB, bnd, wB, -List.length_eq_zero_iff]), balloc (Below.refl _ _) _⟩)
    · clear hb
      unfold noteV
      go_enter Tryz.func49, Tryz.ntmps49
      go_wp2_with fail
      refine (fields_20 _).mono ?_
      rintro e0 w1 ⟨rfl, rfl⟩
      go_wp2_with (first
        | (go_at_call 84; refine (in_c _ _ _ _).mono ?_; rintro e0 wy ⟨rfl, rfl⟩)
        | (go_at_call 85; (first | (with_reducible refine (has_114 [115, 101, 110] _ (by decide)).mono ?_) | (with_reducible refine (has_115 [115, 101, 110] _ (by decide)).mono ?_) | (with_reducible refine (has_101 [115, 101, 110] _ (by decide)).mono ?_) | (with_reducible refine (has_110 [115, 101, 110] _ (by decide)).mono ?_) | (with_reducible refine (has_109 [115, 101, 110] _ (by decide)).mono ?_) | (with_reducible refine (has_98 [115, 101, 110] _ (by decide)).mono ?_)); rintro e0 wy ⟨rfl, rfl⟩))
      all_goals
        (go_ret
         first
           | exact ⟨ret_bool (by rw [HRES.out, HT.out _ HBT.out, Bool.eq_iff_iff]; simp [goodB, bnd, wB, -List.length_eq_zero_iff]; omega), balloc (Below.refl _ _) _⟩
           | exact ⟨ret_bool (by rw [HRES.out, HT.out _ HBT.out, Bool.eq_iff_iff]; simp [goodB, bnd, wB, -List.length_eq_zero_iff]), balloc (Below.refl _ _) _⟩)
end Go.Proofs.YtmkifedcanmjoaaGreat.Nt
/- What the reference's Good returns, kind by kind (contracts). Conditions: the note's bytes read. -/
set_option linter.unusedVariables false
namespace Go.Proofs.YtmkifedcanmjoaaGreat.Nt
open Go.RowKit
attribute [local go_sem ↓] Go.wp_at_zero Go.wp_at_succ

set_option maxRecDepth 100000 in
set_option maxHeartbeats 3200000 in
theorem goodr_17 (room slot epoch n m : Int) (bs : List UInt8) (A : Option Addr) (c : Nat) (w : World) (hr : Reads w w.heap.size 1 A bs.length (bs.map u8v)) (hlen : bs.length ≤ 9223372036854775807) (hyes : goodR1 ⟨17, room, slot, epoch, n, m, bs⟩ = true) :
    Calls Tryz.prog 49 #[noteV ⟨17, room, slot, epoch, n, m, bs⟩ A c] w fun e w' => e = .returned (.bool (good ⟨17, room, slot, epoch, n, m, bs⟩)) ∧ Below w.heap.size w w' := by
  obtain ⟨res, hres⟩ : ∃ res, res = good ⟨17, room, slot, epoch, n, m, bs⟩ := ⟨_, rfl⟩
  rw [← hres]
  simp only [goodR1, Bool.and_eq_true, decide_eq_true_eq] at hyes
  obtain ⟨⟨⟨⟨⟨⟨_, y1⟩, y2⟩, y3⟩, y4⟩, y5⟩, y6⟩ := hyes
  have hb : (0 ≤ room ∧ room ≤ 3) ∧ (0 ≤ slot ∧ slot ≤ 7) ∧ (0 ≤ epoch ∧ epoch ≤ 65535) ∧ (0 ≤ n ∧ n ≤ 65535) ∧ 0 ≤ m ∧ m ≤ 65535 := by
    simp only [inB, Bool.and_eq_true, decide_eq_true_eq] at y1 y2 y3 y4 y5
    exact ⟨y1, y2, y3, y4, y5⟩
  obtain ⟨⟨r0, r1⟩, ⟨s0, s1⟩, ⟨e0, e1⟩, ⟨n0, n1⟩, m0, m1⟩ := hb
  have HR := Lib.hid hr
  have HRES := Lib.hid hres
  clear hr hres
  have c114 : ([114, 115, 101, 110, 109, 98] : List UInt8).contains 114 = true := by decide
  have c115 : ([114, 115, 101, 110, 109, 98] : List UInt8).contains 115 = true := by decide
  have c101 : ([114, 115, 101, 110, 109, 98] : List UInt8).contains 101 = true := by decide
  have c110 : ([114, 115, 101, 110, 109, 98] : List UInt8).contains 110 = true := by decide
  have c109 : ([114, 115, 101, 110, 109, 98] : List UInt8).contains 109 = true := by decide
  have c98 : ([114, 115, 101, 110, 109, 98] : List UInt8).contains 98 = true := by decide
  obtain ⟨N, rfl⟩ := Int.eq_ofNat_of_zero_le n0
  obtain ⟨S, rfl⟩ := Int.eq_ofNat_of_zero_le s0
  have HT : Hid (∀ b, N.testBit S = b → good ⟨17, room, (S : Int), epoch, (N : Int), m, bs⟩ = (goodB ⟨17, room, (S : Int), epoch, (N : Int), m, bs⟩ && (allAt N 0 bs && decide (epoch ≤ m) && b))) := by
    intro b h
    subst h
    simp [good, goodK]
  cases hb : N.testBit S with
  | true =>
    have HBT := Lib.hid hb
    by_cases hn : (N : Int) < 256
    · have hbit := bit_on (n := N) (k := S) (by omega) hb
      clear hb
      unfold noteV
      go_enter Tryz.func49, Tryz.ntmps49
      go_wp2_with fail
      refine (fields_17 _).mono ?_
      rintro e0 w1 ⟨rfl, rfl⟩
      go_wp2_with (first
        | (go_at_call 84; refine (in_c _ _ _ _).mono ?_; rintro e0 wy ⟨rfl, rfl⟩)
   
        | (go_at_call 86; refine (seats_c ⟨17, room, (S : Int), epoch, (N : Int), m, bs⟩ A c N _ (HR.out.to_ (balloc (Below.refl _ _) _)) rfl (by omega)).mono ?_; rintro e0 w2 ⟨rfl, hb2⟩; have HB2 := Lib.hid hb2; clear hb2)
        | (go_at_call 85; (first | (with_reducible refine (has_114 [114, 115, 101, 110, 109, 98] _ (by decide)).mono ?_) | (with_reducible refine (has_115 [114, 115, 101, 110, 109, 98] _ (by decide)).mono ?_) | (with_reducible refine (has_101 [114, 115, 101, 110, 109, 98] _ (by decide)).mono ?_) | (with_reducible refine (has_110 [114, 115, 101, 110, 109, 98] _ (by decide)).mono ?_) | (with_reducible refine (has_109 [114, 115, 101, 110, 109, 98] _ (by decide)).mono ?_) | (with_reducible refine (has_98 [114, 115, 101, 110, 109, 98] _ (by decide)).mono ?_)); rintro e0 wy ⟨rfl, rfl⟩))
      all_goals
        (go_ret
         first
           | exact ⟨ret_bool (by rw [HRES.out, HT.out _ HBT.out, Bool.eq_iff_iff]; simp [goodB, bnd, wB, -List.length_eq_zero_iff]; omega), balloc (Below.refl _ _) _⟩
           | exact ⟨ret_bool (by rw [HRES.out, HT.out _ HBT.out, Bool.eq_iff_iff]; simp [goodB, bnd, wB]; generalize allAt N 0 bs = p; cases p <;> simp; omega), balloc (Below.refl _ _) _⟩
           | exact ⟨ret_bool (by rw [HRES.out, HT.out _ HBT.out, Bool.eq_iff_iff]; simp [goodB, bnd, wB, -List.length_eq_zero_iff]), balloc (Below.refl _ _) _⟩
           | exact ⟨ret_bool (by rw [HRES.out, HT.out _ HBT.out, Bool.eq_iff_iff]; simp [goodB, bnd, wB]; generalize allAt N 0 bs = p; cases p <;> simp), balloc (Below.refl _ _) _⟩
           | exact ⟨ret_bool (by rw [HRES.out, HT.out _ HBT.out, Bool.eq_iff_iff]; simp [goodB, bnd, wB, -List.length_eq_zero_iff]; omega), bcall (balloc (Below.refl _ _) _) HB2.out⟩
           | exact ⟨ret_bool (by rw [HRES.out, HT.out _ HBT.out, Bool.eq_iff_iff]; simp [goodB, bnd, wB]; generalize allAt N 0 bs = p; cases p <;> simp; omega), bcall (balloc (Below.refl _ _) _) HB2.out⟩
           | exact ⟨ret_bool (by rw [HRES.out, HT.out _ HBT.out, Bool.eq_iff_iff]; simp [goodB, bnd, wB, -List.length_eq_zero_iff]), bcall (balloc (Below.refl _ _) _) HB2.out⟩
           | exact ⟨ret_bool (by rw [HRES.out, HT.out _ HBT.out, Bool.eq_iff_iff]; simp [goodB, bnd, wB]; generalize allAt N 0 bs = p; cases p <;> simp), bcall (balloc (Below.refl _ _) _) HB2.out⟩)
    · clear hb
      unfold noteV
      go_enter Tryz.func49, Tryz.ntmps49
      go_wp2_with fail
      refine (fields_17 _).mono ?_
      rintro e0 w1 ⟨rfl, rfl⟩
      go_wp2_with (first
        | (go_at_call 84; refine (in_c _ _ _ _).mono ?_; rintro e0 wy ⟨rfl, rfl⟩)
   
        | (go_at_call 86; refine (seats_c ⟨17, room, (S : Int), epoch, (N : Int), m, bs⟩ A c N _ (HR.out.to_ (balloc (Below.refl _ _) _)) rfl (by omega)).mono ?_; rintro e0 w2 ⟨rfl, hb2⟩; have HB2 := Lib.hid hb2; clear hb2)
        | (go_at_call 85; (first | (with_reducible refine (has_114 [114, 115, 101, 110, 109, 98] _ (by decide)).mono ?_) | (with_reducible refine (has_115 [114, 115, 101, 110, 109, 98] _ (by decide)).mono ?_) | (with_reducible refine (has_101 [114, 115, 101, 110, 109, 98] _ (by decide)).mono ?_) | (with_reducible refine (has_110 [114, 115, 101, 110, 109, 98] _ (by decide)).mono ?_) | (with_reducible refine (has_109 [114, 115, 101, 110, 109, 98] _ (by decide)).mono ?_) | (with_reducible refine (has_98 [114, 115, 101, 110, 109, 98] _ (by decide)).mono ?_)); rintro e0 wy ⟨rfl, rfl⟩))
      all_goals
        (go_ret
         first
           | exact ⟨ret_bool (by rw [HRES.out, HT.out _ HBT.out, Bool.eq_iff_iff]; simp [goodB, bnd, wB, -List.length_eq_zero_iff]; omega), balloc (Below.refl _ _) _⟩
           | exact ⟨ret_bool (by rw [HRES.out, HT.out _ HBT.out, Bool.eq_iff_iff]; simp [goodB, bnd, wB]; generalize allAt N 0 bs = p; cases p <;> simp; omega), balloc (Below.refl _ _) _⟩
           | exact ⟨ret_bool (by rw [HRES.out, HT.out _ HBT.out, Bool.eq_iff_iff]; simp [goodB, bnd, wB, -List.length_eq_zero_iff]), balloc (Below.refl _ _) _⟩
           | exact ⟨ret_bool (by rw [HRES.out, HT.out _ HBT.out, Bool.eq_iff_iff]; simp [goodB, bnd, wB]; generalize allAt N 0 bs = p; cases p <;> simp), balloc (Below.refl _ _) _⟩
           | exact ⟨ret_bool (by rw [HRES.out, HT.out _ HBT.out, Bool.eq_iff_iff]; simp [goodB, bnd, wB, -List.length_eq_zero_iff]; omega), bcall (balloc (Below.refl _ _) _) HB2.out⟩
           | exact ⟨ret_bool (by rw [HRES.out, HT.out _ HBT.out, Bool.eq_iff_iff]; simp [goodB, bnd, wB]; generalize allAt N 0 bs = p; cases p <;> simp; omega), bcall (balloc (Below.refl _ _) _) HB2.out⟩
           | exact ⟨ret_bool (by rw [HRES.out, HT.out _ HBT.out, Bool.eq_iff_iff]; simp [goodB, bnd, wB, -List.length_eq_zero_iff]), bcall (balloc (Below.refl _ _) _) HB2.out⟩
           | exact ⟨ret_bool (by rw [HRES.out, HT.out _ HBT.out, Bool.eq_iff_iff]; simp [goodB, bnd, wB]; generalize allAt N 0 bs = p; cases p <;> simp), bcall (balloc (Below.refl _ _) _) HB2.out⟩)
  | false =>
    have HBT := Lib.hid hb
    by_cases hn : (N : Int) < 256
    · have hbit := bit_off (n := N) (k := S) (by omega) hb
      clear hb
      unfold noteV
      go_enter Tryz.func49, Tryz.ntmps49
      go_wp2_with fail
      refine (fields_17 _).mono ?_
      rintro e0 w1 ⟨rfl, rfl⟩
      go_wp2_with (first
        | (go_at_call 84; refine (in_c _ _ _ _).mono ?_; rintro e0 wy ⟨rfl, rfl⟩)
   
        | (go_at_call 86; refine (seats_c ⟨17, room, (S : Int), epoch, (N : Int), m, bs⟩ A c N _ (HR.out.to_ (balloc (Below.refl _ _) _)) rfl (by omega)).mono ?_; rintro e0 w2 ⟨rfl, hb2⟩; have HB2 := Lib.hid hb2; clear hb2)
        | (go_at_call 85; (first | (with_reducible refine (has_114 [114, 115, 101, 110, 109, 98] _ (by decide)).mono ?_) | (with_reducible refine (has_115 [114, 115, 101, 110, 109, 98] _ (by decide)).mono ?_) | (with_reducible refine (has_101 [114, 115, 101, 110, 109, 98] _ (by decide)).mono ?_) | (with_reducible refine (has_110 [114, 115, 101, 110, 109, 98] _ (by decide)).mono ?_) | (with_reducible refine (has_109 [114, 115, 101, 110, 109, 98] _ (by decide)).mono ?_) | (with_reducible refine (has_98 [114, 115, 101, 110, 109, 98] _ (by decide)).mono ?_)); rintro e0 wy ⟨rfl, rfl⟩))
      all_goals
        (go_ret
         first
           | exact ⟨ret_bool (by rw [HRES.out, HT.out _ HBT.out, Bool.eq_iff_iff]; simp [goodB, bnd, wB, -List.length_eq_zero_iff]; omega), balloc (Below.refl _ _) _⟩
           | exact ⟨ret_bool (by rw [HRES.out, HT.out _ HBT.out, Bool.eq_iff_iff]; simp [goodB, bnd, wB]; generalize allAt N 0 bs = p; cases p <;> simp; omega), balloc (Below.refl _ _) _⟩
           | exact ⟨ret_bool (by rw [HRES.out, HT.out _ HBT.out, Bool.eq_iff_iff]; simp [goodB, bnd, wB, -List.length_eq_zero_iff]), balloc (Below.refl _ _) _⟩
           | exact ⟨ret_bool (by rw [HRES.out, HT.out _ HBT.out, Bool.eq_iff_iff]; simp [goodB, bnd, wB]; generalize allAt N 0 bs = p; cases p <;> simp), balloc (Below.refl _ _) _⟩
           | exact ⟨ret_bool (by rw [HRES.out, HT.out _ HBT.out, Bool.eq_iff_iff]; simp [goodB, bnd, wB, -List.length_eq_zero_iff]; omega), bcall (balloc (Below.refl _ _) _) HB2.out⟩
           | exact ⟨ret_bool (by rw [HRES.out, HT.out _ HBT.out, Bool.eq_iff_iff]; simp [goodB, bnd, wB]; generalize allAt N 0 bs = p; cases p <;> simp; omega), bcall (balloc (Below.refl _ _) _) HB2.out⟩
           | exact ⟨ret_bool (by rw [HRES.out, HT.out _ HBT.out, Bool.eq_iff_iff]; simp [goodB, bnd, wB, -List.length_eq_zero_iff]), bcall (balloc (Below.refl _ _) _) HB2.out⟩
           | exact ⟨ret_bool (by rw [HRES.out, HT.out _ HBT.out, Bool.eq_iff_iff]; simp [goodB, bnd, wB]; generalize allAt N 0 bs = p; cases p <;> simp), bcall (balloc (Below.refl _ _) _) HB2.out⟩)
    · clear hb
      unfold noteV
      go_enter Tryz.func49, Tryz.ntmps49
      go_wp2_with fail
      refine (fields_17 _).mono ?_
      rintro e0 w1 ⟨rfl, rfl⟩
      go_wp2_with (first
        | (go_at_call 84; refine (in_c _ _ _ _).mono ?_; rintro e0 wy ⟨rfl, rfl⟩)
   
        | (go_at_call 86; refine (seats_c ⟨17, room, (S : Int), epoch, (N : Int), m, bs⟩ A c N _ (HR.out.to_ (balloc (Below.refl _ _) _)) rfl (by omega)).mono ?_; rintro e0 w2 ⟨rfl, hb2⟩; have HB2 := Lib.hid hb2; clear hb2)
        | (go_at_call 85; (first | (with_reducible refine (has_114 [114, 115, 101, 110, 109, 98] _ (by decide)).mono ?_) | (with_reducible refine (has_115 [114, 115, 101, 110, 109, 98] _ (by decide)).mono ?_) | (with_reducible refine (has_101 [114, 115, 101, 110, 109, 98] _ (by decide)).mono ?_) | (with_reducible refine (has_110 [114, 115, 101, 110, 109, 98] _ (by decide)).mono ?_) | (with_reducible refine (has_109 [114, 115, 101, 110, 109, 98] _ (by decide)).mono ?_) | (with_reducible refine (has_98 [114, 115, 101, 110, 109, 98] _ (by decide)).mono ?_)); rintro e0 wy ⟨rfl, rfl⟩))
      all_goals
        (go_ret
         first
           | exact ⟨ret_bool (by rw [HRES.out, HT.out _ HBT.out, Bool.eq_iff_iff]; simp [goodB, bnd, wB, -List.length_eq_zero_iff]; omega), balloc (Below.refl _ _) _⟩
           | exact ⟨ret_bool (by rw [HRES.out, HT.out _ HBT.out, Bool.eq_iff_iff]; simp [goodB, bnd, wB]; generalize allAt N 0 bs = p; cases p <;> simp; omega), balloc (Below.refl _ _) _⟩
           | exact ⟨ret_bool (by rw [HRES.out, HT.out _ HBT.out, Bool.eq_iff_iff]; simp [goodB, bnd, wB, -List.length_eq_zero_iff]), balloc (Below.refl _ _) _⟩
           | exact ⟨ret_bool (by rw [HRES.out, HT.out _ HBT.out, Bool.eq_iff_iff]; simp [goodB, bnd, wB]; generalize allAt N 0 bs = p; cases p <;> simp), balloc (Below.refl _ _) _⟩
           | exact ⟨ret_bool (by rw [HRES.out, HT.out _ HBT.out, Bool.eq_iff_iff]; simp [goodB, bnd, wB, -List.length_eq_zero_iff]; omega), bcall (balloc (Below.refl _ _) _) HB2.out⟩
           | exact ⟨ret_bool (by rw [HRES.out, HT.out _ HBT.out, Bool.eq_iff_iff]; simp [goodB, bnd, wB]; generalize allAt N 0 bs = p; cases p <;> simp; omega), bcall (balloc (Below.refl _ _) _) HB2.out⟩
           | exact ⟨ret_bool (by rw [HRES.out, HT.out _ HBT.out, Bool.eq_iff_iff]; simp [goodB, bnd, wB, -List.length_eq_zero_iff]), bcall (balloc (Below.refl _ _) _) HB2.out⟩
           | exact ⟨ret_bool (by rw [HRES.out, HT.out _ HBT.out, Bool.eq_iff_iff]; simp [goodB, bnd, wB]; generalize allAt N 0 bs = p; cases p <;> simp), bcall (balloc (Below.refl _ _) _) HB2.out⟩)
end Go.Proofs.YtmkifedcanmjoaaGreat.Nt
/- What the reference's Good returns, any note (contract). Conditions: the note's bytes read. -/
set_option linter.unusedVariables false
namespace Go.Proofs.YtmkifedcanmjoaaGreat.Nt
open Go.RowKit

theorem fields_any (k : Int) : ∃ s : ByteArray, (∀ wx : World, Calls Tryz.prog 83 #[.int .i64 k] wx fun e w' => e = .returned (.string s) ∧ wx = w') ∧ s.toList.isEmpty = (fieldsS k).isEmpty := by
  by_cases h : isKind k
  · simp only [isKind] at h
    rcases h with rfl | rfl | rfl | rfl | rfl | rfl | rfl | rfl | rfl | rfl | rfl | rfl | rfl | rfl | rfl | rfl | rfl
    · exact ⟨_, fields_1, by decide +kernel⟩
    · exact ⟨_, fields_2, by decide +kernel⟩
    · exact ⟨_, fields_3, by decide +kernel⟩
    · exact ⟨_, fields_4, by decide +kernel⟩
    · exact ⟨_, fields_5, by decide +kernel⟩
    · exact ⟨_, fields_6, by decide +kernel⟩
    · exact ⟨_, fields_7, by decide +kernel⟩
    · exact ⟨_, fields_8, by decide +kernel⟩
    · exact ⟨_, fields_9, by decide +kernel⟩
    · exact ⟨_, fields_17, by decide +kernel⟩
    · exact ⟨_, fields_18, by decide +kernel⟩
    · exact ⟨_, fields_19, by decide +kernel⟩
    · exact ⟨_, fields_20, by decide +kernel⟩
    · exact ⟨_, fields_21, by decide +kernel⟩
    · exact ⟨_, fields_22, by decide +kernel⟩
    · exact ⟨_, fields_23, by decide +kernel⟩
    · exact ⟨_, fields_24, by decide +kernel⟩
  · refine ⟨_, fields_other k h, ?_⟩
    simp only [isKind, not_or] at h
    obtain ⟨h1, h2, h3, h4, h5, h6, h7, h8, h9, h17, h18, h19, h20, h21, h22, h23, h24⟩ := h
    rw [show fieldsS k = [] by simp [fieldsS, h1, h2, h3, h4, h5, h6, h7, h8, h9, h17, h18, h19, h20, h21, h22, h23, h24]]
    decide +kernel
theorem goodr_c (d : NoteD) (A : Option Addr) (c : Nat) (w : World) (hr : Reads w w.heap.size 1 A d.bs.length (d.bs.map u8v)) (hlen : d.bs.length ≤ 9223372036854775807) :
    Calls Tryz.prog 49 #[noteV d A c] w fun e w' => e = .returned (.bool (good d)) ∧ Below w.heap.size w w' := by
  cases hy : goodR1 d with
  | false =>
    obtain ⟨s, h1, h2⟩ := fields_any d.kind
    rw [← good_ref, hy, Bool.false_and, Bool.false_and]
    exact goodr_no d A c w hlen hy s h1 h2
  | true =>
    obtain ⟨k, room, slot, epoch, n, m, bs⟩ := d
    have hk : isKind k := by
      rcases Classical.em (isKind k) with hk | hk
      · exact hk
      · simp only [isKind, not_or] at hk
        obtain ⟨h1, h2, h3, h4, h5, h6, h7, h8, h9, h17, h18, h19, h20, h21, h22, h23, h24⟩ := hk
        have e : fieldsS k = [] := by simp [fieldsS, h1, h2, h3, h4, h5, h6, h7, h8, h9, h17, h18, h19, h20, h21, h22, h23, h24]
        simp [goodR1, e] at hy
    simp only [isKind] at hk
    rcases hk with rfl | rfl | rfl | rfl | rfl | rfl | rfl | rfl | rfl | rfl | rfl | rfl | rfl | rfl | rfl | rfl | rfl
    · exact goodr_1 room slot epoch n m bs A c w hr hlen hy
    · exact goodr_2 room slot epoch n m bs A c w hr hlen hy
    · exact goodr_3 room slot epoch n m bs A c w hr hlen hy
    · exact goodr_4 room slot epoch n m bs A c w hr hlen hy
    · exact goodr_5 room slot epoch n m bs A c w hr hlen hy
    · exact goodr_6 room slot epoch n m bs A c w hr hlen hy
    · exact goodr_7 room slot epoch n m bs A c w hr hlen hy
    · exact goodr_8 room slot epoch n m bs A c w hr hlen hy
    · exact goodr_9 room slot epoch n m bs A c w hr hlen hy
    · exact goodr_17 room slot epoch n m bs A c w hr hlen hy
    · exact goodr_18 room slot epoch n m bs A c w hr hlen hy
    · exact goodr_19 room slot epoch n m bs A c w hr hlen hy
    · exact goodr_20 room slot epoch n m bs A c w hr hlen hy
    · exact goodr_21 room slot epoch n m bs A c w hr hlen hy
    · exact goodr_22 room slot epoch n m bs A c w hr hlen hy
    · exact goodr_23 room slot epoch n m bs A c w hr hlen hy
    · exact goodr_24 room slot epoch n m bs A c w hr hlen hy
end Go.Proofs.YtmkifedcanmjoaaGreat.Nt
