/- What the reference's Good returns, kind by kind (contracts). Conditions: the note's bytes read. -/
import Derived.Test.YtmaemfjepdicfaaSeats
set_option linter.unusedVariables false
namespace Go.Proofs.Ytmaemfjepdicfaa
open Go.RowKit
attribute [local go_sem ↓] Go.wp_at_zero Go.wp_at_succ

set_option maxRecDepth 100000 in
set_option maxHeartbeats 3200000 in
theorem goodr_17 (room slot epoch n m : Int) (bs : List UInt8) (A : Option Addr) (c : Nat) (w : World) (hr : Reads w w.heap.size 1 A bs.length (bs.map u8v)) (hlen : bs.length ≤ 9223372036854775807) (hyes : goodR1 ⟨17, room, slot, epoch, n, m, bs⟩ = true) :
    Calls Try.prog 12 #[noteV ⟨17, room, slot, epoch, n, m, bs⟩ A c] w fun e w' => e = .returned (.bool (good ⟨17, room, slot, epoch, n, m, bs⟩)) ∧ Below w.heap.size w w' := by
  obtain ⟨res, hres⟩ : ∃ res, res = good ⟨17, room, slot, epoch, n, m, bs⟩ := ⟨_, rfl⟩
  rw [← hres]
  simp only [goodR1, Bool.and_eq_true, decide_eq_true_eq] at hyes
  obtain ⟨⟨⟨⟨⟨⟨_, y1⟩, y2⟩, y3⟩, y4⟩, y5⟩, y6⟩ := hyes
  have hb : (0 ≤ room ∧ room ≤ 3) ∧ (0 ≤ slot ∧ slot ≤ 7) ∧ (0 ≤ epoch ∧ epoch ≤ 65535) ∧ (0 ≤ n ∧ n ≤ 65535) ∧ 0 ≤ m ∧ m ≤ 65535 := by
    simp only [inB, Bool.and_eq_true, decide_eq_true_eq] at y1 y2 y3 y4 y5
    exact ⟨y1, y2, y3, y4, y5⟩
  obtain ⟨⟨r0, r1⟩, ⟨s0, s1⟩, ⟨e0, e1⟩, ⟨n0, n1⟩, m0, m1⟩ := hb
  have HR := Lib.hid hr
  have HRES := Lib.hid hres
  clear hr hres
  have c114 : ([114, 115, 101, 110, 109, 98] : List UInt8).contains 114 = true := by decide
  have c115 : ([114, 115, 101, 110, 109, 98] : List UInt8).contains 115 = true := by decide
  have c101 : ([114, 115, 101, 110, 109, 98] : List UInt8).contains 101 = true := by decide
  have c110 : ([114, 115, 101, 110, 109, 98] : List UInt8).contains 110 = true := by decide
  have c109 : ([114, 115, 101, 110, 109, 98] : List UInt8).contains 109 = true := by decide
  have c98 : ([114, 115, 101, 110, 109, 98] : List UInt8).contains 98 = true := by decide
  obtain ⟨N, rfl⟩ := Int.eq_ofNat_of_zero_le n0
  obtain ⟨S, rfl⟩ := Int.eq_ofNat_of_zero_le s0
  have HT : Hid (∀ b, N.testBit S = b → good ⟨17, room, (S : Int), epoch, (N : Int), m, bs⟩ = (goodB ⟨17, room, (S : Int), epoch, (N : Int), m, bs⟩ && (allAt N 0 bs && decide (epoch ≤ m) && b))) := by
    intro b h
    subst h
    simp [good, goodK]
  cases hb : N.testBit S with
  | true =>
    have HBT := Lib.hid hb
    by_cases hn : (N : Int) < 256
    · have hbit := bit_on (n := N) (k := S) (by omega) hb
      clear hb
      unfold noteV
      go_enter Try.func12, Try.ntmps12
      go_wp2_with fail
      refine (fields_17 _).mono ?_
      rintro e0 w1 ⟨rfl, rfl⟩
      go_wp2_with (first
        | (go_at_call 22; refine (in_c _ _ _ _).mono ?_; rintro e0 wy ⟨rfl, rfl⟩)
   
        | (go_at_call 24; refine (seats_c ⟨17, room, (S : Int), epoch, (N : Int), m, bs⟩ A c N _ (HR.out.to_ (balloc (Below.refl _ _) _)) rfl (by omega)).mono ?_; rintro e0 w2 ⟨rfl, hb2⟩; have HB2 := Lib.hid hb2; clear hb2)
        | (go_at_call 23; (first | (with_reducible refine (has_114 [114, 115, 101, 110, 109, 98] _ (by decide)).mono ?_) | (with_reducible refine (has_115 [114, 115, 101, 110, 109, 98] _ (by decide)).mono ?_) | (with_reducible refine (has_101 [114, 115, 101, 110, 109, 98] _ (by decide)).mono ?_) | (with_reducible refine (has_110 [114, 115, 101, 110, 109, 98] _ (by decide)).mono ?_) | (with_reducible refine (has_109 [114, 115, 101, 110, 109, 98] _ (by decide)).mono ?_) | (with_reducible refine (has_98 [114, 115, 101, 110, 109, 98] _ (by decide)).mono ?_)); rintro e0 wy ⟨rfl, rfl⟩))
      all_goals
        (go_ret
         first
           | exact ⟨ret_bool (by rw [HRES.out, HT.out _ HBT.out, Bool.eq_iff_iff]; simp [goodB, bnd, wB, -List.length_eq_zero_iff]; omega), balloc (Below.refl _ _) _⟩
           | exact ⟨ret_bool (by rw [HRES.out, HT.out _ HBT.out, Bool.eq_iff_iff]; simp [goodB, bnd, wB]; generalize allAt N 0 bs = p; cases p <;> simp; omega), balloc (Below.refl _ _) _⟩
           | exact ⟨ret_bool (by rw [HRES.out, HT.out _ HBT.out, Bool.eq_iff_iff]; simp [goodB, bnd, wB, -List.length_eq_zero_iff]), balloc (Below.refl _ _) _⟩
           | exact ⟨ret_bool (by rw [HRES.out, HT.out _ HBT.out, Bool.eq_iff_iff]; simp [goodB, bnd, wB]; generalize allAt N 0 bs = p; cases p <;> simp), balloc (Below.refl _ _) _⟩
           | exact ⟨ret_bool (by rw [HRES.out, HT.out _ HBT.out, Bool.eq_iff_iff]; simp [goodB, bnd, wB, -List.length_eq_zero_iff]; omega), bcall (balloc (Below.refl _ _) _) HB2.out⟩
           | exact ⟨ret_bool (by rw [HRES.out, HT.out _ HBT.out, Bool.eq_iff_iff]; simp [goodB, bnd, wB]; generalize allAt N 0 bs = p; cases p <;> simp; omega), bcall (balloc (Below.refl _ _) _) HB2.out⟩
           | exact ⟨ret_bool (by rw [HRES.out, HT.out _ HBT.out, Bool.eq_iff_iff]; simp [goodB, bnd, wB, -List.length_eq_zero_iff]), bcall (balloc (Below.refl _ _) _) HB2.out⟩
           | exact ⟨ret_bool (by rw [HRES.out, HT.out _ HBT.out, Bool.eq_iff_iff]; simp [goodB, bnd, wB]; generalize allAt N 0 bs = p; cases p <;> simp), bcall (balloc (Below.refl _ _) _) HB2.out⟩)
    · clear hb
      unfold noteV
      go_enter Try.func12, Try.ntmps12
      go_wp2_with fail
      refine (fields_17 _).mono ?_
      rintro e0 w1 ⟨rfl, rfl⟩
      go_wp2_with (first
        | (go_at_call 22; refine (in_c _ _ _ _).mono ?_; rintro e0 wy ⟨rfl, rfl⟩)
   
        | (go_at_call 24; refine (seats_c ⟨17, room, (S : Int), epoch, (N : Int), m, bs⟩ A c N _ (HR.out.to_ (balloc (Below.refl _ _) _)) rfl (by omega)).mono ?_; rintro e0 w2 ⟨rfl, hb2⟩; have HB2 := Lib.hid hb2; clear hb2)
        | (go_at_call 23; (first | (with_reducible refine (has_114 [114, 115, 101, 110, 109, 98] _ (by decide)).mono ?_) | (with_reducible refine (has_115 [114, 115, 101, 110, 109, 98] _ (by decide)).mono ?_) | (with_reducible refine (has_101 [114, 115, 101, 110, 109, 98] _ (by decide)).mono ?_) | (with_reducible refine (has_110 [114, 115, 101, 110, 109, 98] _ (by decide)).mono ?_) | (with_reducible refine (has_109 [114, 115, 101, 110, 109, 98] _ (by decide)).mono ?_) | (with_reducible refine (has_98 [114, 115, 101, 110, 109, 98] _ (by decide)).mono ?_)); rintro e0 wy ⟨rfl, rfl⟩))
      all_goals
        (go_ret
         first
           | exact ⟨ret_bool (by rw [HRES.out, HT.out _ HBT.out, Bool.eq_iff_iff]; simp [goodB, bnd, wB, -List.length_eq_zero_iff]; omega), balloc (Below.refl _ _) _⟩
           | exact ⟨ret_bool (by rw [HRES.out, HT.out _ HBT.out, Bool.eq_iff_iff]; simp [goodB, bnd, wB]; generalize allAt N 0 bs = p; cases p <;> simp; omega), balloc (Below.refl _ _) _⟩
           | exact ⟨ret_bool (by rw [HRES.out, HT.out _ HBT.out, Bool.eq_iff_iff]; simp [goodB, bnd, wB, -List.length_eq_zero_iff]), balloc (Below.refl _ _) _⟩
           | exact ⟨ret_bool (by rw [HRES.out, HT.out _ HBT.out, Bool.eq_iff_iff]; simp [goodB, bnd, wB]; generalize allAt N 0 bs = p; cases p <;> simp), balloc (Below.refl _ _) _⟩
           | exact ⟨ret_bool (by rw [HRES.out, HT.out _ HBT.out, Bool.eq_iff_iff]; simp [goodB, bnd, wB, -List.length_eq_zero_iff]; omega), bcall (balloc (Below.refl _ _) _) HB2.out⟩
           | exact ⟨ret_bool (by rw [HRES.out, HT.out _ HBT.out, Bool.eq_iff_iff]; simp [goodB, bnd, wB]; generalize allAt N 0 bs = p; cases p <;> simp; omega), bcall (balloc (Below.refl _ _) _) HB2.out⟩
           | exact ⟨ret_bool (by rw [HRES.out, HT.out _ HBT.out, Bool.eq_iff_iff]; simp [goodB, bnd, wB, -List.length_eq_zero_iff]), bcall (balloc (Below.refl _ _) _) HB2.out⟩
           | exact ⟨ret_bool (by rw [HRES.out, HT.out _ HBT.out, Bool.eq_iff_iff]; simp [goodB, bnd, wB]; generalize allAt N 0 bs = p; cases p <;> simp), bcall (balloc (Below.refl _ _) _) HB2.out⟩)
  | false =>
    have HBT := Lib.hid hb
    by_cases hn : (N : Int) < 256
    · have hbit := bit_off (n := N) (k := S) (by omega) hb
      clear hb
      unfold noteV
      go_enter Try.func12, Try.ntmps12
      go_wp2_with fail
      refine (fields_17 _).mono ?_
      rintro e0 w1 ⟨rfl, rfl⟩
      go_wp2_with (first
        | (go_at_call 22; refine (in_c _ _ _ _).mono ?_; rintro e0 wy ⟨rfl, rfl⟩)
   
        | (go_at_call 24; refine (seats_c ⟨17, room, (S : Int), epoch, (N : Int), m, bs⟩ A c N _ (HR.out.to_ (balloc (Below.refl _ _) _)) rfl (by omega)).mono ?_; rintro e0 w2 ⟨rfl, hb2⟩; have HB2 := Lib.hid hb2; clear hb2)
        | (go_at_call 23; (first | (with_reducible refine (has_114 [114, 115, 101, 110, 109, 98] _ (by decide)).mono ?_) | (with_reducible refine (has_115 [114, 115, 101, 110, 109, 98] _ (by decide)).mono ?_) | (with_reducible refine (has_101 [114, 115, 101, 110, 109, 98] _ (by decide)).mono ?_) | (with_reducible refine (has_110 [114, 115, 101, 110, 109, 98] _ (by decide)).mono ?_) | (with_reducible refine (has_109 [114, 115, 101, 110, 109, 98] _ (by decide)).mono ?_) | (with_reducible refine (has_98 [114, 115, 101, 110, 109, 98] _ (by decide)).mono ?_)); rintro e0 wy ⟨rfl, rfl⟩))
      all_goals
        (go_ret
         first
           | exact ⟨ret_bool (by rw [HRES.out, HT.out _ HBT.out, Bool.eq_iff_iff]; simp [goodB, bnd, wB, -List.length_eq_zero_iff]; omega), balloc (Below.refl _ _) _⟩
           | exact ⟨ret_bool (by rw [HRES.out, HT.out _ HBT.out, Bool.eq_iff_iff]; simp [goodB, bnd, wB]; generalize allAt N 0 bs = p; cases p <;> simp; omega), balloc (Below.refl _ _) _⟩
           | exact ⟨ret_bool (by rw [HRES.out, HT.out _ HBT.out, Bool.eq_iff_iff]; simp [goodB, bnd, wB, -List.length_eq_zero_iff]), balloc (Below.refl _ _) _⟩
           | exact ⟨ret_bool (by rw [HRES.out, HT.out _ HBT.out, Bool.eq_iff_iff]; simp [goodB, bnd, wB]; generalize allAt N 0 bs = p; cases p <;> simp), balloc (Below.refl _ _) _⟩
           | exact ⟨ret_bool (by rw [HRES.out, HT.out _ HBT.out, Bool.eq_iff_iff]; simp [goodB, bnd, wB, -List.length_eq_zero_iff]; omega), bcall (balloc (Below.refl _ _) _) HB2.out⟩
           | exact ⟨ret_bool (by rw [HRES.out, HT.out _ HBT.out, Bool.eq_iff_iff]; simp [goodB, bnd, wB]; generalize allAt N 0 bs = p; cases p <;> simp; omega), bcall (balloc (Below.refl _ _) _) HB2.out⟩
           | exact ⟨ret_bool (by rw [HRES.out, HT.out _ HBT.out, Bool.eq_iff_iff]; simp [goodB, bnd, wB, -List.length_eq_zero_iff]), bcall (balloc (Below.refl _ _) _) HB2.out⟩
           | exact ⟨ret_bool (by rw [HRES.out, HT.out _ HBT.out, Bool.eq_iff_iff]; simp [goodB, bnd, wB]; generalize allAt N 0 bs = p; cases p <;> simp), bcall (balloc (Below.refl _ _) _) HB2.out⟩)
    · clear hb
      unfold noteV
      go_enter Try.func12, Try.ntmps12
      go_wp2_with fail
      refine (fields_17 _).mono ?_
      rintro e0 w1 ⟨rfl, rfl⟩
      go_wp2_with (first
        | (go_at_call 22; refine (in_c _ _ _ _).mono ?_; rintro e0 wy ⟨rfl, rfl⟩)
   
        | (go_at_call 24; refine (seats_c ⟨17, room, (S : Int), epoch, (N : Int), m, bs⟩ A c N _ (HR.out.to_ (balloc (Below.refl _ _) _)) rfl (by omega)).mono ?_; rintro e0 w2 ⟨rfl, hb2⟩; have HB2 := Lib.hid hb2; clear hb2)
        | (go_at_call 23; (first | (with_reducible refine (has_114 [114, 115, 101, 110, 109, 98] _ (by decide)).mono ?_) | (with_reducible refine (has_115 [114, 115, 101, 110, 109, 98] _ (by decide)).mono ?_) | (with_reducible refine (has_101 [114, 115, 101, 110, 109, 98] _ (by decide)).mono ?_) | (with_reducible refine (has_110 [114, 115, 101, 110, 109, 98] _ (by decide)).mono ?_) | (with_reducible refine (has_109 [114, 115, 101, 110, 109, 98] _ (by decide)).mono ?_) | (with_reducible refine (has_98 [114, 115, 101, 110, 109, 98] _ (by decide)).mono ?_)); rintro e0 wy ⟨rfl, rfl⟩))
      all_goals
        (go_ret
         first
           | exact ⟨ret_bool (by rw [HRES.out, HT.out _ HBT.out, Bool.eq_iff_iff]; simp [goodB, bnd, wB, -List.length_eq_zero_iff]; omega), balloc (Below.refl _ _) _⟩
           | exact ⟨ret_bool (by rw [HRES.out, HT.out _ HBT.out, Bool.eq_iff_iff]; simp [goodB, bnd, wB]; generalize allAt N 0 bs = p; cases p <;> simp; omega), balloc (Below.refl _ _) _⟩
           | exact ⟨ret_bool (by rw [HRES.out, HT.out _ HBT.out, Bool.eq_iff_iff]; simp [goodB, bnd, wB, -List.length_eq_zero_iff]), balloc (Below.refl _ _) _⟩
           | exact ⟨ret_bool (by rw [HRES.out, HT.out _ HBT.out, Bool.eq_iff_iff]; simp [goodB, bnd, wB]; generalize allAt N 0 bs = p; cases p <;> simp), balloc (Below.refl _ _) _⟩
           | exact ⟨ret_bool (by rw [HRES.out, HT.out _ HBT.out, Bool.eq_iff_iff]; simp [goodB, bnd, wB, -List.length_eq_zero_iff]; omega), bcall (balloc (Below.refl _ _) _) HB2.out⟩
           | exact ⟨ret_bool (by rw [HRES.out, HT.out _ HBT.out, Bool.eq_iff_iff]; simp [goodB, bnd, wB]; generalize allAt N 0 bs = p; cases p <;> simp; omega), bcall (balloc (Below.refl _ _) _) HB2.out⟩
           | exact ⟨ret_bool (by rw [HRES.out, HT.out _ HBT.out, Bool.eq_iff_iff]; simp [goodB, bnd, wB, -List.length_eq_zero_iff]), bcall (balloc (Below.refl _ _) _) HB2.out⟩
           | exact ⟨ret_bool (by rw [HRES.out, HT.out _ HBT.out, Bool.eq_iff_iff]; simp [goodB, bnd, wB]; generalize allAt N 0 bs = p; cases p <;> simp), bcall (balloc (Below.refl _ _) _) HB2.out⟩)
end Go.Proofs.Ytmaemfjepdicfaa
