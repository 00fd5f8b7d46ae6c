/- What window.Good and window.May return, for every window and number (contracts). Conditions: none beyond the range of a uint64. -/
import Derived.Test.YtahdkdbcdopgjaaBase
import Derived.Test.YtahdkdbcdopgjaaShelf
set_option linter.unusedVariables false
namespace Go.Proofs.Ytahdkdbcdopgjaa
open Go.RowKit





def good (a : Bool) (h s : Nat) : Bool := if a then (s % 2 == 1 && decide (Lib.bitLen s - 1 ≤ h)) else (h == 0 && s == 0)
def may (a : Bool) (h s n : Nat) : Int := if good a h s = false then 1 else if a = false ∨ h < n then 0 else if 64 ≤ h - n ∨ s / 2 ^ (h - n) % 2 = 1 then 9 else 0

theorem good_no (h s : Nat) (w : World) (hh : h < 18446744073709551616) (hs : s < 18446744073709551616) :
    Calls Try.prog 11 #[.agg #[.bool false, .int .u64 h, .int .u64 s]] w fun e w' => e = .returned (.bool (h == 0 && s == 0)) ∧ Below w.heap.size w w' := by
  go_enter Try.func11, Try.ntmps11
  go_wp2
  all_goals
    go_ret
    refine ⟨ret_bool ?_, (Below.refl _ _).alloc (Nat.le_refl _) _⟩
    simp [*]
theorem u64_and1 (s : Nat) (hs : s < 18446744073709551616) : bits .and .u64 (s : Int) 1 = ((s % 2 : Nat) : Int) := by
  have := u64_and_nat s 1 hs (by omega)
  rw [Nat.and_one_is_mod] at this
  exact this
theorem good_yes0 (h s : Nat) (w : World) (hh : h < 18446744073709551616) (hs : s < 18446744073709551616) (h2 : s % 2 = 0) :
    Calls Try.prog 11 #[.agg #[.bool true, .int .u64 h, .int .u64 s]] w fun e w' => e = .returned (.bool false) ∧ Below w.heap.size w w' := by
  have e1 := u64_and1 s hs
  rw [h2] at e1
  go_enter Try.func11, Try.ntmps11
  go_wp2
  go_quiet ((go_at_call 16; exact Calls.quiet_of_same (Try.bits_Len64 _ _ (by omega) (by omega))))
  go_wp2
  go_ret
  exact ⟨rfl, below_drewN ((Below.refl _ _).alloc (Nat.le_refl _) _) _⟩
theorem bitLenAux_le : ∀ f s, Lib.bitLenAux f s ≤ f
  | 0, s => by simp [Lib.bitLenAux]
  | f + 1, s => by
    have := bitLenAux_le f (s / 2)
    rw [Lib.bitLenAux]
    split <;> omega
theorem bitLen_le (s : Nat) (_hs : s < 18446744073709551616) : Lib.bitLen s ≤ 64 := bitLenAux_le 64 s
theorem bitLen_pos (s : Nat) (hs : s % 2 = 1) : 1 ≤ Lib.bitLen s := by
  unfold Lib.bitLen
  rw [show (64 : Nat) = 63 + 1 from rfl, Lib.bitLenAux, if_neg (by omega)]
  omega
theorem good_yes1 (h s : Nat) (w : World) (hh : h < 18446744073709551616) (hs : s < 18446744073709551616) (h2 : s % 2 = 1) :
    Calls Try.prog 11 #[.agg #[.bool true, .int .u64 h, .int .u64 s]] w fun e w' => e = .returned (.bool (decide (Lib.bitLen s - 1 ≤ h))) ∧ Below w.heap.size w w' := by
  have e1 := u64_and1 s hs
  rw [h2] at e1
  have b1 := bitLen_le s hs
  have b2 := bitLen_pos s h2
  have e2 : IntKind.u64.wrap ((Lib.bitLen s : Nat) : Int) = (Lib.bitLen s : Nat) := IntWalk.u64_in _ (by omega)
  have e3 : IntKind.u64.wrap (((Lib.bitLen s : Nat) : Int) - 1) = ((Lib.bitLen s : Nat) : Int) - 1 := IntWalk.u64_in _ (by omega)
  have H2 := Lib.hid h2
  clear h2
  go_enter Try.func11, Try.ntmps11
  go_wp2
  go_quiet ((go_at_call 16; exact Calls.quiet_of_same (Try.bits_Len64 _ _ (by omega) (by omega))))
  go_wp2
  go_ret
  refine ⟨ret_bool ?_, below_drewN ((Below.refl _ _).alloc (Nat.le_refl _) _) _⟩
  rw [decide_eq_decide]
  omega
theorem good_c (a : Bool) (h s : Nat) (w : World) (hh : h < 18446744073709551616) (hs : s < 18446744073709551616) :
    Calls Try.prog 11 #[.agg #[.bool a, .int .u64 h, .int .u64 s]] w fun e w' => e = .returned (.bool (good a h s)) ∧ Below w.heap.size w w' := by
  cases a
  · exact good_no h s w hh hs
  · by_cases h2 : s % 2 = 1
    · refine (good_yes1 h s w hh hs h2).mono ?_
      rintro e w' ⟨rfl, hb⟩
      exact ⟨by simp [good, h2], hb⟩
    · refine (good_yes0 h s w hh hs (by omega)).mono ?_
      rintro e w' ⟨rfl, hb⟩
      exact ⟨by simp [good, h2], hb⟩
theorem may_bad (a : Bool) (h s n : Nat) (w : World) (hh : h < 18446744073709551616) (hs : s < 18446744073709551616) (hn : n < 18446744073709551616) (hg : good a h s = false) :
    Calls Try.prog 10 #[.agg #[.bool a, .int .u64 h, .int .u64 s], .int .u64 n] w fun e w' => e = .returned (.int .i64 1) ∧ Below w.heap.size w w' := by
  go_enter Try.func10, Try.ntmps10
  go_wp2_with (go_at_call 11; refine (good_c _ _ _ _ hh hs).mono ?_; rintro e w' ⟨rfl, hb⟩)
  go_ret
  exact ⟨rfl, ((Below.refl _ _).alloc (Nat.le_refl _) _).trans (hb.mono (by simp))⟩
theorem may_free (h s n : Nat) (w : World) (hh : h < 18446744073709551616) (hs : s < 18446744073709551616) (hn : n < 18446744073709551616) (hg : good false h s = true) :
    Calls Try.prog 10 #[.agg #[.bool false, .int .u64 h, .int .u64 s], .int .u64 n] w fun e w' => e = .returned (.int .i64 0) ∧ Below w.heap.size w w' := by
  go_enter Try.func10, Try.ntmps10
  go_wp2_with (go_at_call 11; refine (good_c _ _ _ _ hh hs).mono ?_; rintro e w' ⟨rfl, hb⟩; obtain ⟨hc, hf⟩ := bcell hb)
  go_ret
  exact ⟨rfl, ((Below.refl _ _).alloc (Nat.le_refl _) _).trans (hb.mono (by simp))⟩
theorem may_new (h s n : Nat) (w : World) (hh : h < 18446744073709551616) (hs : s < 18446744073709551616) (hn : n < 18446744073709551616) (hg : good true h s = true) (hlt : h < n) :
    Calls Try.prog 10 #[.agg #[.bool true, .int .u64 h, .int .u64 s], .int .u64 n] w fun e w' => e = .returned (.int .i64 0) ∧ Below w.heap.size w w' := by
  go_enter Try.func10, Try.ntmps10
  go_wp2_with (go_at_call 11; refine (good_c _ _ _ _ hh hs).mono ?_; rintro e w' ⟨rfl, hb⟩; obtain ⟨hc, hf⟩ := bcell hb)
  go_ret
  exact ⟨rfl, ((Below.refl _ _).alloc (Nat.le_refl _) _).trans (hb.mono (by simp))⟩
theorem may_far (h s n : Nat) (w : World) (hh : h < 18446744073709551616) (hs : s < 18446744073709551616) (hn : n < 18446744073709551616) (hg : good true h s = true) (hlt : n ≤ h) (hd : 64 ≤ h - n) :
    Calls Try.prog 10 #[.agg #[.bool true, .int .u64 h, .int .u64 s], .int .u64 n] w fun e w' => e = .returned (.int .i64 9) ∧ Below w.heap.size w w' := by
  go_enter Try.func10, Try.ntmps10
  go_wp2_with (go_at_call 11; refine (good_c _ _ _ _ hh hs).mono ?_; rintro e w' ⟨rfl, hb⟩; obtain ⟨hc, hf⟩ := bcell hb)
  go_ret
  exact ⟨rfl, ((Below.refl _ _).alloc (Nat.le_refl _) _).trans (hb.mono (by simp))⟩
theorem shr_cast (s k : Nat) : ((s : Int) / 2 ^ k) = ((s / 2 ^ k : Nat) : Int) := by simp
theorem bit_of (s k : Nat) (hs : s < 18446744073709551616) : bits .and .u64 ((s : Int) / 2 ^ k) 1 = ((s / 2 ^ k % 2 : Nat) : Int) := by
  rw [shr_cast]
  exact u64_and1 _ (Nat.lt_of_le_of_lt (Nat.div_le_self _ _) hs)
theorem may_near (h s n : Nat) (w : World) (hh : h < 18446744073709551616) (hs : s < 18446744073709551616) (hn : n < 18446744073709551616) (hg : good true h s = true) (hlt : n ≤ h) (hd : h - n < 64) :
    Calls Try.prog 10 #[.agg #[.bool true, .int .u64 h, .int .u64 s], .int .u64 n] w fun e w' => e = .returned (.int .i64 (if s / 2 ^ (h - n) % 2 = 1 then 9 else 0)) ∧ Below w.heap.size w w' := by
  have eb := bit_of s (h - n) hs
  by_cases h2 : s / 2 ^ (h - n) % 2 = 1
  all_goals
    first
      | (rw [if_pos h2]; rw [h2] at eb)
      | (rw [if_neg h2]; rw [show s / 2 ^ (h - n) % 2 = 0 from by omega] at eb)
    clear h2
    go_enter Try.func10, Try.ntmps10
    go_wp2_with (go_at_call 11; refine (good_c _ _ _ _ hh hs).mono ?_; rintro e w' ⟨rfl, hb⟩; obtain ⟨hc, hf⟩ := bcell hb)
    go_ret
    exact ⟨rfl, ((Below.refl _ _).alloc (Nat.le_refl _) _).trans (hb.mono (by simp))⟩
theorem may_c (a : Bool) (h s n : Nat) (w : World) (hh : h < 18446744073709551616) (hs : s < 18446744073709551616) (hn : n < 18446744073709551616) :
    Calls Try.prog 10 #[.agg #[.bool a, .int .u64 h, .int .u64 s], .int .u64 n] w fun e w' => e = .returned (.int .i64 (may a h s n)) ∧ Below w.heap.size w w' := by
  unfold may
  by_cases hg : good a h s = false
  · rw [if_pos hg]; exact may_bad a h s n w hh hs hn hg
  rw [if_neg hg]
  simp only [Bool.not_eq_false] at hg
  by_cases h1 : a = false ∨ h < n
  · rw [if_pos h1]
    cases a
    · exact may_free h s n w hh hs hn hg
    · exact may_new h s n w hh hs hn hg (by simpa using h1)
  rw [if_neg h1]
  simp only [not_or, Bool.not_eq_false, Nat.not_lt] at h1
  obtain ⟨rfl, h1⟩ := h1
  by_cases h2 : 64 ≤ h - n
  · rw [if_pos (.inl h2)]; exact may_far h s n w hh hs hn hg h1 h2
  · have := may_near h s n w hh hs hn hg h1 (by omega)
    simpa [h2] using this
def markF (a : Bool) (h s n : Nat) : Bool × Nat × Nat × Int :=
  if may a h s n ≠ 0 then (false, 0, 0, may a h s n) else if a = false then (true, n, 1, 0) else if h < n then (true, n, (s * 2 ^ (min (n - h) 64) % 18446744073709551616) ||| 1, 0) else (true, h, s ||| 2 ^ (h - n), 0)
def WinV (x : Bool × Nat × Nat × Int) : Value := .tuple #[.agg #[.bool x.1, .int .u64 x.2.1, .int .u64 x.2.2.1], .int .i64 x.2.2.2]
end Go.Proofs.Ytahdkdbcdopgjaa
