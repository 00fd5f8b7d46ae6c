/- What the reference's GoodWindow, May and Mark return: the same as the program's (contracts). Conditions: none beyond the range of a uint64. -/
import Derived.Test.YtahdkdbcdopgjaaMark
set_option linter.unusedVariables false
namespace Go.Proofs.Ytahdkdbcdopgjaa
open Go.RowKit


theorem lt_of_bitLen : ∀ (f s k : Nat), s < 2 ^ f → (Lib.bitLenAux f s ≤ k ↔ s < 2 ^ k)
  | 0, s, k, h => by
    have h0 : s = 0 := by simpa using h
    subst h0
    simp [Lib.bitLenAux, Nat.two_pow_pos]
  | f + 1, s, k, h => by
    rw [Lib.bitLenAux]
    split
    · rename_i h0
      subst h0
      simp [Nat.two_pow_pos]
    · rename_i h0
      have hd : s / 2 < 2 ^ f := by rw [Nat.pow_succ] at h; omega
      cases k with
      | zero => simp; omega
      | succ k =>
        have := lt_of_bitLen f (s / 2) k hd
        rw [Nat.pow_succ]
        omega
theorem good_ref (h s : Nat) (hs : s < 18446744073709551616) (h2 : s % 2 = 1) : (Lib.bitLen s - 1 ≤ h) ↔ (63 ≤ h ∨ s / 2 ^ (h + 1) = 0) := by
  have e := lt_of_bitLen 64 s (h + 1) hs
  have b1 := bitLen_pos s h2
  have b2 := bitLen_le s hs
  have hp := Nat.two_pow_pos (h + 1)
  rw [Nat.div_eq_zero_iff_lt hp, ← e]
  unfold Lib.bitLen at *
  omega
theorem rgood_no (h s : Nat) (w : World) (hh : h < 18446744073709551616) (hs : s < 18446744073709551616) :
    Calls Try.prog 13 #[.agg #[.bool false, .int .u64 h, .int .u64 s]] w fun e w' => e = .returned (.bool (h == 0 && s == 0)) ∧ Below w.heap.size w w' := by
  go_enter Try.func13, Try.ntmps13
  go_wp2
  all_goals
    go_ret
    refine ⟨ret_bool ?_, (Below.refl _ _).alloc (Nat.le_refl _) _⟩
    first | (simp [*]; done) | (simp only [*]; rw [Bool.eq_iff_iff]; simp)
theorem rgood_yes0 (h s : Nat) (w : World) (hh : h < 18446744073709551616) (hs : s < 18446744073709551616) (h2 : s % 2 = 0) :
    Calls Try.prog 13 #[.agg #[.bool true, .int .u64 h, .int .u64 s]] w fun e w' => e = .returned (.bool false) ∧ Below w.heap.size w w' := by
  have e1 := u64_and1 s hs
  rw [h2] at e1
  go_enter Try.func13, Try.ntmps13
  go_wp2
  go_ret
  exact ⟨rfl, ((Below.refl _ _).alloc (Nat.le_refl _) _)⟩
theorem rgood_big (h s : Nat) (w : World) (hh : h < 18446744073709551616) (hs : s < 18446744073709551616) (h2 : s % 2 = 1) (h63 : 63 ≤ h) :
    Calls Try.prog 13 #[.agg #[.bool true, .int .u64 h, .int .u64 s]] w fun e w' => e = .returned (.bool true) ∧ Below w.heap.size w w' := by
  have e1 := u64_and1 s hs
  rw [h2] at e1
  clear h2
  go_enter Try.func13, Try.ntmps13
  go_wp2
  go_ret
  exact ⟨rfl, ((Below.refl _ _).alloc (Nat.le_refl _) _)⟩
theorem rgood_small (h s : Nat) (w : World) (hh : h < 18446744073709551616) (hs : s < 18446744073709551616) (h2 : s % 2 = 1) (h63 : h < 63) :
    Calls Try.prog 13 #[.agg #[.bool true, .int .u64 h, .int .u64 s]] w fun e w' => e = .returned (.bool (s / 2 ^ (h + 1) == 0)) ∧ Below w.heap.size w w' := by
  have e1 := u64_and1 s hs
  rw [h2] at e1
  clear h2
  have hd63 : decide ((63 : Int) ≤ (h : Int)) = false := by simp; omega
  by_cases hz : s / 2 ^ (h + 1) = 0
  · have hzb : ((s : Int) / 2 ^ (h + 1) == 0) = true := by rw [shr_cast, hz]; rfl
    rw [show (s / 2 ^ (h + 1) == 0) = true from by rw [hz]; rfl]
    clear hz
    go_enter Try.func13, Try.ntmps13
    go_wp2
    go_ret
    exact ⟨rfl, ((Below.refl _ _).alloc (Nat.le_refl _) _)⟩
  · have hzb : ((s : Int) / 2 ^ (h + 1) == 0) = false := by rw [shr_cast]; simp only [beq_eq_false_iff_ne]; omega
    rw [show (s / 2 ^ (h + 1) == 0) = false from by simpa using hz]
    clear hz
    go_enter Try.func13, Try.ntmps13
    go_wp2
    go_ret
    exact ⟨rfl, ((Below.refl _ _).alloc (Nat.le_refl _) _)⟩
theorem rgood_c (a : Bool) (h s : Nat) (w : World) (hh : h < 18446744073709551616) (hs : s < 18446744073709551616) :
    Calls Try.prog 13 #[.agg #[.bool a, .int .u64 h, .int .u64 s]] w fun e w' => e = .returned (.bool (good a h s)) ∧ Below w.heap.size w w' := by
  cases a
  · exact rgood_no h s w hh hs
  · by_cases h2 : s % 2 = 1
    · have g := good_ref h s hs h2
      by_cases h63 : 63 ≤ h
      · refine (rgood_big h s w hh hs h2 h63).mono ?_
        rintro e w' ⟨rfl, hb⟩
        exact ⟨by simp [good, h2, g, h63], hb⟩
      · refine (rgood_small h s w hh hs h2 (by omega)).mono ?_
        rintro e w' ⟨rfl, hb⟩
        exact ⟨ret_bool (by simp only [good, h2, g, h63, false_or, if_true, beq_self_eq_true, Bool.true_and]; rw [Bool.eq_iff_iff]; simp only [beq_iff_eq, decide_eq_true_eq]), hb⟩
    · refine (rgood_yes0 h s w hh hs (by omega)).mono ?_
      rintro e w' ⟨rfl, hb⟩
      exact ⟨by simp [good, h2], hb⟩
theorem rmay_bad (a : Bool) (h s n : Nat) (w : World) (hh : h < 18446744073709551616) (hs : s < 18446744073709551616) (hn : n < 18446744073709551616) (hg : good a h s = false) :
    Calls Try.prog 14 #[.agg #[.bool a, .int .u64 h, .int .u64 s], .int .u64 n] w fun e w' => e = .returned (.int .i64 1) ∧ Below w.heap.size w w' := by
  go_enter Try.func14, Try.ntmps14
  go_wp2_with (go_at_call 13; refine (rgood_c _ _ _ _ hh hs).mono ?_; rintro e w' ⟨rfl, hb⟩; obtain ⟨hc, hf⟩ := bcell hb)
  go_ret
  exact ⟨rfl, ((Below.refl _ _).alloc (Nat.le_refl _) _).trans (hb.mono (by simp))⟩
theorem rmay_free (h s n : Nat) (w : World) (hh : h < 18446744073709551616) (hs : s < 18446744073709551616) (hn : n < 18446744073709551616) (hg : good false h s = true) :
    Calls Try.prog 14 #[.agg #[.bool false, .int .u64 h, .int .u64 s], .int .u64 n] w fun e w' => e = .returned (.int .i64 0) ∧ Below w.heap.size w w' := by
  go_enter Try.func14, Try.ntmps14
  go_wp2_with (go_at_call 13; refine (rgood_c _ _ _ _ hh hs).mono ?_; rintro e w' ⟨rfl, hb⟩; obtain ⟨hc, hf⟩ := bcell hb)
  go_ret
  exact ⟨rfl, ((Below.refl _ _).alloc (Nat.le_refl _) _).trans (hb.mono (by simp))⟩
theorem rmay_new (h s n : Nat) (w : World) (hh : h < 18446744073709551616) (hs : s < 18446744073709551616) (hn : n < 18446744073709551616) (hg : good true h s = true) (hlt : h < n) :
    Calls Try.prog 14 #[.agg #[.bool true, .int .u64 h, .int .u64 s], .int .u64 n] w fun e w' => e = .returned (.int .i64 0) ∧ Below w.heap.size w w' := by
  go_enter Try.func14, Try.ntmps14
  go_wp2_with (go_at_call 13; refine (rgood_c _ _ _ _ hh hs).mono ?_; rintro e w' ⟨rfl, hb⟩; obtain ⟨hc, hf⟩ := bcell hb)
  go_ret
  exact ⟨rfl, ((Below.refl _ _).alloc (Nat.le_refl _) _).trans (hb.mono (by simp))⟩
theorem rmay_far (h s n : Nat) (w : World) (hh : h < 18446744073709551616) (hs : s < 18446744073709551616) (hn : n < 18446744073709551616) (hg : good true h s = true) (hlt : n ≤ h) (hd : 64 ≤ h - n) :
    Calls Try.prog 14 #[.agg #[.bool true, .int .u64 h, .int .u64 s], .int .u64 n] w fun e w' => e = .returned (.int .i64 9) ∧ Below w.heap.size w w' := by
  go_enter Try.func14, Try.ntmps14
  go_wp2_with (go_at_call 13; refine (rgood_c _ _ _ _ hh hs).mono ?_; rintro e w' ⟨rfl, hb⟩; obtain ⟨hc, hf⟩ := bcell hb)
  go_ret
  exact ⟨rfl, ((Below.refl _ _).alloc (Nat.le_refl _) _).trans (hb.mono (by simp))⟩
theorem rmay_near (h s n : Nat) (w : World) (hh : h < 18446744073709551616) (hs : s < 18446744073709551616) (hn : n < 18446744073709551616) (hg : good true h s = true) (hlt : n ≤ h) (hd : h - n < 64) :
    Calls Try.prog 14 #[.agg #[.bool true, .int .u64 h, .int .u64 s], .int .u64 n] w fun e w' => e = .returned (.int .i64 (if s / 2 ^ (h - n) % 2 = 1 then 9 else 0)) ∧ Below w.heap.size w w' := by
  have eb := bit_of s (h - n) hs
  by_cases h2 : s / 2 ^ (h - n) % 2 = 1
  all_goals
    first
      | (rw [if_pos h2]; rw [h2] at eb)
      | (rw [if_neg h2]; rw [show s / 2 ^ (h - n) % 2 = 0 from by omega] at eb)
    clear h2
    go_enter Try.func14, Try.ntmps14
    go_wp2_with (go_at_call 13; refine (rgood_c _ _ _ _ hh hs).mono ?_; rintro e w' ⟨rfl, hb⟩; obtain ⟨hc, hf⟩ := bcell hb)
    go_ret
    exact ⟨rfl, ((Below.refl _ _).alloc (Nat.le_refl _) _).trans (hb.mono (by simp))⟩
theorem rmay_c (a : Bool) (h s n : Nat) (w : World) (hh : h < 18446744073709551616) (hs : s < 18446744073709551616) (hn : n < 18446744073709551616) :
    Calls Try.prog 14 #[.agg #[.bool a, .int .u64 h, .int .u64 s], .int .u64 n] w fun e w' => e = .returned (.int .i64 (may a h s n)) ∧ Below w.heap.size w w' := by
  unfold may
  by_cases hg : good a h s = false
  · rw [if_pos hg]; exact rmay_bad a h s n w hh hs hn hg
  rw [if_neg hg]
  simp only [Bool.not_eq_false] at hg
  by_cases h1 : a = false ∨ h < n
  · rw [if_pos h1]
    cases a
    · exact rmay_free h s n w hh hs hn hg
    · exact rmay_new h s n w hh hs hn hg (by simpa using h1)
  rw [if_neg h1]
  simp only [not_or, Bool.not_eq_false, Nat.not_lt] at h1
  obtain ⟨rfl, h1⟩ := h1
  by_cases h2 : 64 ≤ h - n
  · rw [if_pos (.inl h2)]; exact rmay_far h s n w hh hs hn hg h1 h2
  · have := rmay_near h s n w hh hs hn hg h1 (by omega)
    simpa [h2] using this
theorem rmark_bad (a : Bool) (h s n : Nat) (w : World) (hh : h < 18446744073709551616) (hs : s < 18446744073709551616) (hn : n < 18446744073709551616) (hm : (may a h s n != 0) = true) :
    Calls Try.prog 12 #[.agg #[.bool a, .int .u64 h, .int .u64 s], .int .u64 n] w fun e w' => e = .returned (WinV (false, 0, 0, may a h s n)) ∧ Below w.heap.size w w' := by
  go_enter Try.func12, Try.ntmps12
  go_wp2_with (go_at_call 14; refine (rmay_c _ _ _ _ _ hh hs hn).mono ?_; rintro e w' ⟨rfl, hb⟩; obtain ⟨hc, hf⟩ := bcell hb; have hz := hb.size; simp only [World.size_alloc] at hz)
  refine bodyPost_ret (v := WinV (false, 0, 0, may a h s n)) (by simp [results, Try.results12, go_sem, WinV, hc]) rfl ⟨rfl, ?_⟩
  exact (((fin2 hb).setCell (by simp) _).setCell (by simp) _).setCell (by simp) _
theorem rmark_free (h s n : Nat) (w : World) (hh : h < 18446744073709551616) (hs : s < 18446744073709551616) (hn : n < 18446744073709551616) (hm : (may false h s n != 0) = false) :
    Calls Try.prog 12 #[.agg #[.bool false, .int .u64 h, .int .u64 s], .int .u64 n] w fun e w' => e = .returned (WinV (true, n, 1, 0)) ∧ Below w.heap.size w w' := by
  go_enter Try.func12, Try.ntmps12
  go_wp2_with (go_at_call 14; refine (rmay_c _ _ _ _ _ hh hs hn).mono ?_; rintro e w' ⟨rfl, hb⟩; obtain ⟨hc, hf⟩ := bcell hb; have hz := hb.size; simp only [World.size_alloc] at hz)
  refine bodyPost_ret (v := WinV (true, n, 1, 0)) (by simp [results, Try.results12, go_sem, WinV, hc]) rfl ⟨rfl, ?_⟩
  exact (((fin2 hb).setCell (by simp) _).setCell (by simp) _).setCell (by simp) _
theorem rnew_val (s k : Nat) : bits .or .u64 (IntKind.u64.wrap ((s : Int) * 2 ^ k)) 1 = (((s * 2 ^ k % 18446744073709551616) ||| 1 : Nat) : Int) := by
  rw [pow_cast, ← Int.natCast_mul, wrap_nat]
  exact u64_or_nat _ 1 (by omega) (by omega)
theorem rzero_val : bits .or .u64 0 1 = 1 := by kernel_rfl
theorem rmark_new (h s n : Nat) (w : World) (hh : h < 18446744073709551616) (hs : s < 18446744073709551616) (hn : n < 18446744073709551616) (hm : (may true h s n != 0) = false) (hlt : h < n) (hd : n - h < 64) :
    Calls Try.prog 12 #[.agg #[.bool true, .int .u64 h, .int .u64 s], .int .u64 n] w fun e w' => e = .returned (WinV (true, n, (s * 2 ^ (n - h) % 18446744073709551616) ||| 1, 0)) ∧ Below w.heap.size w w' := by
  have hv := rnew_val s (n - h)
  go_enter Try.func12, Try.ntmps12
  go_wp2_with (go_at_call 14; refine (rmay_c _ _ _ _ _ hh hs hn).mono ?_; rintro e w' ⟨rfl, hb⟩; obtain ⟨hc, hf⟩ := bcell hb; have hz := hb.size; simp only [World.size_alloc] at hz)
  refine bodyPost_ret (v := WinV (true, n, (s * 2 ^ (n - h) % 18446744073709551616) ||| 1, 0)) (by simp [results, Try.results12, go_sem, WinV, hc]) rfl ⟨rfl, ?_⟩
  exact (((fin2 hb).setCell (by simp) _).setCell (by simp) _).setCell (by simp) _
theorem rmark_far (h s n : Nat) (w : World) (hh : h < 18446744073709551616) (hs : s < 18446744073709551616) (hn : n < 18446744073709551616) (hm : (may true h s n != 0) = false) (hlt : h < n) (hd : 64 ≤ n - h) :
    Calls Try.prog 12 #[.agg #[.bool true, .int .u64 h, .int .u64 s], .int .u64 n] w fun e w' => e = .returned (WinV (true, n, 1, 0)) ∧ Below w.heap.size w w' := by
  have hv := rzero_val
  go_enter Try.func12, Try.ntmps12
  go_wp2_with (go_at_call 14; refine (rmay_c _ _ _ _ _ hh hs hn).mono ?_; rintro e w' ⟨rfl, hb⟩; obtain ⟨hc, hf⟩ := bcell hb; have hz := hb.size; simp only [World.size_alloc] at hz)
  refine bodyPost_ret (v := WinV (true, n, 1, 0)) (by simp [results, Try.results12, go_sem, WinV, hc]) rfl ⟨rfl, ?_⟩
  exact (((fin2 hb).setCell (by simp) _).setCell (by simp) _).setCell (by simp) _
theorem rmark_old (h s n : Nat) (w : World) (hh : h < 18446744073709551616) (hs : s < 18446744073709551616) (hn : n < 18446744073709551616) (hm : (may true h s n != 0) = false) (hlt : n < h) (hd : h - n < 64) :
    Calls Try.prog 12 #[.agg #[.bool true, .int .u64 h, .int .u64 s], .int .u64 n] w fun e w' => e = .returned (WinV (true, h, s ||| 2 ^ (h - n), 0)) ∧ Below w.heap.size w w' := by
  have hv := old_val s h n hs hd
  go_enter Try.func12, Try.ntmps12
  go_wp2_with (go_at_call 14; refine (rmay_c _ _ _ _ _ hh hs hn).mono ?_; rintro e w' ⟨rfl, hb⟩; obtain ⟨hc, hf⟩ := bcell hb; have hz := hb.size; simp only [World.size_alloc] at hz; have c2 : w'.cell? ⟨w.heap.size, 2, none⟩ = some (.int .u64 s) := (hc _ _ (by simp; omega)).trans (by simp))
  refine bodyPost_ret (v := WinV (true, h, s ||| 2 ^ (h - n), 0)) (by simp [results, Try.results12, go_sem, WinV, hc]) rfl ⟨rfl, ?_⟩
  exact ((((fin2 hb).setCell (by simp) _).setCell (by simp) _).setCell (by simp) _).setCell (by simp) _
theorem rmark_c (a : Bool) (h s n : Nat) (w : World) (hh : h < 18446744073709551616) (hs : s < 18446744073709551616) (hn : n < 18446744073709551616) :
    Calls Try.prog 12 #[.agg #[.bool a, .int .u64 h, .int .u64 s], .int .u64 n] w fun e w' => e = .returned (WinV (markF a h s n)) ∧ Below w.heap.size w w' := by
  unfold markF
  by_cases hm : may a h s n = 0
  · rw [if_neg (by simpa using hm)]
    by_cases ha : a = false
    · subst ha
      rw [if_pos rfl]
      exact rmark_free h s n w hh hs hn (by simp [hm])
    · simp only [Bool.not_eq_false] at ha
      subst ha
      rw [if_neg (by simp)]
      by_cases hlt : h < n
      · rw [if_pos hlt]
        by_cases hd : n - h < 64
        · have := rmark_new h s n w hh hs hn (by simp [hm]) hlt hd
          rw [show min (n - h) 64 = n - h from by omega]
          exact this
        · have e : (s * 2 ^ (min (n - h) 64) % 18446744073709551616) = 0 := by
            rw [show min (n - h) 64 = 64 from by omega]
            exact Nat.mul_mod_left _ _
          rw [e]
          exact rmark_far h s n w hh hs hn (by simp [hm]) hlt (by omega)
      · rw [if_neg hlt]
        have hm' := hm
        unfold may at hm
        by_cases hg : good true h s = false
        · simp [hg] at hm
        · rw [if_neg hg, if_neg (by simpa using hlt)] at hm
          by_cases hd : 64 ≤ h - n
          · simp [hd] at hm
          · by_cases he : h = n
            · subst he
              have h2 : s % 2 = 1 := by
                simp only [Bool.not_eq_false] at hg
                simp [good] at hg
                exact hg.1
              simp [h2] at hm
            · exact rmark_old h s n w hh hs hn (by simp [hm']) (by omega) (by omega)
  · rw [if_pos hm]
    exact rmark_bad a h s n w hh hs hn (by simpa using hm)
end Go.Proofs.Ytahdkdbcdopgjaa
