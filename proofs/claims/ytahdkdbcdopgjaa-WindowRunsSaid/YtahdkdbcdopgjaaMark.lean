/- What window.Mark returns, for every window and number (a contract). Conditions: none beyond the range of a uint64. -/
import Derived.Test.YtahdkdbcdopgjaaWalk
set_option linter.unusedVariables false
namespace Go.Proofs.Ytahdkdbcdopgjaa
open Go.RowKit


theorem fin2 {w w' : World} {o1 o2 : Obj} (hb : Below ((w.alloc o1).alloc o2).heap.size ((w.alloc o1).alloc o2) w') : Below w.heap.size w w' :=
  (((Below.refl _ _).alloc (Nat.le_refl _) _).alloc (by simp) _).trans (hb.mono (by simp; omega))
theorem mark_bad (a : Bool) (h s n : Nat) (w : World) (hh : h < 18446744073709551616) (hs : s < 18446744073709551616) (hn : n < 18446744073709551616) (hm : (may a h s n != 0) = true) :
    Calls Try.prog 9 #[.agg #[.bool a, .int .u64 h, .int .u64 s], .int .u64 n] w fun e w' => e = .returned (WinV (false, 0, 0, may a h s n)) ∧ Below w.heap.size w w' := by
  go_enter Try.func9, Try.ntmps9
  go_wp2_with (go_at_call 10; refine (may_c _ _ _ _ _ hh hs hn).mono ?_; rintro e w' ⟨rfl, hb⟩; obtain ⟨hc, hf⟩ := bcell hb; have hz := hb.size; simp only [World.size_alloc] at hz)
  refine bodyPost_ret (v := WinV (false, 0, 0, may a h s n)) (by simp [results, Try.results9, go_sem, WinV, hc]) rfl ⟨rfl, ?_⟩
  exact (((fin2 hb).setCell (by simp) _).setCell (by simp) _).setCell (by simp) _
theorem mark_free (h s n : Nat) (w : World) (hh : h < 18446744073709551616) (hs : s < 18446744073709551616) (hn : n < 18446744073709551616) (hm : (may false h s n != 0) = false) :
    Calls Try.prog 9 #[.agg #[.bool false, .int .u64 h, .int .u64 s], .int .u64 n] w fun e w' => e = .returned (WinV (true, n, 1, 0)) ∧ Below w.heap.size w w' := by
  go_enter Try.func9, Try.ntmps9
  go_wp2_with (go_at_call 10; refine (may_c _ _ _ _ _ hh hs hn).mono ?_; rintro e w' ⟨rfl, hb⟩; obtain ⟨hc, hf⟩ := bcell hb; have hz := hb.size; simp only [World.size_alloc] at hz)
  refine bodyPost_ret (v := WinV (true, n, 1, 0)) (by simp [results, Try.results9, go_sem, WinV, hc]) rfl ⟨rfl, ?_⟩
  exact (((fin2 hb).setCell (by simp) _).setCell (by simp) _).setCell (by simp) _
theorem shl_run (s h n : Nat) (hlt : h < n) : Op.shift .shl .u64 (s : Int) .u64 ((n : Int) - (h : Int)) = pure (.int .u64 (IntKind.u64.wrap ((s : Int) * 2 ^ min (n - h) 64))) := by
  rw [shift_shl_any _ _ _ _ (by omega)]
  have e : ((n : Int) - (h : Int)).toNat = n - h := by omega
  rw [e]
  rfl
theorem pow_cast (k : Nat) : (2 : Int) ^ k = ((2 ^ k : Nat) : Int) := by simp
theorem wrap_nat (x : Nat) : IntKind.u64.wrap (x : Int) = ((x % 18446744073709551616 : Nat) : Int) := by
  rw [IntKind.wrap_u64]; omega
theorem new_val (s h n : Nat) : bits .or .u64 (IntKind.u64.wrap ((s : Int) * 2 ^ min (n - h) 64)) 1 = (((s * 2 ^ (min (n - h) 64) % 18446744073709551616) ||| 1 : Nat) : Int) := by
  rw [pow_cast, ← Int.natCast_mul, wrap_nat]
  exact u64_or_nat _ 1 (by omega) (by omega)
theorem old_val (s h n : Nat) (hs : s < 18446744073709551616) (hd : h - n < 64) : bits .or .u64 (s : Int) (IntKind.u64.wrap (2 ^ (h - n))) = ((s ||| 2 ^ (h - n) : Nat) : Int) := by
  have hp : 2 ^ (h - n) < 18446744073709551616 := Nat.pow_lt_pow_of_lt (a := 2) (by omega) hd
  rw [pow_cast, wrap_nat, Nat.mod_eq_of_lt hp]
  exact u64_or_nat _ _ hs hp
theorem mark_new (h s n : Nat) (w : World) (hh : h < 18446744073709551616) (hs : s < 18446744073709551616) (hn : n < 18446744073709551616) (hm : (may true h s n != 0) = false) (hlt : h < n) :
    Calls Try.prog 9 #[.agg #[.bool true, .int .u64 h, .int .u64 s], .int .u64 n] w fun e w' => e = .returned (WinV (true, n, (s * 2 ^ (min (n - h) 64) % 18446744073709551616) ||| 1, 0)) ∧ Below w.heap.size w w' := by
  have hsh := shl_run s h n hlt
  have hv := new_val s h n
  go_enter Try.func9, Try.ntmps9
  go_wp2_with (go_at_call 10; refine (may_c _ _ _ _ _ hh hs hn).mono ?_; rintro e w' ⟨rfl, hb⟩; obtain ⟨hc, hf⟩ := bcell hb; have hz := hb.size; simp only [World.size_alloc] at hz)
  refine bodyPost_ret (v := WinV (true, n, (s * 2 ^ (min (n - h) 64) % 18446744073709551616) ||| 1, 0)) (by simp [results, Try.results9, go_sem, WinV, hc]) rfl ⟨rfl, ?_⟩
  exact (((fin2 hb).setCell (by simp) _).setCell (by simp) _).setCell (by simp) _
theorem mark_old (h s n : Nat) (w : World) (hh : h < 18446744073709551616) (hs : s < 18446744073709551616) (hn : n < 18446744073709551616) (hm : (may true h s n != 0) = false) (hlt : n ≤ h) (hd : h - n < 64) :
    Calls Try.prog 9 #[.agg #[.bool true, .int .u64 h, .int .u64 s], .int .u64 n] w fun e w' => e = .returned (WinV (true, h, s ||| 2 ^ (h - n), 0)) ∧ Below w.heap.size w w' := by
  have hv := old_val s h n hs hd
  go_enter Try.func9, Try.ntmps9
  go_wp2_with (go_at_call 10; refine (may_c _ _ _ _ _ hh hs hn).mono ?_; rintro e w' ⟨rfl, hb⟩; obtain ⟨hc, hf⟩ := bcell hb; have hz := hb.size; simp only [World.size_alloc] at hz; have c2 : w'.cell? ⟨w.heap.size, 2, none⟩ = some (.int .u64 s) := (hc _ _ (by simp; omega)).trans (by simp))
  refine bodyPost_ret (v := WinV (true, h, s ||| 2 ^ (h - n), 0)) (by simp [results, Try.results9, go_sem, WinV, hc]) rfl ⟨rfl, ?_⟩
  exact ((((fin2 hb).setCell (by simp) _).setCell (by simp) _).setCell (by simp) _).setCell (by simp) _
theorem mark_c (a : Bool) (h s n : Nat) (w : World) (hh : h < 18446744073709551616) (hs : s < 18446744073709551616) (hn : n < 18446744073709551616) :
    Calls Try.prog 9 #[.agg #[.bool a, .int .u64 h, .int .u64 s], .int .u64 n] w fun e w' => e = .returned (WinV (markF a h s n)) ∧ Below w.heap.size w w' := by
  unfold markF
  by_cases hm : may a h s n = 0
  · rw [if_neg (by simpa using hm)]
    by_cases ha : a = false
    · subst ha
      rw [if_pos rfl]
      exact mark_free h s n w hh hs hn (by simp [hm])
    · simp only [Bool.not_eq_false] at ha
      subst ha
      rw [if_neg (by simp)]
      by_cases hlt : h < n
      · rw [if_pos hlt]
        exact mark_new h s n w hh hs hn (by simp [hm]) hlt
      · rw [if_neg hlt]
        refine mark_old h s n w hh hs hn (by simp [hm]) (by omega) ?_
        unfold may at hm
        by_cases hg : good true h s = false
        · simp [hg] at hm
        · rw [if_neg hg, if_neg (by simpa using hlt)] at hm
          by_cases hd : 64 ≤ h - n
          · simp [hd] at hm
          · omega
  · rw [if_pos hm]
    exact mark_bad a h s n w hh hs hn (by simpa using hm)
end Go.Proofs.Ytahdkdbcdopgjaa
