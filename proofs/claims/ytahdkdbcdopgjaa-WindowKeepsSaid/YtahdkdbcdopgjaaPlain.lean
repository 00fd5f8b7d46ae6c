/- The plain law of windows: what Mark keeps of the numbers that came ('Inv'), in plain Lean, no program in sight. Conditions: none. -/
import Derived.Test.YtahdkdbcdopgjaaRef
set_option linter.unusedVariables false
namespace Go.Proofs.Ytahdkdbcdopgjaa

/-- What a window says of the numbers that came: bit k tells whether h - k came. -/
def Inv (a : Bool) (h s : Nat) (had : List Nat) : Prop :=
  h < 18446744073709551616 ∧ s < 18446744073709551616 ∧
  ((a = false ∧ h = 0 ∧ s = 0 ∧ had = []) ∨ (a = true ∧ h ∈ had ∧ (∀ y ∈ had, y ≤ h) ∧ ∀ k, k < 64 → (s.testBit k = true ↔ (k ≤ h ∧ h - k ∈ had))))

theorem Inv.nil : Inv false 0 0 [] := ⟨by omega, by omega, .inl ⟨rfl, rfl, rfl, rfl⟩⟩

theorem testBit_div (s k : Nat) : s.testBit k = true ↔ s / 2 ^ k % 2 = 1 := by
  rw [Nat.testBit_eq_decide_div_mod_eq]; simp

theorem inv_good {a : Bool} {h s : Nat} {had : List Nat} (H : Inv a h s had) : good a h s = true := by
  obtain ⟨hh, hs, H⟩ := H
  rcases H with ⟨rfl, rfl, rfl, rfl⟩ | ⟨rfl, hin, hle, hb⟩
  · rfl
  · have h0 := (hb 0 (by omega)).2 ⟨by omega, by simpa using hin⟩
    rw [testBit_div] at h0
    simp only [Nat.pow_zero, Nat.div_one] at h0
    simp only [good, h0, if_true, beq_self_eq_true, Bool.true_and, decide_eq_true_eq]
    have e := lt_of_bitLen 64 s (h + 1) hs
    have b1 := bitLen_pos s h0
    have : s < 2 ^ (h + 1) := by
      refine Nat.lt_pow_two_of_testBit s fun i hi => ?_
      by_cases hi64 : i < 64
      · cases hc : s.testBit i
        · rfl
        · have := (hb i hi64).1 hc; omega
      · exact Nat.testBit_lt_two_pow (Nat.lt_of_lt_of_le hs (by
          have : 2 ^ 64 ≤ 2 ^ i := Nat.pow_le_pow_right (by omega) (by omega)
          simpa using this))
    have := e.2 this
    unfold Lib.bitLen at *
    omega

theorem inv_may {a : Bool} {h s : Nat} {had : List Nat} (H : Inv a h s had) (n : Nat) :
    may a h s n = if a = true ∧ n ≤ h ∧ (64 ≤ h - n ∨ n ∈ had) then 9 else 0 := by
  have hg := inv_good H
  obtain ⟨hh, hs, H⟩ := H
  unfold may
  rw [if_neg (by simp [hg])]
  rcases H with ⟨rfl, rfl, rfl, rfl⟩ | ⟨rfl, hin, hle, hb⟩
  · simp
  · by_cases hlt : h < n
    · rw [if_pos (.inr hlt), if_neg (by omega)]
    · rw [if_neg (by simp; omega)]
      by_cases hd : 64 ≤ h - n
      · rw [if_pos (.inl hd), if_pos ⟨rfl, by omega, .inl hd⟩]
      · have := hb (h - n) (by omega)
        rw [testBit_div] at this
        have e : h - (h - n) = n := by omega
        rw [e] at this
        by_cases hm : n ∈ had
        · rw [if_pos (.inr (this.2 ⟨by omega, hm⟩)), if_pos ⟨rfl, by omega, .inr hm⟩]
        · have hno : ¬ s / 2 ^ (h - n) % 2 = 1 := fun hc => hm (this.1 hc).2
          rw [if_neg (by simp [hd, hno]), if_neg (by simp [hd, hm])]

/-- A number that may come: what the window is then. -/
theorem inv_mark {a : Bool} {h s : Nat} {had : List Nat} (H : Inv a h s had) (n : Nat) (hn : n < 18446744073709551616) (hm : may a h s n = 0) :
    ∃ h' s', markF a h s n = (true, h', s', 0) ∧ Inv true h' s' (had ++ [n]) ∧ h' = max h n ∧ (a = true → n ∉ had) := by
  have hmay := inv_may H n
  rw [hm] at hmay
  obtain ⟨hh, hs, H⟩ := H
  unfold markF
  rw [if_neg (by simp [hm])]
  rcases H with ⟨rfl, rfl, rfl, rfl⟩ | ⟨rfl, hin, hle, hb⟩
  · refine ⟨n, 1, by simp, ⟨hn, by omega, .inr ⟨rfl, by simp, by simp, fun k hk => ?_⟩⟩, by omega, by simp⟩
    rw [testBit_div]
    have e1 : 1 / 2 ^ k % 2 = 1 ↔ k = 0 := by
      constructor
      · intro hc
        rcases Nat.eq_zero_or_pos k with h0 | h0
        · exact h0
        · have : 1 < 2 ^ k := Nat.one_lt_two_pow (by omega)
          rw [Nat.div_eq_of_lt this] at hc
          omega
      · rintro rfl; rfl
    rw [e1]
    simp
    omega
  · have hno : ¬ (n ≤ h ∧ (64 ≤ h - n ∨ n ∈ had)) := by
      intro hc
      rw [if_pos ⟨rfl, hc.1, hc.2⟩] at hmay
      omega
    have hnot : n ∉ had := fun hc => hno ⟨hle n hc, .inr hc⟩
    rw [if_neg (by simp)]
    by_cases hlt : h < n
    · rw [if_pos hlt]
      refine ⟨n, _, rfl, ⟨hn, ?_, .inr ⟨rfl, by simp, fun y hy => ?_, fun k hk => ?_⟩⟩, by omega, fun _ => hnot⟩
      · exact Nat.or_lt_two_pow (n := 64) (by omega) (by omega)
      · rcases List.mem_append.1 hy with hy | hy
        · have := hle y hy; omega
        · simp at hy; omega
      · rw [Nat.testBit_or]
        have hmod : (s * 2 ^ min (n - h) 64 % 18446744073709551616).testBit k = (decide (min (n - h) 64 ≤ k) && s.testBit (k - min (n - h) 64)) := by
          rw [show (18446744073709551616 : Nat) = 2 ^ 64 from rfl, Nat.testBit_mod_two_pow, Nat.testBit_mul_two_pow]
          simp [hk]
        rw [hmod]
        rcases Nat.eq_zero_or_pos k with h0 | h0
        · subst h0
          simp
        · have h1 : Nat.testBit 1 k = false := by
            rw [← Bool.not_eq_true, testBit_div, Nat.div_eq_of_lt (Nat.one_lt_two_pow (by omega))]
            omega
          rw [h1, Bool.or_false]
          simp only [Bool.and_eq_true, decide_eq_true_eq, List.mem_append, List.mem_singleton]
          constructor
          · rintro ⟨h2, h3⟩
            have h4 : min (n - h) 64 = n - h := by omega
            rw [h4] at h2 h3
            obtain ⟨h5, h6⟩ := (hb _ (by omega)).1 h3
            refine ⟨by omega, .inl ?_⟩
            rwa [show n - k = h - (k - (n - h)) from by omega]
          · rintro ⟨h2, h3 | h3⟩
            · have h5 := hle _ h3
              have h4 : min (n - h) 64 = n - h := by omega
              rw [h4]
              refine ⟨by omega, (hb _ (by omega)).2 ⟨by omega, ?_⟩⟩
              rwa [show h - (k - (n - h)) = n - k from by omega]
            · omega
    · rw [if_neg hlt]
      have hd : h - n < 64 := by
        rcases Nat.lt_or_ge (h - n) 64 with hd | hd
        · exact hd
        · exact absurd ⟨by omega, .inl hd⟩ hno
      refine ⟨h, _, rfl, ⟨hh, ?_, .inr ⟨rfl, by simp [hin], fun y hy => ?_, fun k hk => ?_⟩⟩, by omega, fun _ => hnot⟩
      · exact Nat.or_lt_two_pow (n := 64) (by omega) (Nat.pow_lt_pow_of_lt (by omega) (by omega))
      · rcases List.mem_append.1 hy with hy | hy
        · exact hle y hy
        · simp at hy; omega
      · rw [Nat.testBit_or, Nat.testBit_two_pow]
        simp only [Bool.or_eq_true, decide_eq_true_eq, List.mem_append, List.mem_singleton]
        rw [hb k hk]
        constructor
        · rintro (⟨h2, h3⟩ | h2)
          · exact ⟨h2, .inl h3⟩
          · exact ⟨by omega, .inr (by omega)⟩
        · rintro ⟨h2, h3 | h3⟩
          · exact .inl ⟨h2, h3⟩
          · exact .inr (by omega)

theorem mark_old9 {a : Bool} {h s : Nat} {had : List Nat} (H : Inv a h s had) (n : Nat) (hm : may a h s n ≠ 0) : markF a h s n = (false, 0, 0, 9) ∧ may a h s n = 9 := by
  have hmay := inv_may H n
  have h9 : may a h s n = 9 := by
    rw [hmay] at hm ⊢
    split at hm
    · rename_i hc; rw [if_pos hc]
    · exact absurd rfl hm
  refine ⟨?_, h9⟩
  unfold markF
  rw [if_pos hm, h9]
end Go.Proofs.Ytahdkdbcdopgjaa
