/- Reports one behind the other, and cut (plain). No program in sight. -/
import Derived.Test.YtkfimncbfbbopaaParS
set_option linter.unusedVariables false
namespace Go.Proofs.Ytkfimncbfbbopaa

/-- b begins with a whole report. -/
def okS (b : List UInt8) : Bool := decide (4 ≤ b.length) && (headB b && isB b) && decide (lenS b ≤ b.length) && (oneS b).2
theorem lenS_ge (b : List UInt8) : 4 ≤ lenS b := by unfold lenS; omega
theorem parN_ok {f : Nat} {b : List UInt8} {acc : List Rep} (h : okS b = true) : parN (f + 1) b acc = parN f (b.drop (lenS b)) (acc ++ [(oneS b).1]) := by
  unfold okS at h
  simp only [Bool.and_eq_true, decide_eq_true_eq] at h
  obtain ⟨⟨⟨h1, h2⟩, h3⟩, h4⟩ := h
  rw [parN, if_neg (by omega), if_neg (by omega), if_neg (by simp [h2]), if_neg (by omega), if_neg (by simp [h4])]
theorem parN_bad {f : Nat} {b : List UInt8} {acc : List Rep} (h : okS b = false) (hb : b.length ≠ 0) : (parN (f + 1) b acc).2 ≠ 0 ∧ (parN (f + 1) b acc).1 = [] := by
  rw [parN, if_neg hb]
  by_cases h1 : b.length < 4
  · rw [if_pos h1]; exact ⟨by decide, rfl⟩
  rw [if_neg h1]
  by_cases h2 : (headB b && isB b) = false
  · rw [if_pos h2]; exact ⟨by decide, rfl⟩
  rw [if_neg h2]
  by_cases h3 : b.length < lenS b
  · rw [if_pos h3]; exact ⟨by decide, rfl⟩
  rw [if_neg h3]
  by_cases h4 : (oneS b).2 = false
  · rw [if_pos h4]; exact ⟨by decide, rfl⟩
  exfalso
  unfold okS at h
  rw [decide_eq_true (by omega), decide_eq_true (by omega)] at h
  simp only [Bool.not_eq_false] at h2 h4
  rw [h2, h4] at h
  exact absurd h (by decide)
theorem getD_take {b : List UInt8} {i k : Nat} (h : i < k) : (b.take k).getD i 0 = b.getD i 0 := by
  simp [List.getD_eq_getElem?_getD, h]
theorem getD_of_take {b c : List UInt8} {n i : Nat} (h : c.take n = b.take n) (hi : i < n) : c.getD i 0 = b.getD i 0 := by
  rw [← getD_take (b := c) hi, h, getD_take hi]
theorem ok_same {b c : List UInt8} (h : okS b = true) (hc : c.take (lenS b) = b.take (lenS b)) (hl : lenS b ≤ c.length) : okS c = true ∧ lenS c = lenS b ∧ oneS c = oneS b := by
  have hg := lenS_ge b
  have e0 := getD_of_take (i := 0) hc (by omega)
  have e1 := getD_of_take (i := 1) hc (by omega)
  have e2 := getD_of_take (i := 2) hc (by omega)
  have e3 := getD_of_take (i := 3) hc (by omega)
  have hlen : lenS c = lenS b := by unfold lenS; rw [e2, e3]
  have hone : oneS c = oneS b := by unfold oneS; rw [hlen, e0, e1, hc]
  refine ⟨?_, hlen, hone⟩
  unfold okS at h ⊢
  simp only [Bool.and_eq_true, decide_eq_true_eq] at h ⊢
  obtain ⟨⟨⟨h1, h2⟩, h3⟩, h4⟩ := h
  refine ⟨⟨⟨by omega, ?_, ?_⟩, by omega⟩, by rw [hone]; exact h4⟩
  · have := h2.1
    unfold headB at this ⊢
    rw [e0]; exact this
  · have := h2.2
    unfold isB at this ⊢
    simp only [Bool.and_eq_true, decide_eq_true_eq] at this ⊢
    rw [e1]
    exact ⟨⟨by omega, this.1.2⟩, this.2⟩
theorem parN_fuel : ∀ (f g : Nat) (b : List UInt8) (acc : List Rep), b.length < f → b.length < g → parN f b acc = parN g b acc
  | 0, _, _, _, h, _ => absurd h (by omega)
  | _, 0, _, _, _, h => absurd h (by omega)
  | f + 1, g + 1, b, acc, h1, h2 => by
    by_cases h0 : b.length = 0
    · rw [parN, if_pos h0, parN, if_pos h0]
    by_cases hk : okS b = true
    · rw [parN_ok hk, parN_ok hk]
      have := lenS_ge b
      exact parN_fuel f g _ _ (by rw [List.length_drop]; omega) (by rw [List.length_drop]; omega)
    · rw [parN, parN, if_neg h0, if_neg h0]
      by_cases h1 : b.length < 4
      · rw [if_pos h1, if_pos h1]
      rw [if_neg h1, if_neg h1]
      by_cases h2 : (headB b && isB b) = false
      · rw [if_pos h2, if_pos h2]
      rw [if_neg h2, if_neg h2]
      by_cases h3 : b.length < lenS b
      · rw [if_pos h3, if_pos h3]
      rw [if_neg h3, if_neg h3]
      by_cases h4 : (oneS b).2 = false
      · rw [if_pos h4, if_pos h4]
      exfalso
      apply hk
      unfold okS
      simp only [Bool.not_eq_false] at h2 h4
      rw [decide_eq_true (by omega), decide_eq_true (by omega), h2, h4]
      rfl
theorem ok_le {b : List UInt8} (h : okS b = true) : lenS b ≤ b.length := by
  unfold okS at h
  simp only [Bool.and_eq_true, decide_eq_true_eq] at h
  exact h.1.2
theorem parN_join : ∀ (f : Nat) (a b : List UInt8) (acc l : List Rep) (g : Nat), a.length < f → parN f a acc = (l, 0) → a.length + b.length < g → parN g (a ++ b) acc = parN (b.length + 1) b l
  | 0, _, _, _, _, _, h, _, _ => absurd h (by omega)
  | f + 1, a, b, acc, l, g, hf, hp, hg => by
    by_cases h0 : a.length = 0
    · have ha : a = [] := List.eq_nil_of_length_eq_zero h0
      subst ha
      rw [parN, if_pos h0] at hp
      injection hp with hp _
      subst hp
      rw [List.nil_append]
      exact parN_fuel _ _ _ _ (by simpa using hg) (by omega)
    by_cases hk : okS a = true
    · rw [parN_ok hk] at hp
      have hge := lenS_ge a
      have hle := ok_le hk
      have htk : (a ++ b).take (lenS a) = a.take (lenS a) := List.take_append_of_le_length hle
      obtain ⟨k1, k2, k3⟩ := ok_same (c := a ++ b) hk htk (by rw [List.length_append]; omega)
      match g, hg with
      | g + 1, hg =>
        rw [parN_ok k1, k2, k3, List.drop_append_of_le_length hle]
        exact parN_join f _ b _ l g (by rw [List.length_drop]; omega) hp (by rw [List.length_drop]; omega)
    · have := (parN_bad (f := f) (acc := acc) (by simpa using hk) h0).1
      rw [hp] at this
      exact absurd rfl this
theorem parN_acc : ∀ (f : Nat) (b : List UInt8) (acc l : List Rep), (parN f b acc).2 = 0 → parN f b (l ++ acc) = (l ++ (parN f b acc).1, 0)
  | 0, _, _, _, _ => rfl
  | f + 1, b, acc, l, h => by
    by_cases h0 : b.length = 0
    · rw [parN, if_pos h0, parN, if_pos h0]
    by_cases hk : okS b = true
    · rw [parN_ok hk] at h ⊢
      rw [parN_ok hk, List.append_assoc]
      exact parN_acc f _ _ l h
    · exact absurd h (parN_bad (by simpa using hk) h0).1
theorem parN_cut : ∀ (f : Nat) (b : List UInt8) (acc l : List Rep) (g : Nat), b.length < f → b.length ≠ 0 → parN f b acc = (l, 0) → b.length - 1 < g → (parN g (b.take (b.length - 1)) acc).2 ≠ 0
  | 0, _, _, _, _, h, _, _, _ => absurd h (by omega)
  | f + 1, b, acc, l, g, hf, h0, hp, hg => by
    by_cases hk : okS b = true
    · rw [parN_ok hk] at hp
      have hge := lenS_ge b
      have hle := ok_le hk
      match g, hg with
      | g + 1, hg =>
        by_cases hn : lenS b = b.length
        · refine (parN_bad ?_ ?_).1
          · refine Bool.eq_false_iff.2 fun hc => ?_
            have hc1 := ok_le hc
            have hc2 := lenS_ge (b.take (b.length - 1))
            rw [List.length_take, Nat.min_eq_left (by omega)] at hc1
            have e2 : (b.take (b.length - 1)).getD 2 0 = b.getD 2 0 := getD_take (by omega)
            have e3 : (b.take (b.length - 1)).getD 3 0 = b.getD 3 0 := getD_take (by omega)
            have : lenS (b.take (b.length - 1)) = lenS b := by unfold lenS; rw [e2, e3]
            omega
          · rw [List.length_take]; omega
        · have htk : (b.take (b.length - 1)).take (lenS b) = b.take (lenS b) := by rw [List.take_take, Nat.min_eq_left (by omega)]
          obtain ⟨k1, k2, k3⟩ := ok_same (c := b.take (b.length - 1)) hk htk (by rw [List.length_take]; omega)
          rw [parN_ok k1, k2, k3, List.drop_take]
          have hl : b.length - 1 - lenS b = (b.drop (lenS b)).length - 1 := by rw [List.length_drop]; omega
          rw [hl]
          exact parN_cut f _ _ l g (by rw [List.length_drop]; omega) (by rw [List.length_drop]; omega) hp (by rw [List.length_drop]; omega)
    · have := (parN_bad (f := f) (acc := acc) (by simpa using hk) h0).1
      rw [hp] at this
      exact absurd rfl this
/-- Two datagrams that are read, one behind the other. -/
theorem parse_join {a b : List UInt8} (ha : (parseS a).2 = 0) (hb : (parseS b).2 = 0) (hl : a.length + b.length ≤ 1200) : parseS (a ++ b) = ((parseS a).1 ++ (parseS b).1, 0) ∧ (parseS (a ++ b.take (b.length - 1))).2 ≠ 0 ∧ b.length ≠ 0 := by
  have na : a.length ≠ 0 := fun h => by rw [parseS, if_neg (by omega), if_pos h] at ha; exact absurd ha (by decide)
  have nb : b.length ≠ 0 := fun h => by rw [parseS, if_neg (by omega), if_pos h] at hb; exact absurd hb (by decide)
  have ea : parseS a = parN (a.length + 1) a [] := by rw [parseS, if_neg (by omega), if_neg na]
  have eb : parseS b = parN (b.length + 1) b [] := by rw [parseS, if_neg (by omega), if_neg nb]
  rw [ea] at ha
  rw [eb] at hb
  have pa : parN (a.length + 1) a [] = ((parN (a.length + 1) a []).1, 0) := by rw [← ha]
  have pb : parN (b.length + 1) b [] = ((parN (b.length + 1) b []).1, 0) := by rw [← hb]
  refine ⟨?_, ?_, nb⟩
  · rw [parseS, if_neg (by rw [List.length_append]; omega), if_neg (by rw [List.length_append]; omega)]
    rw [parN_join _ a b [] _ _ (by omega) pa (by rw [List.length_append]; omega), ea, eb]
    have := parN_acc (b.length + 1) b [] (parN (a.length + 1) a []).1 hb
    rw [List.append_nil] at this
    exact this
  · have hle : (b.take (b.length - 1)).length ≤ b.length := by rw [List.length_take]; omega
    rw [parseS, if_neg (by rw [List.length_append]; omega), if_neg (by rw [List.length_append]; omega)]
    rw [parN_join _ a (b.take (b.length - 1)) [] _ _ (by omega) pa (by rw [List.length_append]; omega)]
    have h1 := parN_acc (b.length + 1) b [] (parN (a.length + 1) a []).1 hb
    rw [List.append_nil] at h1
    refine parN_cut (b.length + 1) b _ _ _ (by omega) nb h1 ?_
    rw [List.length_take]
    omega
theorem parse_len {b : List UInt8} : ∀ (f : Nat) (b : List UInt8) (acc : List Rep), (parN f b acc).1.length ≤ acc.length + b.length
  | 0, b, acc => by show acc.length ≤ _; omega
  | f + 1, b, acc => by
    by_cases h0 : b.length = 0
    · rw [parN, if_pos h0]; show acc.length ≤ _; omega
    by_cases hk : okS b = true
    · rw [parN_ok hk]
      have := parse_len (b := b) f (b.drop (lenS b)) (acc ++ [(oneS b).1])
      have hge := lenS_ge b
      rw [List.length_append, List.length_drop, List.length_singleton] at this
      omega
    · rw [(parN_bad (f := f) (acc := acc) (by simpa using hk) h0).2]
      exact Nat.zero_le _
end Go.Proofs.Ytkfimncbfbbopaa
