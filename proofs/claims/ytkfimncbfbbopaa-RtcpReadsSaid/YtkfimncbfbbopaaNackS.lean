/- What Nack and Lost say (plain), and the law of them. No program in sight. -/
import Derived.Test.YtkfimncbfbbopaaAwake
set_option linter.unusedVariables false
namespace Go.Proofs.Ytkfimncbfbbopaa
open Go.RowKit

/-- The distance of x behind f, in 16 bits. -/
def dN (x f : Nat) : Nat := (x + 65536 - f) % 65536
def nearN (x f : Nat) : Prop := 1 ≤ dN x f ∧ dN x f ≤ 16
instance (x f : Nat) : Decidable (nearN x f) := inferInstanceAs (Decidable (_ ∧ _))
def stepN (acc : List (Nat × Nat)) (x : Nat) : List (Nat × Nat) :=
  match acc.getLast? with
  | none => acc ++ [(x, 0)]
  | some (f, m) => if nearN x f then acc.dropLast ++ [(f, m ||| 2 ^ (dN x f - 1))] else acc ++ [(x, 0)]
def nackS (xs : List Nat) : List (Nat × Nat) := xs.foldl stepN []
/-- What the mask m names behind f, of the first k bits. -/
def bitsS (f m : Nat) : Nat → List Nat
  | 0 => []
  | k + 1 => bitsS f m k ++ (if m.testBit k then [(f + k + 1) % 65536] else [])
def oneN (p : Nat × Nat) : List Nat := p.1 :: bitsS p.1 p.2 16
def lostS (ps : List (Nat × Nat)) : List Nat := ps.flatMap oneN

theorem nackS_snoc (xs : List Nat) (x : Nat) : nackS (xs ++ [x]) = stepN (nackS xs) x := by simp [nackS, List.foldl_append]
theorem stepN_nil (x : Nat) : stepN [] x = [(x, 0)] := rfl
theorem stepN_snoc (acc : List (Nat × Nat)) (f m x : Nat) : stepN (acc ++ [(f, m)]) x = if nearN x f then acc ++ [(f, m ||| 2 ^ (dN x f - 1))] else acc ++ [(f, m)] ++ [(x, 0)] := by
  simp [stepN]
theorem snoc_cases {α : Type} (l : List α) : l = [] ∨ ∃ a x, l = a ++ [x] := by
  rcases List.eq_nil_or_concat l with h | ⟨a, x, h⟩
  · exact .inl h
  · exact .inr ⟨a, x, by rw [h]; simp⟩
theorem snoc_ind {α : Type} {P : List α → Prop} (h0 : P []) (h1 : ∀ l x, P l → P (l ++ [x])) (l : List α) : P l := by
  have h : ∀ r : List α, P r.reverse := fun r => by
    induction r with
    | nil => exact h0
    | cons x r ih => rw [List.reverse_cons]; exact h1 _ _ ih
  have := h l.reverse
  rwa [List.reverse_reverse] at this
theorem stepN_len (acc : List (Nat × Nat)) (x : Nat) : (stepN acc x).length ≤ acc.length + 1 := by
  rcases snoc_cases acc with rfl | ⟨a, ⟨f, m⟩, rfl⟩
  · simp [stepN_nil]
  · rw [stepN_snoc]; split <;> simp <;> omega
theorem nackS_len (xs : List Nat) : (nackS xs).length ≤ xs.length := by
  refine snoc_ind (P := fun xs => (nackS xs).length ≤ xs.length) ?_ ?_ xs
  · simp [nackS]
  · intro xs x ih; rw [nackS_snoc]; have := stepN_len (nackS xs) x; simp; omega
theorem mem_bitsS (f m z : Nat) : ∀ k, z ∈ bitsS f m k ↔ ∃ i, i < k ∧ m.testBit i = true ∧ z = (f + i + 1) % 65536
  | 0 => by simp [bitsS]
  | k + 1 => by
    rw [bitsS, List.mem_append, mem_bitsS f m z k]
    constructor
    · rintro (⟨i, h1, h2, h3⟩ | h)
      · exact ⟨i, by omega, h2, h3⟩
      · split at h
        · exact ⟨k, by omega, by assumption, by simpa using h⟩
        · simp at h
    · rintro ⟨i, h1, h2, h3⟩
      by_cases hi : i = k
      · subst hi; right; rw [if_pos h2]; simpa using h3
      · left; exact ⟨i, by omega, h2, h3⟩
theorem mem_oneN (f m z : Nat) : z ∈ oneN (f, m) ↔ z = f ∨ ∃ i, i < 16 ∧ m.testBit i = true ∧ z = (f + i + 1) % 65536 := by
  rw [oneN, List.mem_cons, mem_bitsS]
theorem lostS_snoc (ps : List (Nat × Nat)) (p : Nat × Nat) : lostS (ps ++ [p]) = lostS ps ++ oneN p := by simp [lostS]
theorem dN_back {x f : Nat} (hx : x < 65536) (hf : f < 65536) (h : nearN x f) : (f + (dN x f - 1) + 1) % 65536 = x := by
  unfold nearN dN at *
  omega
theorem mem_step {acc : List (Nat × Nat)} {x : Nat} (hx : x < 65536) (ha : ∀ p ∈ acc, p.1 < 65536) (z : Nat) : z ∈ lostS (stepN acc x) ↔ z ∈ lostS acc ∨ z = x := by
  rcases snoc_cases acc with rfl | ⟨a, ⟨f, m⟩, rfl⟩
  · simp [stepN_nil, lostS, mem_oneN]
  · have hf : f < 65536 := ha (f, m) (by simp)
    rw [stepN_snoc]
    split
    · rename_i hn
      rw [lostS_snoc, lostS_snoc, List.mem_append, List.mem_append, mem_oneN, mem_oneN]
      have hd := dN_back hx hf hn
      have hk : dN x f - 1 < 16 := by unfold nearN at hn; omega
      constructor
      · rintro (h | h | ⟨i, h1, h2, h3⟩)
        · exact .inl (.inl h)
        · exact .inl (.inr (.inl h))
        · rw [Nat.testBit_or, Nat.testBit_two_pow] at h2
          by_cases hi : dN x f - 1 = i
          · right; rw [h3, ← hi, hd]
          · exact .inl (.inr (.inr ⟨i, h1, by simpa [hi] using h2, h3⟩))
      · rintro ((h | h | ⟨i, h1, h2, h3⟩) | h)
        · exact .inl h
        · exact .inr (.inl h)
        · exact .inr (.inr ⟨i, h1, by rw [Nat.testBit_or, h2]; rfl, h3⟩)
        · refine .inr (.inr ⟨dN x f - 1, hk, ?_, by rw [hd, h]⟩)
          rw [Nat.testBit_or, Nat.testBit_two_pow]
          simp
    · rw [lostS_snoc (a ++ [(f, m)]), List.mem_append, mem_oneN]
      simp
theorem stepN_head {acc : List (Nat × Nat)} {x : Nat} (hx : x < 65536) (ha : ∀ p ∈ acc, p.1 < 65536 ∧ p.2 < 65536) : ∀ p ∈ stepN acc x, p.1 < 65536 ∧ p.2 < 65536 := by
  rcases snoc_cases acc with rfl | ⟨a, ⟨f, m⟩, rfl⟩
  · simp [stepN_nil, hx]
  · have hf := ha (f, m) (by simp)
    rw [stepN_snoc]
    intro p hp
    split at hp
    · rename_i hn
      rcases List.mem_append.1 hp with h | h
      · exact ha p (by simp [h])
      · simp at h
        subst h
        refine ⟨hf.1, ?_⟩
        have hk : 2 ^ (dN x f - 1) < 2 ^ 16 := Nat.pow_lt_pow_right (by decide) (by unfold nearN at hn; omega)
        exact Nat.or_lt_two_pow (n := 16) hf.2 hk
    · rcases List.mem_append.1 hp with h | h
      · exact ha p h
      · simp at h
        subst h
        exact ⟨hx, by show 0 < 65536; decide⟩
theorem nackS_head {xs : List Nat} (hx : ∀ x ∈ xs, x < 65536) : ∀ p ∈ nackS xs, p.1 < 65536 ∧ p.2 < 65536 := by
  revert hx
  refine snoc_ind (P := fun xs => (∀ x ∈ xs, x < 65536) → ∀ p ∈ nackS xs, p.1 < 65536 ∧ p.2 < 65536) ?_ ?_ xs
  · intro hx; simp [nackS]
  · intro xs x ih hx
    rw [nackS_snoc]
    exact stepN_head (hx x (by simp)) (ih fun y hy => hx y (by simp [hy]))
theorem mem_lost {xs : List Nat} (hx : ∀ x ∈ xs, x < 65536) (z : Nat) : z ∈ lostS (nackS xs) ↔ z ∈ xs := by
  revert hx
  refine snoc_ind (P := fun xs => (∀ x ∈ xs, x < 65536) → (z ∈ lostS (nackS xs) ↔ z ∈ xs)) ?_ ?_ xs
  · intro hx; simp [nackS, lostS]
  · intro xs x ih hx
    have h2 : ∀ y ∈ xs, y < 65536 := fun y hy => hx y (by simp [hy])
    rw [nackS_snoc, mem_step (hx x (by simp)) (fun p hp => (nackS_head h2 p hp).1), ih h2]
    simp
/-- No pair's head lies within 16 behind the one ahead of it. -/
def farN : List (Nat × Nat) → Prop
  | p :: q :: r => ¬ nearN q.1 p.1 ∧ farN (q :: r)
  | _ => True
theorem farN_snoc : ∀ (a : List (Nat × Nat)) (p q : Nat × Nat), farN (a ++ [p]) → ¬ nearN q.1 p.1 → farN (a ++ [p] ++ [q])
  | [], p, q, _, h => ⟨h, trivial⟩
  | [a], p, q, h1, h => ⟨h1.1, h, trivial⟩
  | a :: b :: r, p, q, h1, h => ⟨h1.1, farN_snoc (b :: r) p q h1.2 h⟩
theorem farN_last : ∀ (a : List (Nat × Nat)) (f m m' : Nat), farN (a ++ [(f, m)]) → farN (a ++ [(f, m')])
  | [], _, _, _, _ => trivial
  | [a], f, m, m', h => ⟨h.1, trivial⟩
  | a :: b :: r, f, m, m', h => ⟨h.1, farN_last (b :: r) f m m' h.2⟩
theorem farN_nack (xs : List Nat) : farN (nackS xs) := by
  refine snoc_ind (P := fun xs => farN (nackS xs)) ?_ ?_ xs
  · exact trivial
  · intro xs x ih
    rw [nackS_snoc]
    rcases snoc_cases (nackS xs) with h | ⟨a, ⟨f, m⟩, h⟩
    · rw [h]; exact trivial
    · rw [h] at ih
      rw [h, stepN_snoc]
      split
      · exact farN_last a f m _ ih
      · rename_i hn; exact farN_snoc a _ _ ih hn
theorem farN_at : ∀ (ps : List (Nat × Nat)) (i : Nat) (p q : Nat × Nat), farN ps → ps[i]? = some p → ps[i + 1]? = some q → ¬ nearN q.1 p.1
  | p' :: q' :: r, 0, p, q, h, h1, h2 => by simp at h1 h2; subst h1 h2; exact h.1
  | p' :: q' :: r, i + 1, p, q, h, h1, h2 => farN_at (q' :: r) i p q h.2 (by simpa using h1) (by simpa using h2)
  | [p'], i, p, q, h, h1, h2 => by simp at h2
  | [], i, p, q, h, h1, h2 => by simp at h2
theorem bitsS_len (f m : Nat) : ∀ k, (bitsS f m k).length ≤ k
  | 0 => by simp [bitsS]
  | k + 1 => by rw [bitsS, List.length_append]; have := bitsS_len f m k; split <;> simp <;> omega
theorem oneN_len (p : Nat × Nat) : (oneN p).length ≤ 17 := by rw [oneN, List.length_cons]; have := bitsS_len p.1 p.2 16; omega
theorem lostS_len : ∀ ps : List (Nat × Nat), (lostS ps).length ≤ 17 * ps.length
  | [] => by simp [lostS]
  | p :: ps => by
    have h1 := lostS_len ps
    have h2 := oneN_len p
    show (List.flatMap oneN (p :: ps)).length ≤ _
    rw [List.flatMap_cons, List.length_append, List.length_cons]
    show _ + (lostS ps).length ≤ _
    omega
theorem bitsS_lt (f m : Nat) : ∀ k, ∀ x ∈ bitsS f m k, x < 65536
  | 0 => by simp [bitsS]
  | k + 1 => fun x hx => by
    rw [bitsS] at hx
    rcases List.mem_append.1 hx with h | h
    · exact bitsS_lt f m k x h
    · split at h
      · simp at h; omega
      · simp at h
theorem lostS_lt {ps : List (Nat × Nat)} (h : ∀ p ∈ ps, p.1 < 65536) : ∀ x ∈ lostS ps, x < 65536 := fun x hx => by
  obtain ⟨p, hp, hxp⟩ := List.mem_flatMap.1 hx
  rcases List.mem_cons.1 hxp with rfl | h2
  · exact h p hp
  · exact bitsS_lt _ _ _ x h2
end Go.Proofs.Ytkfimncbfbbopaa
