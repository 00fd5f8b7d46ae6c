/- Products of bytes: in any order, over sums, with one; inverses. No program in sight. -/
import Derived.Test.YtklkehpcifnfkaaAes
set_option linter.unusedVariables false
namespace Go.Proofs.Ytklkehpcifnfkaa

theorem all2 {p : UInt8 → UInt8 → Prop} (h : ∀ n, n < 256 → ∀ m, m < 256 → p (UInt8.ofNat n) (UInt8.ofNat m)) (a b : UInt8) : p a b := by
  have := h a.toNat (UInt8.toNat_lt a) b.toNat (UInt8.toNat_lt b)
  simpa using this
theorem all1 {p : UInt8 → Prop} (h : ∀ n, n < 256 → p (UInt8.ofNat n)) (a : UInt8) : p a := by
  have := h a.toNat (UInt8.toNat_lt a)
  simpa using this
theorem tw_add (a b : UInt8) : tw (a ^^^ b) = tw a ^^^ tw b := all2 (p := fun a b => tw (a ^^^ b) = tw a ^^^ tw b) (by decide +kernel) a b
theorem shr_add (a b : UInt8) : (a ^^^ b) >>> 1 = (a >>> 1) ^^^ (b >>> 1) := all2 (p := fun a b => (a ^^^ b) >>> 1 = (a >>> 1) ^^^ (b >>> 1)) (by decide +kernel) a b
/-- The lowest bit picks. -/
def pick (b x : UInt8) : UInt8 := if b &&& 1 = 1 then x else 0
theorem bit_cases (b : UInt8) : b &&& 1 = 0 ∨ b &&& 1 = 1 := all1 (p := fun b => b &&& 1 = 0 ∨ b &&& 1 = 1) (by decide +kernel) b
theorem bit_add (a b : UInt8) : (a ^^^ b) &&& 1 = (a &&& 1) ^^^ (b &&& 1) := all2 (p := fun a b => (a ^^^ b) &&& 1 = (a &&& 1) ^^^ (b &&& 1)) (by decide +kernel) a b
theorem pick_add (b b' x : UInt8) : pick (b ^^^ b') x = pick b x ^^^ pick b' x := by
  unfold pick
  rw [bit_add]
  rcases bit_cases b with h | h <;> rcases bit_cases b' with h' | h' <;> rw [h, h'] <;> simp
theorem pick_add2 (b x y : UInt8) : pick b (x ^^^ y) = pick b x ^^^ pick b y := by
  unfold pick
  rcases bit_cases b with h | h <;> rw [h] <;> simp
theorem xor4 (a b c d : UInt8) : (a ^^^ b) ^^^ (c ^^^ d) = (a ^^^ c) ^^^ (b ^^^ d) := by ac_rfl
theorem timesG_x (k : Nat) : ∀ (a b x : UInt8), timesG k a b x = x ^^^ timesG k a b 0 := by
  induction k with
  | zero => intro a b x; simp [timesG]
  | succ k ih =>
    intro a b x
    rw [timesG, timesG, ih]
    conv => rhs; rw [ih]
    rw [← UInt8.xor_assoc]
    congr 1
    split <;> simp
theorem timesG_rec (k : Nat) (a b : UInt8) : timesG (k + 1) a b 0 = pick b a ^^^ timesG k (tw a) (b >>> 1) 0 := by
  rw [timesG, timesG_x]
  congr 1
  unfold pick
  split <;> simp
theorem timesG_a (k : Nat) : ∀ (a a' b : UInt8), timesG k (a ^^^ a') b 0 = timesG k a b 0 ^^^ timesG k a' b 0 := by
  induction k with
  | zero => intro a a' b; simp [timesG]
  | succ k ih =>
    intro a a' b
    rw [timesG_rec, timesG_rec, timesG_rec, tw_add, ih, pick_add2]
    exact xor4 _ _ _ _
theorem timesG_b (k : Nat) : ∀ (a b b' : UInt8), timesG k a (b ^^^ b') 0 = timesG k a b 0 ^^^ timesG k a b' 0 := by
  induction k with
  | zero => intro a b b'; simp [timesG]
  | succ k ih =>
    intro a b b'
    rw [timesG_rec, timesG_rec, timesG_rec, shr_add, ih, pick_add]
    exact xor4 _ _ _ _
theorem times_a (a a' b : UInt8) : times (a ^^^ a') b = times a b ^^^ times a' b := timesG_a 8 a a' b
theorem times_b (a b b' : UInt8) : times a (b ^^^ b') = times a b ^^^ times a b' := timesG_b 8 a b b'
/-- What is additive and agrees on the eight bits agrees. -/
theorem additive_eq {f g : UInt8 → UInt8} (hf : ∀ a b, f (a ^^^ b) = f a ^^^ f b) (hg : ∀ a b, g (a ^^^ b) = g a ^^^ g b)
    (h : f 1 = g 1 ∧ f 2 = g 2 ∧ f 4 = g 4 ∧ f 8 = g 8 ∧ f 16 = g 16 ∧ f 32 = g 32 ∧ f 64 = g 64 ∧ f 128 = g 128) (a : UInt8) : f a = g a := by
  have f0 : f 0 = 0 := by have := hf 0 0; simpa using this
  have g0 : g 0 = 0 := by have := hg 0 0; simpa using this
  have split : a = (a &&& 1) ^^^ (a &&& 2) ^^^ (a &&& 4) ^^^ (a &&& 8) ^^^ (a &&& 16) ^^^ (a &&& 32) ^^^ (a &&& 64) ^^^ (a &&& 128) :=
    all1 (p := fun a => a = (a &&& 1) ^^^ (a &&& 2) ^^^ (a &&& 4) ^^^ (a &&& 8) ^^^ (a &&& 16) ^^^ (a &&& 32) ^^^ (a &&& 64) ^^^ (a &&& 128)) (by decide +kernel) a
  have c := all1 (p := fun a => (a &&& 1 = 0 ∨ a &&& 1 = 1) ∧ (a &&& 2 = 0 ∨ a &&& 2 = 2) ∧ (a &&& 4 = 0 ∨ a &&& 4 = 4) ∧ (a &&& 8 = 0 ∨ a &&& 8 = 8) ∧ (a &&& 16 = 0 ∨ a &&& 16 = 16) ∧ (a &&& 32 = 0 ∨ a &&& 32 = 32) ∧ (a &&& 64 = 0 ∨ a &&& 64 = 64) ∧ (a &&& 128 = 0 ∨ a &&& 128 = 128)) (by decide +kernel) a
  obtain ⟨h1, h2, h3, h4, h5, h6, h7, h8⟩ := h
  obtain ⟨c1, c2, c3, c4, c5, c6, c7, c8⟩ := c
  rw [split]
  rw [hf, hf, hf, hf, hf, hf, hf, hg, hg, hg, hg, hg, hg, hg]
  have e : ∀ x y : UInt8, f y = g y → (x = 0 ∨ x = y) → f x = g x := by
    intro x y hy hx
    rcases hx with rfl | rfl
    · rw [f0, g0]
    · exact hy
  rw [e _ _ h1 c1, e _ _ h2 c2, e _ _ h3 c3, e _ _ h4 c4, e _ _ h5 c5, e _ _ h6 c6, e _ _ h7 c7, e _ _ h8 c8]
theorem times_comm (a b : UInt8) : times a b = times b a := by
  refine additive_eq (f := fun a => times a b) (g := fun a => times b a) (fun x y => times_a x y b) (fun x y => times_b b x y) ?_ a
  have k : ∀ n, n < 256 → times 1 (UInt8.ofNat n) = times (UInt8.ofNat n) 1 ∧ times 2 (UInt8.ofNat n) = times (UInt8.ofNat n) 2 ∧ times 4 (UInt8.ofNat n) = times (UInt8.ofNat n) 4 ∧ times 8 (UInt8.ofNat n) = times (UInt8.ofNat n) 8 ∧
      times 16 (UInt8.ofNat n) = times (UInt8.ofNat n) 16 ∧ times 32 (UInt8.ofNat n) = times (UInt8.ofNat n) 32 ∧ times 64 (UInt8.ofNat n) = times (UInt8.ofNat n) 64 ∧ times 128 (UInt8.ofNat n) = times (UInt8.ofNat n) 128 := by decide +kernel
  exact all1 (p := fun b => times 1 b = times b 1 ∧ times 2 b = times b 2 ∧ times 4 b = times b 4 ∧ times 8 b = times b 8 ∧ times 16 b = times b 16 ∧ times 32 b = times b 32 ∧ times 64 b = times b 64 ∧ times 128 b = times b 128) k b
theorem basis3 : ∀ i, i < 8 → ∀ j, j < 8 → ∀ l, l < 8 → times (times (UInt8.ofNat (2 ^ i)) (UInt8.ofNat (2 ^ j))) (UInt8.ofNat (2 ^ l)) = times (UInt8.ofNat (2 ^ i)) (times (UInt8.ofNat (2 ^ j)) (UInt8.ofNat (2 ^ l))) := by decide +kernel
theorem times_assoc (a b c : UInt8) : times (times a b) c = times a (times b c) := by
  have hc : ∀ i, i < 8 → ∀ j, j < 8 → ∀ c, times (times (UInt8.ofNat (2 ^ i)) (UInt8.ofNat (2 ^ j))) c = times (UInt8.ofNat (2 ^ i)) (times (UInt8.ofNat (2 ^ j)) c) := by
    intro i hi j hj c
    refine additive_eq (f := fun c => times (times (UInt8.ofNat (2 ^ i)) (UInt8.ofNat (2 ^ j))) c) (g := fun c => times (UInt8.ofNat (2 ^ i)) (times (UInt8.ofNat (2 ^ j)) c)) (fun x y => times_b _ _ _) (fun x y => by rw [times_b, times_b]) ?_ c
    exact ⟨basis3 i hi j hj 0 (by decide), basis3 i hi j hj 1 (by decide), basis3 i hi j hj 2 (by decide), basis3 i hi j hj 3 (by decide), basis3 i hi j hj 4 (by decide), basis3 i hi j hj 5 (by decide), basis3 i hi j hj 6 (by decide), basis3 i hi j hj 7 (by decide)⟩
  have hb : ∀ i, i < 8 → ∀ b, times (times (UInt8.ofNat (2 ^ i)) b) c = times (UInt8.ofNat (2 ^ i)) (times b c) := by
    intro i hi b
    refine additive_eq (f := fun b => times (times (UInt8.ofNat (2 ^ i)) b) c) (g := fun b => times (UInt8.ofNat (2 ^ i)) (times b c)) (fun x y => by rw [times_b, times_a]) (fun x y => by rw [times_a, times_b]) ?_ b
    exact ⟨hc i hi 0 (by decide) c, hc i hi 1 (by decide) c, hc i hi 2 (by decide) c, hc i hi 3 (by decide) c, hc i hi 4 (by decide) c, hc i hi 5 (by decide) c, hc i hi 6 (by decide) c, hc i hi 7 (by decide) c⟩
  refine additive_eq (f := fun a => times (times a b) c) (g := fun a => times a (times b c)) (fun x y => by rw [times_a, times_a]) (fun x y => times_a _ _ _) ?_ a
  exact ⟨hb 0 (by decide) b, hb 1 (by decide) b, hb 2 (by decide) b, hb 3 (by decide) b, hb 4 (by decide) b, hb 5 (by decide) b, hb 6 (by decide) b, hb 7 (by decide) b⟩
theorem times_one (a : UInt8) : times a 1 = a := all1 (p := fun a => times a 1 = a) (by decide +kernel) a
theorem times_zero (a : UInt8) : times 0 a = 0 := all1 (p := fun a => times 0 a = 0) (by decide +kernel) a
/-- The inverse. -/
def mi (a : UInt8) : UInt8 := miL.getD a.toNat 0
theorem mi_ok (a : UInt8) : a = 0 ∨ times a (mi a) = 1 := all1 (p := fun a => a = 0 ∨ times a (mi a) = 1) (by decide +kernel) a
theorem mi_unique {a x : UInt8} (h : times a x = 1) : a ≠ 0 ∧ x = mi a := by
  have ha : a ≠ 0 := by rintro rfl; rw [times_zero] at h; exact absurd h (by decide)
  refine ⟨ha, ?_⟩
  have h1 := (mi_ok a).resolve_left ha
  have : times x (times a (mi a)) = times (times x a) (mi a) := (times_assoc _ _ _).symm
  rw [h1, times_one, times_comm x a, h, times_comm 1 (mi a), times_one] at this
  exact this
theorem times_eq_one (a x : UInt8) : times a x = 1 ↔ a ≠ 0 ∧ x = mi a := by
  refine ⟨mi_unique, ?_⟩
  rintro ⟨h1, rfl⟩
  exact (mi_ok a).resolve_left h1
end Go.Proofs.Ytklkehpcifnfkaa
