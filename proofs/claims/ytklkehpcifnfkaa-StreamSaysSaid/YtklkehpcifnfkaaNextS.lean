/- A block as a number of 128 bits; what the program's Next and the reference's return (contracts). Conditions: the arrays' lengths. -/
import Derived.Test.YtklkehpcifnfkaaHalf
import Derived.BigRegion
set_option linter.unusedVariables false
namespace Go.Proofs.Ytklkehpcifnfkaa
open Go.RowKit
attribute [local go_sem ↓] Go.wp_at_zero Go.wp_at_succ

def bytes16 (v : Nat) : List UInt8 := (List.range 16).map fun i => UInt8.ofNat (v / 256 ^ (15 - i))
theorem bytes16_len (v : Nat) : (bytes16 v).length = 16 := by simp [bytes16]
def nextS (x : List UInt8) (n : Nat) : List UInt8 := bytes16 (numS x + n)
theorem nextS_len (x : List UInt8) (n : Nat) : (nextS x n).length = 16 := bytes16_len _
theorem numS_append (a : List UInt8) : ∀ b : List UInt8, numS (a ++ b) = numS a * 256 ^ b.length + numS b := by
  intro b
  obtain ⟨r, rfl⟩ : ∃ r, b = r.reverse := ⟨b.reverse, by simp⟩
  induction r with
  | nil => simp [numS]
  | cons y ys ih =>
    rw [List.reverse_cons, ← List.append_assoc, numS_snoc, ih, numS_snoc, List.length_append, Nat.pow_add]
    simp only [List.length_cons, List.length_nil, Nat.zero_add, Nat.pow_one]
    rw [Nat.add_mul, Nat.mul_assoc, Nat.add_assoc]
theorem numS_lt' (l : List UInt8) : numS l < 256 ^ l.length := by
  have := numS_lt l l.length (Nat.le_refl _)
  rwa [List.take_length] at this
theorem numS_digit (r : List UInt8) : ∀ k, k < r.length → numS r.reverse / 256 ^ k % 256 = (r.getD k 0).toNat := by
  induction r with
  | nil => intro k hk; cases hk
  | cons y ys ih =>
    intro k hk
    have hy := UInt8.toNat_lt y
    rw [List.reverse_cons, numS_snoc]
    cases k with
    | zero => simp only [Nat.pow_zero, Nat.div_one, List.getD_cons_zero]; omega
    | succ k =>
      rw [Nat.pow_succ, Nat.mul_comm (256 ^ k) 256, ← Nat.div_div_eq_div_mul, show (numS ys.reverse * 256 + y.toNat) / 256 = numS ys.reverse by omega, ih k (by simpa using hk)]
      rfl
theorem numS_dig (x : List UInt8) (hx : x.length = 16) (k : Nat) (hk : k < 16) : numS x / 256 ^ k % 256 = (x.getD (15 - k) 0).toNat := by
  have := numS_digit x.reverse k (by rw [List.length_reverse, hx]; exact hk)
  rw [List.reverse_reverse] at this
  rw [this]
  congr 1
  rw [List.getD_eq_getElem?_getD, List.getD_eq_getElem?_getD, List.getElem?_reverse (by omega), hx]
theorem bytes16_numS (x : List UInt8) (hx : x.length = 16) : bytes16 (numS x) = x := by
  unfold bytes16
  refine List.ext_getElem? fun i => ?_
  by_cases hi : i < 16
  · have h := numS_dig x hx (15 - i) (by omega)
    rw [show 15 - (15 - i) = i by omega] at h
    rw [List.getElem?_map, List.getElem?_range hi, List.getElem?_eq_getElem (by omega)]
    simp only [Option.map_some, Option.some.injEq]
    rw [List.getD_eq_getElem?_getD, List.getElem?_eq_getElem (by omega), Option.getD_some] at h
    apply UInt8.toNat_inj.1
    rw [UInt8.toNat_ofNat']
    exact h
  · rw [List.getElem?_eq_none (by simp; omega), List.getElem?_eq_none (by omega)]
theorem numS_bytes16_aux (v : Nat) : ∀ k, k ≤ 16 → numS ((bytes16 v).take k) = v / 256 ^ (16 - k) % 256 ^ k
  | 0, _ => by simp [numS, Nat.mod_one]
  | k + 1, h => by
    rw [numS_take _ k (by rw [bytes16_len]; omega), numS_bytes16_aux v k (by omega)]
    have e : ((bytes16 v).getD k 0).toNat = v / 256 ^ (15 - k) % 256 := by
      simp [bytes16, List.getD_eq_getElem?_getD, show k < 16 by omega]
    rw [e, show 16 - k = (15 - k) + 1 by omega, show 16 - (k + 1) = 15 - k by omega]
    obtain ⟨m, hm⟩ : ∃ m, m = 15 - k := ⟨_, rfl⟩
    rw [← hm, Nat.pow_succ 256 m, ← Nat.div_div_eq_div_mul]
    generalize v / 256 ^ m = u
    rw [Nat.pow_succ, Nat.mul_comm (256 ^ k) 256, Nat.mod_mul (x := u) (a := 256) (b := 256 ^ k)]
    omega
theorem numS_bytes16 (v : Nat) : numS (bytes16 v) = v % 340282366920938463463374607431768211456 := by
  have := numS_bytes16_aux v 16 (Nat.le_refl _)
  rw [List.take_of_length_le (by rw [bytes16_len]; exact Nat.le_refl _)] at this
  simpa using this
theorem bytes16_mod (v : Nat) : bytes16 (v % 340282366920938463463374607431768211456) = bytes16 v := by
  rw [← numS_bytes16, bytes16_numS _ (bytes16_len v)]
theorem numS_lt16 (x : List UInt8) (hx : x.length = 16) : numS x < 340282366920938463463374607431768211456 := by
  have := numS_lt' x
  rw [hx] at this
  exact this
theorem nextS_next (x : List UInt8) (a b : Nat) : nextS (nextS x a) b = nextS x (a + b) := by
  unfold nextS
  rw [numS_bytes16, ← bytes16_mod (_ + b), Nat.mod_add_mod, bytes16_mod, Nat.add_assoc]
theorem nextS_eq (x : List UInt8) (hx : x.length = 16) (n : Nat) (hn : n < 18446744073709551616) : nextS x n = x ↔ n = 0 := by
  constructor
  · intro h
    have h1 := congrArg numS h
    unfold nextS at h1
    rw [numS_bytes16] at h1
    have := numS_lt16 x hx
    omega
  · rintro rfl
    exact bytes16_numS x hx

/-! Sixteen places by a function. -/
def mapS (p : Nat → UInt8) : List UInt8 := (List.range 16).map p
theorem mapS_len (p : Nat → UInt8) : (mapS p).length = 16 := by simp [mapS]
theorem mapS_congr {p q : Nat → UInt8} (h : ∀ i, i < 16 → p i = q i) : mapS p = mapS q := List.map_congr_left fun i hi => h i (List.mem_range.1 hi)
theorem mapS_set (p : Nat → UInt8) (k : Nat) (y : UInt8) : (mapS p).set k y = mapS fun i => if i = k then y else p i := by
  unfold mapS
  refine List.ext_getElem? fun i => ?_
  rw [List.getElem?_set]
  by_cases h : k = i
  · subst h
    by_cases hi : k < 16
    · simp [hi]
    · simp [hi]
  · have h2 : ¬ i = k := fun e => h e.symm
    by_cases hi : i < 16
    · simp [h, h2, hi]
    · simp [h, hi]
theorem mapS_getD (p : Nat → UInt8) (i : Nat) (hi : i < 16) : (mapS p).getD i 0 = p i := by
  simp [mapS, List.getD_eq_getElem?_getD, hi]
def pairP (x : List UInt8) (v k : Nat) (i : Nat) : UInt8 := if i % 8 < k then UInt8.ofNat (v / 256 ^ (15 - i)) else x.getD i 0
theorem pairP_zero (x : List UInt8) (hx : x.length = 16) (v : Nat) : mapS (pairP x v 0) = x := by
  have : mapS (pairP x v 0) = mapS (fun i => x.getD i 0) := mapS_congr fun i hi => by simp [pairP]
  rw [this]
  exact list16 hx
theorem pairP_full (x : List UInt8) (v : Nat) : mapS (pairP x v 8) = bytes16 v := mapS_congr fun i hi => by
  rw [pairP, if_pos (Nat.mod_lt _ (by decide))]
theorem pairP_step (x : List UInt8) (v k : Nat) (hk : k < 8) : ((mapS (pairP x v k)).set k (UInt8.ofNat (v / 256 ^ (15 - k)))).set (8 + k) (UInt8.ofNat (v / 256 ^ (7 - k))) = mapS (pairP x v (k + 1)) := by
  rw [mapS_set, mapS_set]
  refine mapS_congr fun i hi => ?_
  unfold pairP
  by_cases h1 : i = 8 + k
  · subst h1
    rw [if_pos rfl, if_pos (by omega), show 15 - (8 + k) = 7 - k by omega]
  · rw [if_neg h1]
    by_cases h2 : i = k
    · subst h2
      rw [if_pos rfl, if_pos (by omega)]
    · rw [if_neg h2]
      by_cases h3 : i % 8 < k
      · rw [if_pos h3, if_pos (by omega)]
      · rw [if_neg h3, if_neg (by omega)]
theorem pairP_step' (x : List UInt8) (v k : Nat) (hk : k < 8) : ((mapS (pairP x v k)).set (8 + k) (UInt8.ofNat (v / 256 ^ (7 - k)))).set k (UInt8.ofNat (v / 256 ^ (15 - k))) = mapS (pairP x v (k + 1)) := by
  rw [← pairP_step x v k hk, List.set_comm _ _ (by omega)]
theorem hi_byte (H L v k : Nat) (hk : k < 8) (hL : L < 18446744073709551616) (h : H * 18446744073709551616 + L = v % 340282366920938463463374607431768211456) :
    ((H : Int) / (2 : Int) ^ (56 - 8 * k)) % 256 = ((UInt8.ofNat (v / 256 ^ (15 - k))).toNat : Int) := by
  rw [UInt8.toNat_ofNat']
  obtain rfl | rfl | rfl | rfl | rfl | rfl | rfl | rfl : k = 0 ∨ k = 1 ∨ k = 2 ∨ k = 3 ∨ k = 4 ∨ k = 5 ∨ k = 6 ∨ k = 7 := by omega
  all_goals
    simp only [Nat.reduceMul, Nat.reduceSub, Int.reducePow, Nat.reducePow]
    omega
theorem lo_byte (H L v k : Nat) (hk : k < 8) (hL : L < 18446744073709551616) (h : H * 18446744073709551616 + L = v % 340282366920938463463374607431768211456) :
    ((L : Int) / (2 : Int) ^ (56 - 8 * k)) % 256 = ((UInt8.ofNat (v / 256 ^ (7 - k))).toNat : Int) := by
  rw [UInt8.toNat_ofNat']
  obtain rfl | rfl | rfl | rfl | rfl | rfl | rfl | rfl : k = 0 ∨ k = 1 ∨ k = 2 ∨ k = 3 ∨ k = 4 ∨ k = 5 ∨ k = 6 ∨ k = 7 := by omega
  all_goals
    simp only [Nat.reduceMul, Nat.reduceSub, Int.reducePow, Nat.reducePow]
    omega
end Go.Proofs.Ytklkehpcifnfkaa
