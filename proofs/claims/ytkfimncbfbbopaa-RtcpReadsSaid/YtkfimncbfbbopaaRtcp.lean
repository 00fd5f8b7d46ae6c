/- Reports as plain data: numbers read off bytes. No program in sight. -/
import Derived.Test.YtkfimncbfbbopaaSlv
set_option linter.unusedVariables false
namespace Go.Proofs.Ytkfimncbfbbopaa

/-- A number of bytes, the highest first. -/
def beV : List UInt8 → Nat := List.foldl (fun x c => 256 * x + c.toNat) 0
theorem beV_snoc (l : List UInt8) (c : UInt8) : beV (l ++ [c]) = 256 * beV l + c.toNat := by
  unfold beV
  rw [List.foldl_append]
  rfl
theorem beV_ltAux : ∀ (l : List UInt8) (x : Nat), List.foldl (fun x (c : UInt8) => 256 * x + c.toNat) x l < (x + 1) * 256 ^ l.length
  | [], x => by simp
  | c :: l, x => by
    rw [List.foldl_cons, List.length_cons, Nat.pow_succ]
    have h := beV_ltAux l (256 * x + c.toNat)
    have hc := UInt8.toNat_lt c
    have h2 : (256 * x + c.toNat + 1) * 256 ^ l.length ≤ (256 * (x + 1)) * 256 ^ l.length := Nat.mul_le_mul_right _ (by omega)
    have h3 : (x + 1) * (256 ^ l.length * 256) = (256 * (x + 1)) * 256 ^ l.length := by rw [Nat.mul_comm (256 ^ l.length) 256, ← Nat.mul_assoc, Nat.mul_comm (x + 1) 256]
    omega
theorem beV_lt (l : List UInt8) : beV l < 256 ^ l.length := by
  have := beV_ltAux l 0
  rw [Nat.zero_add, Nat.one_mul] at this
  exact this
/-- What a reader has left, and whether it met too little. -/
abbrev RS := List UInt8 × Bool
/-- Takes a number of k bytes. -/
def numS (k : Nat) (s : RS) : Nat × RS := if s.1.length < k then (0, ([], true)) else (beV (s.1.take k), (s.1.drop k, s.2))
theorem numS_lt (k : Nat) (s : RS) (hk : 0 < k) : (numS k s).1 < 256 ^ k := by
  unfold numS
  split
  · exact Nat.pow_pos (by decide)
  · have := beV_lt (s.1.take k)
    rw [List.length_take] at this
    rwa [Nat.min_eq_left (by omega)] at this
theorem numS_len (k : Nat) (s : RS) : (numS k s).2.1.length ≤ s.1.length := by
  unfold numS
  split
  · simp
  · simp
/-- Seven numbers of a block. -/
def blkS (s : RS) : List Nat × RS :=
  let a := numS 4 s
  let b := numS 1 a.2
  let c := numS 3 b.2
  let d := numS 4 c.2
  let e := numS 4 d.2
  let f := numS 4 e.2
  let g := numS 4 f.2
  ([a.1, b.1, c.1, d.1, e.1, f.1, g.1], g.2)
def blksS : Nat → RS → List (List Nat) × RS
  | 0, s => ([], s)
  | n + 1, s => ((blksS n s).1 ++ [(blkS (blksS n s).2).1], (blkS (blksS n s).2).2)
end Go.Proofs.Ytkfimncbfbbopaa
