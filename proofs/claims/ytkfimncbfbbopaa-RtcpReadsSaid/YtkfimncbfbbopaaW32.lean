/- Words of 32 bits as numbers, and rows of them in a block: plain facts. Conditions: none. -/
import Derived.Test.YtkfimncbfbbopaaU8
set_option linter.unusedVariables false
namespace Go.Proofs.Ytkfimncbfbbopaa
open Go.RowKit
def u32v (x : UInt32) : Value := .int .u32 (x.toNat : Int)
theorem W.lt (a : UInt32) : (a.toNat : Int) < 4294967296 := by have := UInt32.toNat_lt a; omega
theorem W.xor (a b : UInt32) : bits .xor .u32 (a.toNat : Int) (b.toNat : Int) = ((a ^^^ b).toNat : Int) := by
  rw [u32_xor_nat _ _ (UInt32.toNat_lt _) (UInt32.toNat_lt _), UInt32.toNat_xor]
theorem W.and (a b : UInt32) : bits .and .u32 (a.toNat : Int) (b.toNat : Int) = ((a &&& b).toNat : Int) := by
  rw [u32_and_nat _ _ (UInt32.toNat_lt _) (UInt32.toNat_lt _), UInt32.toNat_and]
theorem W.or (a b : UInt32) : bits .or .u32 (a.toNat : Int) (b.toNat : Int) = ((a ||| b).toNat : Int) := by
  rw [u32_or_nat _ _ (UInt32.toNat_lt _) (UInt32.toNat_lt _), UInt32.toNat_or]
theorem W.wrap (z : Int) : IntKind.u32.wrap z = z % 4294967296 := by simp [IntKind.wrap, IntKind.bits, IntKind.signed]
theorem W.add (a b : UInt32) : ((a.toNat : Int) + (b.toNat : Int)) % 4294967296 = ((a + b).toNat : Int) := by
  rw [UInt32.toNat_add]; omega
theorem W.addw (a b : UInt32) : IntKind.u32.wrap ((a.toNat : Int) + (b.toNat : Int)) = ((a + b).toNat : Int) := by
  rw [W.wrap, W.add]
theorem W.shr (a : UInt32) (n : Nat) (hn : n < 32) : (a.toNat : Int) / (2 : Int) ^ n = ((a >>> UInt32.ofNat n).toNat : Int) := by
  rw [UInt32.toNat_shiftRight, UInt32.toNat_ofNat', Nat.mod_eq_of_lt (by omega : n < 2 ^ 32), Nat.mod_eq_of_lt hn, Nat.shiftRight_eq_div_pow, Int.natCast_ediv, Int.natCast_pow]
  rfl
theorem W.shl (a : UInt32) (n : Nat) (hn : n < 32) : (a.toNat : Int) * (2 : Int) ^ n % 4294967296 = ((a <<< UInt32.ofNat n).toNat : Int) := by
  rw [UInt32.toNat_shiftLeft, UInt32.toNat_ofNat', Nat.mod_eq_of_lt (by omega : n < 2 ^ 32), Nat.mod_eq_of_lt hn, Nat.shiftLeft_eq]
  have e : (a.toNat : Int) * (2 : Int) ^ n = ((a.toNat * 2 ^ n : Nat) : Int) := by rw [Int.natCast_mul, Int.natCast_pow]; rfl
  rw [e]
  generalize a.toNat * 2 ^ n = z
  omega
theorem W.not (a : UInt32) : (4294967295 : Int) - (a.toNat : Int) = ((~~~a).toNat : Int) := by
  rw [UInt32.toNat_not]
  have := UInt32.toNat_lt a
  show (4294967295 : Int) - _ = ((4294967296 - 1 - a.toNat : Nat) : Int)
  omega
theorem W.byte (x : UInt32) (n : Nat) (hn : n < 32) : (x.toNat : Int) / (2 : Int) ^ n % 256 = (((x >>> UInt32.ofNat n).toUInt8).toNat : Int) := by
  rw [W.shr x n hn]
  rfl
theorem W.of_byte (b : UInt8) : ((b.toUInt32).toNat : Int) = (b.toNat : Int) := by rw [UInt8.toNat_toUInt32]
/-- A block that holds just these words. -/
def WB (w : World) (g : Nat) (t : TypeId) (l : List UInt32) : Prop := Blk w g t (l.map u32v).toArray
section
variable {w w' : World} {g : Nat} {t : TypeId} {l : List UInt32}
theorem WB.cell (h : WB w g t l) (i : Nat) (hi : i < l.length) : w.cell? ⟨g, i, none⟩ = some (.int .u32 ((l.getD i 0).toNat : Int)) := by
  rw [Blk.cell h i]
  simp [u32v, hi]
theorem WB.free (h : WB w g t l) (i : Nat) : w.frozen? ⟨g, i, none⟩ = false := Blk.frozen h i
theorem WB.new (w : World) (t : TypeId) (l : List UInt32) : WB (w.alloc (.cells (l.map u32v).toArray t)) w.heap.size t l := Blk.new w t _
theorem WB.set (h : WB w g t l) (i : Nat) (x : UInt32) : WB (w.setCell ⟨g, i, none⟩ (.int .u32 (x.toNat : Int))) g t (l.set i x) := by
  have := Blk.set_ h i (u32v x)
  unfold WB
  rw [List.map_set]
  rw [List.setIfInBounds_toArray] at this
  exact this
theorem WB.lt (h : WB w g t l) : g < w.heap.size := Blk.lt h
theorem WB.below (h : WB w g t l) (hb : Below w.heap.size w w') : WB w' g t l := Blk.below h hb
theorem WB.alloc (h : WB w g t l) (o : Obj) : WB (w.alloc o) g t l := Blk.alloc h o
theorem WB.drew (h : WB w g t l) : WB w.drew g t l := h
theorem WB.drewN (h : WB w g t l) (n : Nat) : WB (w.drewN n) g t l := h
theorem WB.far (h : WB w g t l) {p : Addr} (hp : g ≠ p.block) (u : Value) : WB (w.setCell p u) g t l := Blk.far h hp u
theorem WB.range (h : WB w g t l) : w.rangeAt g 0 (l.map u32v) := fun j v hv => by
  rw [Nat.zero_add, Blk.cell h j]
  simpa using hv
end
theorem u32_one (l : List UInt32) : ∀ u ∈ l.map u32v, u.oneCell' = true := by
  intro u hu
  obtain ⟨x, _, rfl⟩ := List.mem_map.1 hu
  rfl
/-- The first k of n places made anew. -/
def upW (n k : Nat) (f old : Nat → UInt32) : List UInt32 := (List.range n).map fun i => if i < k then f i else old i
theorem upW_len (n k : Nat) (f old : Nat → UInt32) : (upW n k f old).length = n := by simp [upW]
theorem upW_zero (n : Nat) (f old : Nat → UInt32) : upW n 0 f old = (List.range n).map old := by simp [upW]
theorem upW_full (n : Nat) (f old : Nat → UInt32) : upW n n f old = (List.range n).map f := by
  unfold upW
  refine List.map_congr_left fun i hi => ?_
  rw [if_pos (List.mem_range.1 hi)]
theorem upW_set {n k : Nat} (f old : Nat → UInt32) (hk : k < n) : (upW n k f old).set k (f k) = upW n (k + 1) f old := by
  unfold upW
  refine List.ext_getElem? fun i => ?_
  rw [List.getElem?_set]
  by_cases h : k = i
  · subst h
    simp [hk]
  · by_cases hi : i < n
    · rw [if_neg h]
      simp only [List.getElem?_map, List.getElem?_range hi, Option.map_some]
      congr 1
      by_cases h2 : i < k
      · rw [if_pos h2, if_pos (by omega)]
      · rw [if_neg h2, if_neg (by omega)]
    · rw [if_neg h, List.getElem?_eq_none (by simp; omega), List.getElem?_eq_none (by simp; omega)]
theorem upW_getD {n k i : Nat} (f old : Nat → UInt32) (hi : i < n) : (upW n k f old).getD i 0 = if i < k then f i else old i := by
  simp [upW, List.getD_eq_getElem?_getD, hi]
theorem listW_range (l : List UInt32) : (List.range l.length).map (fun i => l.getD i 0) = l := by
  refine List.ext_getElem? fun i => ?_
  by_cases hi : i < l.length
  · simp [hi, List.getD_eq_getElem?_getD]
  · rw [List.getElem?_eq_none (by simp; omega), List.getElem?_eq_none (by omega)]
end Go.Proofs.Ytkfimncbfbbopaa
