/- Bytes as numbers, and rows of bytes in a block: plain facts. Conditions: none. -/
import Derived.Test.YtkfimncbfbbopaaOwn
import Derived.Laws.BitsAllLaws
import Derived.Lib.EndianBits
import Derived.Deep.MidRow
set_option linter.unusedVariables false
namespace Go.Proofs.Ytkfimncbfbbopaa
open Go.RowKit
theorem U8.xor (a b : UInt8) : bits .xor .u8 (a.toNat : Int) (b.toNat : Int) = ((a ^^^ b).toNat : Int) := by
  rw [u8_xor_nat _ _ (UInt8.toNat_lt _) (UInt8.toNat_lt _), UInt8.toNat_xor]
theorem U8.and (a b : UInt8) : bits .and .u8 (a.toNat : Int) (b.toNat : Int) = ((a &&& b).toNat : Int) := by
  rw [u8_and_nat _ _ (UInt8.toNat_lt _) (UInt8.toNat_lt _), UInt8.toNat_and]
theorem U8.or (a b : UInt8) : bits .or .u8 (a.toNat : Int) (b.toNat : Int) = ((a ||| b).toNat : Int) := by
  rw [u8_or_nat _ _ (UInt8.toNat_lt _) (UInt8.toNat_lt _), UInt8.toNat_or]
theorem U8.shl1 (a : UInt8) : (a.toNat : Int) * (2 : Int) % (256 : Int) = ((a <<< 1).toNat : Int) := by
  rw [UInt8.toNat_shiftLeft]
  simp [Nat.shiftLeft_eq]
theorem U8.shr1 (a : UInt8) : (a.toNat : Int) / (2 : Int) = ((a >>> 1).toNat : Int) := by
  rw [UInt8.toNat_shiftRight]
  simp [Nat.shiftRight_eq_div_pow]
theorem U8.lt (a : UInt8) : (a.toNat : Int) < 256 := by have := UInt8.toNat_lt a; omega
theorem U8.eq (a b : UInt8) : ((a.toNat : Int) == (b.toNat : Int)) = (a == b) := by
  rw [Bool.eq_iff_iff]
  rw [beq_iff_eq, beq_iff_eq]
  exact ⟨fun h => UInt8.toNat_inj.1 (by omega), fun h => by rw [h]⟩
/-- A block that holds just these bytes. -/
def BB (w : World) (g : Nat) (t : TypeId) (l : List UInt8) : Prop := Blk w g t (l.map u8v).toArray
section
variable {w w' : World} {g : Nat} {t : TypeId} {l : List UInt8}
theorem BB.cell (h : BB w g t l) (i : Nat) (hi : i < l.length) : w.cell? ⟨g, i, none⟩ = some (.int .u8 ((l.getD i 0).toNat : Int)) := by
  rw [Blk.cell h i]
  simp [u8v, hi]
theorem BB.free (h : BB w g t l) (i : Nat) : w.frozen? ⟨g, i, none⟩ = false := Blk.frozen h i
theorem BB.new (w : World) (t : TypeId) (l : List UInt8) : BB (w.alloc (.cells (l.map u8v).toArray t)) w.heap.size t l := Blk.new w t _
theorem BB.set (h : BB w g t l) (i : Nat) (x : UInt8) : BB (w.setCell ⟨g, i, none⟩ (.int .u8 (x.toNat : Int))) g t (l.set i x) := by
  have := Blk.set_ h i (u8v x)
  unfold BB
  rw [List.map_set]
  rw [List.setIfInBounds_toArray] at this
  exact this
theorem BB.lt (h : BB w g t l) : g < w.heap.size := Blk.lt h
theorem BB.below (h : BB w g t l) (hb : Below w.heap.size w w') : BB w' g t l := Blk.below h hb
theorem BB.belowB {B : Nat} (h : BB w g t l) (hb : Below B w w') (hg : g < B) : BB w' g t l := Blk.belowB h hb hg
theorem BB.alloc (h : BB w g t l) (o : Obj) : BB (w.alloc o) g t l := Blk.alloc h o
theorem BB.drew (h : BB w g t l) : BB w.drew g t l := h
theorem BB.drewN (h : BB w g t l) (n : Nat) : BB (w.drewN n) g t l := h
theorem BB.far (h : BB w g t l) {p : Addr} (hp : g ≠ p.block) (u : Value) : BB (w.setCell p u) g t l := Blk.far h hp u
theorem BB.range (h : BB w g t l) : w.rangeAt g 0 (l.map u8v) := fun j v hv => by
  rw [Nat.zero_add, Blk.cell h j]
  simpa using hv
end
/-- The first k of n places made anew. -/
def upTo (n k : Nat) (f old : Nat → UInt8) : List UInt8 := (List.range n).map fun i => if i < k then f i else old i
theorem upTo_len (n k : Nat) (f old : Nat → UInt8) : (upTo n k f old).length = n := by simp [upTo]
theorem upTo_zero (n : Nat) (f old : Nat → UInt8) : upTo n 0 f old = (List.range n).map old := by simp [upTo]
theorem upTo_full (n : Nat) (f old : Nat → UInt8) : upTo n n f old = (List.range n).map f := by
  unfold upTo
  refine List.map_congr_left fun i hi => ?_
  rw [if_pos (List.mem_range.1 hi)]
theorem upTo_set {n k : Nat} (f old : Nat → UInt8) (hk : k < n) : (upTo n k f old).set k (f k) = upTo n (k + 1) f old := by
  unfold upTo
  refine List.ext_getElem? fun i => ?_
  rw [List.getElem?_set]
  by_cases h : k = i
  · subst h
    simp [hk]
  · by_cases hi : i < n
    · have e : (i < k + 1) = (i < k) := by apply propext; omega
      simp [h, hi, e]
    · simp [h, hi]
theorem upTo_getD {n k i : Nat} (f old : Nat → UInt8) (hi : i < n) : (upTo n k f old).getD i 0 = if i < k then f i else old i := by
  simp [upTo, List.getD_eq_getElem?_getD, hi]
theorem list_range (l : List UInt8) : (List.range l.length).map (fun i => l.getD i 0) = l := by
  refine List.ext_getElem? fun i => ?_
  by_cases hi : i < l.length
  · simp [hi]
  · simp [hi]
theorem size_byte (w : World) : (sizeOf 5).run Try.prog w = .ok 1 w := by kernel_rfl
theorem agg_byte (w : World) : (isAgg 5).run Try.prog w = .ok false w := by kernel_rfl
/-- An array of bytes, by value, at a place inside. -/
theorem run_index_row (w : World) (t : TypeId) (n : Nat) (L : List UInt8) (k : Nat) (h : Try.prog.underlying t = some (.array n 5)) (hk : k < n) (hn : L.length = n) (x : UInt8) (hx : L.getD k 0 = x) :
    (Instr.index t (.agg (L.map u8v).toArray) (.int .i64 (k : Int))).run Try.prog w = .ok (.int .u8 (x.toNat : Int)) w := by
  have h0 : (0 ≤ (k : Int) ∧ (k : Int) < (n : Int)) := by omega
  have hl : L[k]? = some x := by rw [← hx, List.getD_eq_getElem?_getD, List.getElem?_eq_getElem (by omega)]; rfl
  simp [Instr.index, run_underlying h, asIntOf, hk, go_sem, hl, u8v]
/-- A result that lives in a variable. -/
theorem results_one {P : Program} {fn : Func} {t : Tmp} {ty : TypeId} (h : fn.results = #[.cell t ty]) (tmps : Array Value) (w : World) (b : Nat) (v : Value) (ht : tmps.getD t undef = .pointer (some ⟨b, 0, none⟩))
    (hl : (loadVar ty ⟨b, 0, none⟩).run P w = .ok v w) : (results fn tmps).run P w = .ok v w := by
  have ha : (asAddr (tmps.getD t undef)).run P w = .ok ⟨b, 0, none⟩ w := by rw [ht]; rfl
  simp [results, h]
  rw [Array.getD_eq_getD_getElem?] at ha
  rw [ha]
  exact hl
end Go.Proofs.Ytkfimncbfbbopaa
