/- A block read and written whole. Conditions: none. -/
import Derived.Test.YtlapgccfgkokcaaAdd
set_option linter.unusedVariables false
namespace Go.Proofs.Ytlapgccfgkokcaa
open Go.RowKit
theorem blk_range {w : World} {g : Nat} {t : TypeId} {l : List Value} (h : Blk w g t l.toArray) : w.rangeAt g 0 l := fun j v hv => by
  rw [Nat.zero_add, Blk.cell h, List.getElem?_toArray]; exact hv
theorem blk_there {w : World} {g : Nat} {t : TypeId} {l : List Value} {n : Nat} (h : Blk w g t l.toArray) (hn : l.length = n) : w.there g 0 n := fun j hj => by
  rw [Nat.zero_add]
  exact ⟨by rw [Blk.cell h, List.getElem?_toArray, List.getElem?_eq_getElem (by omega)]; rfl, Blk.frozen h j⟩
theorem blk_setAllAux {g : Nat} {t : TypeId} : ∀ (l' pre l : List Value) (w : World), l.length = l'.length → Blk w g t (pre ++ l).toArray → Blk (w.setCells g pre.length l') g t (pre ++ l').toArray
  | [], pre, l, w, h, hb => by
    have : l = [] := List.eq_nil_of_length_eq_zero h
    subst this
    exact hb
  | y :: ys, pre, l, w, h, hb => by
    match l, h with
    | x :: xs, h =>
      have h1 := Blk.set_ hb pre.length y
      rw [List.setIfInBounds_toArray] at h1
      have e : (pre ++ x :: xs).set pre.length y = (pre ++ [y]) ++ xs := by simp
      rw [e] at h1
      have := blk_setAllAux ys (pre ++ [y]) xs _ (by simpa using h) h1
      rw [List.length_append] at this
      simp only [List.append_assoc, List.singleton_append] at this
      exact this
theorem blk_setAll {w : World} {g : Nat} {t : TypeId} {l l' : List Value} (h : Blk w g t l.toArray) (hl : l'.length = l.length) : Blk (w.setCells g 0 l') g t l'.toArray :=
  blk_setAllAux l' [] l w hl.symm h
theorem below_setCells {w W : World} (h : Below w.heap.size w W) {g : Nat} (hg : w.heap.size ≤ g) : ∀ (vs : List Value) (o : Nat), Below w.heap.size w (W.setCells g o vs)
  | [], _ => h
  | v :: vs, o => below_setCells (bset h hg v) hg vs (o + 1)
theorem bytes_one (l : List UInt8) : (l.map u8v).toArray.all (·.oneCell') = true := all_oneCell_toArray (u8_one l)
/-- The first k of n places made anew. -/
def upL {α : Type} (n k : Nat) (f old : Nat → α) : List α := (List.range n).map fun i => if i < k then f i else old i
section
variable {α : Type}
theorem upL_len (n k : Nat) (f old : Nat → α) : (upL n k f old).length = n := by simp [upL]
theorem upL_full (n : Nat) (f old : Nat → α) : upL n n f old = (List.range n).map f := by
  unfold upL
  refine List.map_congr_left fun i hi => ?_
  rw [if_pos (List.mem_range.1 hi)]
theorem upL_zero (n : Nat) (f old : Nat → α) : upL n 0 f old = (List.range n).map old := by simp [upL]
theorem upL_set {n k : Nat} (f old : Nat → α) (hk : k < n) : (upL n k f old).set k (f k) = upL n (k + 1) f old := by
  unfold upL
  refine List.ext_getElem? fun i => ?_
  rw [List.getElem?_set]
  by_cases h : k = i
  · subst h
    simp [hk]
  · rw [if_neg h]
    by_cases hi : i < n
    · rw [List.getElem?_map, List.getElem?_map, List.getElem?_range hi]
      show some _ = some _
      congr 1
      show (if i < k then f i else old i) = if i < k + 1 then f i else old i
      by_cases h2 : i < k
      · rw [if_pos h2, if_pos (by omega)]
      · rw [if_neg h2, if_neg (by omega)]
    · rw [List.getElem?_eq_none (by simp; omega), List.getElem?_eq_none (by simp; omega)]
theorem upL_getD (n k : Nat) (f old : Nat → α) (d : α) {i : Nat} (hi : i < n) : (upL n k f old).getD i d = if i < k then f i else old i := by
  rw [upL, List.getD_eq_getElem?_getD, List.getElem?_map, List.getElem?_range hi]; rfl
end
/-- A block of bytes. -/
def UB (w : World) (g : Nat) (t : TypeId) (l : List UInt8) : Prop := Blk w g t (l.map u8v).toArray
section
variable {w w' : World} {g : Nat} {t : TypeId} {l : List UInt8}
theorem UB.cell (h : UB w g t l) (i : Nat) (hi : i < l.length) : w.cell? ⟨g, i, none⟩ = some (.int .u8 ((l.getD i 0).toNat : Int)) := by
  rw [Blk.cell h i]
  simp [u8v, hi]
theorem UB.free (h : UB w g t l) (i : Nat) : w.frozen? ⟨g, i, none⟩ = false := Blk.frozen h i
theorem UB.set (h : UB w g t l) (i : Nat) (x : UInt8) : UB (w.setCell ⟨g, i, none⟩ (.int .u8 (x.toNat : Int))) g t (l.set i x) := by
  have := Blk.set_ h i (u8v x)
  unfold UB
  rw [List.map_set]
  rw [List.setIfInBounds_toArray] at this
  exact this
theorem UB.lt (h : UB w g t l) : g < w.heap.size := Blk.lt h
theorem UB.range (h : UB w g t l) : w.rangeAt g 0 (l.map u8v) := blk_range h
end
end Go.Proofs.Ytlapgccfgkokcaa
