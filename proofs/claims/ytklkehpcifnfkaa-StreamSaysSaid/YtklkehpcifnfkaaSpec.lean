/- AES's rounds and key words as plain data, and a key in memory. -/
import Derived.Test.YtklkehpcifnfkaaSlow
set_option linter.unusedVariables false
namespace Go.Proofs.Ytklkehpcifnfkaa
open Go.RowKit

def addR (x W : List UInt8) (r : Nat) : List UInt8 := (List.range 16).map fun i => x.getD i 0 ^^^ W.getD (16 * r + i) 0
def sgm (i : Nat) : Nat := (i + 4 * (i % 4)) % 16
def movS (x : List UInt8) : List UInt8 := (List.range 16).map fun i => sb (x.getD (sgm i) 0)
def mixF (x : List UInt8) (i : Nat) : UInt8 :=
  tw (x.getD i 0) ^^^ tw (x.getD (i - i % 4 + (i + 1) % 4) 0) ^^^ x.getD (i - i % 4 + (i + 1) % 4) 0 ^^^ x.getD (i - i % 4 + (i + 2) % 4) 0 ^^^ x.getD (i - i % 4 + (i + 3) % 4) 0
def mixS (x : List UInt8) : List UInt8 := (List.range 16).map (mixF x)
theorem addR_len (x W : List UInt8) (r : Nat) : (addR x W r).length = 16 := by simp [addR]
theorem movS_len (x : List UInt8) : (movS x).length = 16 := by simp [movS]
theorem mixS_len (x : List UInt8) : (mixS x).length = 16 := by simp [mixS]
/-- The state behind round r of 'last' rounds. -/
def rndS (W : List UInt8) (last r : Nat) (x : List UInt8) : List UInt8 := addR (if r < last then mixS (movS x) else movS x) W r
def stS (W : List UInt8) (last : Nat) (x : List UInt8) : Nat → List UInt8
  | 0 => addR x W 0
  | r + 1 => rndS W last (r + 1) (stS W last x r)
theorem stS_len (W : List UInt8) (last : Nat) (x : List UInt8) : ∀ r, (stS W last x r).length = 16
  | 0 => addR_len _ _ _
  | r + 1 => addR_len _ _ _
def blockS (W : List UInt8) (x : List UInt8) : List UInt8 := stS W (W.length / 16 - 1) x (W.length / 16 - 1)
theorem blockS_len (W x : List UInt8) : (blockS W x).length = 16 := stS_len _ _ _ _

/-- One word more: what goes into it beside the word n before. -/
def kwT (n i : Nat) (c : UInt8) (W : List UInt8) : List UInt8 :=
  if i % n = 0 then [sb (W.getD (4 * i - 3) 0) ^^^ c, sb (W.getD (4 * i - 2) 0), sb (W.getD (4 * i - 1) 0), sb (W.getD (4 * i - 4) 0)]
  else if 6 < n ∧ i % n = 4 then [sb (W.getD (4 * i - 4) 0), sb (W.getD (4 * i - 3) 0), sb (W.getD (4 * i - 2) 0), sb (W.getD (4 * i - 1) 0)]
  else [W.getD (4 * i - 4) 0, W.getD (4 * i - 3) 0, W.getD (4 * i - 2) 0, W.getD (4 * i - 1) 0]
def kwN (n i : Nat) (c : UInt8) (W : List UInt8) : List UInt8 := (List.range 4).map fun j => (kwT n i c W).getD j 0 ^^^ W.getD (4 * (i - n) + j) 0
/-- The words and the round's number behind k words more than the key's n. -/
def schS (n : Nat) (b : List UInt8) : Nat → UInt8 × List UInt8
  | 0 => (1, b)
  | k + 1 => ((if (n + k) % n = 0 then tw (schS n b k).1 else (schS n b k).1), (schS n b k).2 ++ kwN n (n + k) (schS n b k).1 (schS n b k).2)
theorem kwN_len (n i : Nat) (c : UInt8) (W : List UInt8) : (kwN n i c W).length = 4 := by simp [kwN]
theorem schS_len (n : Nat) (b : List UInt8) : ∀ k, (schS n b k).2.length = b.length + 4 * k
  | 0 => rfl
  | k + 1 => by rw [schS, List.length_append, schS_len n b k, kwN_len]; omega
/-- A key's words, all. -/
def keyS (b : List UInt8) : List UInt8 := (schS (b.length / 4) b (4 * (b.length / 4 + 7) - b.length / 4)).2
theorem keyS_len {b : List UInt8} (hb : b.length = 16 ∨ b.length = 32) : (keyS b).length = 16 * (b.length / 4 + 7) := by
  rw [keyS, schS_len]
  rcases hb with h | h <;> rw [h]

/-- A key in memory. -/
def KeyIs (w : World) (B g : Nat) (W : List UInt8) (n : Nat) : Prop :=
  ∃ A c, B ≤ g ∧ W.length = 4 * n ∧ Tab w g 73 (.int .u32 1) (.int .i32 0) (.int .u32 0) sbL [.slice A n c] ∧ w.ownsRow B 76 4 (.slice A n c) n (W.map u8v)
theorem KeyIs.below {w w' : World} {B g n : Nat} {W : List UInt8} (h : KeyIs w B g W n) (hb : Below w.heap.size w w') : KeyIs w' B g W n := by
  obtain ⟨A, c, h0, h1, h2, h3⟩ := h
  exact ⟨A, c, h0, h1, h2.below hb, own_below h3 hb⟩
theorem sbL_len : sbL.length = 256 := by decide +kernel
theorem Tab.suf0 {w : World} {g : Nat} {t : TypeId} {d s z u : Value} {l : List UInt8} (h : Tab w g t d s z l [u]) : w.cell? ⟨g, 3 + l.length, none⟩ = some u := by
  rw [Blk.cell h, show 3 + l.length = l.length + 3 by omega]
  simp
/-- A key's words as cells. -/
theorem KeyIs.cells {w : World} {B g n : Nat} {W : List UInt8} (h : KeyIs w B g W n) (hn : 0 < n) :
    ∃ gw c, B ≤ gw ∧ gw < w.heap.size ∧ w.cell? ⟨g, 259, none⟩ = some (.slice (some ⟨gw, 0, none⟩) n c) ∧ ∀ i, i < W.length → w.cell? ⟨gw, i, none⟩ = some (.int .u8 ((W.getD i 0).toNat : Int)) := by
  obtain ⟨A, c, h0, h1, h2, h3⟩ := h
  have hr := Reads.of_own h3
  have hs := h2.suf0
  rw [sbL_len] at hs
  rcases h3.2 with ⟨e, h0⟩ | ⟨gw, cap, cur, e, hb, _⟩
  · omega
  · injection e with e1 e2 e3
    subst e1 e3
    obtain ⟨ad, e, hlt, hc⟩ := hr.2 hn
    injection e with e
    subst e
    refine ⟨gw, _, hb, hlt, hs, fun i hi => ?_⟩
    have := hc i (u8v (W.getD i 0)) (by rw [List.getElem?_map, List.getElem?_eq_getElem hi, List.getD_eq_getElem?_getD, List.getElem?_eq_getElem hi]; rfl)
    rw [Go.WideShapes.add_plain, Nat.zero_add] at this
    exact this
end Go.Proofs.Ytklkehpcifnfkaa
