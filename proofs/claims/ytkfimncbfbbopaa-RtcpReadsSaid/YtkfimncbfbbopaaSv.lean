/- Worlds that differ at named blocks alone. Conditions: none. -/
import Derived.Test.YtkfimncbfbbopaaW32
set_option linter.unusedVariables false
namespace Go.Proofs.Ytkfimncbfbbopaa
open Go.RowKit
/-- All but the blocks of M is as it was. -/
structure Sv (M : Nat → Prop) (w w' : World) : Prop where
  os : w'.os = w.os
  tape : w'.tape = w.tape
  output : w'.output = w.output
  size : w.heap.size ≤ w'.heap.size
  block : ∀ k, k < w.heap.size → ¬ M k → w'.heap[k]? = w.heap[k]?
section
variable {M M' : Nat → Prop} {w w' w'' : World}
theorem Sv.refl (M : Nat → Prop) (w : World) : Sv M w w := ⟨rfl, rfl, rfl, Nat.le_refl _, fun _ _ _ => rfl⟩
theorem Sv.of_below (h : Below w.heap.size w w') : Sv M w w' := ⟨h.os, h.tape, h.output, h.size, fun k hk _ => h.block k hk⟩
theorem Sv.mono (h : Sv M w w') (hM : ∀ k, k < w.heap.size → M k → M' k) : Sv M' w w' := ⟨h.os, h.tape, h.output, h.size, fun k hk hn => h.block k hk fun hm => hn (hM k hk hm)⟩
theorem Sv.trans (h : Sv M w w') (h' : Sv M' w' w'') (hM : ∀ k, k < w.heap.size → M' k → M k) : Sv M w w'' :=
  ⟨h'.os.trans h.os, h'.tape.trans h.tape, h'.output.trans h.output, Nat.le_trans h.size h'.size, fun k hk hn => (h'.block k (Nat.lt_of_lt_of_le hk h.size) fun hm => hn (hM k hk hm)).trans (h.block k hk hn)⟩
theorem Sv.trans_ (h : Sv M w w') (h' : Sv M w' w'') : Sv M w w'' := h.trans h' fun _ _ h => h
theorem Sv.call (h : Sv M w w') (hb : Below w'.heap.size w' w'') : Sv M w w'' := h.trans_ (Sv.of_below hb)
theorem Sv.drew (h : Sv M w w') : Sv M w w'.drew := ⟨h.os, h.tape, h.output, h.size, h.block⟩
theorem Sv.drewN (h : Sv M w w') (n : Nat) : Sv M w (w'.drewN n) := ⟨h.os, h.tape, h.output, h.size, h.block⟩
theorem Sv.alloc (h : Sv M w w') (o : Obj) : Sv M w (w'.alloc o) := h.call (balloc (Below.refl _ _) o)
theorem Sv.set (h : Sv M w w') {p : Addr} (hp : M p.block ∨ w.heap.size ≤ p.block) (u : Value) : Sv M w (w'.setCell p u) :=
  ⟨h.os, h.tape, h.output, by rw [World.size_setCell]; exact h.size, fun k hk hn => (Below.heap_setCell w' p u k (by
    rintro rfl
    rcases hp with hp | hp
    · exact hn hp
    · omega)).trans (h.block k hk hn)⟩
theorem Sv.grown (h : Sv M w w') {row : Option Nat} (hg : w'.grownBy w'' row) (hr : ∀ g, row = some g → M g ∨ w.heap.size ≤ g) : Sv M w w'' :=
  ⟨hg.os.trans h.os, hg.tape.trans h.tape, hg.output.trans h.output, Nat.le_trans h.size hg.size, fun k hk hn => (hg.block k (Nat.lt_of_lt_of_le hk h.size) fun e => by
    rcases hr k e.symm with h1 | h1
    · exact hn h1
    · omega).trans (h.block k hk hn)⟩
theorem Sv.toBelow (h : Sv M w w') {B : Nat} (hM : ∀ k, M k → B ≤ k) (hB : B ≤ w.heap.size) : Below B w w' := ⟨h.os, h.tape, h.output, h.size, fun k hk => h.block k (by omega) fun hm => by have := hM k hm; omega⟩
theorem Sv.blk {k : Nat} {t : TypeId} {cs : Array Value} (h : Sv M w w') (hb : Blk w k t cs) (hk : ¬ M k) : Blk w' k t cs := (h.block k hb.lt hk).trans hb
theorem Sv.cell {p : Addr} (h : Sv M w w') (hp : p.block < w.heap.size) (hg : ¬ M p.block) : w'.cell? p = w.cell? p := by
  unfold World.cell?
  rw [h.block _ hp hg]
theorem Sv.reads {size n : Nat} {A : Option Addr} {xs : List Value} (h : Sv M w w') (hr : Reads w w.heap.size size A n xs) (hA : ∀ ad, A = some ad → ¬ M ad.block) : Reads w' w'.heap.size size A n xs := by
  refine ⟨hr.1, fun hn => ?_⟩
  obtain ⟨ad, e, hb, hc⟩ := hr.2 hn
  refine ⟨ad, e, Nat.lt_of_lt_of_le hb h.size, fun j u hj => ?_⟩
  rw [h.cell (by rw [block_of_add]; exact hb) (by rw [block_of_add]; exact hA ad e)]
  exact hc j u hj
theorem Sv.own {base e size n : Nat} {v : Value} {xs : List Value} (h : Sv M w w') (ho : w.ownsRow base e size v n xs) (hv : ∀ g, v.ownBlock = some g → ¬ M g) : w'.ownsRow base e size v n xs := by
  refine ⟨ho.1, ?_⟩
  rcases ho.2 with h0 | ⟨g, cap, cur, rfl, hb, hc, h1, h2, h3, h4⟩
  · exact .inl h0
  · refine .inr ⟨g, cap, cur, rfl, hb, ?_, h1, h2, h3, h4⟩
    have hlt : g < w.heap.size := by
      rcases Nat.lt_or_ge g w.heap.size with hlt | hge
      · exact hlt
      · rw [Array.getElem?_eq_none hge] at hc; cases hc
    exact (h.block g hlt (hv g rfl)).trans hc
end
end Go.Proofs.Ytkfimncbfbbopaa
