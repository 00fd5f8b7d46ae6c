/- Rows of bytes of the call's own: plain facts. Conditions: none. -/
import Derived.Test.YtkfimncbfbbopaaApp
set_option linter.unusedVariables false
namespace Go.Proofs.Ytkfimncbfbbopaa
open Go.RowKit
attribute [local go_sem ↓] Go.wp_at_zero Go.wp_at_succ

theorem infoByte : (Try.prog.info? 5).map (fun i => (i.zero, i.size, i.bytes)) = some (some (.int .u8 0), 1, 1) := by kernel_rfl
theorem own_one (w : World) (e : TypeId) (u : Value) : (w.alloc (.cells #[u] e)).ownsRow w.heap.size e 1 (.slice (some ⟨w.heap.size, 0, none⟩) 1 1) 1 [u] :=
  ⟨by simp, .inr ⟨_, 1, #[u], rfl, Nat.le_refl _, by show (w.heap.push _)[w.heap.size]? = _; simp, by omega, by simp [maxLen], by simp, by simp⟩⟩
theorem own_lower {w : World} {B B' e size n : Nat} {v : Value} {xs : List Value} (h : w.ownsRow B' e size v n xs) (hB : B ≤ B') : w.ownsRow B e size v n xs :=
  ⟨h.1, h.2.imp id (fun ⟨g, cap, cur, a, b, c⟩ => ⟨g, cap, cur, a, Nat.le_trans hB b, c⟩)⟩
/-- What a row of the call's own grows by leaves all that was as it was. -/
theorem own_grow_below {b0 : Nat} {w wx w' : World} {e size n : Nat} {v : Value} {xs : List Value} (hb : Below b0 w wx) (ho : wx.ownsRow b0 e size v n xs) (hg : wx.grownBy w' v.ownBlock) (hle : b0 ≤ w.heap.size := by exact Nat.le_refl _) : Below b0 w w' :=
  ⟨hg.os.trans hb.os, hg.tape.trans hb.tape, hg.output.trans hb.output, Nat.le_trans hb.size hg.size, fun k hk => (hg.block k (by have := hb.size; omega) (fun e => by have := (ho.lt k e.symm).1; omega)).trans (hb.block k hk)⟩
theorem fresh_below {w w' : World} {o : Obj} (hg : (w.alloc o).grownBy w' (some w.heap.size)) : Below w.heap.size w w' :=
  ⟨hg.os, hg.tape, hg.output, Nat.le_trans (by simp) hg.size, fun k hk => (hg.block k (by simp; omega) (by simp; omega)).trans (Below.heap_alloc w o k hk)⟩
theorem Reads.to_ {w w' : World} {size n : Nat} {A : Option Addr} {xs : List Value} (h : Reads w w.heap.size size A n xs) (hb : Below w.heap.size w w') : Reads w' w'.heap.size size A n xs := (h.below hb).more hb.size
theorem u8_wrap (x : Nat) : IntKind.u8.wrap (x : Int) = ((UInt8.ofNat x).toNat : Int) := by
  rw [IntKind.wrap_u8]; simp
theorem byte_at (x s : Nat) : Value.int .u8 ((x : Int) / 2 ^ s % 256) = u8v (UInt8.ofNat (x / 2 ^ s)) := by
  unfold u8v
  rfl
/-- A slice of bytes and its row in memory. -/
def ByteRow (w : World) (B : Nat) (v : Value) (bs : List UInt8) : Prop := w.ownsRow B 5 1 v bs.length (bs.map u8v)
theorem own_cap {w : World} {B c n : Nat} {A : Option Addr} {bs : List UInt8} (h : ByteRow w B (.slice A n c) bs) : bs.length ≤ c := by
  rcases h.2 with ⟨e, h0⟩ | ⟨g, cap, cur, e, _, _, h1, _⟩
  · omega
  · injection e with _ _ e
    omega
theorem own_set_below {w : World} {B e size n : Nat} {v : Value} {xs : List Value} {p : Addr} (h : w.ownsRow B e size v n xs) (hp : p.block < B) (u : Value) : (w.setCell p u).ownsRow B e size v n xs := by
  rcases h with ⟨h1, h⟩
  refine ⟨h1, ?_⟩
  rcases h with h | ⟨g, cap, cur, e1, e2, e3, e4⟩
  · exact .inl h
  · refine .inr ⟨g, cap, cur, e1, e2, ?_, e4⟩
    exact (Below.heap_setCell w p u g (by omega)).trans e3
theorem own_lit (w : World) (e : TypeId) (C : Array Value) (n : Nat) (hn : n = C.size) (hm : n ≤ 1000) : (w.alloc (.cells C e)).ownsRow w.heap.size e 1 (.slice (some ⟨w.heap.size, 0, none⟩) n n) n C.toList :=
  ⟨by simp [hn], .inr ⟨_, n, C, rfl, Nat.le_refl _, by show (w.heap.push _)[w.heap.size]? = _; simp, Nat.le_refl _, by simp only [maxLen]; omega, by omega, by rw [Nat.mul_one, hn, ← Array.length_toList, List.take_length]⟩⟩
theorem lit_reads (w : World) (e : TypeId) (C : Array Value) (xs : List UInt8) (n : Nat) (hC : C.toList = xs.map u8v) (hn : xs.length = n) (hm : n ≤ 1000) :
    Reads (w.alloc (.cells C e)) (w.alloc (.cells C e)).heap.size 1 (some ⟨w.heap.size, 0, none⟩) n (xs.map u8v) := by
  have hs : n = C.size := by rw [← hn, ← Array.length_toList, hC, List.length_map]
  rw [← hC]
  exact Reads.of_own (own_lit w e C n hs hm)
theorem reads_take {w : World} {B n r : Nat} {A : Option Addr} {bs : List UInt8} (h : Reads w B 1 A n (bs.map u8v)) (hn : bs.length = n) (hr : r ≤ n) : Reads w B 1 A (bs.take r).length ((bs.take r).map u8v) := by
  refine ⟨by simp, fun h0 => ?_⟩
  rw [List.length_take] at h0
  obtain ⟨ad, e, hb, hc⟩ := h.2 (by omega)
  refine ⟨ad, e, hb, fun j u hj => hc j u ?_⟩
  rw [List.map_take, List.getElem?_take] at hj
  split at hj
  · exact hj
  · cases hj
theorem head_cells {w : World} {B : Nat} {A : Option Addr} {bs : List UInt8} (hr : Reads w B 1 A bs.length (bs.map u8v)) (hi : 0 < bs.length) :
    ∃ b off, A = some ⟨b, off, none⟩ ∧ b < B ∧ ∀ i, i < bs.length → w.cell? ⟨b, off + i, none⟩ = some (.int .u8 ((bs.getD i 0).toNat : Int)) := by
  obtain ⟨ad, rfl, hadl, hcell⟩ := hr.2 (by omega)
  have c00 := hcell 0 (u8v (bs[0]'(by omega))) (by rw [List.getElem?_map, List.getElem?_eq_getElem (by omega)]; rfl)
  obtain ⟨b, off, rfl⟩ := addr_plain c00
  refine ⟨b, off, rfl, hadl, fun i hi => ?_⟩
  have := hcell i (u8v (bs.getD i 0)) (by rw [List.getElem?_map, List.getElem?_eq_getElem (by omega), List.getD_eq_getElem?_getD, List.getElem?_eq_getElem (by omega)]; rfl)
  rwa [Go.WideShapes.add_plain] at this
end Go.Proofs.Ytkfimncbfbbopaa
