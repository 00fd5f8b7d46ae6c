/- Slices of slices of bytes that the code itself makes. Conditions: as each says. -/
import Derived.Test.YtlapgccfgkokcaaOf
import Derived.Lib.SlBytesConst
import Derived.Stop.BytesEq
set_option linter.unusedVariables false
namespace Go.Proofs.Ytlapgccfgkokcaa
open Go.RowKit

/-- v is a slice of bytes that reads b. -/
def SlV (w : World) (v : Value) (b : List UInt8) : Prop := ∃ A c, v = .slice A b.length c ∧ b.length ≤ c ∧ Reads w w.heap.size 1 A b.length (b.map u8v)
section
variable {w w' : World} {g : Nat} {v v0 v1 v2 v3 : Value} {b b0 b1 b2 b3 : List UInt8}
theorem SlV.below (h : SlV w v b) (hb : Below w.heap.size w w') : SlV w' v b := by
  obtain ⟨A, c, e, hc, hr⟩ := h
  exact ⟨A, c, e, hc, (hr.below hb).more hb.size⟩
theorem SlV.nil (w : World) : SlV w (.slice none 0 0) [] := ⟨none, 0, rfl, Nat.le_refl _, Reads.none_⟩
theorem SlV.of {A : Option Addr} {n c : Nat} (hn : n = b.length) (hc : b.length ≤ c) (hr : Reads w w.heap.size 1 A b.length (b.map u8v)) : SlV w (.slice A n c) b := ⟨A, c, by rw [hn], hc, hr⟩
theorem SlV.own {base : Nat} (h : ByteRow w base v b) : SlV w v b := by
  obtain ⟨A, c, rfl⟩ := own_slice h
  exact ⟨A, c, rfl, own_cap h, Reads.of_own h⟩
/-- A literal's bytes. -/
theorem SlV.lit (w : World) (cs : Array Value) (fr : Nat × Nat) (n : Nat) (b : List UInt8) (hcs : cs.toList = b.map u8v) (hn : n = b.length) : SlV (w.alloc (.cells cs 5 fr)) (.slice (some ⟨w.heap.size, 0, none⟩) n n) b := by
  subst hn
  refine ⟨_, _, rfl, Nat.le_refl _, ⟨by simp, fun hn => ⟨_, rfl, by simp, fun j u hu => ?_⟩⟩⟩
  rw [Go.WideShapes.add_plain, Nat.zero_add, World.cell?_alloc_mark, ← Array.getElem?_toList, hcs]
  exact hu
theorem SlV.from_ {A : Option Addr} {n c k : Nat} (h : SlV w (.slice A n c) b) (hk : k ≤ n) : SlV w (.slice (cutA A c k) (n - k) (c - k)) (b.drop k) := by
  obtain ⟨A', c', e, hc, hr⟩ := h
  injection e with e1 e2 e3
  subst e1 e2 e3
  have h1 := hr.from_ hk hc
  refine ⟨_, _, by rw [List.length_drop], by rw [List.length_drop]; omega, ?_⟩
  rw [List.length_drop]
  exact h1
theorem SlV.to_ {A : Option Addr} {n c k : Nat} (h : SlV w (.slice A n c) b) (hk : k ≤ n) : SlV w (.slice (cutA A c 0) k c) (b.take k) := by
  obtain ⟨A', c', e, hc, hr⟩ := h
  injection e with e1 e2 e3
  subst e1 e2 e3
  have h1 := hr.to_k rfl hk hc
  have hl : (b.take k).length = k := by rw [List.length_take]; omega
  refine ⟨_, _, by rw [hl], by omega, ?_⟩
  rw [hl]
  exact h1
theorem SlV.src {gs gc n c : Nat} {A : Option Addr} (h : SlV w (.slice A n c) b) (hb : Below w.heap.size w w') (hw : w.heap.size ≤ gs) (h2 : w.heap.size ≤ gc) (h3 : ∀ g, v.ownBlock = some g → w.heap.size ≤ g) : Src w' gs gc v A c b ∧ n = b.length := by
  obtain ⟨A', c', e, hc, hr⟩ := h
  injection e with e1 e2 e3
  subst e1 e2 e3
  exact ⟨Src.of_below hc (hr.below hb) hb.size hw h2 h3, rfl⟩
theorem Parts.of_ {ps : List (List UInt8)} {vs : List Value} (hb : Blk w g 27 vs.toArray) (hv : ∀ i, i < ps.length → ∃ v, vs[i]? = some v ∧ SlV w v (ps.getD i [])) : Parts w (some ⟨g, 0, none⟩) ps := by
  intro hp
  refine ⟨g, 0, rfl, hb.lt, fun i hi => ?_⟩
  obtain ⟨v, hvi, A, c, rfl, hc, hr⟩ := hv i hi
  refine ⟨A, c, ?_, hc, hr⟩
  rw [Nat.zero_add, Blk.cell hb, List.getElem?_toArray]
  exact hvi
theorem Parts.one (hb : Blk w g 27 #[v0]) (h0 : SlV w v0 b0) : Parts w (some ⟨g, 0, none⟩) [b0] :=
  Parts.of_ (vs := [v0]) hb fun i hi => match i, hi with
    | 0, _ => ⟨_, rfl, h0⟩
theorem Parts.two (hb : Blk w g 27 #[v0, v1]) (h0 : SlV w v0 b0) (h1 : SlV w v1 b1) : Parts w (some ⟨g, 0, none⟩) [b0, b1] :=
  Parts.of_ (vs := [v0, v1]) hb fun i hi => match i, hi with
    | 0, _ => ⟨_, rfl, h0⟩
    | 1, _ => ⟨_, rfl, h1⟩
theorem Parts.three (hb : Blk w g 27 #[v0, v1, v2]) (h0 : SlV w v0 b0) (h1 : SlV w v1 b1) (h2 : SlV w v2 b2) : Parts w (some ⟨g, 0, none⟩) [b0, b1, b2] :=
  Parts.of_ (vs := [v0, v1, v2]) hb fun i hi => match i, hi with
    | 0, _ => ⟨_, rfl, h0⟩
    | 1, _ => ⟨_, rfl, h1⟩
    | 2, _ => ⟨_, rfl, h2⟩
end
/-- Of, called with a block of slices. -/
theorem of_blk {w : World} {g n c : Nat} {ps : List (List UInt8)} {O : List UInt8} (hO : O = shaS ps.flatten) (hp : Parts w (some ⟨g, 0, none⟩) ps) (hn : n = ps.length) (h : n < 9223372036854775808) :
    Calls Try.prog 22 #[.slice (some ⟨g, 0, none⟩) n c] w fun e w' => e = .returned (.agg (O.map u8v).toArray) ∧ Below w.heap.size w w' := by
  subst hn hO
  exact of_c ps _ c w hp h
theorem StrV.keep {M : Nat → Prop} {w w' : World} {B gs gc : Nat} {v : Value} {m : List UInt8} (h : StrV w B gs gc v m) (hsv : Sv M w w') (h1 : ¬ M gs) (h2 : ∀ g, v.ownBlock = some g → ¬ M g) (hci : CI w' gc) : StrV w' B gs gc v m :=
  ⟨hsv.blk h.1 h1, hsv.own h.2.1 h2, hci⟩
theorem Own3.low {w : World} {B gs gc x : Nat} {v : Value} {m : List UInt8} (hs : StrV w B gs gc v m) (hB : x ≤ B) (hgs : x ≤ gs) (hgc : x ≤ gc) : ∀ k, Own3 gs gc v k → x ≤ k := fun k hk => by
  rcases hk with h | h | h
  · omega
  · omega
  · have := (hs.2.1.lt k h).1; omega
/-- Add, of bytes that lie below. -/
theorem add_s {w wx : World} {B gs gc n c : Nat} {v : Value} {m b : List UInt8} {A : Option Addr} (hs : StrV wx B gs gc v m) (h : SlV w (.slice A n c) b) (hb : Below w.heap.size w wx) (hB : w.heap.size ≤ B) (hgs : w.heap.size ≤ gs) (hgc : w.heap.size ≤ gc) (hBx : B ≤ wx.heap.size) :
    Calls Try.prog 26 #[.pointer (some ⟨gs, 0, none⟩), .slice A n c] wx fun e w' => e = .returned (.tuple #[]) ∧ (∃ v', StrV w' B gs gc v' (m ++ b) ∧ (v'.ownBlock = v.ownBlock ∨ ∀ g, v'.ownBlock = some g → wx.heap.size ≤ g)) ∧ Sv (Own3 gs gc v) wx w' ∧ Below w.heap.size w w' := by
  obtain ⟨hsrc, hn⟩ := h.src (v := v) hb hgs hgc (fun g hg => Nat.le_trans hB (hs.2.1.lt g hg).1)
  subst hn
  refine (add_c m b v A B gs gc c wx hBx hs hsrc).mono ?_
  rintro e w' ⟨h1, h2, h3⟩
  exact ⟨h1, h2, h3, hb.trans (h3.toBelow (Own3.low hs hB hgs hgc) hb.size)⟩
/-- Sum, the stream kept. -/
theorem sum_s {w wx : World} {B gs gc : Nat} {v : Value} {m O : List UInt8} (hO : O = shaS m) (hs : StrV wx B gs gc v m) (hb : Below w.heap.size w wx) (hgc : w.heap.size ≤ gc) :
    Calls Try.prog 27 #[.pointer (some ⟨gs, 0, none⟩)] wx fun e w' => e = .returned (.agg (O.map u8v).toArray) ∧ StrV w' B gs gc v m ∧ Sv (fun k => k = gc) wx w' ∧ Below w.heap.size w w' := by
  subst hO
  refine (sum_c m v B gs gc wx hs).mono ?_
  rintro e w' ⟨h1, h2, h3⟩
  refine ⟨h1, hs.keep h3 (StrN.ne hs) (fun g hg e => StrN.own_c hs (by rw [← e]; exact hg)) h2, h3, hb.trans (h3.toBelow (B := w.heap.size) (fun k hk => by omega) hb.size)⟩
theorem eq_arr {O : List UInt8} (hO : O.length = 32) (w : World) : (Op.equalIn 10000 24 (.agg (O.map u8v).toArray) (.agg (O.map u8v).toArray)).run Try.prog w = .ok true w := by
  have := run_equalIn_bytes (P := Try.prog) w 9998 24 5 32 Try.underlying24 Try.underlying5 size_byte O O hO hO
  rwa [beq_self_eq_true] at this
end Go.Proofs.Ytlapgccfgkokcaa
