/- Bytes that a stream is given: where they lie, cut, kept. Conditions: as each says. -/
import Derived.Test.YtlapgccfgkokcaaStream
import Derived.Test.YtlapgccfgkokcaaCut
set_option linter.unusedVariables false
namespace Go.Proofs.Ytlapgccfgkokcaa
open Go.RowKit

/-- The slice A, of capacity c, reads as b, away from the stream at gs, its constants and its own row. -/
def Src (w : World) (gs gc : Nat) (v : Value) (A : Option Addr) (c : Nat) (b : List UInt8) : Prop :=
  b.length ≤ c ∧ (0 < b.length → ∃ gb o, A = some ⟨gb, o, none⟩ ∧ gb < w.heap.size ∧ gb ≠ gs ∧ gb ≠ gc ∧ v.ownBlock ≠ some gb ∧ ∀ i, i < b.length → w.cell? ⟨gb, o + i, none⟩ = some (.int .u8 ((b.getD i 0).toNat : Int)))
section
variable {w w' : World} {gs gc c : Nat} {v v' : Value} {A : Option Addr} {b : List UInt8}
theorem Src.nil (w : World) (gs gc : Nat) (v : Value) (A : Option Addr) (c : Nat) : Src w gs gc v A c [] := ⟨Nat.zero_le _, fun h => absurd h (by simp)⟩
theorem Src.reads (h : Src w gs gc v A c b) : Reads w w.heap.size 1 A b.length (b.map u8v) := by
  refine ⟨by simp, fun hp => ?_⟩
  obtain ⟨gb, o, rfl, h1, h2, h3, h4, h5⟩ := h.2 hp
  refine ⟨_, rfl, h1, fun j u hj => ?_⟩
  rw [Go.WideShapes.add_plain]
  rw [List.getElem?_map] at hj
  have hl : j < b.length := by
    rcases Nat.lt_or_ge j b.length with hl | hl
    · exact hl
    · rw [List.getElem?_eq_none hl] at hj; cases hj
  rw [List.getElem?_eq_getElem hl] at hj
  injection hj with hj
  subst hj
  have := h5 j hl
  rwa [List.getD_eq_getElem?_getD, List.getElem?_eq_getElem hl] at this
theorem Src.of_reads (hc : b.length ≤ c) (h : Reads w w.heap.size 1 A b.length (b.map u8v)) (hA : ∀ ad, A = some ad → ad.block ≠ gs ∧ ad.block ≠ gc ∧ v.ownBlock ≠ some ad.block) : Src w gs gc v A c b := by
  refine ⟨hc, fun hp => ?_⟩
  obtain ⟨gb, o, rfl, h1, h2⟩ := head_cells h hp
  obtain ⟨k1, k2, k3⟩ := hA _ rfl
  exact ⟨gb, o, rfl, h1, k1, k2, k3, h2⟩
theorem Src.drop (h : Src w gs gc v A c b) {k : Nat} (hk : k ≤ b.length) : Src w gs gc v (cutA A c k) (c - k) (b.drop k) := by
  have hc := h.1
  refine ⟨by rw [List.length_drop]; omega, fun hp => ?_⟩
  rw [List.length_drop] at hp
  obtain ⟨gb, o, rfl, h1, h2, h3, h4, h5⟩ := h.2 (by omega)
  refine ⟨gb, o + k, ?_, h1, h2, h3, h4, fun i hi => ?_⟩
  · unfold cutA
    rw [if_neg (by omega)]
    simp [Go.WideShapes.add_plain]
  · rw [List.length_drop] at hi
    rw [Nat.add_assoc, h5 (k + i) (by omega)]
    simp [List.getD_eq_getElem?_getD, List.getElem?_drop]
theorem Src.take (h : Src w gs gc v A c b) {k : Nat} (hk : k ≤ b.length) : Src w gs gc v (cutA A c 0) c (b.take k) := by
  have hc := h.1
  refine ⟨by rw [List.length_take]; omega, fun hp => ?_⟩
  rw [List.length_take] at hp
  obtain ⟨gb, o, rfl, h1, h2, h3, h4, h5⟩ := h.2 (by omega)
  refine ⟨gb, o, ?_, h1, h2, h3, h4, fun i hi => ?_⟩
  · unfold cutA
    split
    · rfl
    · simp [Go.WideShapes.add_plain]
  · rw [List.length_take] at hi
    rw [h5 i (by omega)]
    simp [List.getD_eq_getElem?_getD, show i < k by omega]
/-- What a stream may touch: itself, its constants, its own row. -/
def Own3 (gs gc : Nat) (v : Value) (k : Nat) : Prop := k = gs ∨ k = gc ∨ v.ownBlock = some k
theorem Src.sv {M : Nat → Prop} (h : Src w gs gc v A c b) (hs : Sv M w w') (hM : ∀ k, k < w.heap.size → M k → Own3 gs gc v k) (hv : v'.ownBlock = v.ownBlock ∨ ∀ g, v'.ownBlock = some g → w.heap.size ≤ g) : Src w' gs gc v' A c b := by
  refine ⟨h.1, fun hp => ?_⟩
  obtain ⟨gb, o, rfl, h1, h2, h3, h4, h5⟩ := h.2 hp
  refine ⟨gb, o, rfl, Nat.lt_of_lt_of_le h1 hs.size, h2, h3, ?_, fun i hi => ?_⟩
  · rcases hv with hv | hv
    · rw [hv]; exact h4
    · intro e
      have := hv _ e
      omega
  · rw [hs.cell (p := ⟨gb, o + i, none⟩) h1 (fun hm => by
      rcases hM gb h1 hm with rfl | rfl | e
      · exact h2 rfl
      · exact h3 rfl
      · exact h4 e)]
    exact h5 i hi
end
/-- A stream that took m, but counts n. -/
def StrN (w : World) (B gs gc : Nat) (v : Value) (m : List UInt8) (n : Nat) : Prop :=
  SB w gs (hS m (m.length / 64)) v n gc ∧ w.ownsRow B 5 1 v (m.length % 64) ((m.drop (64 * (m.length / 64))).map u8v) ∧ CI w gc
section
variable {w w' : World} {B gs gc n : Nat} {v : Value} {m : List UInt8}
theorem StrN.toV (h : StrN w B gs gc v m (m.length % 18446744073709551616)) : StrV w B gs gc v m := h
theorem StrN.len (h : StrN w B gs gc v m n) : (hS m (m.length / 64)).length = 8 := hS_len _ _
theorem StrN.ne (h : StrN w B gs gc v m n) : gs ≠ gc := by
  rintro rfl
  obtain ⟨cs, hcs⟩ := h.2.2.blk
  have h1 : w.heap[gs]? = _ := h.1
  have h2 : w.heap[gs]? = _ := hcs
  rw [h1] at h2
  injection h2 with h2
  injection h2 with _ h3
  exact absurd h3 (by decide)
theorem StrN.own_s (h : StrN w B gs gc v m n) : v.ownBlock ≠ some gs := own_blk_ne h.2.1 h.1 (by decide)
theorem StrN.own_c (h : StrN w B gs gc v m n) : v.ownBlock ≠ some gc := by
  obtain ⟨cs, hcs⟩ := h.2.2.blk
  exact own_blk_ne h.2.1 hcs (by decide)
theorem StrN.setNum (h : StrN w B gs gc v m n) (n' : Nat) : StrN (w.setCell ⟨gs, 9, none⟩ (.int .u64 (n' : Int))) B gs gc v m n' :=
  ⟨h.1.setNum h.len n', own_set h.2.1 h.own_s 9 _, h.2.2.same (Below.heap_setCell _ _ _ _ (by show gc ≠ gs; exact Ne.symm h.ne))⟩
theorem StrN.drewN (h : StrN w B gs gc v m n) (k : Nat) : StrN (w.drewN k) B gs gc v m n := h
/-- The row grown, the field set. -/
theorem StrN.grown {b : List UInt8} {v' : Value} (h : StrN w B gs gc v m n) (hb : m.length % 64 + b.length < 64) (ho : w'.ownsRow B 5 1 v' (m.length % 64 + b.length) ((m.drop (64 * (m.length / 64)) ++ b).map u8v)) (hg : w.grownBy w' v.ownBlock) :
    StrN (w'.setCell ⟨gs, 8, none⟩ v') B gs gc v' (m ++ b) n := by
  have e : (m ++ b).length / 64 = m.length / 64 := by rw [List.length_append]; omega
  have hs' : SB w' gs (hS m (m.length / 64)) v n gc := Blk.grown h.1 hg (Ne.symm h.own_s)
  have hc' : CI w' gc := h.2.2.same (hg.block gc h.2.2.lt (Ne.symm h.own_c))
  refine ⟨?_, ?_, hc'.same (Below.heap_setCell _ _ _ _ (by show gc ≠ gs; exact Ne.symm h.ne))⟩
  · rw [e, hS_append m b _ (by omega)]
    exact hs'.setBuf h.len v'
  · rw [e, List.drop_append_of_le_length (by omega), show (m ++ b).length % 64 = m.length % 64 + b.length by rw [List.length_append]; omega]
    exact own_set ho (own_blk_ne ho hs' (by decide)) 8 _
end
theorem row_form {w : World} {B : Nat} {v : Value} {bs : List UInt8} (h : ByteRow w B v bs) (hp : 0 < bs.length) :
    ∃ g c, v = .slice (some ⟨g, 0, none⟩) bs.length c ∧ B ≤ g ∧ g < w.heap.size ∧ ∀ j, j < bs.length → w.cell? ⟨g, j, none⟩ = some (.int .u8 ((bs.getD j 0).toNat : Int)) := by
  obtain ⟨g, c, hv, hb, hl⟩ := World.ownsRow.form h hp
  subst hv
  refine ⟨g, c, rfl, hb, hl, fun j hj => ?_⟩
  have := World.ownsRow.cells (g := g) h rfl j (u8v (bs.getD j 0)) (by rw [List.getElem?_map, List.getElem?_eq_getElem hj, List.getD_eq_getElem?_getD, List.getElem?_eq_getElem hj]; rfl)
  rwa [Go.WideShapes.add_plain, Nat.zero_add] at this
theorem row_zero {w : World} {B e size n c : Nat} {A : Option Addr} {xs : List Value} (h : w.ownsRow B e size (.slice A n c) n xs) : w.ownsRow B e size (.slice A 0 c) 0 [] := by
  refine ⟨by simp, ?_⟩
  rcases h.2 with ⟨h0, rfl⟩ | ⟨g, cap, cur, h0, h1, h2, h3, h4, h5, h6⟩
  · exact .inl ⟨h0, rfl⟩
  · injection h0 with e1 e2 e3
    subst e1 e3
    exact .inr ⟨g, c, cur, rfl, h1, h2, Nat.zero_le _, h4, h5, by simp⟩
theorem hS_rest (m b : List UInt8) (h : (m ++ b).length / 64 = m.length / 64) : hS (m ++ b) ((m ++ b).length / 64) = hS m (m.length / 64) := by
  rw [h, hS_append m b _ (by omega)]
theorem drop_rest (m b : List UInt8) (h : (m ++ b).length / 64 = m.length / 64) : (m ++ b).drop (64 * ((m ++ b).length / 64)) = m.drop (64 * (m.length / 64)) ++ b := by
  rw [h, List.drop_append_of_le_length (by omega)]
theorem hS_full (m b : List UInt8) (hb : b.length + m.length % 64 = 64) : hS (m ++ b) ((m ++ b).length / 64) = cmp (hS m (m.length / 64)) (m.drop (64 * (m.length / 64)) ++ b) := by
  have e : (m ++ b).length / 64 = m.length / 64 + 1 := by rw [List.length_append]; omega
  rw [e, hS, hS_append m b _ (by omega)]
  congr 1
  unfold pc
  rw [List.drop_append_of_le_length (by omega), List.take_of_length_le (by rw [List.length_append, List.length_drop]; omega)]
theorem drop_full (m : List UInt8) (h : m.length % 64 = 0) : m.drop (64 * (m.length / 64)) = [] := List.drop_eq_nil_of_le (by omega)
end Go.Proofs.Ytlapgccfgkokcaa
