/- Frames by the kind of block, and bytes held as a slice: what calls that keep data in memory leave alone. Plain lemmas over any world. -/
import Derived.Test.YtkfimncbfbbopaaBase
set_option linter.unusedVariables false
namespace Go.Proofs.Ytkfimncbfbbopaa
open Go.RowKit

/-- Of the blocks that were there only those from B on whose element type T marks may have turned. -/
structure Fr (B : Nat) (T : TypeId → Bool) (w w' : World) : Prop where
  os : w'.os = w.os
  tape : w'.tape = w.tape
  output : w'.output = w.output
  size : w.heap.size ≤ w'.heap.size
  block : ∀ k, k < w.heap.size → (k < B ∨ ∃ cs t fr, w.heap[k]? = some (.cells cs t fr) ∧ T t = false) → w'.heap[k]? = w.heap[k]?
section
variable {B : Nat} {T : TypeId → Bool} {w w' w'' : World}
theorem Fr.refl (B : Nat) (T : TypeId → Bool) (w : World) : Fr B T w w := ⟨rfl, rfl, rfl, Nat.le_refl _, fun _ _ _ => rfl⟩
theorem Fr.trans (h : Fr B T w w') (k : Fr B T w' w'') : Fr B T w w'' :=
  ⟨k.os.trans h.os, k.tape.trans h.tape, k.output.trans h.output, Nat.le_trans h.size k.size, fun i hi hc => by
    have e := h.block i hi hc
    refine (k.block i (Nat.lt_of_lt_of_le hi h.size) ?_).trans e
    rw [e]
    exact hc⟩
theorem Fr.of_below (h : Below w.heap.size w w') : Fr B T w w' := ⟨h.os, h.tape, h.output, h.size, fun k hk _ => h.block k hk⟩
theorem Fr.call (h : Fr B T w w') (hb : Below w'.heap.size w' w'') : Fr B T w w'' := h.trans (Fr.of_below hb)
theorem Fr.callr (hb : Below w'.heap.size w' w'') (h : Fr B T w w') : Fr B T w w'' := h.trans (Fr.of_below hb)
theorem Fr.below (h : Fr B T w w') (hB : B ≤ w.heap.size) : Below B w w' := ⟨h.os, h.tape, h.output, h.size, fun k hk => h.block k (by omega) (.inl hk)⟩
theorem Fr.mono {T' : TypeId → Bool} (h : Fr B T w w') (hT : ∀ t, T t = true → T' t = true) : Fr B T' w w' :=
  ⟨h.os, h.tape, h.output, h.size, fun k hk hc => h.block k hk (by
    rcases hc with hc | ⟨cs, t, fr, e, ht⟩
    · exact .inl hc
    · refine .inr ⟨cs, t, fr, e, ?_⟩
      cases hT' : T t
      · rfl
      · rw [hT t hT'] at ht; cases ht)⟩
theorem Fr.lower {B' : Nat} (h : Fr B T w w') (hB : B' ≤ B) : Fr B' T w w' :=
  ⟨h.os, h.tape, h.output, h.size, fun k hk hc => h.block k hk (hc.imp (fun h => Nat.lt_of_lt_of_le h hB) id)⟩
theorem Fr.drew (h : Fr B T w w') : Fr B T w w'.drew := ⟨h.os, h.tape, h.output, h.size, h.block⟩
theorem Fr.drewN (h : Fr B T w w') (n : Nat) : Fr B T w (w'.drewN n) := ⟨h.os, h.tape, h.output, h.size, h.block⟩
theorem Fr.alloc (h : Fr B T w w') (o : Obj) : Fr B T w (w'.alloc o) := h.call (balloc (Below.refl _ _) o)
/-- A store into a block that T marks. -/
theorem Fr.set_ (h : Fr B T w w') {g : Nat} {t : TypeId} {cs : Array Value} (hb : Blk w' g t cs) (hT : T t = true) (hg : B ≤ g) (i : Nat) (u : Value) : Fr B T w (w'.setCell ⟨g, i, none⟩ u) := by
  refine h.trans ⟨rfl, rfl, rfl, by simp [World.setCell], fun k hk hc => Below.heap_setCell _ _ _ _ ?_⟩
  intro ek
  have ek' : k = g := ek
  subst ek'
  rcases hc with hc | ⟨cs', t', fr, e, ht⟩
  · exact absurd hc (Nat.not_lt.2 hg)
  · unfold Blk at hb
    have e' : w'.heap[k]? = some (.cells cs' t' fr) := e
    rw [hb] at e'
    injection e' with e'
    injection e' with _ e2
    rw [← e2, hT] at ht
    cases ht
/-- Writes to one row of the call's own, of an element type that T marks (append, copy). -/
theorem Fr.grown (h : Fr B T w w') {row : Option Nat} (hg : w'.grownBy w'' row) (hr : ∀ g, row = some g → B ≤ g ∧ ∀ cs t fr, w'.heap[g]? = some (.cells cs t fr) → T t = true) : Fr B T w w'' :=
  h.trans ⟨hg.os, hg.tape, hg.output, hg.size, fun k hk hc => hg.block k hk (fun e => by
    have := hr k e.symm
    rcases hc with hc | ⟨cs, t, fr, e, ht⟩
    · exact absurd hc (Nat.not_lt.2 this.1)
    · rw [this.2 _ _ _ e] at ht; cases ht)⟩
theorem Blk.fr {g : Nat} {t : TypeId} {cs : Array Value} (h : Blk w g t cs) (hf : Fr B T w w') (hT : g < B ∨ T t = false) : Blk w' g t cs :=
  (hf.block g h.lt (hT.imp id fun h' => ⟨_, _, _, h, h'⟩)).trans h
theorem own_fr {base e size n : Nat} {v : Value} {xs : List Value} (h : w.ownsRow base e size v n xs) (hf : Fr B T w w') (hT : T e = false) : w'.ownsRow base e size v n xs := by
  obtain ⟨h1, h2⟩ := h
  refine ⟨h1, ?_⟩
  rcases h2 with h2 | ⟨g, cap, cur, hv, hg, hh, r⟩
  · exact .inl h2
  · refine .inr ⟨g, cap, cur, hv, hg, ?_, r⟩
    have hlt : g < w.heap.size := Blk.lt (t := e) (cs := cur) hh
    exact (hf.block g hlt (.inr ⟨_, _, _, hh, hT⟩)).trans hh
/-- The row of an owned slice is of its element type. -/
theorem own_tag {base e size n : Nat} {v : Value} {xs : List Value} (h : w.ownsRow base e size v n xs) : ∀ g, v.ownBlock = some g → base ≤ g ∧ ∃ cs, w.heap[g]? = some (.cells cs e (0, 0)) := by
  intro g hg
  refine ⟨(h.lt g hg).1, ?_⟩
  rcases h.2 with ⟨rfl, _⟩ | ⟨g', cap, cur, rfl, _, hh, _⟩
  · simp [Value.ownBlock] at hg
  · simp [Value.ownBlock] at hg
    subst hg
    exact ⟨cur, hh⟩
theorem Fr.grown_own (h : Fr B T w w') {base e size n : Nat} {v : Value} {xs : List Value} (ho : w'.ownsRow base e size v n xs) (hg : w'.grownBy w'' v.ownBlock) (hB : B ≤ base) (hT : T e = true) : Fr B T w w'' :=
  h.grown hg fun g e => by
    obtain ⟨h1, cs0, h2⟩ := own_tag ho g e
    refine ⟨Nat.le_trans hB h1, fun cs t fr e' => ?_⟩
    rw [h2] at e'
    injection e' with e'
    injection e' with _ e2
    rw [← e2]; exact hT
end

/-- The value of a byte. -/
def u8v (b : UInt8) : Value := .int .u8 (b.toNat : Int)
/-- v is a slice of bytes that reads bs; its bytes lie below B, or in a block of bytes (element type t). -/
def BytesV (t : TypeId) (B : Nat) (w : World) (v : Value) (bs : List UInt8) : Prop :=
  ∃ A c, v = .slice A bs.length c ∧ bs.length ≤ c ∧ Reads w w.heap.size 1 A bs.length (bs.map u8v) ∧ (0 < bs.length → ∀ ad, A = some ad → ad.block < B ∨ ∃ cs fr, w.heap[ad.block]? = some (.cells cs t fr))
section
variable {t : TypeId} {B : Nat} {w w' : World} {v : Value} {bs : List UInt8}
theorem BytesV.nil (t : TypeId) (B : Nat) (w : World) : BytesV t B w (.slice none 0 0) [] := ⟨none, 0, rfl, Nat.le_refl _, Reads.none_, fun h => absurd h (by simp)⟩
theorem BytesV.fr {T : TypeId → Bool} (h : BytesV t B w v bs) (hf : Fr B T w w') (hT : T t = false) : BytesV t B w' v bs := by
  obtain ⟨A, c, rfl, hc, hr, hl⟩ := h
  refine ⟨A, c, rfl, hc, ⟨hr.1, fun hn => ?_⟩, fun hn ad e => ?_⟩
  · obtain ⟨ad, rfl, hb, hcell⟩ := hr.2 hn
    have hk := hf.block ad.block hb ((hl hn ad rfl).imp id fun ⟨cs, fr, e⟩ => ⟨cs, t, fr, e, hT⟩)
    exact ⟨ad, rfl, Nat.lt_of_lt_of_le hb hf.size, fun j u hu => (World.cell?_of_block (by rw [block_of_add]; exact hk)).trans (hcell j u hu)⟩
  · obtain ⟨ad', e', hb, _⟩ := hr.2 hn
    rw [e] at e'
    injection e' with e'
    subst e'
    rcases hl hn ad e with h1 | ⟨cs, fr, h1⟩
    · exact .inl h1
    · exact .inr ⟨cs, fr, (hf.block ad.block hb (.inr ⟨cs, t, fr, h1, hT⟩)).trans h1⟩
theorem BytesV.below (h : BytesV t B w v bs) (hb : Below w.heap.size w w') : BytesV t B w' v bs :=
  h.fr (T := fun _ => false) (Fr.of_below hb) rfl
theorem BytesV.of_own {base c n : Nat} {A : Option Addr} (h : w.ownsRow base t 1 (.slice A n c) n (bs.map u8v)) (hn : n = bs.length) (hc : bs.length ≤ c) : BytesV t B w (.slice A n c) bs := by
  subst hn
  refine ⟨A, c, rfl, hc, Reads.of_own h, fun hn ad e => ?_⟩
  subst e
  obtain ⟨g, cap, e, _, _⟩ := h.form hn
  injection e with e1
  injection e1 with e1
  subst e1
  obtain ⟨_, cs, h2⟩ := own_tag h g rfl
  exact .inr ⟨cs, _, h2⟩
theorem BytesV.of_arg {A : Option Addr} {n c : Nat} (h : Reads w B 1 A n (bs.map u8v)) (hn : n = bs.length) (hc : n ≤ c) (hB : B ≤ w.heap.size) : BytesV t B w (.slice A n c) bs := by
  subst hn
  refine ⟨A, c, rfl, hc, h.more hB, fun hn ad e => ?_⟩
  obtain ⟨ad', e', hb, _⟩ := h.2 hn
  rw [e] at e'
  injection e' with e'
  subst e'
  exact .inl hb
theorem own_bound {base e size n c : Nat} {A : Option Addr} {xs : List Value} (h : w.ownsRow base e size (.slice A n c) n xs) : n ≤ c := by
  rcases h.2 with ⟨e, h0⟩ | ⟨g, cap, cur, e, _, _, h1, _⟩
  · injection e with _ e1 e2; omega
  · injection e with _ e1 e2; omega
end
theorem addr_plain {w : World} {ad : Addr} {v : Value} (h : w.cell? (ad.add 0) = some v) : ∃ b off, ad = ⟨b, off, none⟩ := by
  obtain ⟨b, off, spot⟩ := ad
  have h2 : spot = none := World.cell?_spot (a := ⟨b, off, spot⟩) h
  exact ⟨b, off, by rw [h2]⟩
theorem own_slice {w : World} {base e size n : Nat} {v : Value} {xs : List Value} (h : w.ownsRow base e size v n xs) : ∃ A c, v = .slice A n c := by
  rcases h.2 with ⟨rfl, rfl⟩ | ⟨g, cap, cur, rfl, _⟩
  · exact ⟨none, 0, rfl⟩
  · exact ⟨_, _, rfl⟩
theorem BytesV.owned {t : TypeId} {B base : Nat} {w : World} {v : Value} {bs : List UInt8} (h : w.ownsRow base t 1 v bs.length (bs.map u8v)) : BytesV t B w v bs := by
  obtain ⟨A, c, rfl⟩ := own_slice h
  exact BytesV.of_own h rfl (own_bound h)
theorem own_blk_ne {w : World} {g : Nat} {t : TypeId} {cs : Array Value} {base : Nat} {e : TypeId} {size n : Nat} {v : Value} {xs : List Value} (h : w.ownsRow base e size v n xs) (hg : Blk w g t cs) (hne : e ≠ t) : v.ownBlock ≠ some g := by
  rcases h.2 with ⟨rfl, _⟩ | ⟨g', cap, cur, rfl, _, hh, _⟩
  · simp [Value.ownBlock]
  · intro he
    have : g' = g := by simpa [Value.ownBlock] using he
    subst this
    unfold Blk at hg
    rw [hg] at hh
    injection hh with hh
    injection hh with _ ht
    exact hne ht.symm
theorem own_below {w w' : World} {base e size n : Nat} {v : Value} {xs : List Value} (h : w.ownsRow base e size v n xs) (hb : Below w.heap.size w w') : w'.ownsRow base e size v n xs :=
  h.kept (row := none) ⟨hb.os, hb.tape, hb.output, hb.size, fun i hi _ => hb.block i hi⟩ (by cases h : v.ownBlock <;> simp)
theorem cell_set_far {w : World} {g b i o : Nat} {u v : Value} (hne : b ≠ g) (h : w.cell? ⟨b, o, none⟩ = some v) : (w.setCell ⟨g, i, none⟩ u).cell? ⟨b, o, none⟩ = some v := by
  rw [World.cell?_setCell_other w _ _ u (by intro e; injection e with e1; omega)]; exact h
theorem own_set {w : World} {base e size n : Nat} {v : Value} {xs : List Value} (h : w.ownsRow base e size v n xs) {g : Nat} (hne : v.ownBlock ≠ some g) (i : Nat) (u : Value) : (w.setCell ⟨g, i, none⟩ u).ownsRow base e size v n xs :=
  h.kept (row := some g) ⟨rfl, rfl, rfl, by simp [World.setCell], fun k hk hk2 => Below.heap_setCell _ _ _ _ (fun e => hk2 (by rw [e]))⟩ (.inr hne)
theorem Blk.set3 {w : World} {g : Nat} {t : TypeId} {x y z x' y' z' : Value} (h : Blk w g t #[x, y, z]) : Blk (((w.setCell ⟨g, 0, none⟩ x').setCell ⟨g, 1, none⟩ y').setCell ⟨g, 2, none⟩ z') g t #[x', y', z'] :=
  ((h.set_ 0 x').set_ 1 y').set_ 2 z'
end Go.Proofs.Ytkfimncbfbbopaa
