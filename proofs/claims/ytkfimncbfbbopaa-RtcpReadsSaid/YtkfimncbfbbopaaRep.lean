/- Reports in memory, and what a report is read as (plain). Conditions: as each says. -/
import Derived.Test.YtkfimncbfbbopaaRemb
import Derived.Test.YtkfimncbfbbopaaKind
set_option linter.unusedVariables false
namespace Go.Proofs.Ytkfimncbfbbopaa
open Go.RowKit

structure Rep where
  kind : Int
  fr : Nat
  ab : Nat
  ntp : Nat
  ts : Nat
  pk : Nat
  oc : Nat
  blocks : List (List Nat)
  pairs : List (List Nat)
  firs : List (List Nat)
  ex : Int
  mt : Nat
  ssrcs : List (List Nat)
  ty : Int
  ct : Int
  body : List UInt8
def rep0 : Rep := ⟨0, 0, 0, 0, 0, 0, 0, [], [], [], 0, 0, [], 0, 0, []⟩
/-- v is a slice of rows of numbers. -/
def SlR (w : World) (ks : List IntKind) (v : Value) (l : List (List Nat)) : Prop := ∃ A c, v = .slice A l.length c ∧ l.length ≤ c ∧ Reads w w.heap.size ks.length A l.length (rowC ks l)
/-- The cells of a report that reads as r. -/
def RepV (w : World) (cs : Array Value) (r : Rep) : Prop := ∃ vb vp vf vs vd, cs = repA r.kind r.fr r.ab r.ntp r.ts r.pk r.oc vb vp vf r.ex r.mt vs r.ty r.ct vd ∧
  SlR w ks7 vb r.blocks ∧ SlR w ksP vp r.pairs ∧ SlR w ksF vf r.firs ∧ SlR w ksS vs r.ssrcs ∧ SlV w vd r.body
section
variable {w w' : World} {ks : List IntKind} {v : Value} {l : List (List Nat)}
theorem SlR.nil (w : World) (ks : List IntKind) : SlR w ks nilV [] := ⟨none, 0, rfl, Nat.le_refl _, by simp [rowC], fun h => absurd h (by simp)⟩
theorem SlR.below (h : SlR w ks v l) (hb : Below w.heap.size w w') : SlR w' ks v l := by
  obtain ⟨A, c, e, hc, hr⟩ := h
  exact ⟨A, c, e, hc, (hr.below hb).more hb.size⟩
theorem SlR.own {base n : Nat} {e : TypeId} (h : w.ownsRow base e ks.length v n (rowC ks l)) (hn : n = l.length) : SlR w ks v l := by
  subst hn
  obtain ⟨A, c, rfl⟩ := own_slice h
  exact ⟨A, c, rfl, own_bound h, Reads.of_own h⟩
theorem RepV.below {cs : Array Value} {r : Rep} (h : RepV w cs r) (hb : Below w.heap.size w w') : RepV w' cs r := by
  obtain ⟨vb, vp, vf, vs, vd, e, h1, h2, h3, h4, h5⟩ := h
  exact ⟨vb, vp, vf, vs, vd, e, h1.below hb, h2.below hb, h3.below hb, h4.below hb, h5.below hb⟩
end
theorem blk_range {w : World} {g : Nat} {t : TypeId} {l : List Value} (h : Blk w g t l.toArray) : w.rangeAt g 0 l := fun j v hv => by
  rw [Nat.zero_add, Blk.cell h, List.getElem?_toArray]; exact hv
theorem blk_there {w : World} {g : Nat} {t : TypeId} {l : List Value} {n : Nat} (h : Blk w g t l.toArray) (hn : l.length = n) : w.there g 0 n := fun j hj => by
  rw [Nat.zero_add]
  exact ⟨by rw [Blk.cell h, List.getElem?_toArray, List.getElem?_eq_getElem (by omega)]; rfl, Blk.frozen h j⟩
theorem blk_setAllAux {g : Nat} {t : TypeId} : ∀ (l' pre l : List Value) (w : World), l.length = l'.length → Blk w g t (pre ++ l).toArray → Blk (w.setCells g pre.length l') g t (pre ++ l').toArray
  | [], pre, l, w, h, hb => by
    have : l = [] := List.eq_nil_of_length_eq_zero h
    subst this
    exact hb
  | y :: ys, pre, l, w, h, hb => by
    match l, h with
    | x :: xs, h =>
      have h1 := Blk.set_ hb pre.length y
      rw [List.setIfInBounds_toArray] at h1
      have e : (pre ++ x :: xs).set pre.length y = (pre ++ [y]) ++ xs := by simp
      rw [e] at h1
      have := blk_setAllAux ys (pre ++ [y]) xs _ (by simpa using h) h1
      rw [List.length_append] at this
      simp only [List.append_assoc, List.singleton_append] at this
      exact this
theorem blk_setAll {w : World} {g : Nat} {t : TypeId} {l l' : List Value} (h : Blk w g t l.toArray) (hl : l'.length = l.length) : Blk (w.setCells g 0 l') g t l'.toArray :=
  blk_setAllAux l' [] l w hl.symm h
theorem below_setCells {w W : World} (h : Below w.heap.size w W) {g : Nat} (hg : w.heap.size ≤ g) : ∀ (vs : List Value) (o : Nat), Below w.heap.size w (W.setCells g o vs)
  | [], _ => h
  | v :: vs, o => below_setCells (bset h hg v) hg vs (o + 1)
theorem bytes_one (l : List UInt8) : (l.map u8v).toArray.all (·.oneCell') = true := all_oneCell_toArray (u8_one l)
/-- Two results, the first of which lives in a variable. -/
theorem results_ct {P : Program} {fn : Func} {t s : Tmp} {ty : TypeId} (h : fn.results = #[.cell t ty, .tmp s]) (tmps : Array Value) (w : World) (b : Nat) (v u : Value) (ht : tmps.getD t undef = .pointer (some ⟨b, 0, none⟩)) (hs : tmps.getD s undef = u)
    (hl : (loadVar ty ⟨b, 0, none⟩).run P w = .ok v w) : (results fn tmps).run P w = .ok (.tuple #[v, u]) w := by
  have ha : (asAddr (tmps.getD t undef)).run P w = .ok ⟨b, 0, none⟩ w := by rw [ht]; rfl
  simp [results, h]
  rw [Array.getD_eq_getD_getElem?] at ha hs
  rw [ha]
  simp only [Result.andThen_ok, hs]
  rw [hl]
  rfl
theorem infoRep : (Try.prog.info? 46).map (·.size) = some 16 := by kernel_rfl
theorem Blk.farAll {g g' : Nat} {t : TypeId} {cs : Array Value} (hg : g ≠ g') : ∀ (vs : List Value) (o : Nat) (w : World), Blk w g t cs → Blk (w.setCells g' o vs) g t cs
  | [], _, _, h => h
  | v :: vs, o, w, h => Blk.farAll hg vs (o + 1) _ (Blk.far h (p := ⟨g', o, none⟩) hg v)
theorem own_setAll {g : Nat} {base e size n : Nat} {v : Value} {xs : List Value} (hne : v.ownBlock ≠ some g) : ∀ (vs : List Value) (o : Nat) (w : World), w.ownsRow base e size v n xs → (w.setCells g o vs).ownsRow base e size v n xs
  | [], _, _, h => h
  | u :: vs, o, w, h => own_setAll hne vs (o + 1) _ (own_set h hne o u)
/-- The cells of a report that reads as r, its slices rows of the call's own. -/
def RepO (w : World) (B : Nat) (cs : Array Value) (r : Rep) : Prop := ∃ vb vp vf vs vd, cs = repA r.kind r.fr r.ab r.ntp r.ts r.pk r.oc vb vp vf r.ex r.mt vs r.ty r.ct vd ∧
  w.ownsRow B 81 7 vb r.blocks.length (rowC ks7 r.blocks) ∧ w.ownsRow B 57 2 vp r.pairs.length (rowC ksP r.pairs) ∧ w.ownsRow B 82 2 vf r.firs.length (rowC ksF r.firs) ∧ w.ownsRow B 33 1 vs r.ssrcs.length (rowC ksS r.ssrcs) ∧ ByteRow w B vd r.body
section
variable {w w' : World} {B : Nat} {cs : Array Value} {r : Rep}
theorem RepO.toV (h : RepO w B cs r) : RepV w cs r := by
  obtain ⟨vb, vp, vf, vs, vd, e, h1, h2, h3, h4, h5⟩ := h
  exact ⟨vb, vp, vf, vs, vd, e, SlR.own (ks := ks7) h1 rfl, SlR.own (ks := ksP) h2 rfl, SlR.own (ks := ksF) h3 rfl, SlR.own (ks := ksS) h4 rfl, SlV.own h5⟩
/-- What leaves all rows of other types than report, reader, alone. -/
theorem RepO.keep (h : RepO w B cs r) (hk : ∀ (e : TypeId) (size n : Nat) (v : Value) (xs : List Value), (e = 81 ∨ e = 57 ∨ e = 82 ∨ e = 33 ∨ e = 5) → w.ownsRow B e size v n xs → w'.ownsRow B e size v n xs) : RepO w' B cs r := by
  obtain ⟨vb, vp, vf, vs, vd, e, h1, h2, h3, h4, h5⟩ := h
  exact ⟨vb, vp, vf, vs, vd, e, hk _ _ _ _ _ (.inl rfl) h1, hk _ _ _ _ _ (.inr (.inl rfl)) h2, hk _ _ _ _ _ (.inr (.inr (.inl rfl))) h3, hk _ _ _ _ _ (.inr (.inr (.inr (.inl rfl)))) h4, hk _ _ _ _ _ (.inr (.inr (.inr (.inr rfl)))) h5⟩
theorem RepO.one (h : RepO w B cs r) : cs.all (·.oneCell') = true := by
  obtain ⟨vb, vp, vf, vs, vd, e, h1, h2, h3, h4, h5⟩ := h
  obtain ⟨_, _, rfl⟩ := own_slice h1
  obtain ⟨_, _, rfl⟩ := own_slice h2
  obtain ⟨_, _, rfl⟩ := own_slice h3
  obtain ⟨_, _, rfl⟩ := own_slice h4
  obtain ⟨_, _, rfl⟩ := own_slice h5
  rw [e]
  simp [repA, Value.oneCell']
theorem RepO.below (h : RepO w B cs r) (hb : Below w.heap.size w w') : RepO w' B cs r := h.keep fun _ _ _ _ _ _ ho => own_below ho hb
theorem RepO.lower {B' : Nat} (h : RepO w B cs r) (hB : B' ≤ B) : RepO w B' cs r := by
  obtain ⟨vb, vp, vf, vs, vd, e, h1, h2, h3, h4, h5⟩ := h
  exact ⟨vb, vp, vf, vs, vd, e, own_lower h1 hB, own_lower h2 hB, own_lower h3 hB, own_lower h4 hB, own_lower h5 hB⟩
theorem RepO.setAll {g : Nat} {cs0 : Array Value} (h : RepO w B cs r) (hg : Blk w g 46 cs0) (l : List Value) : RepO (w.setCells g 0 l) B cs r :=
  h.keep fun e _ _ _ _ he ho => own_setAll (own_blk_ne ho hg (by rcases he with rfl | rfl | rfl | rfl | rfl <;> decide)) _ _ _ ho
theorem RepO.set {g : Nat} {cs0 : Array Value} (h : RepO w B cs r) (hg : Blk w g 46 cs0) (i : Nat) (u : Value) : RepO (w.setCell ⟨g, i, none⟩ u) B cs r :=
  h.keep fun e _ _ _ _ he ho => own_set ho (own_blk_ne ho hg (by rcases he with rfl | rfl | rfl | rfl | rfl <;> decide)) _ _
end
theorem repA_size (k : Int) (fr ab ntp ts pk oc : Nat) (vb vp vf : Value) (ex : Int) (mt : Nat) (vs : Value) (ty ct : Int) (vd : Value) : (repA k fr ab ntp ts pk oc vb vp vf ex mt vs ty ct vd).size = 16 := rfl
/-- What a report of a type and a count is read as, and whether it is one. -/
def reportS (t c : Nat) (b : List UInt8) : Rep × Bool :=
  let k := kindS t c b
  let a := numS 4 (b, false)
  if k = 7 then ({ rep0 with kind := 7, ty := t, ct := c, body := b }, true)
  else if k = 1 then
    let n := numS 8 a.2
    let x := numS 4 n.2
    let y := numS 4 x.2
    let z := numS 4 y.2
    let l := blksS c z.2
    ({ rep0 with kind := 1, fr := a.1, ntp := n.1, ts := x.1, pk := y.1, oc := z.1, blocks := l.1 }, !l.2.2 && l.2.1.isEmpty)
  else if k = 2 then
    let l := blksS c a.2
    ({ rep0 with kind := 2, fr := a.1, blocks := l.1 }, !l.2.2 && l.2.1.isEmpty)
  else if k = 3 then
    let m := numS 4 a.2
    let l := doS pairS (a.2.1.length + 1) m.2
    ({ rep0 with kind := 3, fr := a.1, ab := m.1, pairs := l.1 }, !l.2.2 && l.2.1.isEmpty)
  else if k = 4 then
    let m := numS 4 a.2
    ({ rep0 with kind := 4, fr := a.1, ab := m.1 }, !m.2.2 && m.2.1.isEmpty)
  else if k = 5 then
    let m := numS 4 a.2
    let l := doS firS (a.2.1.length + 1) m.2
    ({ rep0 with kind := 5, fr := a.1, ab := m.1, firs := l.1 }, !l.2.2 && l.2.1.isEmpty)
  else
    let m := numS 4 a.2
    let l := rembS m.2
    ({ rep0 with kind := 6, fr := a.1, ab := m.1, ex := l.1.1, mt := l.1.2, ssrcs := l.2.1 }, !l.2.2.2 && l.2.2.1.isEmpty)
end Go.Proofs.Ytkfimncbfbbopaa
