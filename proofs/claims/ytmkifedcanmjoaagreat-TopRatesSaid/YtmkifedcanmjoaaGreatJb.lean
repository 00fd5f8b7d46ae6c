/- Texts of this claim, one behind the other: Whole, DRow, Mw, Hw. Each says ahead of itself what it proves, and its conditions. -/
import Derived.Test.YtmkifedcanmjoaaGreatJa
import Derived.Deep.MidRow
import Derived.Laws.ResultCell
import Derived.Deep.AppendSrc
import Derived.Deep.Upon
import Derived.Deep.RegionHeld3
/- Blocks that are read and written whole or in the middle; results that lie in cells. Conditions: none. -/
set_option linter.unusedVariables false
set_option linter.unusedSimpArgs false
namespace Go.Proofs.YtmkifedcanmjoaaGreat
open Go.RowKit
theorem blk_range {w : World} {g : Nat} {t : TypeId} {l : List Value} (h : Blk w g t l.toArray) : w.rangeAt g 0 l := fun j v hv => by
  rw [Nat.zero_add, Blk.cell h, List.getElem?_toArray]; exact hv
theorem blk_mid {w : World} {g : Nat} {t : TypeId} {l : List Value} (h : Blk w g t l.toArray) (o : Nat) (m : List Value) (hm : ∀ j v, m[j]? = some v → l[o + j]? = some v) : w.rangeAt g o m := fun j v hv => by
  rw [Blk.cell h, List.getElem?_toArray]; exact hm j v hv
/-- A part of a block, the rest of it on both sides. -/
theorem blk_part {w : World} {g : Nat} {t : TypeId} {a m b : List Value} (h : Blk w g t (a ++ m ++ b).toArray) {o : Nat} (ho : a.length = o) : w.rangeAt g o m := blk_mid h o m fun j v hv => by
  have hj : j < m.length := by
    rcases Nat.lt_or_ge j m.length with hl | hl
    · exact hl
    · rw [List.getElem?_eq_none hl] at hv; cases hv
  rw [List.append_assoc, List.getElem?_append_right (by omega), List.getElem?_append_left (by omega), show o + j - a.length = j by omega]
  exact hv
theorem blk_there {w : World} {g : Nat} {t : TypeId} {l : List Value} (h : Blk w g t l.toArray) (o n : Nat) (hn : o + n ≤ l.length) : w.there g o n := fun j hj =>
  ⟨by rw [Blk.cell h, List.getElem?_toArray, List.getElem?_eq_getElem (by omega)]; rfl, Blk.frozen h _⟩
theorem blk_setParts {g : Nat} {t : TypeId} (post : List Value) : ∀ (l' pre l : List Value) (w : World), l.length = l'.length → Blk w g t (pre ++ l ++ post).toArray → Blk (w.setCells g pre.length l') g t (pre ++ l' ++ post).toArray
  | [], pre, l, w, h, hb => by
    have : l = [] := List.eq_nil_of_length_eq_zero h
    subst this
    exact hb
  | y :: ys, pre, l, w, h, hb => by
    match l, h with
    | x :: xs, h =>
      have h1 := Blk.set_ hb pre.length y
      rw [List.setIfInBounds_toArray] at h1
      have e : (pre ++ x :: xs ++ post).set pre.length y = (pre ++ [y]) ++ xs ++ post := by simp
      rw [e] at h1
      have := blk_setParts post ys (pre ++ [y]) xs _ (by simpa using h) h1
      rw [List.length_append] at this
      simp only [List.append_assoc, List.singleton_append] at this
      simp only [List.append_assoc]
      exact this
theorem blk_setAll {w : World} {g : Nat} {t : TypeId} {l l' : List Value} (h : Blk w g t l.toArray) (hl : l'.length = l.length) : Blk (w.setCells g 0 l') g t l'.toArray := by
  have := blk_setParts (g := g) (t := t) [] l' [] l w hl.symm (by simpa using h)
  simpa using this
theorem blk_setPart {w : World} {g : Nat} {t : TypeId} {a m b m' : List Value} (h : Blk w g t (a ++ m ++ b).toArray) (hm : m'.length = m.length) {o : Nat} (ho : a.length = o) : Blk (w.setCells g o m') g t (a ++ m' ++ b).toArray := by
  subst ho
  exact blk_setParts b m' a m w hm.symm h
theorem below_setCells {w W : World} (h : Below w.heap.size w W) {g : Nat} (hg : w.heap.size ≤ g) : ∀ (vs : List Value) (o : Nat), Below w.heap.size w (W.setCells g o vs)
  | [], _ => h
  | v :: vs, o => below_setCells (bset h hg v) hg vs (o + 1)
theorem blk_farS {w : World} {h g : Nat} {t : TypeId} {C : Array Value} (hb : Blk w h t C) (hn : h ≠ g) : ∀ (vs : List Value) (o : Nat), Blk (w.setCells g o vs) h t C := fun vs => by
  induction vs generalizing w with
  | nil => exact fun _ => hb
  | cons v vs ih => exact fun o => ih (Blk.far hb hn v) (o + 1)
theorem two_blks (w : World) (t1 t2 : TypeId) (C1 C2 : Array Value) : Blk ((w.alloc (.cells C1 t1)).alloc (.cells C2 t2)) w.heap.size t1 C1 ∧ Blk ((w.alloc (.cells C1 t1)).alloc (.cells C2 t2)) (w.heap.size + 1) t2 C2 ∧ Below w.heap.size w ((w.alloc (.cells C1 t1)).alloc (.cells C2 t2)) := by
  refine ⟨(Blk.new w t1 C1).alloc _, ?_, balloc (balloc (Below.refl _ _) _) _⟩
  have h := Blk.new (w.alloc (.cells C1 t1)) t2 C2
  have e : (w.alloc (.cells C1 t1)).heap.size = w.heap.size + 1 := World.size_alloc w _
  rw [e] at h
  exact h
variable {P : Program}
theorem results_c1 {fn : Func} {p : Tmp} {ty : TypeId} (h : fn.results = #[.cell p ty]) {tmps : Array Value} {w : World} {b o : Nat} (hx : tmps.getD p undef = .pointer (some ⟨b, o, none⟩)) {cs : List Value} {d : TypeDesc} (hc : w.rangeAt b o cs)
    (hu : P.underlying ty = some d) (hd : d.isRow = true) (hi : (P.info? ty).map (·.size) = some cs.length) : (results fn tmps).run P w = .ok (.agg cs.toArray) w := by
  have hx' : tmps[p]?.getD undef = .pointer (some ⟨b, o, none⟩) := by rw [← Array.getD_eq_getD_getElem?]; exact hx
  simp only [results, h]
  simp [Sem.run_bind, Result.andThen, hx', asAddr, run_loadVar_mid w b o ty cs d hc hu hd hi]
theorem results_c2 {fn : Func} {p u : Tmp} {ty : TypeId} (h : fn.results = #[.cell p ty, .tmp u]) {tmps : Array Value} {w : World} {b o : Nat} (hx : tmps.getD p undef = .pointer (some ⟨b, o, none⟩)) {cs : List Value} {d : TypeDesc} (hc : w.rangeAt b o cs)
    (hu : P.underlying ty = some d) (hd : d.isRow = true) (hi : (P.info? ty).map (·.size) = some cs.length) : (results fn tmps).run P w = .ok (.tuple #[.agg cs.toArray, tmps.getD u undef]) w := by
  have hx' : tmps[p]?.getD undef = .pointer (some ⟨b, o, none⟩) := by rw [← Array.getD_eq_getD_getElem?]; exact hx
  simp only [results, h]
  simp [Sem.run_bind, Result.andThen, hx', asAddr, run_loadVar_mid w b o ty cs d hc hu hd hi]
theorem results_c3 {fn : Func} {p u v : Tmp} {ty : TypeId} (h : fn.results = #[.cell p ty, .tmp u, .tmp v]) {tmps : Array Value} {w : World} {b o : Nat} (hx : tmps.getD p undef = .pointer (some ⟨b, o, none⟩)) {cs : List Value} {d : TypeDesc} (hc : w.rangeAt b o cs)
    (hu : P.underlying ty = some d) (hd : d.isRow = true) (hi : (P.info? ty).map (·.size) = some cs.length) : (results fn tmps).run P w = .ok (.tuple #[.agg cs.toArray, tmps.getD u undef, tmps.getD v undef]) w := by
  have hx' : tmps[p]?.getD undef = .pointer (some ⟨b, o, none⟩) := by rw [← Array.getD_eq_getD_getElem?]; exact hx
  simp only [results, h]
  simp [Sem.run_bind, Result.andThen, hx', asAddr, run_loadVar_mid w b o ty cs d hc hu hd hi]
end Go.Proofs.YtmkifedcanmjoaaGreat
/- Slices over a block of their element's kind, wherever in it they begin: what is read, appended behind, cut off ahead. Conditions: as each says. -/
set_option linter.unusedVariables false
set_option linter.unusedSimpArgs false
namespace Go.Proofs.YtmkifedcanmjoaaGreat
open Go.RowKit

/-- v is a slice of n elements, the cells xs, over a block of its own kind; or nil. -/
def Row (w : World) (e : TypeId) (size : Nat) (v : Value) (n : Nat) (xs : List Value) : Prop :=
  xs.length = n * size ∧ ((v = .slice none 0 0 ∧ n = 0) ∨ ∃ g c, ∃ a b : List Value, v = .slice (some ⟨g, a.length, none⟩) n c ∧ Blk w g e (a ++ xs ++ b).toArray ∧ n ≤ c ∧ c ≤ maxLen ∧ (c - n) * size ≤ b.length)
section
variable {w w' : World} {e : TypeId} {size n : Nat} {v : Value} {xs : List Value}
theorem Row.nil (w : World) (e : TypeId) (size : Nat) : Row w e size (.slice none 0 0) 0 [] := ⟨by simp, .inl ⟨rfl, rfl⟩⟩
theorem Row.form (h : Row w e size v n xs) : ∃ A c, v = .slice A n c ∧ n ≤ c := by
  rcases h.2 with ⟨rfl, rfl⟩ | ⟨g, c, a, b, rfl, _, hc, _⟩
  · exact ⟨_, _, rfl, Nat.le_refl _⟩
  · exact ⟨_, _, rfl, hc⟩
theorem Row.blk (h : Row w e size v n xs) {g : Nat} (hg : v.ownBlock = some g) : ∃ cs, Blk w g e cs := by
  rcases h.2 with ⟨rfl, rfl⟩ | ⟨g', c, a, b, rfl, hb, _⟩
  · simp [Value.ownBlock] at hg
  · simp [Value.ownBlock] at hg
    subst hg
    exact ⟨_, hb⟩
theorem Row.lt (h : Row w e size v n xs) {g : Nat} (hg : v.ownBlock = some g) : g < w.heap.size := by
  obtain ⟨cs, hb⟩ := h.blk hg
  exact hb.lt
theorem Row.keep (h : Row w e size v n xs) (hk : ∀ g, v.ownBlock = some g → w'.heap[g]? = w.heap[g]?) : Row w' e size v n xs := by
  refine ⟨h.1, h.2.imp id ?_⟩
  rintro ⟨g, c, a, b, rfl, hb, r⟩
  exact ⟨g, c, a, b, rfl, (hk g rfl).trans hb, r⟩
theorem Row.sv {M : Nat → Prop} (h : Row w e size v n xs) (hs : Sv M w w') (hM : ∀ g, v.ownBlock = some g → ¬ M g) : Row w' e size v n xs :=
  h.keep fun g hg => hs.block g (h.lt hg) (hM g hg)
theorem Row.below (h : Row w e size v n xs) (hb : Below w.heap.size w w') : Row w' e size v n xs := h.keep fun g hg => hb.block g (h.lt hg)
theorem Row.cells_ {A : Option Addr} {c : Nat} (h : Row w e size (.slice A n c) n xs) (hn : 0 < n) : ∃ g o, A = some ⟨g, o, none⟩ ∧ g < w.heap.size ∧ ∀ j, j < xs.length → w.cell? ⟨g, o + j, none⟩ = xs[j]? := by
  rcases h.2 with ⟨_, h0⟩ | ⟨g, c', a, b, e1, hb, _⟩
  · omega
  · injection e1 with e1
    refine ⟨g, a.length, e1, hb.lt, fun j hj => ?_⟩
    rw [hb.cell, List.getElem?_toArray, List.append_assoc, List.getElem?_append_right (by omega), List.getElem?_append_left (by omega), show a.length + j - a.length = j by omega]
theorem Row.reads {A : Option Addr} {c : Nat} (h : Row w e size (.slice A n c) n xs) : Reads w w.heap.size size A n xs := by
  refine ⟨h.1, fun hn => ?_⟩
  obtain ⟨g, o, rfl, hlt, hc⟩ := h.cells_ hn
  refine ⟨_, rfl, hlt, fun j u hu => ?_⟩
  have hj : j < xs.length := by
    rcases Nat.lt_or_ge j xs.length with h1 | h1
    · exact h1
    · rw [List.getElem?_eq_none h1] at hu; cases hu
  rw [Go.WideShapes.add_plain, hc j hj]
  exact hu
theorem Row.of_own {base : Nat} (h : w.ownsRow base e size v n xs) : Row w e size v n xs := by
  refine ⟨h.1, h.2.imp id ?_⟩
  rintro ⟨g, cap, cur, rfl, _, hg, h1, h2, h3, h4⟩
  refine ⟨g, cap, [], cur.toList.drop (n * size), rfl, ?_, h1, h2, ?_⟩
  · rw [List.nil_append, ← h4, List.take_append_drop, Array.toArray_toList]
    exact hg
  · rw [List.length_drop, Array.length_toList, h3, Nat.sub_mul]
    omega
/-- The first k are cut off. -/
theorem Row.cut {A : Option Addr} {c k : Nat} (h : Row w e size (.slice A n c) n xs) (hk : k ≤ n) : Row w e size (.slice (if c = k then A else A.map (·.add (k * size))) (n - k) (c - k)) (n - k) (xs.drop (k * size)) := by
  have hl : (xs.drop (k * size)).length = (n - k) * size := by rw [List.length_drop, h.1, Nat.sub_mul]
  refine ⟨hl, ?_⟩
  rcases h.2 with ⟨e1, h0⟩ | ⟨g, c', a, b, e1, hb, h1, h2, h3⟩
  · injection e1 with e1 e2 e3
    subst e1 e3 h0
    have : k = 0 := by omega
    subst this
    exact .inl ⟨by simp, rfl⟩
  · injection e1 with e1 e2 e3
    subst e1 e3
    by_cases hc : c = k
    · rw [if_pos hc]
      have hn : n = k := by omega
      refine .inr ⟨g, c - k, a, xs ++ b, by rw [hc], ?_, by omega, by omega, by rw [show c - k - (n - k) = 0 by omega]; omega⟩
      have : xs.drop (k * size) = [] := List.eq_nil_of_length_eq_zero (by rw [hl, hn]; simp)
      rw [this, List.append_nil, ← List.append_assoc]
      exact hb
    · rw [if_neg hc]
      refine .inr ⟨g, c - k, a ++ xs.take (k * size), b, ?_, ?_, by omega, by omega, by rw [show c - k - (n - k) = c - n by omega]; exact h3⟩
      · rw [List.length_append, List.length_take, h.1, Nat.min_eq_left (Nat.mul_le_mul_right _ hk)]
        rw [Option.map_some, Go.WideShapes.add_plain]
      · rw [show a ++ xs.take (k * size) ++ xs.drop (k * size) ++ b = a ++ (xs.take (k * size) ++ xs.drop (k * size)) ++ b by simp only [List.append_assoc], List.take_append_drop]
        exact hb
theorem Sv.setCells {M : Nat → Prop} {w w' : World} (h : Sv M w w') {g : Nat} (hg : M g ∨ w.heap.size ≤ g) : ∀ (vs : List Value) (o : Nat), Sv M w (w'.setCells g o vs)
  | [], _ => h
  | v :: vs, o => Sv.setCells (h.set (p := ⟨g, o, none⟩) hg v) hg vs (o + 1)
theorem grown_setCells {w : World} (g : Nat) (vs : List Value) (o : Nat) : w.grownBy (w.setCells g o vs) (some g) := by
  have h := Sv.setCells (M := fun k => k = g) (Sv.refl _ w) (g := g) (.inl rfl) vs o
  exact ⟨h.os, h.tape, h.output, h.size, fun k hk hn => h.block k hk fun e => hn (by rw [e])⟩
end
section
variable {P : Program} (w : World)
theorem Src.ofReads {size B : Nat} {t e : TypeId} (hk : P.underlying t = some (.slice e)) {A : Option Addr} {m c : Nat} {news : List Value} (hr : Reads w B size A m news) (h1 : ∀ u ∈ news, u.oneCell' = true) : Src P size t (.slice A m c) m news w := by
  rcases A with _ | ad
  · have hm : m = 0 := by
      rcases Nat.eq_zero_or_pos m with h0 | h0
      · exact h0
      · obtain ⟨ad, h, _⟩ := hr.2 h0
        cases h
    subst hm
    have hn : news = [] := List.eq_nil_of_length_eq_zero (by simpa using hr.1)
    subst hn
    exact Src.ofNil w hk c
  · refine Src.ofSlice w hk ad m c news hr.1 (fun j u hu => ?_) h1
    rcases Nat.eq_zero_or_pos m with h0 | h0
    · subst h0
      have hn : news = [] := List.eq_nil_of_length_eq_zero (by simpa using hr.1)
      subst hn
      simp at hu
    · obtain ⟨ad', h, _, hc⟩ := hr.2 h0
      injection h with h
      subst h
      exact hc j u hu
theorem run_append_row (t ty e : TypeId) (i : TypeInfo) (z : Value) (size bytes : Nat) (ht : P.underlying t = some (.slice e)) (hi : P.info? e = some i) (hz : i.zero = some z)
    (hsize : i.size = size) (hby : i.bytes = bytes) (hzs : z.cells.size = size)
    (v : Value) (n : Nat) (xs : List Value) (hr : Row w e size v n xs) (x : Value) (m : Nat) (news : List Value) (hs : Src P size t x m news w)
    (h63 : n + m ≤ maxLen) (hbytes : (n + m) * bytes ≤ 140737488355328) :
    ∃ v' w', (Builtin.append_ #[t, t] ty #[v, x]).run P w = .ok v' w' ∧ Row w' e size v' (n + m) (xs ++ news) ∧ w.grownBy w' v.ownBlock ∧ (v'.ownBlock = v.ownBlock ∨ v'.ownBlock = some w.heap.size) := by
  subst hsize
  subst hby
  have hlen : (xs ++ news).length = (n + m) * i.size := by rw [List.length_append, hr.1, hs.newsLen, Nat.add_mul]
  have hsmall : n + m ≤ 9223372036854775807 := by simp only [maxLen] at h63; omega
  -- a new row
  have grow : ∀ (bs : Option Addr) (sc : Nat), v = .slice bs n sc → sc < n + m → (Builtin.firstCells i.size n (.slice bs n sc)).run P w.drew = .ok xs.toArray w.drew →
      ∃ v' w', (Builtin.append_ #[t, t] ty #[v, x]).run P w = .ok v' w' ∧ Row w' e i.size v' (n + m) (xs ++ news) ∧ w.grownBy w' v.ownBlock ∧ (v'.ownBlock = v.ownBlock ∨ v'.ownBlock = some w.heap.size) := by
    rintro bs sc rfl hg hold
    have hrun := run_append_grow_src (P := P) w t t ty e i z ht hi hz bs n sc xs hold x m news hs hg (by omega) (growslice_fits hg hbytes)
    have hge := grownCap_ge w (n + m) sc e
    have hcm : grownCap w (n + m) sc e ≤ maxLen := grownCap_le_maxLen w (n + m) sc e h63
    refine ⟨_, _, hrun, ⟨hlen, .inr ⟨w.heap.size, _, [], (Builtin.zeroCells z.cells (grownCap w (n + m) sc e - (n + m))).toList, rfl, ?_, hge, hcm, ?_⟩⟩, ⟨rfl, rfl, rfl, by simp, fun k hk _ => heap_alloc_old w.drew _ hk⟩, .inr rfl⟩
    · have h := Blk.new w.drew e ((xs ++ news).toArray ++ Builtin.zeroCells z.cells (grownCap w (n + m) sc e - (n + m)))
      have e2 : (([] : List Value) ++ (xs ++ news) ++ (Builtin.zeroCells z.cells (grownCap w (n + m) sc e - (n + m))).toList).toArray = (xs ++ news).toArray ++ Builtin.zeroCells z.cells (grownCap w (n + m) sc e - (n + m)) := by
        apply Array.ext'
        simp
      rw [e2]
      exact h
    · rw [Array.length_toList, size_zeroCells, hzs]
      exact Nat.le_refl _
  by_cases hm : m = 0
  · subst hm
    have hn : news = [] := List.eq_nil_of_length_eq_zero (by rw [hs.newsLen]; simp)
    subst hn
    obtain ⟨A, c, rfl, hc⟩ := hr.form
    exact ⟨_, _, run_append_nothing w t t ty e i ht hi A n c hc x hs, by simpa using hr, World.grownBy.refl w _, .inl rfl⟩
  · rcases hr.2 with ⟨hv, hn⟩ | ⟨g, c, a, b, hv, hb, h1, h2, h3⟩
    · have hx : xs = [] := List.eq_nil_of_length_eq_zero (by rw [hr.1, hn]; simp)
      subst hn
      exact grow none 0 hv (by omega) (by rw [hx]; exact run_firstCells_none w.drew i.size 0 0 0)
    · by_cases hroom : n + m ≤ c
      · have hfit : news.length ≤ b.length := by
          rw [hs.newsLen]
          exact Nat.le_trans (Nat.mul_le_mul_right _ (by omega)) h3
        have hb2 : Blk w g e (a ++ xs ++ b.take news.length ++ b.drop news.length).toArray := by
          rw [List.append_assoc (a ++ xs), List.take_append_drop]; exact hb
        have hal : (a ++ xs).length = a.length + n * i.size := by rw [List.length_append, hr.1]
        have hcell : ∀ j, j < news.length → (w.cell? ⟨g, a.length + n * i.size + j, none⟩).isSome = true := fun j hj => by
          rw [hb.cell, List.getElem?_toArray, List.getElem?_append_right (by omega), List.getElem?_eq_getElem (by omega)]
          rfl
        subst hv
        have hrun := run_append_room_src (P := P) w t t ty e i ht hi g a.length n c x m news hs hroom hcell (fun j _ => hb.frozen _)
        refine ⟨_, _, hrun, ⟨hlen, .inr ⟨g, c, a, b.drop news.length, rfl, ?_, hroom, h2, ?_⟩⟩, grown_setCells g news _, .inl rfl⟩
        · have := blk_setPart (g := g) (t := e) (a := a ++ xs) (m := b.take news.length) (b := b.drop news.length) (m' := news) hb2 (by rw [List.length_take]; omega) hal
          rw [show a ++ (xs ++ news) ++ b.drop news.length = a ++ xs ++ news ++ b.drop news.length by simp only [List.append_assoc]]
          exact this
        · rw [List.length_drop, hs.newsLen, show c - (n + m) = c - n - m by omega, Nat.sub_mul]
          omega
      · have holds : ∀ j u, xs[j]? = some u → w.drew.cell? ((⟨g, a.length, none⟩ : Addr).add j) = some u := fun j u hu => by
          have hj : j < xs.length := by
            rcases Nat.lt_or_ge j xs.length with h1 | h1
            · exact h1
            · rw [List.getElem?_eq_none h1] at hu; cases hu
          have hbd : Blk w.drew g e (a ++ xs ++ b).toArray := hb
          rw [Go.WideShapes.add_plain, hbd.cell, List.getElem?_toArray, List.append_assoc, List.getElem?_append_right (by omega), List.getElem?_append_left (by omega), show a.length + j - a.length = j by omega]
          exact hu
        exact grow _ c hv (by omega) (run_firstCells_some w.drew i.size n _ n c xs hr.1 holds)
theorem wp_append_row {o : Oper} {a : Act} {K : Act → World → Prop} {Q : Exit → Act → World → Prop} (s x : Operand) (t : TypeId)
    (ho : o.op = .call { callee := .builtin .append, args := #[s, x], argTypes := #[t, t] })
    (e : TypeId) (i : TypeInfo) (z : Value) (size bytes : Nat) (ht : P.underlying t = some (.slice e)) (hi : P.info? e = some i) (hz : i.zero = some z)
    (hsize : i.size = size) (hby : i.bytes = bytes) (hzs : z.cells.size = size)
    (v : Value) (n : Nat) (xs : List Value) (hs : a.eval s = v) (hr : Row w e size v n xs)
    (y : Value) (m : Nat) (news : List Value) (hx : a.eval x = y) (hsrc : Src P size t y m news w)
    (h63 : n + m ≤ maxLen) (hbytes : (n + m) * bytes ≤ 140737488355328)
    (h : ∀ v' w', Row w' e size v' (n + m) (xs ++ news) → w.grownBy w' v.ownBlock → (v'.ownBlock = v.ownBlock ∨ v'.ownBlock = some w.heap.size) → K (a.put o.dst v') w') : o.wp P a w K Q := by
  obtain ⟨v', w', hrun, h2, h3, h4⟩ := run_append_row (P := P) w t o.type e i z size bytes ht hi hz hsize hby hzs v n xs hr y m news hsrc h63 hbytes
  unfold Oper.wp execOp
  simp only [ho, resolve, invoke, builtin, Sem.run_bind, Sem.run_pure, Result.andThen_ok, List.map_toArray, List.map_cons, List.map_nil, hs, hx, hrun]
  exact h v' w' h2 h3 h4
theorem wpList_append_row {ops : Array Oper} {rest : List Oper} {o : Oper} {a : Act} {Q : Exit → Act → World → Prop} (hgd : o.guard = none) (s x : Operand) (t : TypeId)
    (ho : o.op = .call { callee := .builtin .append, args := #[s, x], argTypes := #[t, t] })
    (e : TypeId) (i : TypeInfo) (z : Value) (size bytes : Nat) (ht : P.underlying t = some (.slice e)) (hi : P.info? e = some i) (hz : i.zero = some z)
    (hsize : i.size = size) (hby : i.bytes = bytes) (hzs : z.cells.size = size)
    (v : Value) (n : Nat) (xs : List Value) (hs : a.eval s = v) (hr : Row w e size v n xs)
    (y : Value) (m : Nat) (news : List Value) (hx : a.eval x = y) (hsrc : Src P size t y m news w)
    (h63 : n + m ≤ maxLen) (hbytes : (n + m) * bytes ≤ 140737488355328)
    (h : ∀ v' w', Row w' e size v' (n + m) (xs ++ news) → w.grownBy w' v.ownBlock → (v'.ownBlock = v.ownBlock ∨ v'.ownBlock = some w.heap.size) → wpList P ops Q rest (a.put o.dst v') w') : wpList P ops Q (o :: rest) a w :=
  wpList_plain hgd fun _ hK => wp_append_row w s x t ho e i z size bytes ht hi hz hsize hby hzs v n xs hs hr y m news hx hsrc h63 hbytes fun v' w' h2 h3 h4 => hK _ _ (h v' w' h2 h3 h4)
theorem step_append_row {ops : Array Oper} {o : Oper} {a : Act} {K : Act → World → Prop} {Q : Exit → Act → World → Prop} {E : Prop} (hgd : o.guard = none) (s x : Operand) (t : TypeId)
    (ho : o.op = .call { callee := .builtin .append, args := #[s, x], argTypes := #[t, t] })
    (e : TypeId) (i : TypeInfo) (z : Value) (size bytes : Nat) (ht : P.underlying t = some (.slice e)) (hi : P.info? e = some i) (hz : i.zero = some z)
    (hsize : i.size = size) (hby : i.bytes = bytes) (hzs : z.cells.size = size)
    (v : Value) (n : Nat) (xs : List Value) (hs : a.eval s = v) (hr : Row w e size v n xs)
    (y : Value) (m : Nat) (news : List Value) (hx : a.eval x = y) (hsrc : Src P size t y m news w)
    (h63 : n + m ≤ maxLen) (hbytes : (n + m) * bytes ≤ 140737488355328)
    (h : ∀ v' w', Row w' e size v' (n + m) (xs ++ news) → w.grownBy w' v.ownBlock → (v'.ownBlock = v.ownBlock ∨ v'.ownBlock = some w.heap.size) → K (a.put o.dst v') w') :
    if Region.wanted o (yielded ops a.tmps) = true then Oper.wp P o a w K Q else E := by
  have hw : Region.wanted o (yielded ops a.tmps) = true := by simp [Region.wanted, hgd]
  rw [if_pos hw]
  exact wp_append_row w s x t ho e i z size bytes ht hi hz hsize hby hzs v n xs hs hr y m news hx hsrc h63 hbytes h
end
end Go.Proofs.YtmkifedcanmjoaaGreat
/- The blocks that a call has made, known whole, side by side. Conditions: none. -/
set_option linter.unusedVariables false
set_option linter.unusedSimpArgs false
namespace Go.Proofs.YtmkifedcanmjoaaGreat
open Go.RowKit

/-- A block: where it lies, of what type, its cells. -/
abbrev Bk := Nat × TypeId × List Value
/-- Blocks from B on, all of them apart. -/
def Ms (B : Nat) (w : World) : List Bk → Prop
  | [] => True
  | b :: bs => (B ≤ b.1 ∧ Blk w b.1 b.2.1 b.2.2.toArray ∧ ∀ c ∈ bs, c.1 ≠ b.1) ∧ Ms B w bs
/-- Cells that fit a type. -/
structure FitL (t : TypeId) (l : List Value) : Prop where
  info : (Tryz.prog.info? t).map (·.size) = some l.length
  one : l.toArray.all (·.oneCell') = true
theorem FitL.len {t : TypeId} {l l' : List Value} (h : FitL t l) (h' : FitL t l') : l.length = l'.length := by
  have := h.info.symm.trans h'.info
  simpa using this
theorem FitL.infos {t : TypeId} {l : List Value} (h : FitL t l) : (Tryz.prog.info? t).map (·.size) = some l.toArray.size := h.info
section
variable {B : Nat} {w w' : World} {bs : List Bk}
theorem Ms.get (h : Ms B w bs) {b : Bk} (hb : b ∈ bs) : B ≤ b.1 ∧ Blk w b.1 b.2.1 b.2.2.toArray := by
  induction bs with
  | nil => cases hb
  | cons c bs ih =>
    rcases List.mem_cons.1 hb with rfl | hb
    · exact ⟨h.1.1, h.1.2.1⟩
    · exact ih h.2 hb
theorem Ms.keep (h : Ms B w bs) (hk : ∀ b ∈ bs, w'.heap[b.1]? = w.heap[b.1]?) : Ms B w' bs := by
  induction bs with
  | nil => trivial
  | cons c bs ih => exact ⟨⟨h.1.1, (hk c (List.mem_cons_self ..)).trans h.1.2.1, h.1.2.2⟩, ih h.2 fun b hb => hk b (List.mem_cons_of_mem _ hb)⟩
theorem Ms.call (h : Ms B w bs) (hb : Below w.heap.size w w') : Ms B w' bs := h.keep fun b hm => hb.block b.1 (h.get hm).2.lt
theorem Ms.cons (h : Ms B w bs) {g : Nat} {t : TypeId} {l : List Value} (hg : B ≤ g) (hb : Blk w g t l.toArray) (hn : ∀ c ∈ bs, c.1 ≠ g) : Ms B w ((g, t, l) :: bs) := ⟨⟨hg, hb, hn⟩, h⟩
theorem Ms.alloc (h : Ms B w bs) (hB : B ≤ w.heap.size) (t : TypeId) (l : List Value) : Ms B (w.alloc (.cells l.toArray t)) ((w.heap.size, t, l) :: bs) :=
  (h.call (balloc (Below.refl _ _) _)).cons hB (Blk.new w t _) fun c hc e => by have := (h.get hc).2.lt; omega
theorem Ms.ne_ {b : Bk} {post : List Bk} : ∀ {pre : List Bk}, Ms B w (pre ++ b :: post) → ∀ c, c ∈ pre ∨ c ∈ post → c.1 ≠ b.1
  | [], h, c, hc => by
    rcases hc with hc | hc
    · cases hc
    · exact h.1.2.2 c hc
  | p :: pre, h, c, hc => by
    rcases hc with hc | hc
    · rcases List.mem_cons.1 hc with rfl | hc
      · exact fun e => h.1.2.2 b (by simp) e.symm
      · exact Ms.ne_ (pre := pre) h.2 c (.inl hc)
    · exact Ms.ne_ (pre := pre) h.2 c (.inr hc)
/-- Another content for one block, all else as it was. -/
theorem Ms.turn {g : Nat} {t : TypeId} {l l' : List Value} {post : List Bk} (hb : Blk w' g t l'.toArray) (hk : ∀ k, k ≠ g → w'.heap[k]? = w.heap[k]?) : ∀ {pre : List Bk}, Ms B w (pre ++ (g, t, l) :: post) → Ms B w' (pre ++ (g, t, l') :: post)
  | [], h => ⟨⟨h.1.1, hb, h.1.2.2⟩, h.2.keep fun c hc => hk _ (h.1.2.2 c hc)⟩
  | p :: pre, h => by
    refine ⟨⟨h.1.1, (hk p.1 ?_).trans h.1.2.1, ?_⟩, Ms.turn hb hk (pre := pre) h.2⟩
    · exact fun e => h.1.2.2 (g, t, l) (by simp) e.symm
    · intro c hc
      rcases List.mem_append.1 hc with hc | hc
      · exact h.1.2.2 c (List.mem_append.2 (.inl hc))
      · rcases List.mem_cons.1 hc with rfl | hc
        · exact fun e => h.1.2.2 (g, t, l) (by simp) e
        · exact h.1.2.2 c (List.mem_append.2 (.inr (List.mem_cons_of_mem _ hc)))
theorem heap_setCells (w : World) (g : Nat) (vs : List Value) (o : Nat) : ∀ k, k ≠ g → (w.setCells g o vs).heap[k]? = w.heap[k]? := fun k hk => by
  have h := Sv.setCells (M := fun k => k = g) (Sv.refl _ w) (g := g) (.inl rfl) vs o
  rcases Nat.lt_or_ge k w.heap.size with hl | hl
  · exact h.block k hl hk
  · rw [Array.getElem?_eq_none hl, Array.getElem?_eq_none]
    have : (w.setCells g o vs).heap.size = w.heap.size := by
      clear h hk hl
      induction vs generalizing w o with
      | nil => rfl
      | cons v vs ih => exact (ih (w.setCell ⟨g, o, none⟩ v) (o + 1)).trans (World.size_setCell ..)
    omega
end
/-- What a call has made, and that all that was is as it was. -/
structure MW (w0 w : World) (bs : List Bk) : Prop where
  bel : Below w0.heap.size w0 w
  ms : Ms w0.heap.size w bs
section
variable {w0 w w' : World} {bs : List Bk} {g : Nat} {t : TypeId} {l : List Value}
theorem MW.start (w : World) : MW w w [] := ⟨Below.refl _ _, trivial⟩
theorem MW.call (h : MW w0 w bs) (hb : Below w.heap.size w w') : MW w0 w' bs := ⟨bcall h.bel hb, h.ms.call hb⟩
theorem MW.drew (h : MW w0 w bs) : MW w0 w.drew bs := h.call (bdrew (Below.refl _ _))
theorem MW.drewN (h : MW w0 w bs) (n : Nat) : MW w0 (w.drewN n) bs := h.call (below_drewN (Below.refl _ _) n)
theorem MW.alloc (h : MW w0 w bs) (t : TypeId) (l : List Value) : MW w0 (w.alloc (.cells l.toArray t)) ((w.heap.size, t, l) :: bs) := ⟨balloc h.bel _, h.ms.alloc h.bel.size t l⟩
theorem MW.get (h : MW w0 w bs) (hb : (g, t, l) ∈ bs) : w0.heap.size ≤ g ∧ Blk w g t l.toArray := h.ms.get hb
theorem MW.blk (h : MW w0 w bs) (hb : (g, t, l) ∈ bs) : Blk w g t l.toArray := (h.get hb).2
theorem MW.le (h : MW w0 w bs) (hb : (g, t, l) ∈ bs) : w0.heap.size ≤ g := (h.get hb).1
theorem MW.range (h : MW w0 w bs) (hb : (g, t, l) ∈ bs) : w.rangeAt g 0 l := blk_range (h.blk hb)
theorem MW.part (h : MW w0 w bs) (hb : (g, t, l) ∈ bs) (o : Nat) (m : List Value) (hm : ∀ j v, m[j]? = some v → l[o + j]? = some v) : w.rangeAt g o m := blk_mid (h.blk hb) o m hm
theorem MW.there (h : MW w0 w bs) (hb : (g, t, l) ∈ bs) (o n : Nat) (hn : o + n ≤ l.length) : w.there g o n := blk_there (h.blk hb) o n hn
theorem MW.cell (h : MW w0 w bs) (hb : (g, t, l) ∈ bs) (i : Nat) : w.cell? ⟨g, i, none⟩ = l[i]? := by rw [Blk.cell (h.blk hb), List.getElem?_toArray]
theorem MW.frozen (h : MW w0 w bs) (hb : (g, t, l) ∈ bs) (i : Nat) : w.frozen? ⟨g, i, none⟩ = false := Blk.frozen (h.blk hb) i
theorem MW.drop (h : MW w0 w bs) {bs' : List Bk} (hb : bs'.Sublist bs) : MW w0 w bs' := by
  refine ⟨h.bel, ?_⟩
  have hm := h.ms
  clear h
  induction hb with
  | slnil => trivial
  | cons a _ ih => exact ih hm.2
  | cons_cons a hs ih => exact ⟨⟨hm.1.1, hm.1.2.1, fun c hc => hm.1.2.2 c (hs.subset hc)⟩, ih hm.2⟩
theorem MW.turn {pre post : List Bk} (h : MW w0 w (pre ++ (g, t, l) :: post)) {l' : List Value} (hb : Blk w' g t l'.toArray) (hk : ∀ k, k ≠ g → w'.heap[k]? = w.heap[k]?) (hbel : Below w0.heap.size w0 w') : MW w0 w' (pre ++ (g, t, l') :: post) :=
  ⟨hbel, h.ms.turn hb hk⟩
/-- A block is written whole. -/
theorem MW.set {pre post : List Bk} (h : MW w0 w (pre ++ (g, t, l) :: post)) {l' : List Value} (hl : l'.length = l.length) : MW w0 (w.setCells g 0 l') (pre ++ (g, t, l') :: post) := by
  have hm : (g, t, l) ∈ pre ++ (g, t, l) :: post := by simp
  exact h.turn (blk_setAll (h.blk hm) hl) (heap_setCells w g l' 0) (below_setCells h.bel (h.le hm) _ _)
/-- A part of a block is written. -/
theorem MW.setPart {pre post : List Bk} {a m b : List Value} (h : MW w0 w (pre ++ (g, t, a ++ m ++ b) :: post)) {m' : List Value} (hl : m'.length = m.length) {o : Nat} (ho : a.length = o) : MW w0 (w.setCells g o m') (pre ++ (g, t, a ++ m' ++ b) :: post) := by
  have hm : (g, t, a ++ m ++ b) ∈ pre ++ (g, t, a ++ m ++ b) :: post := by simp
  exact h.turn (blk_setPart (h.blk hm) hl ho) (heap_setCells w g m' o) (below_setCells h.bel (h.le hm) _ _)
/-- One cell is written. -/
theorem MW.set1 {pre post : List Bk} (h : MW w0 w (pre ++ (g, t, l) :: post)) (i : Nat) (v : Value) : MW w0 (w.setCell ⟨g, i, none⟩ v) (pre ++ (g, t, l.set i v) :: post) := by
  have hm : (g, t, l) ∈ pre ++ (g, t, l) :: post := by simp
  refine h.turn ?_ (fun k hk => heap_setCells w g [v] i k hk) (bset h.bel (h.le hm) v)
  have := Blk.set_ (h.blk hm) i v
  rw [List.setIfInBounds_toArray] at this
  exact this
theorem there_new (w : World) (t : TypeId) (Z : Array Value) (n : Nat) (hn : n ≤ Z.size) : (w.alloc (.cells Z t)).there w.heap.size 0 n := fun j hj =>
  ⟨by rw [(Blk.new w t Z).cell, Array.getElem?_eq_getElem (by omega)]; rfl, (Blk.new w t Z).frozen _⟩
/-- A new block, written whole. -/
theorem MW.newset (h : MW w0 w bs) (t : TypeId) (Z : Array Value) (l : List Value) (hl : l.length = Z.size) : MW w0 ((w.alloc (.cells Z t)).setCells w.heap.size 0 l) ((w.heap.size, t, l) :: bs) := by
  have h1 := h.alloc t Z.toList
  rw [Array.toArray_toList] at h1
  exact MW.set (pre := []) h1 (by rw [hl, Array.length_toList])
end
end Go.Proofs.YtmkifedcanmjoaaGreat
/- Steps of a drawn region walked by hand. Conditions: as each says. -/
set_option linter.unusedVariables false
namespace Go.Proofs.YtmkifedcanmjoaaGreat
open Go.RowKit
theorem wpAnyH_takeAt {P : Program} {md : Region.Mode} {ops : Array Oper} {Q : Exit → Act → World → Prop} {S : World → Prop} {i d : Nat} {oi : Oper} {v : Value} {fuel : Nat} {listed : Array Bool} {tm : List Value} {df : List Deferred} {w : World} (hi : ops[i]? = some oi)
    (hs : Region.noSelect ops = true) (hf : Region.free md ops listed i = true) (hr : (Region.ready md ops listed).contains i = true)
    (hQ : ∀ c a w, Q (.panic c) (a.put oi.dst v) w → Q (.panic c) a w) (hd : oi.dst = some d) (hy : YieldsIf P ops S oi v ⟨tm.toArray, df⟩) (hS : S w)
    (h : wpAnyH P md ops Q S fuel (listed.setIfInBounds i true) ⟨(tm.set d v).toArray, df⟩ w) : wpAnyH P md ops Q S (fuel + 1) listed ⟨tm.toArray, df⟩ w := by
  refine wpAnyH_take hi hs hf hr hQ hy hS ?_
  rw [hd]
  simpa [Act.put] using h
theorem wpAnyH_putAt {P : Program} {md : Region.Mode} {ops : Array Oper} {Q : Exit → Act → World → Prop} {S : World → Prop} {d : Nat} {x : Option Nat} {v : Value} {fuel : Nat} {listed : Array Bool} {tm : List Value} {df : List Deferred} {w : World} (hd : x = some d)
    (h : wpAnyH P md ops Q S fuel listed ⟨(tm.set d v).toArray, df⟩ w) : wpAnyH P md ops Q S fuel listed (Act.put ⟨tm.toArray, df⟩ x v) w := by
  rw [hd]
  simpa [Act.put] using h
theorem wpAnyH_putNone {P : Program} {md : Region.Mode} {ops : Array Oper} {Q : Exit → Act → World → Prop} {S : World → Prop} {x : Option Nat} {v : Value} {fuel : Nat} {listed : Array Bool} {a : Act} {w : World} (hd : x = none)
    (h : wpAnyH P md ops Q S fuel listed a w) : wpAnyH P md ops Q S fuel listed (Act.put a x v) w := by
  rw [hd]
  exact h
end Go.Proofs.YtmkifedcanmjoaaGreat
