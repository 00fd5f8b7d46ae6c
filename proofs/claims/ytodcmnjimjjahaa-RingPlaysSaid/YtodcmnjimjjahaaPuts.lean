/- An argument that is a slice of structs {uint16, []byte}: it reads as a list of entries. Conditions: none. (open_slice_fields began as lines of the guide's copy page.) -/
import Derived.Test.YtodcmnjimjjahaaPlay
import Derived.Test.YtodcmnjimjjahaaPost
import Derived.Deep.Slices
import Derived.Deep.Fields
import Derived.ChangeSame
set_option linter.unusedVariables false
namespace Go.Proofs.Ytodcmnjimjjahaa
open Go.RowKit Go.ChangeShapes Go.WideShapes Go.Deep
section
variable {H : Type} {enc : TypeId × Value → H} {P : Program} {w : World} {base : Nat} {spare : Nat → Bool} {held : Bool}
theorem open_slice_fields {t e : TypeId} {fs : Array Field} {fuel : Nat} {cs : List Value} {x : DataW H × List MemPlace} (ht : P.underlying t = some (.slice e)) (he : P.underlying e = some (.struct fs))
    (hone : oneCellFields P fs = true) (hC : P.cellsOf e = fs.size) (h : DataW.trod enc P w base spare held fuel t cs = some x) :
    (cs = [.slice none 0 0] ∧ x = (.nil, [])) ∨
    ∃ (a : Addr) (len cap m : Nat) (D : Nat → DataW H) (Pl : Nat → List MemPlace), cs = [.slice (some a) len cap] ∧ base ≤ a.block ∧ len ≤ cap ∧ cap ≤ maxLen ∧ m = (if spare a.block then cap else len) ∧
      x = (.slice ((List.range len).map D) ((List.range (m - len)).map fun j => D (len + j)), MemPlace.row a (m * fs.size) ++ (List.range m).flatMap Pl) ∧
      ∀ i, i < m → ∃ (ys : List (DataW H × List MemPlace)) (n : Nat), D i = .agg (ys.map (·.1)) ∧ Pl i = ys.flatMap (·.2) ∧ ys.length = fs.size ∧
        ∀ (j : Nat) (f : Field), fs[j]? = some f → ∃ (v : Value) (y : DataW H × List MemPlace), w.cell? (a.add (i * fs.size + j)) = some v ∧ ys[j]? = some y ∧ DataW.trod enc P w base spare held n f.type [v] = some y := by
  rcases open_slice ht h with h0 | ⟨a, len, cap, m, n, D, Pl, hcs, hb, hl, hm, hmm, hx, hi⟩
  · exact .inl h0
  · refine .inr ⟨a, len, cap, m, D, Pl, hcs, hb, hl, hm, hmm, by rw [hC] at hx; exact hx, fun i him => ?_⟩
    obtain ⟨cs', hc, ht'⟩ := hi i him
    rw [hC] at hc
    obtain ⟨ys, n', hn', hy, hlen, hyl, hf⟩ := DataW.trod_struct he ht'
    obtain ⟨_, hcl, hat⟩ := World.cells?_some hc
    simp only [Prod.mk.injEq] at hy
    refine ⟨ys, n', hy.1, hy.2, hyl, fun j f hj => ?_⟩
    obtain ⟨ho, hk⟩ := hone_of hone j f hj
    have hjl : j < fs.size := (Array.getElem?_eq_some_iff.1 hj).1
    have hcell := hat j hjl
    have hv : cs'[j]? = some (cs'[j]'(by omega)) := List.getElem?_eq_getElem (by omega)
    have h1 := hf j f hj
    rw [ho, hk] at h1
    have hone' : (cs'.drop j).take 1 = [cs'[j]'(by omega)] := by
      rw [List.drop_eq_getElem_cons (by omega)]
      rfl
    rw [hone'] at h1
    have hys : ys[j]? = some (ys[j]'(by omega)) := List.getElem?_eq_getElem (by omega)
    refine ⟨_, _, ?_, hys, h1.trans hys⟩
    rw [← Go.Deep.add_add, hcell, hv]
/-- What an element weighs its slice weighs. -/
theorem weights_elem (e : TypeId) : ∀ (ds : List (DataW H)) (d : DataW H), d ∈ ds → ∀ n ∈ d.weights P e, n ∈ DataW.weightsAll P e ds
  | [], d, h, _, _ => by simp at h
  | d0 :: ds, d, h, n, hn => by
    simp only [DataW.weightsAll, List.mem_append]
    rcases List.mem_cons.1 h with rfl | h
    · exact .inl hn
    · exact .inr (weights_elem e ds d h n hn)
/-- A slice of bytes that came in, with its reach. -/
theorem open_bytes {t e : TypeId} {W : World} {v : Value} {d : DataW H} {p : List MemPlace} {n : Nat} (ht : P.underlying t = some (.slice e)) (he : P.underlying e = some (.int .u8)) (hc : P.cellsOf e = 1) (hby : P.bytesOf e = 1)
    (h : DataW.trod enc P W 0 (fun _ => true) true n t [v] = some (d, p)) (hlt : ∀ x ∈ p, x.block < W.heap.size) (hw : ∀ m ∈ d.weights P t, m ≤ reachBytes) :
    ∃ bs : List UInt8, BytesV e W.heap.size W v bs ∧ bs.length ≤ reachBytes := by
  have hv : ∃ A l c, v = .slice A l c := by
    rcases open_ints ht he hc h with ⟨hcs, _⟩ | ⟨a, len, cap, _, hcs, _⟩
    · exact ⟨none, 0, 0, by simpa using hcs⟩
    · exact ⟨some a, len, cap, by simpa using hcs⟩
  obtain ⟨A, l, c, rfl⟩ := hv
  obtain ⟨zs, hzl, hlc, hcm, hreads, hwz, hd⟩ := open_row ht he hc ⟨n, h⟩ hlt
  obtain ⟨bs, hbl, hbm, _⟩ := as_bytes hwz
  rw [hbm] at hreads
  refine ⟨bs, BytesV.of_arg hreads (by omega) hlc (Nat.le_refl _), ?_⟩
  rcases hd with ⟨_, h0, _⟩ | ⟨rest, rfl, hr⟩
  · omega
  · have := hw ((zs.length + rest.length) * P.bytesOf e) (by simp [DataW.weights, ht, lits])
    rw [hby] at this
    omega
end
theorem cells38 : Try.prog.cellsOf 38 = 2 := by kernel_rfl
theorem cells5' : Try.prog.cellsOf 5 = 1 := by kernel_rfl
theorem bytes5' : Try.prog.bytesOf 5 = 1 := by kernel_rfl
theorem open_puts {H : Type} {enc : TypeId × Value → H} {W : World} {A : Option Addr} {n c : Nat} {d : DataW H} {p : List MemPlace}
    (h : DataW.Trod enc Try.prog W 0 (fun _ => true) true 31 (.slice A n c) d p) (hlt : ∀ x ∈ p, x.block < W.heap.size) (hw : ∀ m ∈ d.weights Try.prog 31, m ≤ reachBytes) :
    ∃ ps : List Ent, ps.length = n ∧ n ≤ c ∧ c ≤ maxLen ∧ Reads W W.heap.size 2 A n (ecells ps) ∧ (∀ e ∈ ps, BytesV 5 W.heap.size W e.v e.bs) ∧ (∀ e ∈ ps, e.seq < 65536 ∧ e.bs.length ≤ 140737488351232) := by
  obtain ⟨fuel, hf⟩ := h
  rcases open_slice_fields Try.underlying31 Try.underlying38 (by kernel_rfl) cells38 hf with ⟨hcs, hx⟩ | ⟨a, len, cap, m, D, Pl, hcs, _, hl, hm, hmm, hx, hi⟩
  · simp [Value.cells] at hcs
    obtain ⟨rfl, rfl, rfl⟩ := hcs
    exact ⟨[], rfl, Nat.le_refl _, by simp [maxLen], Reads.none_, by simp, by simp⟩
  · simp [Value.cells] at hcs
    obtain ⟨rfl, rfl, rfl⟩ := hcs
    simp only [if_true] at hmm
    subst hmm
    simp only [Prod.mk.injEq] at hx
    obtain ⟨hd, hp⟩ := hx
    have key : ∀ i, i < n → ∃ E : Ent, W.cell? (a.add (i * 2)) = some (.int .u16 (E.seq : Int)) ∧ W.cell? (a.add (i * 2 + 1)) = some E.v ∧ BytesV 5 W.heap.size W E.v E.bs ∧ E.seq < 65536 ∧ E.bs.length ≤ 140737488351232 := by
      intro i hin
      obtain ⟨ys, k, hD, hP, hyl, hfs⟩ := hi i (by omega)
      obtain ⟨v0, y0, hc0, hy0, ht0⟩ := hfs 0 _ rfl
      obtain ⟨v1, y1, hc1, hy1, ht1⟩ := hfs 1 _ rfl
      obtain ⟨s, hs, hys, hsw⟩ := DataW.trod_int Try.underlying26 ht0
      simp only [List.cons.injEq, and_true] at hs
      subst hs
      have bn := u16_bd hsw
      have hpl : ∀ x ∈ y1.2, x.block < W.heap.size := fun x hx => hlt x (by
        rw [hp, List.mem_append]
        right
        rw [List.mem_flatMap]
        refine ⟨i, List.mem_range.2 (by omega), ?_⟩
        rw [hP, List.mem_flatMap]
        exact ⟨y1, List.mem_of_getElem? hy1, hx⟩)
      have hwt : ∀ m ∈ y1.1.weights Try.prog 27, m ≤ reachBytes := by
        intro m hm
        refine hw m ?_
        rw [hd]
        simp only [DataW.weights, Try.underlying31, List.mem_cons, List.mem_append]
        right; left
        refine weights_elem 38 _ (D i) (List.mem_map.2 ⟨i, List.mem_range.2 hin, rfl⟩) m ?_
        rw [hD]
        simp only [DataW.weights, Try.underlying38]
        match ys, hyl with
        | [z0, z1], _ =>
          simp at hy1
          subst hy1
          simp only [List.map_cons, List.map_nil, DataW.weightsEach, List.mem_append]
          right; left; exact hm
      obtain ⟨bs, hbv, hbl⟩ := open_bytes (e := 5) Try.underlying27 Try.underlying5 cells5' bytes5' (show DataW.trod enc Try.prog W 0 (fun _ => true) true k 27 [v1] = some (y1.1, y1.2) from ht1) hpl hwt
      refine ⟨⟨s.toNat, v1, bs⟩, ?_, hc1, hbv, by show s.toNat < 65536; omega, by simpa [reachBytes] using hbl⟩
      have : ((s.toNat : Nat) : Int) = s := by omega
      show W.cell? _ = some (.int .u16 ((s.toNat : Nat) : Int))
      rw [this]
      exact hc0
    haveI : Inhabited Ent := ⟨⟨0, .slice none 0 0, []⟩⟩
    obtain ⟨E, hE⟩ := choose_lt (α := Ent) key
    refine ⟨(List.range n).map E, by simp, hl, hm, ⟨by rw [ecells_len]; simp, fun hn => ⟨a, rfl, ?_, fun j u hu => ?_⟩⟩, ?_, ?_⟩
    · have := World.block_lt_of_cell? _ _ (hE 0 hn).1
      rwa [block_of_add] at this
    · have hj : j < n * 2 := by have := (List.getElem?_eq_some_iff.1 hu).1; rw [ecells_len] at this; simpa using this
      have hlen : j / 2 < ((List.range n).map E).length := by simp; omega
      obtain ⟨e1, e2⟩ := ecells_at ((List.range n).map E) (j / 2) hlen
      simp only [List.getElem_map, List.getElem_range] at e1 e2
      rcases Nat.mod_two_eq_zero_or_one j with h2 | h2
      · rw [show j / 2 * 2 = j by omega, hu] at e1
        injection e1 with e1
        rw [e1]
        have := (hE (j / 2) (by omega)).1
        rwa [show j / 2 * 2 = j by omega] at this
      · rw [show j / 2 * 2 + 1 = j by omega, hu] at e2
        injection e2 with e2
        rw [e2]
        have := (hE (j / 2) (by omega)).2.1
        rwa [show j / 2 * 2 + 1 = j by omega] at this
    · intro e he
      obtain ⟨i, hi, rfl⟩ := List.mem_map.1 he
      exact (hE i (List.mem_range.1 hi)).2.2.1
    · intro e he
      obtain ⟨i, hi, rfl⟩ := List.mem_map.1 he
      exact (hE i (List.mem_range.1 hi)).2.2.2
end Go.Proofs.Ytodcmnjimjjahaa
