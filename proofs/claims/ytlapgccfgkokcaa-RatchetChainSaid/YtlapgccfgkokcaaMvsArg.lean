/- An argument that is a slice of structs {bool, int}: it reads as a list of moves. Conditions: none. (open_slice_fields began as lines of the guide's copy page.) -/
import Derived.Test.YtlapgccfgkokcaaChainW
import Derived.Test.YtlapgccfgkokcaaArgs
import Derived.Test.YtlapgccfgkokcaaPost
import Derived.Deep.Slices
import Derived.Deep.Fields
import Derived.ChangeArms
set_option linter.unusedVariables false
namespace Go.Proofs.Ytlapgccfgkokcaa
open Go.RowKit Go.ChangeShapes Go.WideShapes Go.Deep
section
variable {H : Type} {enc : TypeId × Value → H} {P : Program} {w : World} {base : Nat} {spare : Nat → Bool} {held : Bool}
theorem open_slice_fields {t e : TypeId} {fs : Array Field} {fuel : Nat} {cs : List Value} {x : DataW H × List MemPlace} (ht : P.underlying t = some (.slice e)) (he : P.underlying e = some (.struct fs))
    (hone : oneCellFields P fs = true) (hC : P.cellsOf e = fs.size) (h : DataW.trod enc P w base spare held fuel t cs = some x) :
    (cs = [.slice none 0 0] ∧ x = (.nil, [])) ∨
    ∃ (a : Addr) (len cap m : Nat) (D : Nat → DataW H) (Pl : Nat → List MemPlace), cs = [.slice (some a) len cap] ∧ base ≤ a.block ∧ len ≤ cap ∧ cap ≤ maxLen ∧ m = (if spare a.block then cap else len) ∧
      x = (.slice ((List.range len).map D) ((List.range (m - len)).map fun j => D (len + j)), MemPlace.row a (m * fs.size) ++ (List.range m).flatMap Pl) ∧
      ∀ i, i < m → ∃ (ys : List (DataW H × List MemPlace)) (n : Nat), D i = .agg (ys.map (·.1)) ∧ Pl i = ys.flatMap (·.2) ∧ ys.length = fs.size ∧
        ∀ (j : Nat) (f : Field), fs[j]? = some f → ∃ (v : Value) (y : DataW H × List MemPlace), w.cell? (a.add (i * fs.size + j)) = some v ∧ ys[j]? = some y ∧ DataW.trod enc P w base spare held n f.type [v] = some y := by
  rcases open_slice ht h with h0 | ⟨a, len, cap, m, n, D, Pl, hcs, hb, hl, hm, hmm, hx, hi⟩
  · exact .inl h0
  · refine .inr ⟨a, len, cap, m, D, Pl, hcs, hb, hl, hm, hmm, by rw [hC] at hx; exact hx, fun i him => ?_⟩
    obtain ⟨cs', hc, ht'⟩ := hi i him
    rw [hC] at hc
    obtain ⟨ys, n', hn', hy, hlen, hyl, hf⟩ := DataW.trod_struct he ht'
    obtain ⟨_, hcl, hat⟩ := World.cells?_some hc
    simp only [Prod.mk.injEq] at hy
    refine ⟨ys, n', hy.1, hy.2, hyl, fun j f hj => ?_⟩
    obtain ⟨ho, hk⟩ := hone_of hone j f hj
    have hjl : j < fs.size := (Array.getElem?_eq_some_iff.1 hj).1
    have hcell := hat j hjl
    have hv : cs'[j]? = some (cs'[j]'(by omega)) := List.getElem?_eq_getElem (by omega)
    have h1 := hf j f hj
    rw [ho, hk] at h1
    have hone' : (cs'.drop j).take 1 = [cs'[j]'(by omega)] := by
      rw [List.drop_eq_getElem_cons (by omega)]
      rfl
    rw [hone'] at h1
    have hys : ys[j]? = some (ys[j]'(by omega)) := List.getElem?_eq_getElem (by omega)
    refine ⟨_, _, ?_, hys, h1.trans hys⟩
    rw [← Go.Deep.add_add, hcell, hv]
end
theorem cells65 : Try.prog.cellsOf 65 = 2 := by kernel_rfl
theorem open_moves {H : Type} {enc : TypeId × Value → H} {W : World} {A : Option Addr} {n c : Nat} {d : DataW H} {p : List MemPlace}
    (h : DataW.Trod enc Try.prog W 0 (fun _ => true) true 63 (.slice A n c) d p) (hlt : ∀ x ∈ p, x.block < W.heap.size) :
    ∃ ms : List (Bool × Int), ms.length = n ∧ n ≤ c ∧ c ≤ maxLen ∧ Mvs W A ms := by
  obtain ⟨fuel, hf⟩ := h
  rcases open_slice_fields Try.underlying63 Try.underlying65 (by kernel_rfl) cells65 hf with ⟨hcs, hx⟩ | ⟨a, len, cap, m, D, Pl, hcs, _, hl, hm, hmm, hx, hi⟩
  · simp [Value.cells] at hcs
    obtain ⟨rfl, rfl, rfl⟩ := hcs
    exact ⟨[], rfl, Nat.le_refl _, by simp [maxLen], fun h => absurd h (by simp)⟩
  · simp [Value.cells] at hcs
    obtain ⟨rfl, rfl, rfl⟩ := hcs
    simp only [if_true] at hmm
    subst hmm
    have key : ∀ i, i < n → ∃ E : Bool × Int, W.cell? (a.add (i * 2)) = some (.bool E.1) ∧ W.cell? (a.add (i * 2 + 1)) = some (.int .i64 E.2) ∧ -9223372036854775808 ≤ E.2 ∧ E.2 ≤ 9223372036854775807 := by
      intro i hin
      obtain ⟨ys, k, hD, hP, hyl, hfs⟩ := hi i (by omega)
      obtain ⟨v0, y0, hc0, hy0, ht0⟩ := hfs 0 _ rfl
      obtain ⟨v1, y1, hc1, hy1, ht1⟩ := hfs 1 _ rfl
      obtain ⟨f, hf, hyf⟩ := DataW.trod_bool Try.underlying4 ht0
      obtain ⟨s, hs, hys, hsw⟩ := DataW.trod_int Try.underlying3 ht1
      simp only [List.cons.injEq, and_true] at hf hs
      subst hf hs
      have bn := i64_bd hsw
      exact ⟨(f, s), hc0, hc1, bn.1, bn.2⟩
    obtain ⟨E, hE⟩ := choose_lt (α := Bool × Int) key
    have hgd : ∀ i, i < n → ((List.range n).map E).length = n := fun i _ => by simp
    refine ⟨(List.range n).map E, by simp, hl, hm, fun hn => ?_⟩
    simp only [List.length_map, List.length_range] at hn
    have h0 := (hE 0 hn).1
    obtain ⟨g, o, rfl⟩ := addr_plain (by simpa using h0)
    refine ⟨g, o, rfl, World.block_lt_of_cell? _ _ (by simpa [Addr.add] using h0), fun i hi => ?_⟩
    simp only [List.length_map, List.length_range] at hi
    obtain ⟨h1, h2, h3, h4⟩ := hE i hi
    rw [Go.WideShapes.add_plain] at h1 h2
    exact ⟨(E i).1, (E i).2, h1, by rw [Nat.add_assoc]; exact h2, h3, h4⟩
end Go.Proofs.Ytlapgccfgkokcaa
