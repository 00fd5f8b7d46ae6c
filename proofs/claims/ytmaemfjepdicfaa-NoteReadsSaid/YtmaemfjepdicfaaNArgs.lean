/- A note as an argument. Conditions: none. (open_agg7 began as lines of the guide's copy page.) -/
import Derived.Test.YtmaemfjepdicfaaArgs
import Derived.Test.YtmaemfjepdicfaaWelcome
import Derived.Deep.Fields
import Derived.ChangeSame
set_option linter.unusedVariables false
namespace Go.Proofs.Ytmaemfjepdicfaa
open Go.RowKit Go.ChangeShapes Go.WideShapes Go.Joins Go.Deep
section
variable {H : Type} {enc : TypeId × Value → H} {P : Program} {w : World} {base : Nat} {spare : Nat → Bool} {held : Bool}
theorem open_agg7 {r : Reach} {b0 : Nat} {t : TypeId} {f0 f1 f2 f3 f4 f5 f6 : Field} {v : Value} {d : DataW H} {p : List MemPlace} (hs : P.underlying t = some (.struct #[f0, f1, f2, f3, f4, f5, f6])) (hone : oneCellFields P #[f0, f1, f2, f3, f4, f5, f6] = true) (hC : P.cellsOf t = 7)
    (hv : Value.okWide P w r b0 t v) (h : DataW.Trod enc P w base spare held t v d p) :
    ∃ (v0 v1 v2 v3 v4 v5 v6 : Value) (y0 y1 y2 y3 y4 y5 y6 : DataW H × List MemPlace) (n : Nat), v = .agg #[v0, v1, v2, v3, v4, v5, v6] ∧ d = .agg [y0.1, y1.1, y2.1, y3.1, y4.1, y5.1, y6.1] ∧ p = y0.2 ++ (y1.2 ++ (y2.2 ++ (y3.2 ++ (y4.2 ++ (y5.2 ++ (y6.2)))))) ∧
      DataW.trod enc P w base spare held n f0.type [v0] = some y0 ∧ DataW.trod enc P w base spare held n f1.type [v1] = some y1 ∧ DataW.trod enc P w base spare held n f2.type [v2] = some y2 ∧ DataW.trod enc P w base spare held n f3.type [v3] = some y3 ∧ DataW.trod enc P w base spare held n f4.type [v4] = some y4 ∧ DataW.trod enc P w base spare held n f5.type [v5] = some y5 ∧ DataW.trod enc P w base spare held n f6.type [v6] = some y6 := by
  obtain ⟨cs, rfl, hsz⟩ := okWide_struct hs hv
  obtain ⟨l⟩ := cs
  match l, hsz.trans hC with
  | [c0, c1, c2, c3, c4, c5, c6], _ =>
    obtain ⟨fuel, hf⟩ := h
    obtain ⟨xs, n, _, hx, _, hlen, hg⟩ := DataW.trod_struct hs hf
    obtain ⟨o0, k0⟩ := hone_of hone 0 f0 rfl
    obtain ⟨o1, k1⟩ := hone_of hone 1 f1 rfl
    obtain ⟨o2, k2⟩ := hone_of hone 2 f2 rfl
    obtain ⟨o3, k3⟩ := hone_of hone 3 f3 rfl
    obtain ⟨o4, k4⟩ := hone_of hone 4 f4 rfl
    obtain ⟨o5, k5⟩ := hone_of hone 5 f5 rfl
    obtain ⟨o6, k6⟩ := hone_of hone 6 f6 rfl
    match xs, hlen with
    | [y0, y1, y2, y3, y4, y5, y6], _ =>
      simp only [Prod.mk.injEq] at hx
      exact ⟨c0, c1, c2, c3, c4, c5, c6, y0, y1, y2, y3, y4, y5, y6, n, rfl, by simpa using hx.1, by simpa using hx.2, by simpa [Value.cells, o0, k0] using hg 0 f0 rfl, by simpa [Value.cells, o1, k1] using hg 1 f1 rfl, by simpa [Value.cells, o2, k2] using hg 2 f2 rfl, by simpa [Value.cells, o3, k3] using hg 3 f3 rfl, by simpa [Value.cells, o4, k4] using hg 4 f4 rfl, by simpa [Value.cells, o5, k5] using hg 5 f5 rfl, by simpa [Value.cells, o6, k6] using hg 6 f6 rfl⟩
end
theorem cells24 : Try.prog.cellsOf 24 = 7 := by kernel_rfl
/-- A note that came in. -/
theorem open_note {H : Type} {enc : TypeId × Value → H} {W : World} {r : Reach} {b0 : Nat} {v : Value} {d : DataW H} {p : List MemPlace} (hv : Value.okWide Try.prog W r b0 24 v) (h : DataW.Trod enc Try.prog W 0 (fun _ => true) true 24 v d p) (hlt : ∀ x ∈ p, x.block < W.heap.size) :
    ∃ (D : NoteD) (A : Option Addr) (c : Nat), v = noteV D A c ∧ Reads W W.heap.size 1 A D.bs.length (D.bs.map u8v) ∧ D.bs.length ≤ 9223372036854775807 := by
  obtain ⟨v0, v1, v2, v3, v4, v5, v6, y0, y1, y2, y3, y4, y5, y6, n, rfl, rfl, rfl, h0, h1, h2, h3, h4, h5, h6⟩ := open_agg7 Try.underlying24 (by kernel_rfl) cells24 hv h
  obtain ⟨z0, e0, rfl, w0⟩ := DataW.trod_int Try.underlying3 h0
  simp only [List.cons.injEq, and_true] at e0
  subst e0
  obtain ⟨z1, e1, rfl, w1⟩ := DataW.trod_int Try.underlying3 h1
  simp only [List.cons.injEq, and_true] at e1
  subst e1
  obtain ⟨z2, e2, rfl, w2⟩ := DataW.trod_int Try.underlying3 h2
  simp only [List.cons.injEq, and_true] at e2
  subst e2
  obtain ⟨z3, e3, rfl, w3⟩ := DataW.trod_int Try.underlying3 h3
  simp only [List.cons.injEq, and_true] at e3
  subst e3
  obtain ⟨z4, e4, rfl, w4⟩ := DataW.trod_int Try.underlying3 h4
  simp only [List.cons.injEq, and_true] at e4
  subst e4
  obtain ⟨z5, e5, rfl, w5⟩ := DataW.trod_int Try.underlying3 h5
  simp only [List.cons.injEq, and_true] at e5
  subst e5
  obtain ⟨A, l, c, rfl⟩ := slice_of Try.underlying22 Try.underlying5 cells5b h6
  obtain ⟨bs, rfl, hr, hl, hm, _⟩ := open_b (d := y6.1) (p := y6.2) Try.underlying22 Try.underlying5 cells5b ⟨n, by simpa [Value.cells] using h6⟩ (fun x hx => hlt x (by simp [hx]))
  exact ⟨⟨z0, z1, z2, z3, z4, z5, bs⟩, A, c, rfl, hr, by unfold maxLen at hm; show bs.length ≤ _; omega⟩
end Go.Proofs.Ytmaemfjepdicfaa
