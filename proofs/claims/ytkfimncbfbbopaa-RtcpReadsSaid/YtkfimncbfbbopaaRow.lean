/- Rows of structs of numbers: where an element's cells lie; help.Pairs (contract). Conditions: as each says. -/
import Derived.Test.YtkfimncbfbbopaaNackL
set_option linter.unusedVariables false
set_option linter.unusedSimpArgs false
namespace Go.Proofs.Ytkfimncbfbbopaa
open Go.RowKit
attribute [local go_sem ↓] Go.wp_at_zero Go.wp_at_succ

theorem rowC_cons (ks : List IntKind) (e : List Nat) (l : List (List Nat)) : rowC ks (e :: l) = List.zipWith numV ks e ++ rowC ks l := by simp [rowC]
theorem rowC_le (ks : List IntKind) : ∀ l : List (List Nat), (rowC ks l).length ≤ l.length * ks.length
  | [] => by simp [rowC]
  | e :: l => by
    have h1 := rowC_le ks l
    rw [rowC_cons, List.length_append, List.length_zipWith, List.length_cons, Nat.succ_mul]
    omega
theorem rowC_all (ks : List IntKind) : ∀ l : List (List Nat), (rowC ks l).length = l.length * ks.length → ∀ e ∈ l, (List.zipWith numV ks e).length = ks.length
  | [], _ => by simp
  | e :: l, h => by
    have h1 := rowC_le ks l
    rw [rowC_cons, List.length_append, List.length_zipWith, List.length_cons, Nat.succ_mul] at h
    intro x hx
    rcases List.mem_cons.1 hx with rfl | hx
    · rw [List.length_zipWith]; omega
    · exact rowC_all ks l (by omega) x hx
theorem rowC_at (ks : List IntKind) : ∀ (l : List (List Nat)) (i : Nat) (e : List Nat), (rowC ks l).length = l.length * ks.length → l[i]? = some e → ∀ (j : Nat) (u : Value), (List.zipWith numV ks e)[j]? = some u → (rowC ks l)[i * ks.length + j]? = some u
  | [], i, e, _, h, _, _, _ => by simp at h
  | x :: l, i, e, hl, h, j, u, hu => by
    have hx := rowC_all ks (x :: l) hl x (by simp)
    have hl2 : (rowC ks l).length = l.length * ks.length := by
      rw [rowC_cons, List.length_append, hx, List.length_cons, Nat.succ_mul] at hl
      omega
    rw [rowC_cons]
    match i, h with
    | 0, h =>
      simp at h
      subst h
      rw [Nat.zero_mul, Nat.zero_add, List.getElem?_append_left (by rw [List.getElem?_eq_some_iff] at hu; exact hu.1)]
      exact hu
    | i + 1, h =>
      rw [List.getElem?_append_right (by rw [hx, Nat.succ_mul]; omega), hx, Nat.succ_mul, show i * ks.length + ks.length + j - ks.length = i * ks.length + j by omega]
      exact rowC_at ks l i e hl2 (by simpa using h) j u hu
/-- Where the cells of a list's elements lie. -/
theorem SlR.cells {w : World} {ks : List IntKind} {A : Option Addr} {n c : Nat} {l : List (List Nat)} (h : SlR w ks (.slice A n c) l) (hn : 0 < n) (hk : 0 < ks.length) :
    n = l.length ∧ ∃ g o, A = some ⟨g, o, none⟩ ∧ g < w.heap.size ∧ ∀ (i : Nat) (e : List Nat), l[i]? = some e → (List.zipWith numV ks e).length = ks.length ∧ ∀ (j : Nat) (u : Value), (List.zipWith numV ks e)[j]? = some u → w.cell? ⟨g, o + (i * ks.length + j), none⟩ = some u := by
  obtain ⟨A', c', e, hc, hr⟩ := h
  injection e with e1 e2 e3
  subst e1 e2 e3
  refine ⟨rfl, ?_⟩
  obtain ⟨ad, rfl, hlt, hcell⟩ := hr.2 hn
  have hall := rowC_all ks l hr.1
  have h0 : ∃ e0, l[0]? = some e0 := ⟨l[0], List.getElem?_eq_getElem hn⟩
  obtain ⟨e0, he0⟩ := h0
  have hl0 := hall e0 (List.mem_of_getElem? he0)
  obtain ⟨u0, hu0⟩ : ∃ u0, (List.zipWith numV ks e0)[0]? = some u0 := ⟨(List.zipWith numV ks e0)[0]'(by omega), List.getElem?_eq_getElem _⟩
  have c0 := hcell 0 u0 (by have := rowC_at ks l 0 e0 hr.1 he0 0 u0 hu0; simpa using this)
  obtain ⟨g, o, rfl⟩ := addr_plain c0
  refine ⟨g, o, rfl, hlt, fun i e he => ⟨hall e (List.mem_of_getElem? he), fun j u hu => ?_⟩⟩
  have := hcell (i * ks.length + j) u (rowC_at ks l i e hr.1 he j u hu)
  rwa [Go.WideShapes.add_plain] at this
theorem two_of {ks : List IntKind} {k1 k2 : IntKind} (hk : ks = [k1, k2]) {e : List Nat} (h : (List.zipWith numV ks e).length = ks.length) : ∃ a b r, e = a :: b :: r := by
  subst hk
  match e, h with
  | a :: b :: r, _ => exact ⟨a, b, r, rfl⟩
  | [a], h => simp at h
  | [], h => simp at h
theorem same_s {a b : List UInt8} {r : Bool} (hr : (a == b) = r) {A D : Option Addr} {n m c d : Nat} {w : World} (ha : SlV w (.slice A n c) a) (hb : SlV w (.slice D m d) b) :
    Calls Try.prog 24 #[.slice A n c, .slice D m d] w fun e w' => e = .returned (.bool r) ∧ w = w' := by
  subst hr
  obtain ⟨A1, c1, e1, _, h1⟩ := ha
  obtain ⟨A2, c2, e2, _, h2⟩ := hb
  injection e1 with x1 x2 x3
  injection e2 with y1 y2 y3
  subst x1 x2 x3 y1 y2 y3
  exact same_c h1 h2
end Go.Proofs.Ytkfimncbfbbopaa
