/- An array of bytes as an argument, by value. Conditions: none. -/
import Derived.Test.YtklkehpcifnfkaaArgs
import Derived.OpenShut
set_option linter.unusedVariables false
namespace Go.Proofs.Ytklkehpcifnfkaa
open Go.RowKit Go.ChangeShapes Go.WideShapes Go.Joins
section
variable {H : Type} {enc : TypeId × Value → H} {P : Program} {w : World} {base : Nat} {spare : Nat → Bool} {held : Bool}
theorem okWide_array {n : Nat} {t e : TypeId} {r : Reach} {b0 : Nat} {v : Value} (ht : P.underlying t = some (.array n e)) (h : Value.okWide P w r b0 t v) : ∃ cs, v = .agg cs ∧ cs.size = P.cellsOf t := by
  simp only [Value.okWide, ht] at h
  obtain ⟨cs, h1, h2, _⟩ := h
  exact ⟨cs, h1, h2⟩
theorem open_arr {n : Nat} {t e : TypeId} {r : Reach} {b0 : Nat} {v : Value} {d : DataW H} {p : List MemPlace} (ht : P.underlying t = some (.array n e)) (he : P.underlying e = some (.int .u8)) (hc : P.cellsOf e = 1) (hC : P.cellsOf t = n)
    (hv : Value.okWide P w r b0 t v) (h : DataW.Trod enc P w base spare held t v d p) :
    ∃ l : List UInt8, l.length = n ∧ v = .agg (l.map u8v).toArray := by
  obtain ⟨cs, rfl, hsz⟩ := okWide_array ht hv
  obtain ⟨fuel, hf⟩ := h
  obtain ⟨xs, m, _, _, _, hxl, hg⟩ := DataW.trod_array ht hf
  rw [hC] at hsz
  have key : ∀ i, i < n → ∃ x : UInt8, cs[i]? = some (u8v x) := by
    intro i hi
    have h1 := hg i hi
    rw [hc, Nat.mul_one, List.getElem?_eq_getElem (by omega)] at h1
    have e1 : ((Value.agg cs).cells.toList.drop i).take 1 = [cs[i]'(by omega)] := by
      show (cs.toList.drop i).take 1 = _
      rw [List.drop_eq_getElem_cons (by simpa using (show i < cs.size by omega))]
      simp
    rw [e1] at h1
    obtain ⟨z, hz, _, hw⟩ := DataW.trod_int he h1
    have bz := u8_bd hw
    refine ⟨UInt8.ofNat z.toNat, ?_⟩
    rw [Array.getElem?_eq_getElem (by omega)]
    simp only [List.cons.injEq, and_true] at hz
    rw [hz]
    unfold u8v
    congr 2
    rw [UInt8.toNat_ofNat']
    omega
  let f : Nat → UInt8 := fun i => match cs[i]? with
    | some (.int _ z) => UInt8.ofNat z.toNat
    | _ => 0
  refine ⟨(List.range n).map f, by simp, ?_⟩
  congr 1
  apply Array.ext'
  refine List.ext_getElem? fun i => ?_
  by_cases hi : i < n
  · obtain ⟨x, hx⟩ := key i hi
    have hfi : f i = x := by
      show (match cs[i]? with | some (.int _ z) => UInt8.ofNat z.toNat | _ => 0) = x
      rw [hx]
      simp [u8v]
    simp [hi, hfi, hx]
  · rw [List.getElem?_eq_none (by simpa using (show cs.size ≤ i by omega)), List.getElem?_eq_none (by simp; omega)]
end
end Go.Proofs.Ytklkehpcifnfkaa
