/- A slice of bytes that came in, against the second form's bound. Conditions: none. -/
import Derived.Test.YtlapgccfgkokcaaPartsArg
set_option linter.unusedVariables false
namespace Go.Proofs.Ytlapgccfgkokcaa
open Go.RowKit Go.ChangeShapes Go.WideShapes Go.Joins
/-- A slice of bytes that came in weighs at least its length. -/
theorem open_bu {H : Type} {enc : TypeId × Value → H} {P : Program} {t e : TypeId} {W : World} {A : Option Addr} {n c : Nat} {d : DataW H} {p : List MemPlace} (ht : P.underlying t = some (.slice e)) (he : P.underlying e = some (.int .u8)) (hc : P.cellsOf e = 1)
    (h : DataW.Trod enc P W 0 (fun _ => true) true t (.slice A n c) d p) (hlt : ∀ x ∈ p, x.block < W.heap.size) : n ≤ Rows.uptoBulk d := by
  obtain ⟨zs, hzl, hlc, hcm, hreads, hwz, hd⟩ := open_row ht he hc h hlt
  rcases hd with ⟨_, h0, _⟩ | ⟨rest, rfl, hr⟩
  · omega
  · have := bulk_length (lits (H := H) .u8 zs)
    simp only [lits, List.length_map] at this
    simp only [Rows.uptoBulk, lits]
    omega
end Go.Proofs.Ytlapgccfgkokcaa
