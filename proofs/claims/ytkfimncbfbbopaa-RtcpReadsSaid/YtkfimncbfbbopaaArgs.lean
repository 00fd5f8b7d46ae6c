/- Arguments read: a slice of bytes with its reach. Conditions: none. -/
import Derived.Test.YtkfimncbfbbopaaPost
import Derived.Test.YtkfimncbfbbopaaMem
import Derived.Lib.SmallJoins
set_option linter.unusedVariables false
namespace Go.Proofs.Ytkfimncbfbbopaa
open Go.RowKit Go.ChangeShapes Go.WideShapes Go.Joins
section
variable {H : Type} {enc : TypeId × Value → H} {P : Program}
/-- A slice of bytes that came in, with its reach. -/
theorem open_b {t e : TypeId} {W : World} {A : Option Addr} {n c : Nat} {d : DataW H} {p : List MemPlace} (ht : P.underlying t = some (.slice e)) (he : P.underlying e = some (.int .u8)) (hc : P.cellsOf e = 1)
    (h : DataW.Trod enc P W 0 (fun _ => true) true t (.slice A n c) d p) (hlt : ∀ x ∈ p, x.block < W.heap.size) :
    ∃ bs : List UInt8, bs.length = n ∧ Reads W W.heap.size 1 A bs.length (bs.map fun (b : UInt8) => Value.int .u8 (b.toNat : Int)) ∧ bs.length ≤ c ∧ c ≤ maxLen ∧
      (P.bytesOf e = 1 → (∀ m ∈ d.weights P t, m ≤ reachBytes) → bs.length ≤ 140737488351232) := by
  obtain ⟨zs, hzl, hlc, hcm, hreads, hwz, hd⟩ := open_row ht he hc h hlt
  obtain ⟨bs, hbl, hbm, _⟩ := as_bytes hwz
  rw [hbm] at hreads
  have hl : bs.length = n := by omega
  subst hl
  refine ⟨bs, rfl, hreads, hlc, hcm, fun hby hw => ?_⟩
  rcases hd with ⟨_, h0, _⟩ | ⟨rest, rfl, hr⟩
  · omega
  · have := hw ((zs.length + rest.length) * P.bytesOf e) (by simp [DataW.weights, ht, lits])
    rw [hby] at this
    unfold reachBytes at this
    omega
end
theorem cells5b : Try.prog.cellsOf 5 = 1 := by kernel_rfl
theorem bytes5b : Try.prog.bytesOf 5 = 1 := by kernel_rfl
theorem slice_of {H : Type} {enc : TypeId × Value → H} {P : Program} {W : World} {t e : TypeId} {k : IntKind} {v : Value} {x : DataW H × List MemPlace} {n : Nat} (ht : P.underlying t = some (.slice e)) (he : P.underlying e = some (.int k)) (hc : P.cellsOf e = 1)
    (h : DataW.trod enc P W 0 (fun _ => true) true n t [v] = some x) : ∃ A l c, v = .slice A l c := by
  rcases open_ints ht he hc h with ⟨hcs, _⟩ | ⟨a, len, cap, _, hcs, _⟩
  · exact ⟨none, 0, 0, by simpa using hcs⟩
  · exact ⟨some a, len, cap, by simpa using hcs⟩
end Go.Proofs.Ytkfimncbfbbopaa
