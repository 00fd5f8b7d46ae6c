/- What the reference's Same returns for bytes (contract). Conditions: the bytes read. -/
import Derived.Test.YtkfimncbfbbopaaOwn
import Derived.Laws.IdiomStrings
set_option linter.unusedVariables false
namespace Go.Proofs.Ytkfimncbfbbopaa
open Go.RowKit
attribute [local go_sem ↓] Go.wp_at_zero Go.wp_at_succ

/-- string(b). -/
theorem str_of {B : Nat} {w : World} {A : Option Addr} {c : Nat} {bs : List UInt8} (hr : Reads w B 1 A bs.length (bs.map u8v)) : (convert 22 9 (.slice A bs.length c)).run Try.prog w = .ok (.string ⟨bs.toArray⟩) w := by
  rcases Nat.eq_zero_or_pos bs.length with h0 | h0
  · have := List.eq_nil_of_length_eq_zero h0
    subst this
    rw [run_convert_bytes_string w 22 9 5 A _ c Try.underlying22 Try.underlying5 Try.underlying9]
    cases A with
    | none => rfl
    | some ad =>
      rw [show ([] : List UInt8).length = 0 from rfl, run_bytesToString (P := Try.prog) w ad 0 c [] (Go.run_loadCells_list (P := Try.prog) w ad [] (by simp))]
      rfl
  · obtain ⟨ad, rfl, _, hcell⟩ := hr.2 h0
    refine run_convert_bytes_back w 22 9 5 ad c bs Try.underlying22 Try.underlying5 Try.underlying9 (fun j hj => ?_)
    exact hcell j _ (by simp [u8v, hj])
theorem same_c {A1 A2 : Option Addr} {c1 c2 : Nat} {w : World} {b1 b2 : List UInt8} (h1 : Reads w w.heap.size 1 A1 b1.length (b1.map u8v)) (h2 : Reads w w.heap.size 1 A2 b2.length (b2.map u8v)) :
    Calls Try.prog 24 #[.slice A1 b1.length c1, .slice A2 b2.length c2] w fun e w' => e = .returned (.bool (b1 == b2)) ∧ w = w' := by
  have s1 := str_of (c := c1) h1
  have s2 := str_of (c := c2) h2
  go_enter Try.func24, Try.ntmps24
  go_wp2
  go_ret
  exact ⟨by simp, rfl⟩
theorem row_reads {w : World} {B base : Nat} {A : Option Addr} {c : Nat} {bs : List UInt8} (h : ByteRow w B (.slice A bs.length c) bs) : Reads w w.heap.size 1 A bs.length (bs.map u8v) := Reads.of_own h
end Go.Proofs.Ytkfimncbfbbopaa
