/- What New returns (contract). Conditions: the bytes read. -/
import Derived.Test.YtklkehpcifnfkaaNew4
import Derived.Test.YtklkehpcifnfkaaNew8
set_option linter.unusedVariables false
namespace Go.Proofs.Ytklkehpcifnfkaa
open Go.RowKit
theorem new_c (b : List UInt8) (A : Option Addr) (c : Nat) (w : World) (hb : b.length = 16 ∨ b.length = 32) (hr : Reads w w.heap.size 1 A b.length (b.map u8v)) (hc : b.length ≤ c) :
    Calls Try.prog 13 #[.slice A b.length c] w fun e w' => e = .returned (.tuple #[.pointer (some ⟨w.heap.size, 0, none⟩), .int .i64 0]) ∧ KeyIs w' w.heap.size w.heap.size (keyS b) (4 * (b.length / 4 + 7)) ∧ Below w.heap.size w w' := by
  rcases hb with h | h
  · have := new_4 b A c w h (by rw [← h]; exact hr) (by omega)
    rw [keyS, h]
    exact this
  · have := new_8 b A c w h (by rw [← h]; exact hr) (by omega)
    rw [keyS, h]
    exact this
end Go.Proofs.Ytklkehpcifnfkaa
