/- What the block law's awake returns: true (contract). -/
import Derived.Test.YtklkehpcifnfkaaNew
set_option linter.unusedVariables false
namespace Go.Proofs.Ytklkehpcifnfkaa
open Go.RowKit
attribute [local go_sem ↓] Go.wp_at_zero Go.wp_at_succ

theorem fips16 : blockS (keyS [0, 1, 2, 3, 4, 5, 6, 7, 8, 9, 10, 11, 12, 13, 14, 15]) [0, 17, 34, 51, 68, 85, 102, 119, 136, 153, 170, 187, 204, 221, 238, 255] = [105, 196, 224, 216, 106, 123, 4, 48, 216, 205, 183, 128, 112, 180, 197, 90] := by decide +kernel
theorem lit_x : (([0, 17, 34, 51, 68, 85, 102, 119, 136, 153, 170, 187, 204, 221, 238, 255] : List UInt8).map u8v).toArray = #[.int .u8 0, .int .u8 17, .int .u8 34, .int .u8 51, .int .u8 68, .int .u8 85, .int .u8 102, .int .u8 119, .int .u8 136, .int .u8 153, .int .u8 170, .int .u8 187, .int .u8 204, .int .u8 221, .int .u8 238, .int .u8 255] := by rfl
theorem lit_r : (([105, 196, 224, 216, 106, 123, 4, 48, 216, 205, 183, 128, 112, 180, 197, 90] : List UInt8).map u8v).toArray = #[.int .u8 105, .int .u8 196, .int .u8 224, .int .u8 216, .int .u8 106, .int .u8 123, .int .u8 4, .int .u8 48, .int .u8 216, .int .u8 205, .int .u8 183, .int .u8 128, .int .u8 112, .int .u8 180, .int .u8 197, .int .u8 90] := by rfl
set_option maxRecDepth 100000 in
theorem awake4_c (w : World) : Calls Try.prog 15 #[] w fun e w' => e = .returned (.bool true) ∧ Below w.heap.size w w' := by
  go_enter Try.func15, Try.ntmps15
  go_wp2_with fail
  have hr := lit_reads w 5 #[.int .u8 0, .int .u8 1, .int .u8 2, .int .u8 3, .int .u8 4, .int .u8 5, .int .u8 6, .int .u8 7, .int .u8 8, .int .u8 9, .int .u8 10, .int .u8 11, .int .u8 12, .int .u8 13, .int .u8 14, .int .u8 15] [0, 1, 2, 3, 4, 5, 6, 7, 8, 9, 10, 11, 12, 13, 14, 15] 16 (by rfl) rfl (by decide)
  have HB0 := Lib.hid (balloc (Below.refl w.heap.size w) (.cells #[.int .u8 0, .int .u8 1, .int .u8 2, .int .u8 3, .int .u8 4, .int .u8 5, .int .u8 6, .int .u8 7, .int .u8 8, .int .u8 9, .int .u8 10, .int .u8 11, .int .u8 12, .int .u8 13, .int .u8 14, .int .u8 15] 5))
  generalize (w.alloc (Obj.cells #[.int .u8 0, .int .u8 1, .int .u8 2, .int .u8 3, .int .u8 4, .int .u8 5, .int .u8 6, .int .u8 7, .int .u8 8, .int .u8 9, .int .u8 10, .int .u8 11, .int .u8 12, .int .u8 13, .int .u8 14, .int .u8 15] 5)) = w0 at *
  refine (new_c [0, 1, 2, 3, 4, 5, 6, 7, 8, 9, 10, 11, 12, 13, 14, 15] _ 16 w0 (.inl rfl) hr (by decide)).mono ?_
  rintro e0 w1 ⟨rfl, hk, hb1⟩
  have HK := Lib.hid hk
  have HB1 := Lib.hid (bcall HB0.out hb1)
  clear hr hk hb1
  go_wp2_with fail
  have hbl := block_c [0, 17, 34, 51, 68, 85, 102, 119, 136, 153, 170, 187, 204, 221, 238, 255] _ _ _ _ 10 w1 rfl HK.out (by rfl) (by decide) (by decide)
  rw [fips16, lit_x, lit_r] at hbl
  refine hbl.mono ?_
  rintro e0 w2 ⟨rfl, hb2⟩
  have HB2 := Lib.hid (bcall HB1.out hb2)
  clear hbl hb2
  go_wp2
  go_ret
  exact ⟨rfl, balloc HB2.out _⟩
end Go.Proofs.Ytklkehpcifnfkaa
