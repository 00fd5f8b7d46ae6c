/- What Box returns (contract). -/
import Derived.Test.YtklkehpcifnfkaaAwake4
set_option linter.unusedVariables false
namespace Go.Proofs.Ytklkehpcifnfkaa
open Go.RowKit
attribute [local go_sem ↓] Go.wp_at_zero Go.wp_at_succ
theorem zero70 : Try.zeroCells70 = (.int .u32 0 :: .int .i32 0 :: .int .u32 0 :: ((List.replicate 256 (0 : UInt8)).map u8v ++ [])).toArray := by kernel_rfl
set_option maxRecDepth 100000 in
theorem Box_c (x : UInt8) (w : World) : Calls Try.prog 20 #[.int .u8 (x.toNat : Int)] w fun e w' => e = .returned (.int .u8 ((sb x).toNat : Int)) ∧ Below w.heap.size w w' := by
  obtain ⟨r, hr⟩ : ∃ r, r = sb x := ⟨_, rfl⟩
  rw [← hr]
  have HR := Lib.hid hr
  clear hr
  have hx : x.toNat < 256 := UInt8.toNat_lt x
  have hxi : (x.toNat : Int) < 256 := by omega
  have HT0 : Hid (Tab (w.alloc (.cells Try.zeroCells70 70)) w.heap.size 70 (.int .u32 0) (.int .i32 0) (.int .u32 0) (List.replicate 256 0) []) := by
    show Tab _ _ _ _ _ _ _ _
    rw [zero70]; exact Blk.new w 70 _
  go_enter Try.func20, Try.ntmps20
  go_wp2_with fail
  refine (made_first w.heap.size 70 _ _ _ HT0.out).mono ?_
  rintro e0 w1 ⟨rfl, ht1, hbut1⟩
  have cx := ht1.cell x.toNat (by rw [sbL_len]; exact hx)
  rw [← show r = sbL.getD x.toNat 0 from HR.out] at cx
  have HB1 := Lib.hid ((balloc (Below.refl w.heap.size w) (.cells Try.zeroCells70 70)).trans (hbut1.toBelow (Nat.le_refl _) (by simp)))
  clear ht1 hbut1
  go_wp2
  go_ret
  exact ⟨rfl, HB1.out⟩
end Go.Proofs.Ytklkehpcifnfkaa
