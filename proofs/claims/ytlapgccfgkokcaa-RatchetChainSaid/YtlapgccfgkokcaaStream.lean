/- A stream that took bytes; the program's New (contract). Conditions: none. -/
import Derived.Test.YtlapgccfgkokcaaPiece
set_option linter.unusedVariables false
namespace Go.Proofs.Ytlapgccfgkokcaa
open Go.RowKit
attribute [local go_sem ↓] Go.wp_at_zero Go.wp_at_succ

/-- The stream at gs took m; v is its slice of what is no whole piece. -/
def StrV (w : World) (B gs gc : Nat) (v : Value) (m : List UInt8) : Prop :=
  SB w gs (hS m (m.length / 64)) v (m.length % 18446744073709551616) gc ∧ w.ownsRow B 5 1 v (m.length % 64) ((m.drop (64 * (m.length / 64))).map u8v) ∧ CI w gc
theorem built85 : Try.prog.built 85 [] = some ((.int .u32 0 :: .int .i32 0 :: .int .u32 0 :: z64.map u32v).toArray) := by kernel_rfl
theorem built87 (gc : Nat) : Try.prog.built 87 [(0, .agg #[.int .u32 1779033703, .int .u32 3144134277, .int .u32 1013904242, .int .u32 2773480762, .int .u32 1359893119, .int .u32 2600822924, .int .u32 528734635, .int .u32 1541459225]), (3, .pointer (some ⟨gc, 0, none⟩))] = some ((h0L.map u32v ++ ([.slice none 0 0, .int .u64 0, .pointer (some ⟨gc, 0, none⟩)] : List Value)).toArray) := by kernel_rfl
theorem zero85 : Try.zeroCells85 = (.int .u32 0 :: .int .i32 0 :: .int .u32 0 :: z64.map u32v).toArray := by kernel_rfl
theorem Blk.newAt {w : World} {g : Nat} (h : g = w.heap.size) (t : TypeId) (cs : Array Value) : Blk (w.alloc (.cells cs t)) g t cs := by rw [h]; exact Blk.new w t cs
theorem new_cells (gc : Nat) : ((hS [] (([] : List UInt8).length / 64)).map u32v ++ ([.slice none 0 0, .int .u64 ((([] : List UInt8).length % 18446744073709551616 : Nat) : Int), .pointer (some ⟨gc, 0, none⟩)] : List Value)).toArray = #[.int .u32 1779033703, .int .u32 3144134277, .int .u32 1013904242, .int .u32 2773480762, .int .u32 1359893119, .int .u32 2600822924, .int .u32 528734635, .int .u32 1541459225, .slice none 0 0, .int .u64 0, .pointer (some ⟨gc, 0, none⟩)] := by kernel_rfl
set_option maxRecDepth 100000 in
set_option maxHeartbeats 1600000 in
theorem new_c (w : World) : Calls Try.prog 25 #[] w fun e w' => e = .returned (.pointer (some ⟨w.heap.size + 1, 0, none⟩)) ∧ StrV w' w.heap.size (w.heap.size + 1) w.heap.size (.slice none 0 0) [] ∧ Below w.heap.size w w' := by
  have h85 := fun wx : World => run_build (P := Try.prog) wx 85 #[] _ built85
  have h87 := fun wx : World => run_build (P := Try.prog) wx 87 #[(0, .agg #[.int .u32 1779033703, .int .u32 3144134277, .int .u32 1013904242, .int .u32 2773480762, .int .u32 1359893119, .int .u32 2600822924, .int .u32 528734635, .int .u32 1541459225]), (3, .pointer (some ⟨w.heap.size, 0, none⟩))] _ (built87 w.heap.size)
  go_enter Try.func25, Try.ntmps25
  go_wp2
  go_ret
  refine ⟨rfl, ⟨?_, World.ownsRow_nil _ _ _ _, .inl ?_⟩, balloc (balloc (Below.refl _ _) _) _⟩
  · unfold SB
    rw [new_cells]
    exact Blk.newAt (World.size_alloc _ _).symm _ _
  · refine Blk.alloc ?_ _
    rw [zero85]
    exact Blk.new w _ _
end Go.Proofs.Ytlapgccfgkokcaa
