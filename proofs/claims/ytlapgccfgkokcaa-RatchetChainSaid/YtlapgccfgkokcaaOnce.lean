/- The parts of sync.Once's slow road (contracts); a block made when it is first wanted. Conditions: the lock is free. (The first part began as lines of the worked proof over a lazily made value. Type #117: the pointer to internal/sync's Mutex.) -/
import Derived.Test.YtlapgccfgkokcaaRoots
import Derived.Test.YtlapgccfgkokcaaSv
import Derived.Tactics
import Derived.Tactics2
import Derived.Defers
import Derived.Laws.Pointers
import Derived.Laws.LoneSync
import Derived.RegionTactic
import Derived.RegionCalls
import Derived.ChangeAlike
import Derived.Laws.NewBlocks
set_option linter.unusedVariables false
namespace Go.Proofs.Ytlapgccfgkokcaa
open Go.RowKit

theorem disable (w : World) : (callFunc 83 #[]).run Try.prog w = .ok (.value (.tuple #[])) w := run_call_mark0 Try.func83 (by kernel_rfl) (by kernel_rfl) (by kernel_rfl) .disable (by kernel_rfl) w
theorem enable (w : World) : (callFunc 85 #[]).run Try.prog w = .ok (.value (.tuple #[])) w := run_call_mark0 Try.func85 (by kernel_rfl) (by kernel_rfl) (by kernel_rfl) .enable (by kernel_rfl) w
theorem acquire (a : Addr) (w : World) : (callFunc 86 #[.pointer (some a)]).run Try.prog w = .ok (.value (.tuple #[])) w := run_call_marked Try.func86 (by kernel_rfl) (by kernel_rfl) (by kernel_rfl) .acquire (by kernel_rfl) a w
theorem releaseMerge (a : Addr) (w : World) : (callFunc 88 #[.pointer (some a)]).run Try.prog w = .ok (.value (.tuple #[])) w := run_call_marked Try.func88 (by kernel_rfl) (by kernel_rfl) (by kernel_rfl) .releaseMerge (by kernel_rfl) a w

/-- '(*sync/atomic.Bool).Store(true)', as a deferred call. -/
theorem store_deferred (a : Addr) (x : Value) (u : FrameMode) (w : World) (hc : w.cell? a = some x) (hz : w.frozen? a = false) :
    CallsD Try.prog 71 #[.pointer (some a), .bool true] u w fun e u' w' => u' = u ∧ (e = .returned (.tuple #[]) ∧ w' = w.drew.setCell a (.int .u32 1)) := by
  have hc' : w.drew.cell? a = some x := by go_simp
  have hz' : w.drew.frozen? a = false := by go_simp
  have hst := run_call_store (P := Try.prog) Try.func77 (by kernel_rfl) (by kernel_rfl) (by kernel_rfl) (by kernel_rfl) (k := .u32) (y := 1) hc' hz'
  go_enter_d Try.func71, Try.ntmps71
  go_wp2
  go_region_calls
  all_goals (go_end0; exact ⟨rfl, rfl⟩)

set_option maxRecDepth 100000 in
/-- '(*sync.Mutex).Unlock', as a deferred call, the lock held and nobody waiting. -/
theorem unlock_deferred (a : Addr) (u : FrameMode) (w : World) (hc : w.cell? a = some (.int .i32 1)) (hz : w.frozen? a = false) :
    CallsD Try.prog 70 #[.pointer (some a)] u w fun e u' w' => u' = u ∧ (e = .returned (.tuple #[]) ∧ w' = w.setCell a (.int .i32 0)) := by
  have hd := disable
  have he := enable
  have hr := releaseMerge
  have hadd := run_call_add (P := Try.prog) Try.func89 (by kernel_rfl) (by kernel_rfl) (by kernel_rfl) .i32 (by kernel_rfl) (y := -1) (s := 0) hc hz (by simp [go_sem]; rfl)
  have hcv := run_convert_to_unsafe (P := Try.prog) (src := 117) (dst := 121) Try.underlying117 Try.underlying121 (by kernel_rfl) hc
  go_enter_d Try.func70, Try.ntmps70
  go_wp2
  go_end0
  go_wp2
  go_end0
  exact ⟨rfl, rfl⟩

set_option maxRecDepth 100000 in
/-- '(*sync.Mutex).Lock', the lock free. -/
theorem lock_free (a : Addr) (w : World) (hc : w.cell? a = some (.int .i32 0)) (hz : w.frozen? a = false) :
    Calls Try.prog 69 #[.pointer (some a)] w fun e w' => e = .returned (.tuple #[]) ∧ w' = w.setCell a (.int .i32 1) := by
  have hd := disable
  have he := enable
  have ha := acquire
  have hcas := run_call_cas_hit (P := Try.prog) Try.func84 (by kernel_rfl) (by kernel_rfl) (by kernel_rfl) .i32 (by kernel_rfl) (y := 1) hc hz
  have hc' : (w.setCell a (.int .i32 1)).cell? a = some (.int .i32 1) := World.cell?_setCell_same w a _ hc
  have hcv := run_convert_to_unsafe (P := Try.prog) (src := 117) (dst := 121) Try.underlying117 Try.underlying121 (by kernel_rfl) hc'
  go_enter Try.func69, Try.ntmps69
  go_wp2
  first | go_end0 | (simp only [Exit.inBlock, Exit.then]; refine bodyPost_ret (results_none rfl _ _ _) rfl ?_) | refine bodyPost_ret (results_none rfl _ _ _) rfl ?_
  go_wp2
  go_end0
  exact ⟨rfl, rfl⟩

/-- All but block g is as it was. -/
structure But (g : Nat) (w w' : World) : Prop where
  os : w'.os = w.os
  tape : w'.tape = w.tape
  output : w'.output = w.output
  size : w.heap.size ≤ w'.heap.size
  block : ∀ k, k < w.heap.size → k ≠ g → w'.heap[k]? = w.heap[k]?
section
variable {g : Nat} {w w' w'' : World}
theorem But.refl (g : Nat) (w : World) : But g w w := ⟨rfl, rfl, rfl, Nat.le_refl _, fun _ _ _ => rfl⟩
theorem But.trans (h : But g w w') (h' : But g w' w'') : But g w w'' :=
  ⟨h'.os.trans h.os, h'.tape.trans h.tape, h'.output.trans h.output, Nat.le_trans h.size h'.size, fun k hk hg => (h'.block k (Nat.lt_of_lt_of_le hk h.size) hg).trans (h.block k hk hg)⟩
theorem But.of_below (h : Below w.heap.size w w') : But g w w' := ⟨h.os, h.tape, h.output, h.size, fun k hk _ => h.block k hk⟩
theorem But.alloc (h : But g w w') (o : Obj) : But g w (w'.alloc o) := h.trans (But.of_below (balloc (Below.refl _ _) o))
theorem But.drew (h : But g w w') : But g w w'.drew := ⟨h.os, h.tape, h.output, h.size, h.block⟩
theorem But.drewN (h : But g w w') (n : Nat) : But g w (w'.drewN n) := ⟨h.os, h.tape, h.output, h.size, h.block⟩
theorem But.set (h : But g w w') (i : Nat) (u : Value) : But g w (w'.setCell ⟨g, i, none⟩ u) :=
  ⟨h.os, h.tape, h.output, by rw [World.size_setCell]; exact h.size, fun k hk hg => (Below.heap_setCell w' ⟨g, i, none⟩ u k hg).trans (h.block k hk hg)⟩
/-- A store into a block that is new. -/
theorem But.setNew (h : But g w w') {p : Addr} (hp : w.heap.size ≤ p.block) (u : Value) : But g w (w'.setCell p u) :=
  ⟨h.os, h.tape, h.output, by rw [World.size_setCell]; exact h.size, fun k hk hg => (Below.heap_setCell w' p u k (by omega)).trans (h.block k hk hg)⟩
theorem But.call (h : But g w w') (hb : Below w'.heap.size w' w'') : But g w w'' := h.trans (But.of_below hb)
theorem But.toBelow {B : Nat} (h : But g w w') (hg : B ≤ g) (hB : B ≤ w.heap.size) : Below B w w' := ⟨h.os, h.tape, h.output, h.size, fun k hk => h.block k (by omega) (by omega)⟩
theorem But.blk {k : Nat} {t : TypeId} {cs : Array Value} (h : But g w w') (hb : Blk w k t cs) (hk : k ≠ g) : Blk w' k t cs := (h.block k hb.lt hk).trans hb
theorem But.cell {p : Addr} (h : But g w w') (hp : p.block < w.heap.size) (hg : p.block ≠ g) : w'.cell? p = w.cell? p := by
  unfold World.cell?
  rw [h.block _ hp hg]
end
/-- The constants in their block: the once's three cells, the words. -/
def CT (w : World) (g : Nat) (d s : Value) (l : List UInt32) : Prop := Blk w g 85 (d :: s :: .int .u32 0 :: l.map u32v).toArray
section
variable {w w' : World} {g : Nat} {d s : Value} {l : List UInt32}
theorem CT.c0 (h : CT w g d s l) : w.cell? ⟨g, 0, none⟩ = some d := by rw [Blk.cell h]; rfl
theorem CT.c1 (h : CT w g d s l) : w.cell? ⟨g, 1, none⟩ = some s := by rw [Blk.cell h]; rfl
theorem CT.cell (h : CT w g d s l) (i : Nat) (hi : i < l.length) : w.cell? ⟨g, 3 + i, none⟩ = some (.int .u32 ((l.getD i 0).toNat : Int)) := by
  rw [Blk.cell h, show 3 + i = i + 3 by omega]
  simp [u32v, hi]
theorem CT.free (h : CT w g d s l) (i : Nat) : w.frozen? ⟨g, i, none⟩ = false := Blk.frozen h i
theorem CT.set0 (h : CT w g d s l) (u : Value) : CT (w.setCell ⟨g, 0, none⟩ u) g u s l := by
  have := Blk.set_ h 0 u
  rw [List.setIfInBounds_toArray] at this
  exact this
theorem CT.set1 (h : CT w g d s l) (u : Value) : CT (w.setCell ⟨g, 1, none⟩ u) g d u l := by
  have := Blk.set_ h 1 u
  rw [List.setIfInBounds_toArray] at this
  exact this
theorem CT.set (h : CT w g d s l) (i : Nat) (x : UInt32) : CT (w.setCell ⟨g, 3 + i, none⟩ (.int .u32 (x.toNat : Int))) g d s (l.set i x) := by
  have := Blk.set_ h (3 + i) (u32v x)
  rw [List.setIfInBounds_toArray, show 3 + i = i + 3 by omega] at this
  unfold CT
  rw [List.map_set]
  rw [show 3 + i = i + 3 by omega]
  exact this
theorem CT.lt (h : CT w g d s l) : g < w.heap.size := Blk.lt h
theorem CT.drew (h : CT w g d s l) : CT w.drew g d s l := h
theorem CT.drewN (h : CT w g d s l) (n : Nat) : CT (w.drewN n) g d s l := h
theorem CT.alloc (h : CT w g d s l) (o : Obj) : CT (w.alloc o) g d s l := Blk.alloc h o
theorem CT.far (h : CT w g d s l) {p : Addr} (hp : g ≠ p.block) (u : Value) : CT (w.setCell p u) g d s l := Blk.far h hp u
theorem CT.below (h : CT w g d s l) (hb : Below w.heap.size w w') : CT w' g d s l := Blk.below h hb
end
end Go.Proofs.Ytlapgccfgkokcaa
