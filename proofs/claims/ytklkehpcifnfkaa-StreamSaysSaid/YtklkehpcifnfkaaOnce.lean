/- The parts of sync.Once's slow road (contracts). Conditions: the lock is free. (These began as lines of the worked proof over a lazily made value.) -/
import Derived.Test.YtklkehpcifnfkaaBoxes
import Derived.Tactics
import Derived.Tactics2
import Derived.Defers
import Derived.Laws.Pointers
import Derived.Laws.LoneSync
import Derived.RegionTactic
import Derived.RegionCalls
import Derived.ChangeAlike
set_option linter.unusedVariables false
namespace Go.Proofs.Ytklkehpcifnfkaa
open Go.RowKit

theorem disable (w : World) : (callFunc 52 #[]).run Try.prog w = .ok (.value (.tuple #[])) w := run_call_mark0 Try.func52 (by kernel_rfl) (by kernel_rfl) (by kernel_rfl) .disable (by kernel_rfl) w
theorem enable (w : World) : (callFunc 54 #[]).run Try.prog w = .ok (.value (.tuple #[])) w := run_call_mark0 Try.func54 (by kernel_rfl) (by kernel_rfl) (by kernel_rfl) .enable (by kernel_rfl) w
theorem acquire (a : Addr) (w : World) : (callFunc 55 #[.pointer (some a)]).run Try.prog w = .ok (.value (.tuple #[])) w := run_call_marked Try.func55 (by kernel_rfl) (by kernel_rfl) (by kernel_rfl) .acquire (by kernel_rfl) a w
theorem releaseMerge (a : Addr) (w : World) : (callFunc 57 #[.pointer (some a)]).run Try.prog w = .ok (.value (.tuple #[])) w := run_call_marked Try.func57 (by kernel_rfl) (by kernel_rfl) (by kernel_rfl) .releaseMerge (by kernel_rfl) a w

/-- '(*sync/atomic.Bool).Store(true)', as a deferred call. -/
theorem store_deferred (a : Addr) (x : Value) (u : FrameMode) (w : World) (hc : w.cell? a = some x) (hz : w.frozen? a = false) :
    CallsD Try.prog 47 #[.pointer (some a), .bool true] u w fun e u' w' => u' = u ∧ (e = .returned (.tuple #[]) ∧ w' = w.drew.setCell a (.int .u32 1)) := by
  have hc' : w.drew.cell? a = some x := by go_simp
  have hz' : w.drew.frozen? a = false := by go_simp
  have hst := run_call_store (P := Try.prog) Try.func50 (by kernel_rfl) (by kernel_rfl) (by kernel_rfl) (by kernel_rfl) (k := .u32) (y := 1) hc' hz'
  go_enter_d Try.func47, Try.ntmps47
  go_wp2
  go_region_calls
  all_goals (go_end0; exact ⟨rfl, rfl⟩)

set_option maxRecDepth 100000 in
/-- '(*sync.Mutex).Unlock', as a deferred call, the lock held and nobody waiting. -/
theorem unlock_deferred (a : Addr) (u : FrameMode) (w : World) (hc : w.cell? a = some (.int .i32 1)) (hz : w.frozen? a = false) :
    CallsD Try.prog 46 #[.pointer (some a)] u w fun e u' w' => u' = u ∧ (e = .returned (.tuple #[]) ∧ w' = w.setCell a (.int .i32 0)) := by
  have hd := disable
  have he := enable
  have hr := releaseMerge
  have hadd := run_call_add (P := Try.prog) Try.func58 (by kernel_rfl) (by kernel_rfl) (by kernel_rfl) .i32 (by kernel_rfl) (y := -1) (s := 0) hc hz (by simp [go_sem]; rfl)
  have hcv := run_convert_to_unsafe (P := Try.prog) (src := 94) (dst := 98) Try.underlying94 Try.underlying98 (by kernel_rfl) hc
  go_enter_d Try.func46, Try.ntmps46
  go_wp2
  go_end0
  go_wp2
  go_end0
  exact ⟨rfl, rfl⟩

set_option maxRecDepth 100000 in
/-- '(*sync.Mutex).Lock', the lock free. -/
theorem lock_free (a : Addr) (w : World) (hc : w.cell? a = some (.int .i32 0)) (hz : w.frozen? a = false) :
    Calls Try.prog 45 #[.pointer (some a)] w fun e w' => e = .returned (.tuple #[]) ∧ w' = w.setCell a (.int .i32 1) := by
  have hd := disable
  have he := enable
  have ha := acquire
  have hcas := run_call_cas_hit (P := Try.prog) Try.func53 (by kernel_rfl) (by kernel_rfl) (by kernel_rfl) .i32 (by kernel_rfl) (y := 1) hc hz
  have hc' : (w.setCell a (.int .i32 1)).cell? a = some (.int .i32 1) := World.cell?_setCell_same w a _ hc
  have hcv := run_convert_to_unsafe (P := Try.prog) (src := 94) (dst := 98) Try.underlying94 Try.underlying98 (by kernel_rfl) hc'
  go_enter Try.func45, Try.ntmps45
  go_wp2
  first | go_end0 | (simp only [Exit.inBlock, Exit.then]; refine bodyPost_ret (results_none rfl _ _ _) rfl ?_) | refine bodyPost_ret (results_none rfl _ _ _) rfl ?_
  go_wp2
  go_end0
  exact ⟨rfl, rfl⟩

/-- All but block g is as it was. -/
structure But (g : Nat) (w w' : World) : Prop where
  os : w'.os = w.os
  tape : w'.tape = w.tape
  output : w'.output = w.output
  size : w.heap.size ≤ w'.heap.size
  block : ∀ k, k < w.heap.size → k ≠ g → w'.heap[k]? = w.heap[k]?
section
variable {g : Nat} {w w' w'' : World}
theorem But.refl (g : Nat) (w : World) : But g w w := ⟨rfl, rfl, rfl, Nat.le_refl _, fun _ _ _ => rfl⟩
theorem But.trans (h : But g w w') (h' : But g w' w'') : But g w w'' :=
  ⟨h'.os.trans h.os, h'.tape.trans h.tape, h'.output.trans h.output, Nat.le_trans h.size h'.size, fun k hk hg => (h'.block k (Nat.lt_of_lt_of_le hk h.size) hg).trans (h.block k hk hg)⟩
theorem But.of_below (h : Below w.heap.size w w') : But g w w' := ⟨h.os, h.tape, h.output, h.size, fun k hk _ => h.block k hk⟩
theorem But.alloc (h : But g w w') (o : Obj) : But g w (w'.alloc o) := h.trans (But.of_below (balloc (Below.refl _ _) o))
theorem But.drew (h : But g w w') : But g w w'.drew := ⟨h.os, h.tape, h.output, h.size, h.block⟩
theorem But.drewN (h : But g w w') (n : Nat) : But g w (w'.drewN n) := ⟨h.os, h.tape, h.output, h.size, h.block⟩
theorem But.set (h : But g w w') (i : Nat) (u : Value) : But g w (w'.setCell ⟨g, i, none⟩ u) :=
  ⟨h.os, h.tape, h.output, by rw [World.size_setCell]; exact h.size, fun k hk hg => (Below.heap_setCell w' ⟨g, i, none⟩ u k hg).trans (h.block k hk hg)⟩
/-- A store into a block that is new. -/
theorem But.setNew (h : But g w w') {p : Addr} (hp : w.heap.size ≤ p.block) (u : Value) : But g w (w'.setCell p u) :=
  ⟨h.os, h.tape, h.output, by rw [World.size_setCell]; exact h.size, fun k hk hg => (Below.heap_setCell w' p u k (by omega)).trans (h.block k hk hg)⟩
theorem But.call (h : But g w w') (hb : Below w'.heap.size w' w'') : But g w w'' := h.trans (But.of_below hb)
theorem But.toBelow {B : Nat} (h : But g w w') (hg : B ≤ g) (hB : B ≤ w.heap.size) : Below B w w' := ⟨h.os, h.tape, h.output, h.size, fun k hk => h.block k (by omega) (by omega)⟩
theorem But.blk {k : Nat} {t : TypeId} {cs : Array Value} (h : But g w w') (hb : Blk w k t cs) (hk : k ≠ g) : Blk w' k t cs := (h.block k hb.lt hk).trans hb
theorem But.cell {p : Addr} (h : But g w w') (hp : p.block < w.heap.size) (hg : p.block ≠ g) : w'.cell? p = w.cell? p := by
  unfold World.cell?
  rw [h.block _ hp hg]
end
/-- A table in its block: the once's three cells, the bytes, what stands behind. -/
def Tab (w : World) (g : Nat) (t : TypeId) (d s z : Value) (l : List UInt8) (suf : List Value) : Prop := Blk w g t (d :: s :: z :: (l.map u8v ++ suf)).toArray
section
variable {w w' : World} {g : Nat} {t : TypeId} {d s z : Value} {l : List UInt8} {suf : List Value}
theorem Tab.c0 (h : Tab w g t d s z l suf) : w.cell? ⟨g, 0, none⟩ = some d := by rw [Blk.cell h]; rfl
theorem Tab.c1 (h : Tab w g t d s z l suf) : w.cell? ⟨g, 1, none⟩ = some s := by rw [Blk.cell h]; rfl
theorem Tab.cell (h : Tab w g t d s z l suf) (i : Nat) (hi : i < l.length) : w.cell? ⟨g, 3 + i, none⟩ = some (.int .u8 ((l.getD i 0).toNat : Int)) := by
  rw [Blk.cell h, show 3 + i = i + 3 by omega]
  simp [u8v, hi, List.getElem?_append_left]
theorem Tab.free (h : Tab w g t d s z l suf) (i : Nat) : w.frozen? ⟨g, i, none⟩ = false := Blk.frozen h i
theorem Tab.set0 (h : Tab w g t d s z l suf) (u : Value) : Tab (w.setCell ⟨g, 0, none⟩ u) g t u s z l suf := by
  have := Blk.set_ h 0 u
  rw [List.setIfInBounds_toArray] at this
  exact this
theorem Tab.set1 (h : Tab w g t d s z l suf) (u : Value) : Tab (w.setCell ⟨g, 1, none⟩ u) g t d u z l suf := by
  have := Blk.set_ h 1 u
  rw [List.setIfInBounds_toArray] at this
  exact this
theorem Tab.set (h : Tab w g t d s z l suf) (i : Nat) (hi : i < l.length) (x : UInt8) : Tab (w.setCell ⟨g, 3 + i, none⟩ (.int .u8 (x.toNat : Int))) g t d s z (l.set i x) suf := by
  have := Blk.set_ h (3 + i) (u8v x)
  rw [List.setIfInBounds_toArray, show 3 + i = i + 3 by omega] at this
  unfold Tab
  rw [List.map_set]
  rw [show (d :: s :: z :: (l.map u8v ++ suf)).set (i + 3) (u8v x) = d :: s :: z :: ((l.map u8v ++ suf).set i (u8v x)) from rfl, List.set_append_left _ _ (by simpa using hi)] at this
  rw [show 3 + i = i + 3 by omega]
  exact this
theorem Tab.lt (h : Tab w g t d s z l suf) : g < w.heap.size := Blk.lt h
theorem Tab.drew (h : Tab w g t d s z l suf) : Tab w.drew g t d s z l suf := h
theorem Tab.drewN (h : Tab w g t d s z l suf) (n : Nat) : Tab (w.drewN n) g t d s z l suf := h
theorem Tab.alloc (h : Tab w g t d s z l suf) (o : Obj) : Tab (w.alloc o) g t d s z l suf := Blk.alloc h o
theorem Tab.far (h : Tab w g t d s z l suf) {p : Addr} (hp : g ≠ p.block) (u : Value) : Tab (w.setCell p u) g t d s z l suf := Blk.far h hp u
theorem Tab.below (h : Tab w g t d s z l suf) (hb : Below w.heap.size w w') : Tab w' g t d s z l suf := Blk.below h hb
end
end Go.Proofs.Ytklkehpcifnfkaa
