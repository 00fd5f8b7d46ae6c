/- sync.Once over the table: Do the first time and again; made; Box (contracts). Conditions: the table is new, or done. -/
import Derived.Test.YtklkehpcifnfkaaMade
import Derived.Laws.NewBlocks
set_option linter.unusedVariables false
namespace Go.Proofs.Ytklkehpcifnfkaa
open Go.RowKit

theorem load_b (a : Addr) (d : Int) (b : Bool) (hb : (d != 0) = b) (w : World) (h0 : w.cell? a = some (.int .u32 d)) :
    Calls Try.prog 41 #[.pointer (some a)] w fun e w' => e = .returned (.bool b) ∧ w = w' := by
  have hl := run_call_load (P := Try.prog) Try.func44 (by kernel_rfl) (by kernel_rfl) (by kernel_rfl) .u32 (by kernel_rfl) h0
  go_enter Try.func41, Try.ntmps41
  go_wp2
  go_ret
  exact ⟨by simp, rfl⟩
set_option maxRecDepth 100000 in
set_option maxHeartbeats 1600000 in
theorem slow_c (g p : Nat) (t : TypeId) (z : Value) (suf : List Value) (w : World) (hp : w.cell? ⟨p, 0, none⟩ = some (.pointer (some ⟨g, 0, none⟩))) (hpl : p < w.heap.size) (hpg : p ≠ g)
    (ht : Tab w g t (.int .u32 0) (.int .i32 0) z (List.replicate 256 0) suf) :
    Calls Try.prog 42 #[.pointer (some ⟨g, 0, none⟩), .func (.func 38) #[] #[.pointer (some ⟨p, 0, none⟩)]] w fun e w' => e = .returned (.tuple #[]) ∧ Tab w' g t (.int .u32 1) (.int .i32 0) z sbL suf ∧ But g w w' := by
  have h0 := ht.c0
  have h1 := ht.c1
  have f0 := ht.free 0
  have f1 := ht.free 1
  have ht1 := ht.set1 (.int .i32 1)
  have hp1 : (w.setCell ⟨g, 1, none⟩ (.int .i32 1)).cell? ⟨p, 0, none⟩ = some (.pointer (some ⟨g, 0, none⟩)) := (World.cell?_setCell_other _ ⟨g, 1, none⟩ ⟨p, 0, none⟩ _ (by intro h; have := congrArg Addr.block h; simp at this; omega)).trans hp
  have hnot : ∀ (x : Bool) (w : World), (Op.unary .not (.bool x)).run Try.prog w = .ok (.bool (!x)) w := fun _ _ => rfl
  have HB1 := Lib.hid ((But.refl g w).set 1 (.int .i32 1))
  have HT1 := Lib.hid ht1
  have HP1 := Lib.hid hp1
  have HPL := Lib.hid (show p < (w.setCell ⟨g, 1, none⟩ (.int .i32 1)).heap.size by rw [World.size_setCell]; exact hpl)
  have HPG := Lib.hid hpg
  clear ht ht1 hp hp1 hpl hpg
  go_enter_defers Try.func42, Try.ntmps42
  go_wp2_with (first
    | (go_at_call 45; refine (lock_free ⟨g, 1, none⟩ _ h1 f1).mono ?_; rintro e w' ⟨rfl, rfl⟩)
    | (go_at_call 41; refine (load_b ⟨g, 0, none⟩ 0 false rfl _ HT1.out.c0).mono ?_; rintro e w' ⟨rfl, rfl⟩)
    | (go_at_call 38; refine (fill_c g p t _ _ z suf _ HP1.out HPL.out HPG.out HT1.out).mono ?_; rintro e w2 ⟨rfl, hT2, hB2⟩))
  have HB2 := HB1.out.trans hB2
  -- the door: two deferred calls, the last laid first
  refine leaves_cons (f := 47) (args := #[.pointer (some ⟨g, 0, none⟩), .bool true]) (by simp) (by simp [go_sem]) ?_
  refine (store_deferred ⟨g, 0, none⟩ (.int .u32 0) .returning _ hT2.c0 (hT2.free 0)).mono ?_
  rintro e u' w'' ⟨rfl, rfl, rfl⟩
  have hT3 := hT2.drew.set0 (.int .u32 1)
  refine leaves_cons (f := 46) (args := #[.pointer (some ⟨g, 1, none⟩)]) (by simp [settle]) (by simp [go_sem]) ?_
  refine (unlock_deferred ⟨g, 1, none⟩ _ _ hT3.c1 (hT3.free 1)).mono ?_
  rintro e u' w'' ⟨rfl, rfl, rfl⟩
  simp [Leaves, settle, results, Try.results42]
  exact ⟨hT3.set1 (.int .i32 0), (But.drew HB2).set 0 _ |>.set 1 _⟩
set_option maxRecDepth 100000 in
/-- Do, not yet done. -/
theorem do_first (g p : Nat) (t : TypeId) (z : Value) (suf : List Value) (w : World) (hp : w.cell? ⟨p, 0, none⟩ = some (.pointer (some ⟨g, 0, none⟩))) (hpl : p < w.heap.size) (hpg : p ≠ g)
    (ht : Tab w g t (.int .u32 0) (.int .i32 0) z (List.replicate 256 0) suf) :
    Calls Try.prog 37 #[.pointer (some ⟨g, 0, none⟩), .func (.func 38) #[] #[.pointer (some ⟨p, 0, none⟩)]] w fun e w' => e = .returned (.tuple #[]) ∧ Tab w' g t (.int .u32 1) (.int .i32 0) z sbL suf ∧ But g w w' := by
  have hnot : ∀ (x : Bool) (w : World), (Op.unary .not (.bool x)).run Try.prog w = .ok (.bool (!x)) w := fun _ _ => rfl
  have HT := Lib.hid ht
  clear ht
  go_enter Try.func37, Try.ntmps37
  go_wp2_with (first
    | (go_at_call 41; refine (load_b ⟨g, 0, none⟩ 0 false rfl _ HT.out.c0).mono ?_; rintro e w' ⟨rfl, rfl⟩)
    | (go_at_call 42; refine (slow_c g p t z suf _ hp hpl hpg HT.out).mono ?_; rintro e w2 ⟨rfl, hT2, hB2⟩))
  go_end0
  exact ⟨rfl, hT2, hB2⟩
/-- Do, done already. -/
theorem do_done (g : Nat) (t : TypeId) (s z fv : Value) (l : List UInt8) (suf : List Value) (w : World) (ht : Tab w g t (.int .u32 1) s z l suf) :
    Calls Try.prog 37 #[.pointer (some ⟨g, 0, none⟩), fv] w fun e w' => e = .returned (.tuple #[]) ∧ w = w' := by
  have hnot : ∀ (x : Bool) (w : World), (Op.unary .not (.bool x)).run Try.prog w = .ok (.bool (!x)) w := fun _ _ => rfl
  have HT := Lib.hid ht
  clear ht
  go_enter Try.func37, Try.ntmps37
  go_wp2_with (first
    | (go_at_call 41; refine (load_b ⟨g, 0, none⟩ 1 true rfl _ HT.out.c0).mono ?_; rintro e w' ⟨rfl, rfl⟩))
  go_end0
  exact ⟨rfl, rfl⟩
/-- made, the first time. -/
theorem made_first (g : Nat) (t : TypeId) (z : Value) (suf : List Value) (w : World) (ht : Tab w g t (.int .u32 0) (.int .i32 0) z (List.replicate 256 0) suf) :
    Calls Try.prog 28 #[.pointer (some ⟨g, 0, none⟩)] w fun e w' => e = .returned (.pointer (some ⟨g, 3, none⟩)) ∧ Tab w' g t (.int .u32 1) (.int .i32 0) z sbL suf ∧ But g w w' := by
  have hmf : ∀ (fn : Fn) (first cap : Array Value) (w : World), (Instr.makeFunc fn first cap).run Try.prog w = .ok (.func fn first cap) w := fun _ _ _ _ => rfl
  have HT := Lib.hid (ht.alloc (.cells #[.pointer (some ⟨g, 0, none⟩)] 81))
  have hlt := ht.lt
  have HLT := Lib.hid hlt
  clear ht hlt
  go_enter Try.func28, Try.ntmps28
  go_wp2_with fail
  refine (do_first g w.heap.size t z suf _ (by simp) (by simp) (by have := HLT.out; omega) HT.out).mono ?_
  rintro e w2 ⟨rfl, hT2, hB2⟩
  have cp : w2.cell? ⟨w.heap.size, 0, none⟩ = some (.pointer (some ⟨g, 0, none⟩)) := (hB2.cell (p := ⟨w.heap.size, 0, none⟩) (by simp) (by have := HLT.out; show w.heap.size ≠ g; omega)).trans (by simp)
  have HT2 := Lib.hid hT2
  have HB2 := Lib.hid (((But.refl g w).alloc _).trans hB2)
  clear hT2 hB2
  go_wp2
  go_ret
  exact ⟨rfl, HT2.out, HB2.out⟩
/-- made, done already. -/
theorem made_done (g : Nat) (t : TypeId) (s z : Value) (l : List UInt8) (suf : List Value) (w : World) (ht : Tab w g t (.int .u32 1) s z l suf) :
    Calls Try.prog 28 #[.pointer (some ⟨g, 0, none⟩)] w fun e w' => e = .returned (.pointer (some ⟨g, 3, none⟩)) ∧ w' = w.alloc (.cells #[.pointer (some ⟨g, 0, none⟩)] 81) := by
  have hmf : ∀ (fn : Fn) (first cap : Array Value) (w : World), (Instr.makeFunc fn first cap).run Try.prog w = .ok (.func fn first cap) w := fun _ _ _ _ => rfl
  have HT := Lib.hid (ht.alloc (.cells #[.pointer (some ⟨g, 0, none⟩)] 81))
  clear ht
  go_enter Try.func28, Try.ntmps28
  go_wp2_with fail
  refine (do_done g t s z _ l suf _ HT.out).mono ?_
  rintro e w2 ⟨rfl, rfl⟩
  go_wp2
  go_ret
  exact ⟨rfl, rfl⟩
end Go.Proofs.Ytklkehpcifnfkaa
