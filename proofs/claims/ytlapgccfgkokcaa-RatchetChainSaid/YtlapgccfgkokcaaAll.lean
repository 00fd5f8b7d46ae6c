/- sync.Once over the constants: Do the first time and again; the program's all (contracts). Conditions: the constants are new, or done. -/
import Derived.Test.YtlapgccfgkokcaaCons
set_option linter.unusedVariables false
namespace Go.Proofs.Ytlapgccfgkokcaa
open Go.RowKit

theorem load_b (a : Addr) (d : Int) (b : Bool) (hb : (d != 0) = b) (w : World) (h0 : w.cell? a = some (.int .u32 d)) :
    Calls Try.prog 64 #[.pointer (some a)] w fun e w' => e = .returned (.bool b) ∧ w = w' := by
  have hl := run_call_load (P := Try.prog) Try.func68 (by kernel_rfl) (by kernel_rfl) (by kernel_rfl) .u32 (by kernel_rfl) h0
  go_enter Try.func64, Try.ntmps64
  go_wp2
  go_ret
  exact ⟨by simp, rfl⟩
def z64 : List UInt32 := List.replicate 64 0
set_option maxRecDepth 100000 in
set_option maxHeartbeats 1600000 in
theorem slow_c (g p : Nat) (w : World) (hp : w.cell? ⟨p, 0, none⟩ = some (.pointer (some ⟨g, 0, none⟩))) (hpl : p < w.heap.size) (hpg : p ≠ g)
    (ht : CT w g (.int .u32 0) (.int .i32 0) z64) :
    Calls Try.prog 65 #[.pointer (some ⟨g, 0, none⟩), .func (.func 60) #[] #[.pointer (some ⟨p, 0, none⟩)]] w fun e w' => e = .returned (.tuple #[]) ∧ CT w' g (.int .u32 1) (.int .i32 0) kL ∧ But g w w' := by
  have h0 := ht.c0
  have h1 := ht.c1
  have f0 := ht.free 0
  have f1 := ht.free 1
  have ht1 := ht.set1 (.int .i32 1)
  have hp1 : (w.setCell ⟨g, 1, none⟩ (.int .i32 1)).cell? ⟨p, 0, none⟩ = some (.pointer (some ⟨g, 0, none⟩)) := (World.cell?_setCell_other _ ⟨g, 1, none⟩ ⟨p, 0, none⟩ _ (by intro h; have := congrArg Addr.block h; simp at this; omega)).trans hp
  have hnot : ∀ (x : Bool) (w : World), (Op.unary .not (.bool x)).run Try.prog w = .ok (.bool (!x)) w := fun _ _ => rfl
  have HB1 := Lib.hid ((But.refl g w).set 1 (.int .i32 1))
  have HT1 := Lib.hid ht1
  have HP1 := Lib.hid hp1
  have HPL := Lib.hid (show p < (w.setCell ⟨g, 1, none⟩ (.int .i32 1)).heap.size by rw [World.size_setCell]; exact hpl)
  have HPG := Lib.hid hpg
  clear ht ht1 hp hp1 hpl hpg
  go_enter_defers Try.func65, Try.ntmps65
  go_wp2_with (first
    | (go_at_call 69; refine (lock_free ⟨g, 1, none⟩ _ h1 f1).mono ?_; rintro e w' ⟨rfl, rfl⟩)
    | (go_at_call 64; refine (load_b ⟨g, 0, none⟩ 0 false rfl _ HT1.out.c0).mono ?_; rintro e w' ⟨rfl, rfl⟩)
    | (go_at_call 60; refine (fill_c g p _ _ _ HP1.out HPL.out HPG.out HT1.out).mono ?_; rintro e w2 ⟨rfl, hT2, hB2⟩))
  have HB2 := HB1.out.trans hB2
  -- the door: two deferred calls, the last laid first
  refine leaves_cons (f := 71) (args := #[.pointer (some ⟨g, 0, none⟩), .bool true]) (by simp) (by simp [go_sem]) ?_
  refine (store_deferred ⟨g, 0, none⟩ (.int .u32 0) .returning _ hT2.c0 (hT2.free 0)).mono ?_
  rintro e u' w'' ⟨rfl, rfl, rfl⟩
  have hT3 := hT2.drew.set0 (.int .u32 1)
  refine leaves_cons (f := 70) (args := #[.pointer (some ⟨g, 1, none⟩)]) (by simp [settle]) (by simp [go_sem]) ?_
  refine (unlock_deferred ⟨g, 1, none⟩ _ _ hT3.c1 (hT3.free 1)).mono ?_
  rintro e u' w'' ⟨rfl, rfl, rfl⟩
  simp [Leaves, settle, results, Try.results65]
  exact ⟨hT3.set1 (.int .i32 0), (But.drew HB2).set 0 _ |>.set 1 _⟩
set_option maxRecDepth 100000 in
/-- Do, not yet done. -/
theorem do_first (g p : Nat) (w : World) (hp : w.cell? ⟨p, 0, none⟩ = some (.pointer (some ⟨g, 0, none⟩))) (hpl : p < w.heap.size) (hpg : p ≠ g)
    (ht : CT w g (.int .u32 0) (.int .i32 0) z64) :
    Calls Try.prog 59 #[.pointer (some ⟨g, 0, none⟩), .func (.func 60) #[] #[.pointer (some ⟨p, 0, none⟩)]] w fun e w' => e = .returned (.tuple #[]) ∧ CT w' g (.int .u32 1) (.int .i32 0) kL ∧ But g w w' := by
  have hnot : ∀ (x : Bool) (w : World), (Op.unary .not (.bool x)).run Try.prog w = .ok (.bool (!x)) w := fun _ _ => rfl
  have HT := Lib.hid ht
  clear ht
  go_enter Try.func59, Try.ntmps59
  go_wp2_with (first
    | (go_at_call 64; refine (load_b ⟨g, 0, none⟩ 0 false rfl _ HT.out.c0).mono ?_; rintro e w' ⟨rfl, rfl⟩)
    | (go_at_call 65; refine (slow_c g p _ hp hpl hpg HT.out).mono ?_; rintro e w2 ⟨rfl, hT2, hB2⟩))
  go_end0
  exact ⟨rfl, hT2, hB2⟩
/-- Do, done already. -/
theorem do_done (g : Nat) (s fv : Value) (l : List UInt32) (w : World) (ht : CT w g (.int .u32 1) s l) :
    Calls Try.prog 59 #[.pointer (some ⟨g, 0, none⟩), fv] w fun e w' => e = .returned (.tuple #[]) ∧ w = w' := by
  have hnot : ∀ (x : Bool) (w : World), (Op.unary .not (.bool x)).run Try.prog w = .ok (.bool (!x)) w := fun _ _ => rfl
  have HT := Lib.hid ht
  clear ht
  go_enter Try.func59, Try.ntmps59
  go_wp2_with (first
    | (go_at_call 64; refine (load_b ⟨g, 0, none⟩ 1 true rfl _ HT.out.c0).mono ?_; rintro e w' ⟨rfl, rfl⟩))
  go_end0
  exact ⟨rfl, rfl⟩
/-- The constants: new, or done. -/
def CI (w : World) (g : Nat) : Prop := CT w g (.int .u32 0) (.int .i32 0) z64 ∨ CT w g (.int .u32 1) (.int .i32 0) kL
def CD (w : World) (g : Nat) : Prop := CT w g (.int .u32 1) (.int .i32 0) kL
theorem CI.blk {w : World} {g : Nat} (h : CI w g) : ∃ cs, Blk w g 85 cs := by
  rcases h with h | h <;> exact ⟨_, h⟩
theorem CI.lt {w : World} {g : Nat} (h : CI w g) : g < w.heap.size := by
  obtain ⟨_, h⟩ := h.blk
  exact h.lt
theorem CI.same {w w' : World} {g : Nat} (h : CI w g) (he : w'.heap[g]? = w.heap[g]?) : CI w' g := by
  rcases h with h | h
  · exact .inl (he.trans h)
  · exact .inr (he.trans h)
theorem CI.below {w w' : World} {g : Nat} (h : CI w g) (hb : Below w.heap.size w w') : CI w' g := h.same (hb.block g h.lt)
theorem CD.ci {w : World} {g : Nat} (h : CD w g) : CI w g := .inr h
set_option maxRecDepth 100000 in
/-- all, whether done or not. -/
theorem all_c (g : Nat) (w : World) (ht : CI w g) :
    Calls Try.prog 51 #[.pointer (some ⟨g, 0, none⟩)] w fun e w' => e = .returned (.pointer (some ⟨g, 3, none⟩)) ∧ CD w' g ∧ But g w w' := by
  have hmf : ∀ (fn : Fn) (first cap : Array Value) (w : World), (Instr.makeFunc fn first cap).run Try.prog w = .ok (.func fn first cap) w := fun _ _ _ _ => rfl
  have hlt := ht.lt
  rcases ht with ht | ht
  · have HT := Lib.hid (ht.alloc (.cells #[.pointer (some ⟨g, 0, none⟩)] 72))
    have HLT := Lib.hid hlt
    clear ht hlt
    go_enter Try.func51, Try.ntmps51
    go_wp2_with fail
    refine (do_first g w.heap.size _ (by simp) (by simp) (by have := HLT.out; omega) HT.out).mono ?_
    rintro e w2 ⟨rfl, hT2, hB2⟩
    have cp : w2.cell? ⟨w.heap.size, 0, none⟩ = some (.pointer (some ⟨g, 0, none⟩)) := (hB2.cell (p := ⟨w.heap.size, 0, none⟩) (by simp) (by have := HLT.out; show w.heap.size ≠ g; omega)).trans (by simp)
    have HT2 := Lib.hid hT2
    have HB2 := Lib.hid (((But.refl g w).alloc _).trans hB2)
    clear hT2 hB2
    go_wp2
    go_ret
    exact ⟨rfl, HT2.out, HB2.out⟩
  · have HT := Lib.hid (ht.alloc (.cells #[.pointer (some ⟨g, 0, none⟩)] 72))
    clear ht hlt
    go_enter Try.func51, Try.ntmps51
    go_wp2_with fail
    refine (do_done g _ _ _ _ HT.out).mono ?_
    rintro e w2 ⟨rfl, rfl⟩
    go_wp2
    go_ret
    exact ⟨rfl, HT.out, (But.refl g w).alloc _⟩
end Go.Proofs.Ytlapgccfgkokcaa
