/- The reference's blocks (contracts, one for each kind). Conditions: the bytes lie in memory. (Printed by gen8b.py.) -/
import Derived.Test.YtkfimncbfbbopaaRefN
set_option linter.unusedVariables false
set_option linter.unusedSimpArgs false
namespace Go.Proofs.Ytkfimncbfbbopaa
open Go.RowKit
attribute [local go_sem ↓] Go.wp_at_zero Go.wp_at_succ

theorem wrap_u32 (x : Int) : IntKind.u32.wrap x = x % 4294967296 := by simp [IntKind.wrap, IntKind.bits, IntKind.signed]
theorem N_z {b : List UInt8} {A : Option Addr} {n cap p k : Nat} {w : World} {p' k' : Int} {X : Nat} (h : SlV w (.slice A n cap) b) (hp : p' = (p : Int)) (hk' : k' = (k : Int)) (hX : nAt b p k = X) (hpk : p + k ≤ n) (hk : k ≤ 8) (hn : n ≤ 140737488355328) :
    Calls Try.prog 32 #[.slice A n cap, .int .i64 p', .int .i64 k'] w fun e w' => e = .returned (.int .u64 (X : Int)) ∧ w = w' := by
  subst hp hk' hX
  exact N_c b A n cap p k w h hpk hk hn
/-- The cells of a report of the reference's that reads as r, its slices rows of the call's own. -/
def RepR (w : World) (B : Nat) (cs : Array Value) (r : Rep) : Prop := ∃ vb vp vf vs vd, cs = repA r.kind r.fr r.ab r.ntp r.ts r.pk r.oc vb vp vf r.ex r.mt vs r.ty r.ct vd ∧
  w.ownsRow B 77 7 vb r.blocks.length (rowC ks7 r.blocks) ∧ w.ownsRow B 58 2 vp r.pairs.length (rowC ksP r.pairs) ∧ w.ownsRow B 79 2 vf r.firs.length (rowC ksF r.firs) ∧ w.ownsRow B 33 1 vs r.ssrcs.length (rowC ksS r.ssrcs) ∧ ByteRow w B vd r.body
section
variable {w w' : World} {B : Nat} {cs : Array Value} {r : Rep}
theorem RepR.toV (h : RepR w B cs r) : RepV w cs r := by
  obtain ⟨vb, vp, vf, vs, vd, e, h1, h2, h3, h4, h5⟩ := h
  exact ⟨vb, vp, vf, vs, vd, e, SlR.own (ks := ks7) h1 rfl, SlR.own (ks := ksP) h2 rfl, SlR.own (ks := ksF) h3 rfl, SlR.own (ks := ksS) h4 rfl, SlV.own h5⟩
theorem RepR.keep (h : RepR w B cs r) (hk : ∀ (e : TypeId) (size n : Nat) (v : Value) (xs : List Value), (e = 77 ∨ e = 58 ∨ e = 79 ∨ e = 33 ∨ e = 5) → w.ownsRow B e size v n xs → w'.ownsRow B e size v n xs) : RepR w' B cs r := by
  obtain ⟨vb, vp, vf, vs, vd, e, h1, h2, h3, h4, h5⟩ := h
  exact ⟨vb, vp, vf, vs, vd, e, hk _ _ _ _ _ (.inl rfl) h1, hk _ _ _ _ _ (.inr (.inl rfl)) h2, hk _ _ _ _ _ (.inr (.inr (.inl rfl))) h3, hk _ _ _ _ _ (.inr (.inr (.inr (.inl rfl)))) h4, hk _ _ _ _ _ (.inr (.inr (.inr (.inr rfl)))) h5⟩
theorem RepR.below (h : RepR w B cs r) (hb : Below w.heap.size w w') : RepR w' B cs r := h.keep fun _ _ _ _ _ _ ho => own_below ho hb
theorem RepR.lower {B' : Nat} (h : RepR w B cs r) (hB : B' ≤ B) : RepR w B' cs r := by
  obtain ⟨vb, vp, vf, vs, vd, e, h1, h2, h3, h4, h5⟩ := h
  exact ⟨vb, vp, vf, vs, vd, e, own_lower h1 hB, own_lower h2 hB, own_lower h3 hB, own_lower h4 hB, own_lower h5 hB⟩
theorem RepR.setAll {g : Nat} {cs0 : Array Value} (h : RepR w B cs r) (hg : Blk w g 40 cs0) (l : List Value) : RepR (w.setCells g 0 l) B cs r :=
  h.keep fun e _ _ _ _ he ho => own_setAll (own_blk_ne ho hg (by rcases he with rfl | rfl | rfl | rfl | rfl <;> decide)) _ _ _ ho
theorem RepR.grown {B' n : Nat} {v : Value} {xs : List Value} (h : RepR w B cs r) (ho : w.ownsRow B' 40 16 v n xs) (hg : w.grownBy w' v.ownBlock) : RepR w' B cs r :=
  h.keep fun e _ _ _ _ he h1 => own_grown_far h1 ho (by rcases he with rfl | rfl | rfl | rfl | rfl <;> decide) hg
end
def zR : Array Value := #[.int .i64 0, .int .u32 0, .int .u32 0, .int .u64 0, .int .u32 0, .int .u32 0, .int .u32 0, .slice none 0 0, .slice none 0 0, .slice none 0 0, .int .i64 0, .int .u32 0, .slice none 0 0, .int .i64 0, .int .i64 0, .slice none 0 0]
theorem zR_one : zR.all (·.oneCell') = true := by simp [zR, Value.oneCell']
/-- What a reading of a report returns: its cells, and whether it is one. -/
def RdR (r : Rep × Bool) (w : World) (e : Ending) (w' : World) : Prop := ∃ L : List Value, e = .returned (.tuple #[.agg L.toArray, .bool r.2]) ∧ L.length = 16 ∧ L.toArray.all (·.oneCell') = true ∧ (r.2 = true → RepR w' w.heap.size L.toArray r.1) ∧ Below w.heap.size w w'
theorem rowR {w : World} {B B0 e size q : Nat} {v : Value} {xs : List Value} {l : List (List Nat)} (h : w.ownsRow B0 e size v q xs) (hB : B0 = B) (hq : l.length = q) : w.ownsRow B e size v l.length xs := by
  rw [hq, ← hB]
  exact h
end Go.Proofs.Ytkfimncbfbbopaa
