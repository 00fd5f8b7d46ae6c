/- awake (contract). -/
import Derived.Test.YtkfimncbfbbopaaParse
set_option linter.unusedVariables false
set_option linter.unusedSimpArgs false
namespace Go.Proofs.Ytkfimncbfbbopaa
open Go.RowKit
attribute [local go_sem ↓] Go.wp_at_zero Go.wp_at_succ

theorem awake_parse : parseS [129, 206, 0, 2, 0, 0, 0, 1, 0, 0, 0, 2] = ([{ rep0 with kind := 4, fr := 1, ab := 2 }], 0) := by kernel_rfl
theorem awake_is : isB [0, 200] = true := by decide
/-- The first cells of a list of reports that is not empty. -/
theorem reps_head {w : World} {B n : Nat} {A : Option Addr} {css : List (Array Value)} {r : Rep} {rs : List Rep} (h : Reads w B 16 A n (cellsL css)) (hn : 0 < n) (hv : RepsV w css (r :: rs)) :
    ∃ g o, A = some ⟨g, o, none⟩ ∧ g < B ∧ w.cell? ⟨g, o, none⟩ = some (.int .i64 r.kind) ∧ w.cell? ⟨g, o + 1, none⟩ = some (.int .u32 (r.fr : Int)) ∧ w.cell? ⟨g, o + 2, none⟩ = some (.int .u32 (r.ab : Int)) := by
  match css, hv.1, h, hv with
  | cs :: css, hl, h, hv =>
    obtain ⟨ad, rfl, hlt, hc⟩ := h.2 hn
    obtain ⟨vb, vp, vf, vs, vd, e, _⟩ := hv.2 0 cs r rfl rfl
    subst e
    have c0 := hc 0 (.int .i64 r.kind) (by simp [cellsL, repA])
    have c1 := hc 1 (.int .u32 (r.fr : Int)) (by simp [cellsL, repA])
    have c2 := hc 2 (.int .u32 (r.ab : Int)) (by simp [cellsL, repA])
    obtain ⟨g, o, rfl⟩ := addr_plain c0
    rw [Go.WideShapes.add_plain] at c0 c1 c2
    exact ⟨g, o, rfl, hlt, c0, c1, c2⟩
set_option maxRecDepth 100000 in
set_option maxHeartbeats 12800000 in
theorem awake_c (w : World) : Calls Try.prog 9 #[] w fun e w' => e = .returned (.bool true) ∧ Below w.heap.size w w' := by
  go_enter Try.func9, Try.ntmps9
  go_upto_region 2 with (first
    | (go_at_call 10
       refine (parse_c [129, 206, 0, 2, 0, 0, 0, 1, 0, 0, 0, 2] _ 12 12 _ (SlV.lit _ _ _ 12 _ rfl rfl) (by decide)).mono ?_
       rintro e0 w1 ⟨A, n, c, css, he, hn, hnc, hr, hv, hb⟩
       rw [awake_parse] at he hn hv
       replace hn : n = 1 := hn
       subst hn
       subst he
       obtain ⟨g, o, rfl, hg, c0, c1, c2⟩ := reps_head hr (by decide) hv
       have HB : Hid (Below w.heap.size w w1) := bcall (balloc (Below.refl _ _) _) hb
       have HG := Lib.hid hg
       replace c0 : w1.cell? ⟨g, o, none⟩ = some (.int .i64 4) := c0
       replace c1 : w1.cell? ⟨g, o + 1, none⟩ = some (.int .u32 1) := c1
       replace c2 : w1.cell? ⟨g, o + 2, none⟩ = some (.int .u32 2) := c2
       clear hr hv hb hg hnc))
  go_wp2_with (first
    | (go_at_call 12
       refine (is_c [0, 200] _ 2 2 _ (SlV.lit _ _ _ 2 _ rfl rfl)).mono ?_
       rintro e0 w2 ⟨he, rfl⟩
       rw [awake_is] at he
       subst he))
  go_ret
  exact ⟨rfl, balloc HB.out _⟩
end Go.Proofs.Ytkfimncbfbbopaa
