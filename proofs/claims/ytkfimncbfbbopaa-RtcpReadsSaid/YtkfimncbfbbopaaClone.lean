/- What bytes.Clone does (contract). Conditions: the bytes lie in memory. -/
import Derived.Test.YtkfimncbfbbopaaSlv
set_option linter.unusedVariables false
set_option linter.unusedSimpArgs false
namespace Go.Proofs.Ytkfimncbfbbopaa
open Go.RowKit
attribute [local go_sem ↓] Go.wp_at_zero Go.wp_at_succ

set_option maxHeartbeats 800000 in
theorem clone_o (b : List UInt8) (A : Option Addr) (n c : Nat) (w : World) (h : SlV w (.slice A n c) b) (hl : n ≤ 140737488355328) :
    Calls Try.prog 49 #[.slice A n c] w fun e w' => ∃ A' c', e = .returned (.slice A' n c') ∧ ByteRow w' w.heap.size (.slice A' n c') b ∧ Below w.heap.size w w' := by
  obtain ⟨iB, hiB, hz0, hz1, hz2⟩ := info_parts infoByte
  obtain ⟨A1, c1, e, hc, hr⟩ := h
  injection e with e1 e2 e3
  subst e1 e2 e3
  cases A with
  | none =>
    have hb : b = [] := by
      rcases Nat.eq_zero_or_pos b.length with h0 | h0
      · exact List.eq_nil_of_length_eq_zero h0
      · obtain ⟨_, e, _⟩ := hr.2 h0
        cases e
    subst hb
    have hq := fun (wx : World) (n c : Nat) => Lib.run_eql_slice_nil (P := Try.prog) wx 22 5 none n c 0 0 Try.underlying22
    clear hr
    go_enter Try.func49, Try.ntmps49
    go_wp2
    go_ret
    exact ⟨none, 0, rfl, World.ownsRow_nil _ _ _ _, Below.refl _ _⟩
  | some ad =>
    have hq := fun (wx : World) (n c : Nat) => Lib.run_eql_slice_nil (P := Try.prog) wx 22 5 (some ad) n c 0 0 Try.underlying22
    have HR := Lib.hid hr
    clear hr
    go_enter Try.func49, Try.ntmps49
    go_wp2_with
     (at_builtin
      refine wpList_append_any _ rfl (.tmp 5) (.tmp 6) _ rfl w.heap.size 5 iB _ 1 1 Try.underlying22 hiB hz0 hz1 hz2 rfl (by omega) (.slice (some ⟨w.heap.size, 0, none⟩) 0 0) 0 [] rfl (own_empty w _ _)
        (w.alloc (.cells #[] 5)).heap.size (some ad) b.length c (b.map u8v) rfl (HR.out.to_ (balloc (Below.refl _ _) _)) (u8_one b) (by simp only [maxLen]; omega) (by omega) (by simp) ?_
      intro v1 w1 hown1 hg1 hat1
      rw [Nat.zero_add, List.nil_append] at hown1
      obtain ⟨A1, c1, rfl⟩ := own_slice hown1
      have HO1 := Lib.hid hown1
      have HB1 := Lib.hid (fresh_below hg1)
      clear hown1 hg1 hat1)
    go_ret
    exact ⟨A1, c1, rfl, HO1.out, HB1.out⟩
end Go.Proofs.Ytkfimncbfbbopaa
