/- What the reference's Same returns for two notes (contract). Conditions: the bytes read. -/
import Derived.Test.YtmaemfjepdicfaaSame
import Derived.Test.YtmaemfjepdicfaaGood
set_option linter.unusedVariables false
namespace Go.Proofs.Ytmaemfjepdicfaa
open Go.RowKit
attribute [local go_sem ↓] Go.wp_at_zero Go.wp_at_succ

def sameN (a b : NoteD) : Bool := a.kind == b.kind && a.room == b.room && a.slot == b.slot && a.epoch == b.epoch && a.n == b.n && a.m == b.m && a.bs == b.bs
theorem sameN_refl (a : NoteD) : sameN a a = true := by simp [sameN]
set_option maxHeartbeats 1600000 in
theorem nsame_c (x y : NoteD) (Ax Ay : Option Addr) (cx cy : Nat) (w : World) (hx : Reads w w.heap.size 1 Ax x.bs.length (x.bs.map u8v)) (hy : Reads w w.heap.size 1 Ay y.bs.length (y.bs.map u8v)) :
    Calls Try.prog 16 #[noteV x Ax cx, noteV y Ay cy] w fun e w' => e = .returned (.bool (sameN x y)) ∧ Below w.heap.size w w' := by
  have hb := balloc (balloc (Below.refl w.heap.size w) (.cells (match noteV x Ax cx with | .agg a => a | _ => #[]) 26)) (.cells (match noteV y Ay cy with | .agg a => a | _ => #[]) 26)
  have sx := str_of (c := cx) (hx.to_ hb)
  have sy := str_of (c := cy) (hy.to_ hb)
  have HB := Lib.hid hb
  clear hx hy hb
  obtain ⟨x0, x1, x2, x3, x4, x5, bx⟩ := x
  obtain ⟨y0, y1, y2, y3, y4, y5, bY⟩ := y
  obtain ⟨res, hres⟩ : ∃ res, res = sameN ⟨x0, x1, x2, x3, x4, x5, bx⟩ ⟨y0, y1, y2, y3, y4, y5, bY⟩ := ⟨_, rfl⟩
  rw [← hres]
  have HRES := Lib.hid hres
  clear hres
  unfold noteV
  simp only [noteV] at sx sy
  by_cases h0 : x0 = y0
  · subst h0
    by_cases h1 : x1 = y1
    · subst h1
      by_cases h2 : x2 = y2
      · subst h2
        by_cases h3 : x3 = y3
        · subst h3
          by_cases h4 : x4 = y4
          · subst h4
            by_cases h5 : x5 = y5
            · subst h5
              by_cases h6 : bx = bY
              · subst h6
                have HP : Hid (res = true) := by show _ = _; rw [HRES.out]; exact sameN_refl _
                go_enter Try.func16, Try.ntmps16
                go_wp2
                go_ret
                exact ⟨by rw [HP.out]; simp, HB.out⟩
              · have HP : Hid (res = false) := by show _ = _; rw [HRES.out]; simp [sameN, h6]
                have H6 : Hid (¬ bx = bY) := h6
                clear h6
                go_enter Try.func16, Try.ntmps16
                go_wp2
                go_ret
                exact ⟨by rw [HP.out]; simp [H6.out], HB.out⟩
            · have HP : Hid (res = false) := by show _ = _; rw [HRES.out]; simp [sameN, h5]
              have hk : (x5 == y5) = false := by simpa using h5
              clear sx sy
              go_enter Try.func16, Try.ntmps16
              go_wp2
              go_ret
              exact ⟨by rw [HP.out]; simp, HB.out⟩
          · have HP : Hid (res = false) := by show _ = _; rw [HRES.out]; simp [sameN, h4]
            have hk : (x4 == y4) = false := by simpa using h4
            clear sx sy
            go_enter Try.func16, Try.ntmps16
            go_wp2
            go_ret
            exact ⟨by rw [HP.out]; simp, HB.out⟩
        · have HP : Hid (res = false) := by show _ = _; rw [HRES.out]; simp [sameN, h3]
          have hk : (x3 == y3) = false := by simpa using h3
          clear sx sy
          go_enter Try.func16, Try.ntmps16
          go_wp2
          go_ret
          exact ⟨by rw [HP.out]; simp, HB.out⟩
      · have HP : Hid (res = false) := by show _ = _; rw [HRES.out]; simp [sameN, h2]
        have hk : (x2 == y2) = false := by simpa using h2
        clear sx sy
        go_enter Try.func16, Try.ntmps16
        go_wp2
        go_ret
        exact ⟨by rw [HP.out]; simp, HB.out⟩
    · have HP : Hid (res = false) := by show _ = _; rw [HRES.out]; simp [sameN, h1]
      have hk : (x1 == y1) = false := by simpa using h1
      clear sx sy
      go_enter Try.func16, Try.ntmps16
      go_wp2
      go_ret
      exact ⟨by rw [HP.out]; simp, HB.out⟩
  · have HP : Hid (res = false) := by show _ = _; rw [HRES.out]; simp [sameN, h0]
    have hk : (x0 == y0) = false := by simpa using h0
    clear sx sy
    go_enter Try.func16, Try.ntmps16
    go_wp2
    go_ret
    exact ⟨by rw [HP.out]; simp, HB.out⟩
end Go.Proofs.Ytmaemfjepdicfaa
