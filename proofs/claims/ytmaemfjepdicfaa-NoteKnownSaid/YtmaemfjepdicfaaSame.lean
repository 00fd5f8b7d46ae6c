/- What the reference's Same and the library's Clone return for bytes (contracts). Conditions: the bytes read. -/
import Derived.Test.YtmaemfjepdicfaaUfn
import Derived.Laws.IdiomStrings
set_option linter.unusedVariables false
namespace Go.Proofs.Ytmaemfjepdicfaa
open Go.RowKit
attribute [local go_sem ↓] Go.wp_at_zero Go.wp_at_succ

/-- string(b). -/
theorem str_of {B : Nat} {w : World} {A : Option Addr} {c : Nat} {bs : List UInt8} (hr : Reads w B 1 A bs.length (bs.map u8v)) : (convert 22 9 (.slice A bs.length c)).run Try.prog w = .ok (.string ⟨bs.toArray⟩) w := by
  rcases Nat.eq_zero_or_pos bs.length with h0 | h0
  · have := List.eq_nil_of_length_eq_zero h0
    subst this
    rw [run_convert_bytes_string w 22 9 5 A _ c Try.underlying22 Try.underlying5 Try.underlying9]
    cases A with
    | none => rfl
    | some ad =>
      rw [show ([] : List UInt8).length = 0 from rfl, run_bytesToString (P := Try.prog) w ad 0 c [] (Go.run_loadCells_list (P := Try.prog) w ad [] (by simp))]
      rfl
  · obtain ⟨ad, rfl, _, hcell⟩ := hr.2 h0
    refine run_convert_bytes_back w 22 9 5 ad c bs Try.underlying22 Try.underlying5 Try.underlying9 (fun j hj => ?_)
    exact hcell j _ (by simp [u8v, hj])
theorem same_c {A1 A2 : Option Addr} {c1 c2 : Nat} {w : World} {b1 b2 : List UInt8} (h1 : Reads w w.heap.size 1 A1 b1.length (b1.map u8v)) (h2 : Reads w w.heap.size 1 A2 b2.length (b2.map u8v)) :
    Calls Try.prog 13 #[.slice A1 b1.length c1, .slice A2 b2.length c2] w fun e w' => e = .returned (.bool (b1 == b2)) ∧ w = w' := by
  have s1 := str_of (c := c1) h1
  have s2 := str_of (c := c2) h2
  go_enter Try.func13, Try.ntmps13
  go_wp2
  go_ret
  exact ⟨by simp, rfl⟩
theorem row_reads {w : World} {B base : Nat} {A : Option Addr} {c : Nat} {bs : List UInt8} (h : ByteRow w B (.slice A bs.length c) bs) : Reads w w.heap.size 1 A bs.length (bs.map u8v) := Reads.of_own h
set_option maxHeartbeats 800000 in
theorem clone_c (A : Option Addr) (c : Nat) (bs : List UInt8) (w : World) (hr : Reads w w.heap.size 1 A bs.length (bs.map u8v)) (hl : bs.length ≤ 140737488355328) (h0 : A = none → bs = []) :
    Calls Try.prog 26 #[.slice A bs.length c] w fun e w' => ∃ A' c', e = .returned (.slice A' bs.length c') ∧ ByteRow w' w.heap.size (.slice A' bs.length c') bs ∧ Below w.heap.size w w' := by
  obtain ⟨iB, hiB, hz0, hz1, hz2⟩ := info_parts infoByte
  cases A with
  | none =>
    have hb := h0 rfl
    subst hb
    have hq := fun (wx : World) (n c : Nat) => Lib.run_eql_slice_nil (P := Try.prog) wx 22 5 none n c 0 0 Try.underlying22
    clear h0 hr
    go_enter Try.func26, Try.ntmps26
    go_wp2
    go_ret
    exact ⟨none, 0, rfl, World.ownsRow_nil _ _ _ _, Below.refl _ _⟩
  | some ad =>
    have hq := fun (wx : World) (n c : Nat) => Lib.run_eql_slice_nil (P := Try.prog) wx 22 5 (some ad) n c 0 0 Try.underlying22
    have HR := Lib.hid hr
    clear h0 hr
    go_enter Try.func26, Try.ntmps26
    go_wp2_with (first
      | (at_builtin
         refine wpList_append_any _ rfl (.tmp 5) (.tmp 6) _ rfl w.heap.size 5 iB _ 1 1 Try.underlying22 hiB hz0 hz1 hz2 rfl (by omega) (.slice (some ⟨w.heap.size, 0, none⟩) 0 0) 0 [] rfl (own_empty w _ _)
           (w.alloc (.cells #[] 5)).heap.size (some ad) bs.length c (bs.map u8v) rfl (HR.out.to_ (balloc (Below.refl _ _) _)) (u8_one bs) (by simp only [maxLen]; omega) (by omega) (by simp) ?_
         intro v1 w1 hown1 hg1 hat1
         rw [Nat.zero_add, List.nil_append] at hown1
         obtain ⟨A1, c1, rfl⟩ := own_slice hown1
         have HO1 := Lib.hid hown1
         have HB1 := Lib.hid (fresh_below hg1)
         clear hown1 hg1 hat1))
    go_ret
    exact ⟨A1, c1, rfl, HO1.out, HB1.out⟩
end Go.Proofs.Ytmaemfjepdicfaa
