/- What the law's awake returns: true (contract). -/
import Derived.Test.YtmaemfjepdicfaaRParse
import Derived.Test.YtmaemfjepdicfaaNSame
set_option linter.unusedVariables false
namespace Go.Proofs.Ytmaemfjepdicfaa
open Go.RowKit
attribute [local go_sem ↓] Go.wp_at_zero Go.wp_at_succ

theorem bytes_good {d : NoteD} (hg : good d = true) (A : Option Addr) (c : Nat) (w : World) (hr : Reads w w.heap.size 1 A d.bs.length (d.bs.map u8v)) (hlen : d.bs.length ≤ 9223372036854775807) :
    Calls Try.prog 9 #[noteV d A c] w fun e w' => ∃ A' c', e = .returned (.tuple #[.slice A' (bytesS d).length c', .int .i64 0]) ∧ ByteRow w' w.heap.size (.slice A' (bytesS d).length c') (bytesS d) ∧ Below w.heap.size w w' := by
  refine (bytes_c d A c w hr hlen).mono ?_
  rintro e w' ⟨A', c', rfl, h1, h2⟩
  rw [if_pos hg] at h1
  exact ⟨A', c', by rw [if_pos hg, if_pos hg], h1, h2⟩
theorem bytes_bad {d : NoteD} (hg : good d = false) (A : Option Addr) (c : Nat) (w : World) (hr : Reads w w.heap.size 1 A d.bs.length (d.bs.map u8v)) (hlen : d.bs.length ≤ 9223372036854775807) :
    Calls Try.prog 9 #[noteV d A c] w fun e w' => ∃ A' c', e = .returned (.tuple #[.slice A' 0 c', .int .i64 1]) ∧ ByteRow w' w.heap.size (.slice A' 0 c') [] ∧ Below w.heap.size w w' := by
  refine (bytes_c d A c w hr hlen).mono ?_
  rintro e w' ⟨A', c', rfl, h1, h2⟩
  have h : ¬ good d = true := by simp [hg]
  rw [if_neg h] at h1
  exact ⟨A', c', by rw [if_neg h, if_neg h]; rfl, h1, h2⟩

def nine : NoteD := ⟨9, 0, 0, 0, 0, 0, []⟩
theorem nine_good : good nine = true := by decide +kernel
theorem nine_bytes : bytesS nine = [9, 0, 0, 0, 0, 0, 0, 0, 0, 0, 0] := by decide +kernel
theorem awake_c (w : World) : Calls Try.prog 8 #[] w fun e w' => e = .returned (.bool true) ∧ Below w.heap.size w w' := by
  have hb := bytes_good nine_good none 0 w Reads.none_ (by decide)
  rw [nine_bytes] at hb
  have hg := fun (w1 : World) => good_c nine none 0 w1 Reads.none_ (by decide)
  rw [nine_good] at hg
  unfold nine noteV at hb hg
  simp only at hb hg
  have HB := Lib.hid hb
  have HG := Lib.hid hg
  clear hb hg
  go_enter Try.func8, Try.ntmps8
  go_wp2_with fail
  refine HB.out.mono ?_
  rintro e0 w1 ⟨A1, c1, rfl, hv1, hb1⟩
  obtain ⟨b, off, rfl, hbl, hcell⟩ := head_cells (Reads.of_own hv1) (by decide)
  have c0 : w1.cell? ⟨b, off, none⟩ = some (.int .u8 9) := hcell 0 (by decide)
  have c10 : w1.cell? ⟨b, off + 10, none⟩ = some (.int .u8 0) := hcell 10 (by decide)
  have HB1 := Lib.hid hb1
  clear hv1 hb1 hcell
  simp only [List.length_cons, List.length_nil]
  go_wp2_with fail
  refine (HG.out _).mono ?_
  rintro e0 w2 ⟨rfl, hb2⟩
  have HB2 := Lib.hid (bcall HB1.out hb2)
  clear hb2
  go_wp2
  go_ret
  exact ⟨rfl, HB2.out⟩
end Go.Proofs.Ytmaemfjepdicfaa
