/- What the reference's Good returns, any note (contract). Conditions: the note's bytes read. -/
import Derived.Test.YtmaemfjepdicfaaGoodR1
import Derived.Test.YtmaemfjepdicfaaGoodR2
import Derived.Test.YtmaemfjepdicfaaGoodR3
import Derived.Test.YtmaemfjepdicfaaGoodR4
set_option linter.unusedVariables false
namespace Go.Proofs.Ytmaemfjepdicfaa
open Go.RowKit

theorem fields_any (k : Int) : ∃ s : ByteArray, (∀ wx : World, Calls Try.prog 21 #[.int .i64 k] wx fun e w' => e = .returned (.string s) ∧ wx = w') ∧ s.toList.isEmpty = (fieldsS k).isEmpty := by
  by_cases h : isKind k
  · simp only [isKind] at h
    rcases h with rfl | rfl | rfl | rfl | rfl | rfl | rfl | rfl | rfl | rfl | rfl | rfl | rfl | rfl | rfl | rfl | rfl
    · exact ⟨_, fields_1, by decide +kernel⟩
    · exact ⟨_, fields_2, by decide +kernel⟩
    · exact ⟨_, fields_3, by decide +kernel⟩
    · exact ⟨_, fields_4, by decide +kernel⟩
    · exact ⟨_, fields_5, by decide +kernel⟩
    · exact ⟨_, fields_6, by decide +kernel⟩
    · exact ⟨_, fields_7, by decide +kernel⟩
    · exact ⟨_, fields_8, by decide +kernel⟩
    · exact ⟨_, fields_9, by decide +kernel⟩
    · exact ⟨_, fields_17, by decide +kernel⟩
    · exact ⟨_, fields_18, by decide +kernel⟩
    · exact ⟨_, fields_19, by decide +kernel⟩
    · exact ⟨_, fields_20, by decide +kernel⟩
    · exact ⟨_, fields_21, by decide +kernel⟩
    · exact ⟨_, fields_22, by decide +kernel⟩
    · exact ⟨_, fields_23, by decide +kernel⟩
    · exact ⟨_, fields_24, by decide +kernel⟩
  · refine ⟨_, fields_other k h, ?_⟩
    simp only [isKind, not_or] at h
    obtain ⟨h1, h2, h3, h4, h5, h6, h7, h8, h9, h17, h18, h19, h20, h21, h22, h23, h24⟩ := h
    rw [show fieldsS k = [] by simp [fieldsS, h1, h2, h3, h4, h5, h6, h7, h8, h9, h17, h18, h19, h20, h21, h22, h23, h24]]
    decide +kernel
theorem goodr_c (d : NoteD) (A : Option Addr) (c : Nat) (w : World) (hr : Reads w w.heap.size 1 A d.bs.length (d.bs.map u8v)) (hlen : d.bs.length ≤ 9223372036854775807) :
    Calls Try.prog 12 #[noteV d A c] w fun e w' => e = .returned (.bool (good d)) ∧ Below w.heap.size w w' := by
  cases hy : goodR1 d with
  | false =>
    obtain ⟨s, h1, h2⟩ := fields_any d.kind
    rw [← good_ref, hy, Bool.false_and, Bool.false_and]
    exact goodr_no d A c w hlen hy s h1 h2
  | true =>
    obtain ⟨k, room, slot, epoch, n, m, bs⟩ := d
    have hk : isKind k := by
      rcases Classical.em (isKind k) with hk | hk
      · exact hk
      · simp only [isKind, not_or] at hk
        obtain ⟨h1, h2, h3, h4, h5, h6, h7, h8, h9, h17, h18, h19, h20, h21, h22, h23, h24⟩ := hk
        have e : fieldsS k = [] := by simp [fieldsS, h1, h2, h3, h4, h5, h6, h7, h8, h9, h17, h18, h19, h20, h21, h22, h23, h24]
        simp [goodR1, e] at hy
    simp only [isKind] at hk
    rcases hk with rfl | rfl | rfl | rfl | rfl | rfl | rfl | rfl | rfl | rfl | rfl | rfl | rfl | rfl | rfl | rfl | rfl
    · exact goodr_1 room slot epoch n m bs A c w hr hlen hy
    · exact goodr_2 room slot epoch n m bs A c w hr hlen hy
    · exact goodr_3 room slot epoch n m bs A c w hr hlen hy
    · exact goodr_4 room slot epoch n m bs A c w hr hlen hy
    · exact goodr_5 room slot epoch n m bs A c w hr hlen hy
    · exact goodr_6 room slot epoch n m bs A c w hr hlen hy
    · exact goodr_7 room slot epoch n m bs A c w hr hlen hy
    · exact goodr_8 room slot epoch n m bs A c w hr hlen hy
    · exact goodr_9 room slot epoch n m bs A c w hr hlen hy
    · exact goodr_17 room slot epoch n m bs A c w hr hlen hy
    · exact goodr_18 room slot epoch n m bs A c w hr hlen hy
    · exact goodr_19 room slot epoch n m bs A c w hr hlen hy
    · exact goodr_20 room slot epoch n m bs A c w hr hlen hy
    · exact goodr_21 room slot epoch n m bs A c w hr hlen hy
    · exact goodr_22 room slot epoch n m bs A c w hr hlen hy
    · exact goodr_23 room slot epoch n m bs A c w hr hlen hy
    · exact goodr_24 room slot epoch n m bs A c w hr hlen hy
end Go.Proofs.Ytmaemfjepdicfaa
