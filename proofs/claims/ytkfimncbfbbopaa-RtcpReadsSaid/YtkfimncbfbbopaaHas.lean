/- has, and Numbers over two lists that are the same (contracts). Conditions: the numbers lie in memory. -/
import Derived.Test.YtkfimncbfbbopaaNackR
set_option linter.unusedVariables false
set_option linter.unusedSimpArgs false
namespace Go.Proofs.Ytkfimncbfbbopaa
open Go.RowKit
attribute [local go_sem ↓] Go.wp_at_zero Go.wp_at_succ

theorem eq_u16 {a b : Nat} (h : ¬ a = b) : ((a : Int) == (b : Int)) = false := by
  have : ¬ (a : Int) = (b : Int) := by omega
  simpa using this
set_option maxRecDepth 100000 in
set_option maxHeartbeats 12800000 in
theorem has_c (xs : List Nat) (x : Nat) (A : Option Addr) (n cap : Nat) (w : World) (hr : Reads w w.heap.size 1 A n (xs.map nV)) (hn : n ≤ 10000) (hmem : x ∈ xs) :
    Calls Try.prog 21 #[.slice A n cap, .int .u16 (x : Int)] w fun e w' => e = .returned (.bool true) ∧ w = w' := by
  have hlen : xs.length = n := by have := hr.1; rw [List.length_map] at this; omega
  have HLEN := Lib.hid hlen
  have HR := Lib.hid hr
  have HM := Lib.hid hmem
  clear hlen hr hmem
  go_enter Try.func21, Try.ntmps21
  go_upto_region 2 with fail
  go_loopg [5] n (fun gg v5 wx => ∃ i : Nat, gg = n - i ∧ i ≤ n ∧ v5 = .int .i64 (i : Int) ∧ w = wx ∧ x ∉ xs.take i)
  case atStart => exact ⟨0, by omega, by omega, rfl, rfl, by simp⟩
  case round =>
    obtain ⟨i, hgg, hi, rfl, rfl, hno⟩ := hrel
    have HNO := Lib.hid hno
    have HG := Lib.hid hgg
    clear hno hgg
    by_cases hin : i < n
    · have hini : (i : Int) < (n : Int) := by omega
      have hw1 : IntKind.i64.wrap ((i : Int) + 1) = ((i + 1 : Nat) : Int) := by rw [IntKind.wrap_i64]; omega
      obtain ⟨y, hyi⟩ : ∃ y, xs[i]? = some y := ⟨xs[i]'(by have := HLEN.out; omega), List.getElem?_eq_getElem _⟩
      obtain ⟨g, o, hA, hg, hc⟩ := num_cells HR.out (by omega)
      subst hA
      have ci := hc i y hyi
      have HTK := Lib.hid (takeN_snoc hyi)
      have HLT := Lib.hid hin
      clear hc hyi hin
      by_cases hxy : y = x
      · subst hxy
        go_wp2_with fail
        go_ret
        exact ⟨rfl, rfl⟩
      · have hq := eq_u16 hxy
        have HXY := Lib.hid hxy
        clear hxy
        go_wp2_with fail
        go_roundg (n - (i + 1))
        case measure => have := HLT.out; have := HG.out; omega
        case rel =>
          have hlt := HLT.out
          refine ⟨i + 1, rfl, by omega, rfl, rfl, ?_⟩
          rw [HTK.out]
          intro h
          rcases List.mem_append.1 h with h | h
          · exact HNO.out h
          · simp at h; exact HXY.out h.symm
    · have hno := HNO.out
      rw [List.take_of_length_le (by have := HLEN.out; omega)] at hno
      exact absurd HM.out hno
set_option maxRecDepth 100000 in
set_option maxHeartbeats 12800000 in
theorem numbers_c (xs : List Nat) (A A2 : Option Addr) (n cap cap2 : Nat) (w : World) (hr : Reads w w.heap.size 1 A n (xs.map nV)) (hr2 : Reads w w.heap.size 1 A2 n (xs.map nV)) (hn : n ≤ 10000) :
    Calls Try.prog 19 #[.slice A n cap, .slice A2 n cap2] w fun e w' => e = .returned (.bool true) ∧ Below w.heap.size w w' := by
  have hlen : xs.length = n := by have := hr.1; rw [List.length_map] at this; omega
  have HLEN := Lib.hid hlen
  have HR := Lib.hid hr
  have HR2 := Lib.hid hr2
  clear hlen hr hr2
  go_enter Try.func19, Try.ntmps19
  go_upto_region 4 with fail
  go_loopg [5] n (fun gg v5 wx => ∃ i : Nat, gg = n - i ∧ i ≤ n ∧ v5 = .int .i64 (i : Int) ∧ Below w.heap.size w wx)
  case atStart => exact ⟨0, by omega, by omega, rfl, Below.refl _ _⟩
  case round =>
    obtain ⟨i, hgg, hi, rfl, hb⟩ := hrel
    have HB := Lib.hid hb
    have HG := Lib.hid hgg
    clear hgg hb
    by_cases hin : i < n
    · have hini : (i : Int) < (n : Int) := by omega
      have hw1 : IntKind.i64.wrap ((i : Int) + 1) = ((i + 1 : Nat) : Int) := by rw [IntKind.wrap_i64]; omega
      obtain ⟨y, hyi⟩ : ∃ y, xs[i]? = some y := ⟨xs[i]'(by have := HLEN.out; omega), List.getElem?_eq_getElem _⟩
      obtain ⟨g, o, hA, hg, hc⟩ := num_cells HR.out (by omega)
      obtain ⟨g2, o2, hA2, hg2, hc2⟩ := num_cells HR2.out (by omega)
      subst hA hA2
      have ci : wr.cell? ⟨g, o + i, none⟩ = some (.int .u16 (y : Int)) := (HB.out.cell (p := ⟨g, o + i, none⟩) hg).trans (hc i y hyi)
      have ci2 : wr.cell? ⟨g2, o2 + i, none⟩ = some (.int .u16 (y : Int)) := (HB.out.cell (p := ⟨g2, o2 + i, none⟩) hg2).trans (hc2 i y hyi)
      have HLT := Lib.hid hin
      clear hc hc2 hyi hin
      go_upto_region 6 with fail
      go_quiet (fail)
      go_wp2_with fail
      go_roundg (n - (i + 1))
      case measure => have := HLT.out; have := HG.out; omega
      case rel =>
        have hlt := HLT.out
        exact ⟨i + 1, rfl, by omega, rfl, below_drewN HB.out _⟩
    · have hini : ¬ (i : Int) < (n : Int) := by omega
      go_wp2_with fail
      go_ret
      exact ⟨rfl, HB.out⟩
end Go.Proofs.Ytkfimncbfbbopaa
