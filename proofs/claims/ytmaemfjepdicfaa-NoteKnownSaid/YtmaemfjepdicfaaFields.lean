/- What the reference's fields, in and has return (contracts). Conditions: none. -/
import Derived.Test.YtmaemfjepdicfaaGood
set_option linter.unusedVariables false
namespace Go.Proofs.Ytmaemfjepdicfaa
open Go.RowKit
attribute [local go_sem ↓] Go.wp_at_zero Go.wp_at_succ

theorem in_c (x lo hi : Int) (w : World) : Calls Try.prog 22 #[.int .i64 x, .int .i64 lo, .int .i64 hi] w fun e w' => e = .returned (.bool (inB x lo hi)) ∧ w = w' := by
  by_cases h0 : lo ≤ x
  · by_cases h1 : x ≤ hi
    · have H : Hid (inB x lo hi = true) := by show _ = _; simp [inB, h0, h1]
      go_enter Try.func22, Try.ntmps22
      go_wp2
      go_ret
      exact ⟨by rw [H.out]; rfl, rfl⟩
    · have H : Hid (inB x lo hi = false) := by show _ = _; simp [inB, h0, h1]
      go_enter Try.func22, Try.ntmps22
      go_wp2
      go_ret
      exact ⟨by rw [H.out]; rfl, rfl⟩
  · have H : Hid (inB x lo hi = false) := by show _ = _; simp [inB, h0]
    go_enter Try.func22, Try.ntmps22
    go_wp2
    go_ret
    exact ⟨by rw [H.out]; rfl, rfl⟩
theorem has_c (s : ByteArray) (c : UInt8) (b : Bool) (w : World) (hs : s.size ≤ 1000) (h : s.data.toList.contains c = b) : Calls Try.prog 23 #[.string s, .int .u8 (c.toNat : Int)] w fun e w' => e = .returned (.bool b) ∧ w = w' := by
  have HB := Lib.hid h
  clear h
  go_enter Try.func23, Try.ntmps23
  go_wp2_with fail
  go_loop [5] (fun i => ∃ k : Nat, k ≤ s.size ∧ i = .int .i64 k ∧ ∀ j (hj : j < s.size), j < k → s[j] ≠ c) (fun i => s.size - (intOf i).toNat)
  case atStart => exact ⟨0, Nat.zero_le _, rfl, fun j _ hj => absurd hj (by omega)⟩
  case round =>
    obtain ⟨k, hk, rfl, hno⟩ := hrel
    have HNO := Lib.hid hno
    clear hno
    by_cases hlt : k < s.size
    · by_cases he : s[k] = c
      · have he1 : ((s[k].toNat : Int) == (c.toNat : Int)) = true := by rw [he]; simp
        have HP : Hid (b = true) := by
          show _ = _
          rw [← HB.out, List.contains_iff_mem, ← he]
          exact Array.getElem_mem_toList (xs := s.data) (i := k) hlt
        clear he
        go_wp2
        go_ret
        exact ⟨by rw [HP.out]; rfl, rfl⟩
      · have he1 : ((s[k].toNat : Int) == (c.toNat : Int)) = false := by
          rw [beq_eq_false_iff_ne]; intro e; exact he (UInt8.toNat_inj.1 (by omega))
        have HE := Lib.hid he
        clear he
        go_wp2
        go_round
        case rel =>
          refine ⟨k + 1, by omega, by go_num, fun j hj hjk => ?_⟩
          rcases Nat.lt_or_ge j k with h | h
          · exact HNO.out j hj h
          · obtain rfl : j = k := by omega
            exact HE.out
        case measure => simp [intOf]; omega
    · have HP : Hid (b = false) := by
        show _ = _
        rw [← HB.out]
        cases hc : s.data.toList.contains c with
        | false => rfl
        | true =>
          rw [List.contains_iff_mem] at hc
          obtain ⟨j, hj, e⟩ := List.getElem_of_mem hc
          have hj2 : j < s.size := by simpa using hj
          exact absurd (show s[j] = c by rw [← e]; rfl) (HNO.out j hj2 (by omega))
      go_wp2
      go_ret
      exact ⟨by rw [HP.out]; rfl, rfl⟩
theorem fields_1 (w : World) : Calls Try.prog 21 #[.int .i64 1] w fun e w' => e = .returned (.string ⟨#[114]⟩) ∧ w = w' := by
  go_enter Try.func21, Try.ntmps21
  go_wp2
  go_ret
  exact ⟨rfl, rfl⟩
theorem fields_2 (w : World) : Calls Try.prog 21 #[.int .i64 2] w fun e w' => e = .returned (.string ⟨#[45]⟩) ∧ w = w' := by
  go_enter Try.func21, Try.ntmps21
  go_wp2
  go_ret
  exact ⟨rfl, rfl⟩
theorem fields_3 (w : World) : Calls Try.prog 21 #[.int .i64 3] w fun e w' => e = .returned (.string ⟨#[115]⟩) ∧ w = w' := by
  go_enter Try.func21, Try.ntmps21
  go_wp2
  go_ret
  exact ⟨rfl, rfl⟩
theorem fields_4 (w : World) : Calls Try.prog 21 #[.int .i64 4] w fun e w' => e = .returned (.string ⟨#[110, 109, 98]⟩) ∧ w = w' := by
  go_enter Try.func21, Try.ntmps21
  go_wp2
  go_ret
  exact ⟨rfl, rfl⟩
theorem fields_5 (w : World) : Calls Try.prog 21 #[.int .i64 5] w fun e w' => e = .returned (.string ⟨#[115, 110, 109]⟩) ∧ w = w' := by
  go_enter Try.func21, Try.ntmps21
  go_wp2
  go_ret
  exact ⟨rfl, rfl⟩
theorem fields_6 (w : World) : Calls Try.prog 21 #[.int .i64 6] w fun e w' => e = .returned (.string ⟨#[115]⟩) ∧ w = w' := by
  go_enter Try.func21, Try.ntmps21
  go_wp2
  go_ret
  exact ⟨rfl, rfl⟩
theorem fields_7 (w : World) : Calls Try.prog 21 #[.int .i64 7] w fun e w' => e = .returned (.string ⟨#[115, 101, 110, 98]⟩) ∧ w = w' := by
  go_enter Try.func21, Try.ntmps21
  go_wp2
  go_ret
  exact ⟨rfl, rfl⟩
theorem fields_8 (w : World) : Calls Try.prog 21 #[.int .i64 8] w fun e w' => e = .returned (.string ⟨#[101]⟩) ∧ w = w' := by
  go_enter Try.func21, Try.ntmps21
  go_wp2
  go_ret
  exact ⟨rfl, rfl⟩
theorem fields_9 (w : World) : Calls Try.prog 21 #[.int .i64 9] w fun e w' => e = .returned (.string ⟨#[45]⟩) ∧ w = w' := by
  go_enter Try.func21, Try.ntmps21
  go_wp2
  go_ret
  exact ⟨rfl, rfl⟩
theorem fields_17 (w : World) : Calls Try.prog 21 #[.int .i64 17] w fun e w' => e = .returned (.string ⟨#[114, 115, 101, 110, 109, 98]⟩) ∧ w = w' := by
  go_enter Try.func21, Try.ntmps21
  go_wp2
  go_ret
  exact ⟨rfl, rfl⟩
theorem fields_18 (w : World) : Calls Try.prog 21 #[.int .i64 18] w fun e w' => e = .returned (.string ⟨#[110, 109]⟩) ∧ w = w' := by
  go_enter Try.func21, Try.ntmps21
  go_wp2
  go_ret
  exact ⟨rfl, rfl⟩
theorem fields_19 (w : World) : Calls Try.prog 21 #[.int .i64 19] w fun e w' => e = .returned (.string ⟨#[115, 101, 110, 109]⟩) ∧ w = w' := by
  go_enter Try.func21, Try.ntmps21
  go_wp2
  go_ret
  exact ⟨rfl, rfl⟩
theorem fields_20 (w : World) : Calls Try.prog 21 #[.int .i64 20] w fun e w' => e = .returned (.string ⟨#[115, 101, 110]⟩) ∧ w = w' := by
  go_enter Try.func21, Try.ntmps21
  go_wp2
  go_ret
  exact ⟨rfl, rfl⟩
theorem fields_21 (w : World) : Calls Try.prog 21 #[.int .i64 21] w fun e w' => e = .returned (.string ⟨#[115, 101, 110, 98]⟩) ∧ w = w' := by
  go_enter Try.func21, Try.ntmps21
  go_wp2
  go_ret
  exact ⟨rfl, rfl⟩
theorem fields_22 (w : World) : Calls Try.prog 21 #[.int .i64 22] w fun e w' => e = .returned (.string ⟨#[101]⟩) ∧ w = w' := by
  go_enter Try.func21, Try.ntmps21
  go_wp2
  go_ret
  exact ⟨rfl, rfl⟩
theorem fields_23 (w : World) : Calls Try.prog 21 #[.int .i64 23] w fun e w' => e = .returned (.string ⟨#[45]⟩) ∧ w = w' := by
  go_enter Try.func21, Try.ntmps21
  go_wp2
  go_ret
  exact ⟨rfl, rfl⟩
theorem fields_24 (w : World) : Calls Try.prog 21 #[.int .i64 24] w fun e w' => e = .returned (.string ⟨#[115, 98]⟩) ∧ w = w' := by
  go_enter Try.func21, Try.ntmps21
  go_wp2
  go_ret
  exact ⟨rfl, rfl⟩
theorem fields_other (k : Int) (h : ¬ isKind k) (w : World) : Calls Try.prog 21 #[.int .i64 k] w fun e w' => e = .returned (.string ⟨#[]⟩) ∧ w = w' := by
  simp only [isKind, not_or] at h
  obtain ⟨h1, h2, h3, h4, h5, h6, h7, h8, h9, h17, h18, h19, h20, h21, h22, h23, h24⟩ := h
  have e1 : (k == 1) = false := by simpa using h1
  have e2 : (k == 2) = false := by simpa using h2
  have e3 : (k == 3) = false := by simpa using h3
  have e4 : (k == 4) = false := by simpa using h4
  have e5 : (k == 5) = false := by simpa using h5
  have e6 : (k == 6) = false := by simpa using h6
  have e7 : (k == 7) = false := by simpa using h7
  have e8 : (k == 8) = false := by simpa using h8
  have e9 : (k == 9) = false := by simpa using h9
  have e17 : (k == 17) = false := by simpa using h17
  have e18 : (k == 18) = false := by simpa using h18
  have e19 : (k == 19) = false := by simpa using h19
  have e20 : (k == 20) = false := by simpa using h20
  have e21 : (k == 21) = false := by simpa using h21
  have e22 : (k == 22) = false := by simpa using h22
  have e23 : (k == 23) = false := by simpa using h23
  have e24 : (k == 24) = false := by simpa using h24
  clear h1 h2 h3 h4 h5 h6 h7 h8 h9 h17 h18 h19 h20 h21 h22 h23 h24
  go_enter Try.func21, Try.ntmps21
  go_wp2
  go_ret
  exact ⟨rfl, rfl⟩
end Go.Proofs.Ytmaemfjepdicfaa
