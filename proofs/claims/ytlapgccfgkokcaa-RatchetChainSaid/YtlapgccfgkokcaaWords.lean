/- What the library's RotateLeft32, the program's turn and word, the reference's right return (contracts). Conditions: as each says. -/
import Derived.Test.YtlapgccfgkokcaaSha
import Derived.Deep.QuietTactic
import Derived.BigQuiet
set_option linter.unusedVariables false
namespace Go.Proofs.Ytlapgccfgkokcaa
open Go.RowKit
attribute [local go_sem ↓] Go.wp_at_zero Go.wp_at_succ

theorem rot_2 (x : UInt32) (w : World) : Calls Try.prog 63 #[.int .u32 (x.toNat : Int), .int .i64 (-2)] w fun e w' => e = .returned (.int .u32 ((rr x 2).toNat : Int)) ∧ w = w' := by
  have h1 := W.shr x 2 (by decide)
  have h2 := W.shl x 30 (by decide)
  have h3 := W.or (x <<< UInt32.ofNat 30) (x >>> UInt32.ofNat 2)
  rw [show x <<< UInt32.ofNat 30 ||| x >>> UInt32.ofNat 2 = rr x 2 from UInt32.or_comm _ _] at h3
  have h0 := W.lt x
  simp only [Int.reducePow] at h1 h2
  generalize x <<< UInt32.ofNat 30 = a at *
  generalize x >>> UInt32.ofNat 2 = b at *
  generalize rr x 2 = y at *
  have hand : bits .and .u64 (IntKind.u64.wrap (-2)) 31 = 30 := by decide
  go_enter Try.func63, Try.ntmps63
  go_wp2
  go_ret
  exact ⟨ret_int (by simp [*]), rfl⟩
theorem turn_2 (x : UInt32) (w : World) : Calls Try.prog 58 #[.int .u32 (x.toNat : Int), .int .i64 2] w fun e w' => e = .returned (.int .u32 ((rr x 2).toNat : Int)) ∧ w = w' := by
  have hr := rot_2 x
  go_enter Try.func58, Try.ntmps58
  go_wp2_with (go_at_call 63; refine (hr _).mono ?_; rintro e0 w' ⟨rfl, rfl⟩)
  go_ret
  exact ⟨rfl, rfl⟩
theorem right_2 (x : UInt32) (w : World) : Calls Try.prog 56 #[.int .u32 (x.toNat : Int), .int .u64 2] w fun e w' => e = .returned (.int .u32 ((rr x 2).toNat : Int)) ∧ w = w' := by
  have h1 := W.shr x 2 (by decide)
  have h2 := W.shl x 30 (by decide)
  have h3 := W.or (x >>> UInt32.ofNat 2) (x <<< UInt32.ofNat 30)
  rw [show x >>> UInt32.ofNat 2 ||| x <<< UInt32.ofNat 30 = rr x 2 from rfl] at h3
  have h0 := W.lt x
  simp only [Int.reducePow] at h1 h2
  generalize x <<< UInt32.ofNat 30 = a at *
  generalize x >>> UInt32.ofNat 2 = b at *
  generalize rr x 2 = y at *
  go_enter Try.func56, Try.ntmps56
  go_wp2
  go_ret
  exact ⟨ret_int (by simp [*]), rfl⟩
theorem rot_6 (x : UInt32) (w : World) : Calls Try.prog 63 #[.int .u32 (x.toNat : Int), .int .i64 (-6)] w fun e w' => e = .returned (.int .u32 ((rr x 6).toNat : Int)) ∧ w = w' := by
  have h1 := W.shr x 6 (by decide)
  have h2 := W.shl x 26 (by decide)
  have h3 := W.or (x <<< UInt32.ofNat 26) (x >>> UInt32.ofNat 6)
  rw [show x <<< UInt32.ofNat 26 ||| x >>> UInt32.ofNat 6 = rr x 6 from UInt32.or_comm _ _] at h3
  have h0 := W.lt x
  simp only [Int.reducePow] at h1 h2
  generalize x <<< UInt32.ofNat 26 = a at *
  generalize x >>> UInt32.ofNat 6 = b at *
  generalize rr x 6 = y at *
  have hand : bits .and .u64 (IntKind.u64.wrap (-6)) 31 = 26 := by decide
  go_enter Try.func63, Try.ntmps63
  go_wp2
  go_ret
  exact ⟨ret_int (by simp [*]), rfl⟩
theorem turn_6 (x : UInt32) (w : World) : Calls Try.prog 58 #[.int .u32 (x.toNat : Int), .int .i64 6] w fun e w' => e = .returned (.int .u32 ((rr x 6).toNat : Int)) ∧ w = w' := by
  have hr := rot_6 x
  go_enter Try.func58, Try.ntmps58
  go_wp2_with (go_at_call 63; refine (hr _).mono ?_; rintro e0 w' ⟨rfl, rfl⟩)
  go_ret
  exact ⟨rfl, rfl⟩
theorem right_6 (x : UInt32) (w : World) : Calls Try.prog 56 #[.int .u32 (x.toNat : Int), .int .u64 6] w fun e w' => e = .returned (.int .u32 ((rr x 6).toNat : Int)) ∧ w = w' := by
  have h1 := W.shr x 6 (by decide)
  have h2 := W.shl x 26 (by decide)
  have h3 := W.or (x >>> UInt32.ofNat 6) (x <<< UInt32.ofNat 26)
  rw [show x >>> UInt32.ofNat 6 ||| x <<< UInt32.ofNat 26 = rr x 6 from rfl] at h3
  have h0 := W.lt x
  simp only [Int.reducePow] at h1 h2
  generalize x <<< UInt32.ofNat 26 = a at *
  generalize x >>> UInt32.ofNat 6 = b at *
  generalize rr x 6 = y at *
  go_enter Try.func56, Try.ntmps56
  go_wp2
  go_ret
  exact ⟨ret_int (by simp [*]), rfl⟩
theorem rot_7 (x : UInt32) (w : World) : Calls Try.prog 63 #[.int .u32 (x.toNat : Int), .int .i64 (-7)] w fun e w' => e = .returned (.int .u32 ((rr x 7).toNat : Int)) ∧ w = w' := by
  have h1 := W.shr x 7 (by decide)
  have h2 := W.shl x 25 (by decide)
  have h3 := W.or (x <<< UInt32.ofNat 25) (x >>> UInt32.ofNat 7)
  rw [show x <<< UInt32.ofNat 25 ||| x >>> UInt32.ofNat 7 = rr x 7 from UInt32.or_comm _ _] at h3
  have h0 := W.lt x
  simp only [Int.reducePow] at h1 h2
  generalize x <<< UInt32.ofNat 25 = a at *
  generalize x >>> UInt32.ofNat 7 = b at *
  generalize rr x 7 = y at *
  have hand : bits .and .u64 (IntKind.u64.wrap (-7)) 31 = 25 := by decide
  go_enter Try.func63, Try.ntmps63
  go_wp2
  go_ret
  exact ⟨ret_int (by simp [*]), rfl⟩
theorem turn_7 (x : UInt32) (w : World) : Calls Try.prog 58 #[.int .u32 (x.toNat : Int), .int .i64 7] w fun e w' => e = .returned (.int .u32 ((rr x 7).toNat : Int)) ∧ w = w' := by
  have hr := rot_7 x
  go_enter Try.func58, Try.ntmps58
  go_wp2_with (go_at_call 63; refine (hr _).mono ?_; rintro e0 w' ⟨rfl, rfl⟩)
  go_ret
  exact ⟨rfl, rfl⟩
theorem right_7 (x : UInt32) (w : World) : Calls Try.prog 56 #[.int .u32 (x.toNat : Int), .int .u64 7] w fun e w' => e = .returned (.int .u32 ((rr x 7).toNat : Int)) ∧ w = w' := by
  have h1 := W.shr x 7 (by decide)
  have h2 := W.shl x 25 (by decide)
  have h3 := W.or (x >>> UInt32.ofNat 7) (x <<< UInt32.ofNat 25)
  rw [show x >>> UInt32.ofNat 7 ||| x <<< UInt32.ofNat 25 = rr x 7 from rfl] at h3
  have h0 := W.lt x
  simp only [Int.reducePow] at h1 h2
  generalize x <<< UInt32.ofNat 25 = a at *
  generalize x >>> UInt32.ofNat 7 = b at *
  generalize rr x 7 = y at *
  go_enter Try.func56, Try.ntmps56
  go_wp2
  go_ret
  exact ⟨ret_int (by simp [*]), rfl⟩
theorem rot_11 (x : UInt32) (w : World) : Calls Try.prog 63 #[.int .u32 (x.toNat : Int), .int .i64 (-11)] w fun e w' => e = .returned (.int .u32 ((rr x 11).toNat : Int)) ∧ w = w' := by
  have h1 := W.shr x 11 (by decide)
  have h2 := W.shl x 21 (by decide)
  have h3 := W.or (x <<< UInt32.ofNat 21) (x >>> UInt32.ofNat 11)
  rw [show x <<< UInt32.ofNat 21 ||| x >>> UInt32.ofNat 11 = rr x 11 from UInt32.or_comm _ _] at h3
  have h0 := W.lt x
  simp only [Int.reducePow] at h1 h2
  generalize x <<< UInt32.ofNat 21 = a at *
  generalize x >>> UInt32.ofNat 11 = b at *
  generalize rr x 11 = y at *
  have hand : bits .and .u64 (IntKind.u64.wrap (-11)) 31 = 21 := by decide
  go_enter Try.func63, Try.ntmps63
  go_wp2
  go_ret
  exact ⟨ret_int (by simp [*]), rfl⟩
theorem turn_11 (x : UInt32) (w : World) : Calls Try.prog 58 #[.int .u32 (x.toNat : Int), .int .i64 11] w fun e w' => e = .returned (.int .u32 ((rr x 11).toNat : Int)) ∧ w = w' := by
  have hr := rot_11 x
  go_enter Try.func58, Try.ntmps58
  go_wp2_with (go_at_call 63; refine (hr _).mono ?_; rintro e0 w' ⟨rfl, rfl⟩)
  go_ret
  exact ⟨rfl, rfl⟩
theorem right_11 (x : UInt32) (w : World) : Calls Try.prog 56 #[.int .u32 (x.toNat : Int), .int .u64 11] w fun e w' => e = .returned (.int .u32 ((rr x 11).toNat : Int)) ∧ w = w' := by
  have h1 := W.shr x 11 (by decide)
  have h2 := W.shl x 21 (by decide)
  have h3 := W.or (x >>> UInt32.ofNat 11) (x <<< UInt32.ofNat 21)
  rw [show x >>> UInt32.ofNat 11 ||| x <<< UInt32.ofNat 21 = rr x 11 from rfl] at h3
  have h0 := W.lt x
  simp only [Int.reducePow] at h1 h2
  generalize x <<< UInt32.ofNat 21 = a at *
  generalize x >>> UInt32.ofNat 11 = b at *
  generalize rr x 11 = y at *
  go_enter Try.func56, Try.ntmps56
  go_wp2
  go_ret
  exact ⟨ret_int (by simp [*]), rfl⟩
theorem rot_13 (x : UInt32) (w : World) : Calls Try.prog 63 #[.int .u32 (x.toNat : Int), .int .i64 (-13)] w fun e w' => e = .returned (.int .u32 ((rr x 13).toNat : Int)) ∧ w = w' := by
  have h1 := W.shr x 13 (by decide)
  have h2 := W.shl x 19 (by decide)
  have h3 := W.or (x <<< UInt32.ofNat 19) (x >>> UInt32.ofNat 13)
  rw [show x <<< UInt32.ofNat 19 ||| x >>> UInt32.ofNat 13 = rr x 13 from UInt32.or_comm _ _] at h3
  have h0 := W.lt x
  simp only [Int.reducePow] at h1 h2
  generalize x <<< UInt32.ofNat 19 = a at *
  generalize x >>> UInt32.ofNat 13 = b at *
  generalize rr x 13 = y at *
  have hand : bits .and .u64 (IntKind.u64.wrap (-13)) 31 = 19 := by decide
  go_enter Try.func63, Try.ntmps63
  go_wp2
  go_ret
  exact ⟨ret_int (by simp [*]), rfl⟩
theorem turn_13 (x : UInt32) (w : World) : Calls Try.prog 58 #[.int .u32 (x.toNat : Int), .int .i64 13] w fun e w' => e = .returned (.int .u32 ((rr x 13).toNat : Int)) ∧ w = w' := by
  have hr := rot_13 x
  go_enter Try.func58, Try.ntmps58
  go_wp2_with (go_at_call 63; refine (hr _).mono ?_; rintro e0 w' ⟨rfl, rfl⟩)
  go_ret
  exact ⟨rfl, rfl⟩
theorem right_13 (x : UInt32) (w : World) : Calls Try.prog 56 #[.int .u32 (x.toNat : Int), .int .u64 13] w fun e w' => e = .returned (.int .u32 ((rr x 13).toNat : Int)) ∧ w = w' := by
  have h1 := W.shr x 13 (by decide)
  have h2 := W.shl x 19 (by decide)
  have h3 := W.or (x >>> UInt32.ofNat 13) (x <<< UInt32.ofNat 19)
  rw [show x >>> UInt32.ofNat 13 ||| x <<< UInt32.ofNat 19 = rr x 13 from rfl] at h3
  have h0 := W.lt x
  simp only [Int.reducePow] at h1 h2
  generalize x <<< UInt32.ofNat 19 = a at *
  generalize x >>> UInt32.ofNat 13 = b at *
  generalize rr x 13 = y at *
  go_enter Try.func56, Try.ntmps56
  go_wp2
  go_ret
  exact ⟨ret_int (by simp [*]), rfl⟩
theorem rot_17 (x : UInt32) (w : World) : Calls Try.prog 63 #[.int .u32 (x.toNat : Int), .int .i64 (-17)] w fun e w' => e = .returned (.int .u32 ((rr x 17).toNat : Int)) ∧ w = w' := by
  have h1 := W.shr x 17 (by decide)
  have h2 := W.shl x 15 (by decide)
  have h3 := W.or (x <<< UInt32.ofNat 15) (x >>> UInt32.ofNat 17)
  rw [show x <<< UInt32.ofNat 15 ||| x >>> UInt32.ofNat 17 = rr x 17 from UInt32.or_comm _ _] at h3
  have h0 := W.lt x
  simp only [Int.reducePow] at h1 h2
  generalize x <<< UInt32.ofNat 15 = a at *
  generalize x >>> UInt32.ofNat 17 = b at *
  generalize rr x 17 = y at *
  have hand : bits .and .u64 (IntKind.u64.wrap (-17)) 31 = 15 := by decide
  go_enter Try.func63, Try.ntmps63
  go_wp2
  go_ret
  exact ⟨ret_int (by simp [*]), rfl⟩
theorem turn_17 (x : UInt32) (w : World) : Calls Try.prog 58 #[.int .u32 (x.toNat : Int), .int .i64 17] w fun e w' => e = .returned (.int .u32 ((rr x 17).toNat : Int)) ∧ w = w' := by
  have hr := rot_17 x
  go_enter Try.func58, Try.ntmps58
  go_wp2_with (go_at_call 63; refine (hr _).mono ?_; rintro e0 w' ⟨rfl, rfl⟩)
  go_ret
  exact ⟨rfl, rfl⟩
theorem right_17 (x : UInt32) (w : World) : Calls Try.prog 56 #[.int .u32 (x.toNat : Int), .int .u64 17] w fun e w' => e = .returned (.int .u32 ((rr x 17).toNat : Int)) ∧ w = w' := by
  have h1 := W.shr x 17 (by decide)
  have h2 := W.shl x 15 (by decide)
  have h3 := W.or (x >>> UInt32.ofNat 17) (x <<< UInt32.ofNat 15)
  rw [show x >>> UInt32.ofNat 17 ||| x <<< UInt32.ofNat 15 = rr x 17 from rfl] at h3
  have h0 := W.lt x
  simp only [Int.reducePow] at h1 h2
  generalize x <<< UInt32.ofNat 15 = a at *
  generalize x >>> UInt32.ofNat 17 = b at *
  generalize rr x 17 = y at *
  go_enter Try.func56, Try.ntmps56
  go_wp2
  go_ret
  exact ⟨ret_int (by simp [*]), rfl⟩
theorem rot_18 (x : UInt32) (w : World) : Calls Try.prog 63 #[.int .u32 (x.toNat : Int), .int .i64 (-18)] w fun e w' => e = .returned (.int .u32 ((rr x 18).toNat : Int)) ∧ w = w' := by
  have h1 := W.shr x 18 (by decide)
  have h2 := W.shl x 14 (by decide)
  have h3 := W.or (x <<< UInt32.ofNat 14) (x >>> UInt32.ofNat 18)
  rw [show x <<< UInt32.ofNat 14 ||| x >>> UInt32.ofNat 18 = rr x 18 from UInt32.or_comm _ _] at h3
  have h0 := W.lt x
  simp only [Int.reducePow] at h1 h2
  generalize x <<< UInt32.ofNat 14 = a at *
  generalize x >>> UInt32.ofNat 18 = b at *
  generalize rr x 18 = y at *
  have hand : bits .and .u64 (IntKind.u64.wrap (-18)) 31 = 14 := by decide
  go_enter Try.func63, Try.ntmps63
  go_wp2
  go_ret
  exact ⟨ret_int (by simp [*]), rfl⟩
theorem turn_18 (x : UInt32) (w : World) : Calls Try.prog 58 #[.int .u32 (x.toNat : Int), .int .i64 18] w fun e w' => e = .returned (.int .u32 ((rr x 18).toNat : Int)) ∧ w = w' := by
  have hr := rot_18 x
  go_enter Try.func58, Try.ntmps58
  go_wp2_with (go_at_call 63; refine (hr _).mono ?_; rintro e0 w' ⟨rfl, rfl⟩)
  go_ret
  exact ⟨rfl, rfl⟩
theorem right_18 (x : UInt32) (w : World) : Calls Try.prog 56 #[.int .u32 (x.toNat : Int), .int .u64 18] w fun e w' => e = .returned (.int .u32 ((rr x 18).toNat : Int)) ∧ w = w' := by
  have h1 := W.shr x 18 (by decide)
  have h2 := W.shl x 14 (by decide)
  have h3 := W.or (x >>> UInt32.ofNat 18) (x <<< UInt32.ofNat 14)
  rw [show x >>> UInt32.ofNat 18 ||| x <<< UInt32.ofNat 14 = rr x 18 from rfl] at h3
  have h0 := W.lt x
  simp only [Int.reducePow] at h1 h2
  generalize x <<< UInt32.ofNat 14 = a at *
  generalize x >>> UInt32.ofNat 18 = b at *
  generalize rr x 18 = y at *
  go_enter Try.func56, Try.ntmps56
  go_wp2
  go_ret
  exact ⟨ret_int (by simp [*]), rfl⟩
theorem rot_19 (x : UInt32) (w : World) : Calls Try.prog 63 #[.int .u32 (x.toNat : Int), .int .i64 (-19)] w fun e w' => e = .returned (.int .u32 ((rr x 19).toNat : Int)) ∧ w = w' := by
  have h1 := W.shr x 19 (by decide)
  have h2 := W.shl x 13 (by decide)
  have h3 := W.or (x <<< UInt32.ofNat 13) (x >>> UInt32.ofNat 19)
  rw [show x <<< UInt32.ofNat 13 ||| x >>> UInt32.ofNat 19 = rr x 19 from UInt32.or_comm _ _] at h3
  have h0 := W.lt x
  simp only [Int.reducePow] at h1 h2
  generalize x <<< UInt32.ofNat 13 = a at *
  generalize x >>> UInt32.ofNat 19 = b at *
  generalize rr x 19 = y at *
  have hand : bits .and .u64 (IntKind.u64.wrap (-19)) 31 = 13 := by decide
  go_enter Try.func63, Try.ntmps63
  go_wp2
  go_ret
  exact ⟨ret_int (by simp [*]), rfl⟩
theorem turn_19 (x : UInt32) (w : World) : Calls Try.prog 58 #[.int .u32 (x.toNat : Int), .int .i64 19] w fun e w' => e = .returned (.int .u32 ((rr x 19).toNat : Int)) ∧ w = w' := by
  have hr := rot_19 x
  go_enter Try.func58, Try.ntmps58
  go_wp2_with (go_at_call 63; refine (hr _).mono ?_; rintro e0 w' ⟨rfl, rfl⟩)
  go_ret
  exact ⟨rfl, rfl⟩
theorem right_19 (x : UInt32) (w : World) : Calls Try.prog 56 #[.int .u32 (x.toNat : Int), .int .u64 19] w fun e w' => e = .returned (.int .u32 ((rr x 19).toNat : Int)) ∧ w = w' := by
  have h1 := W.shr x 19 (by decide)
  have h2 := W.shl x 13 (by decide)
  have h3 := W.or (x >>> UInt32.ofNat 19) (x <<< UInt32.ofNat 13)
  rw [show x >>> UInt32.ofNat 19 ||| x <<< UInt32.ofNat 13 = rr x 19 from rfl] at h3
  have h0 := W.lt x
  simp only [Int.reducePow] at h1 h2
  generalize x <<< UInt32.ofNat 13 = a at *
  generalize x >>> UInt32.ofNat 19 = b at *
  generalize rr x 19 = y at *
  go_enter Try.func56, Try.ntmps56
  go_wp2
  go_ret
  exact ⟨ret_int (by simp [*]), rfl⟩
theorem rot_22 (x : UInt32) (w : World) : Calls Try.prog 63 #[.int .u32 (x.toNat : Int), .int .i64 (-22)] w fun e w' => e = .returned (.int .u32 ((rr x 22).toNat : Int)) ∧ w = w' := by
  have h1 := W.shr x 22 (by decide)
  have h2 := W.shl x 10 (by decide)
  have h3 := W.or (x <<< UInt32.ofNat 10) (x >>> UInt32.ofNat 22)
  rw [show x <<< UInt32.ofNat 10 ||| x >>> UInt32.ofNat 22 = rr x 22 from UInt32.or_comm _ _] at h3
  have h0 := W.lt x
  simp only [Int.reducePow] at h1 h2
  generalize x <<< UInt32.ofNat 10 = a at *
  generalize x >>> UInt32.ofNat 22 = b at *
  generalize rr x 22 = y at *
  have hand : bits .and .u64 (IntKind.u64.wrap (-22)) 31 = 10 := by decide
  go_enter Try.func63, Try.ntmps63
  go_wp2
  go_ret
  exact ⟨ret_int (by simp [*]), rfl⟩
theorem turn_22 (x : UInt32) (w : World) : Calls Try.prog 58 #[.int .u32 (x.toNat : Int), .int .i64 22] w fun e w' => e = .returned (.int .u32 ((rr x 22).toNat : Int)) ∧ w = w' := by
  have hr := rot_22 x
  go_enter Try.func58, Try.ntmps58
  go_wp2_with (go_at_call 63; refine (hr _).mono ?_; rintro e0 w' ⟨rfl, rfl⟩)
  go_ret
  exact ⟨rfl, rfl⟩
theorem right_22 (x : UInt32) (w : World) : Calls Try.prog 56 #[.int .u32 (x.toNat : Int), .int .u64 22] w fun e w' => e = .returned (.int .u32 ((rr x 22).toNat : Int)) ∧ w = w' := by
  have h1 := W.shr x 22 (by decide)
  have h2 := W.shl x 10 (by decide)
  have h3 := W.or (x >>> UInt32.ofNat 22) (x <<< UInt32.ofNat 10)
  rw [show x >>> UInt32.ofNat 22 ||| x <<< UInt32.ofNat 10 = rr x 22 from rfl] at h3
  have h0 := W.lt x
  simp only [Int.reducePow] at h1 h2
  generalize x <<< UInt32.ofNat 10 = a at *
  generalize x >>> UInt32.ofNat 22 = b at *
  generalize rr x 22 = y at *
  go_enter Try.func56, Try.ntmps56
  go_wp2
  go_ret
  exact ⟨ret_int (by simp [*]), rfl⟩
theorem rot_25 (x : UInt32) (w : World) : Calls Try.prog 63 #[.int .u32 (x.toNat : Int), .int .i64 (-25)] w fun e w' => e = .returned (.int .u32 ((rr x 25).toNat : Int)) ∧ w = w' := by
  have h1 := W.shr x 25 (by decide)
  have h2 := W.shl x 7 (by decide)
  have h3 := W.or (x <<< UInt32.ofNat 7) (x >>> UInt32.ofNat 25)
  rw [show x <<< UInt32.ofNat 7 ||| x >>> UInt32.ofNat 25 = rr x 25 from UInt32.or_comm _ _] at h3
  have h0 := W.lt x
  simp only [Int.reducePow] at h1 h2
  generalize x <<< UInt32.ofNat 7 = a at *
  generalize x >>> UInt32.ofNat 25 = b at *
  generalize rr x 25 = y at *
  have hand : bits .and .u64 (IntKind.u64.wrap (-25)) 31 = 7 := by decide
  go_enter Try.func63, Try.ntmps63
  go_wp2
  go_ret
  exact ⟨ret_int (by simp [*]), rfl⟩
theorem turn_25 (x : UInt32) (w : World) : Calls Try.prog 58 #[.int .u32 (x.toNat : Int), .int .i64 25] w fun e w' => e = .returned (.int .u32 ((rr x 25).toNat : Int)) ∧ w = w' := by
  have hr := rot_25 x
  go_enter Try.func58, Try.ntmps58
  go_wp2_with (go_at_call 63; refine (hr _).mono ?_; rintro e0 w' ⟨rfl, rfl⟩)
  go_ret
  exact ⟨rfl, rfl⟩
theorem right_25 (x : UInt32) (w : World) : Calls Try.prog 56 #[.int .u32 (x.toNat : Int), .int .u64 25] w fun e w' => e = .returned (.int .u32 ((rr x 25).toNat : Int)) ∧ w = w' := by
  have h1 := W.shr x 25 (by decide)
  have h2 := W.shl x 7 (by decide)
  have h3 := W.or (x >>> UInt32.ofNat 25) (x <<< UInt32.ofNat 7)
  rw [show x >>> UInt32.ofNat 25 ||| x <<< UInt32.ofNat 7 = rr x 25 from rfl] at h3
  have h0 := W.lt x
  simp only [Int.reducePow] at h1 h2
  generalize x <<< UInt32.ofNat 7 = a at *
  generalize x >>> UInt32.ofNat 25 = b at *
  generalize rr x 25 = y at *
  go_enter Try.func56, Try.ntmps56
  go_wp2
  go_ret
  exact ⟨ret_int (by simp [*]), rfl⟩
end Go.Proofs.Ytlapgccfgkokcaa
