/- What the library's RotateLeft8, the program's box, the reference's left and Times return (contracts). Conditions: none. -/
import Derived.Test.YtklkehpcifnfkaaArith
set_option linter.unusedVariables false
namespace Go.Proofs.Ytklkehpcifnfkaa
open Go.RowKit
attribute [local go_sem ↓] Go.wp_at_zero Go.wp_at_succ

theorem rl_1 (y : UInt8) : bits .or .u8 ((y.toNat : Int) * (2 : Int) % (256 : Int)) ((y.toNat : Int) / (128 : Int)) = ((rl y 1).toNat : Int) := by
  have e1 : (y.toNat : Int) * (2 : Int) % (256 : Int) = ((y <<< 1).toNat : Int) := by
    rw [UInt8.toNat_shiftLeft]
    simp [Nat.shiftLeft_eq]
  have e2 : (y.toNat : Int) / (128 : Int) = ((y >>> 7).toNat : Int) := by
    rw [UInt8.toNat_shiftRight]
    simp [Nat.shiftRight_eq_div_pow]
  rw [e1, e2, U8.or]
  rfl
theorem rot_1 (y : UInt8) (w : World) : Calls Try.prog 43 #[.int .u8 (y.toNat : Int), .int .i64 1] w fun e w' => e = .returned (.int .u8 ((rl y 1).toNat : Int)) ∧ w = w' := by
  have e := rl_1 y
  obtain ⟨r, hr⟩ : ∃ r, r = rl y 1 := ⟨_, rfl⟩
  rw [← hr] at e ⊢
  clear hr
  have hand : bits .and .u64 1 7 = 1 := by decide
  go_enter Try.func43, Try.ntmps43
  go_wp2
  go_ret
  exact ⟨rfl, rfl⟩
theorem left_1 (y : UInt8) (w : World) : Calls Try.prog 40 #[.int .u8 (y.toNat : Int), .int .u64 1] w fun e w' => e = .returned (.int .u8 ((rl y 1).toNat : Int)) ∧ w = w' := by
  have e := rl_1 y
  obtain ⟨r, hr⟩ : ∃ r, r = rl y 1 := ⟨_, rfl⟩
  rw [← hr] at e ⊢
  clear hr
  go_enter Try.func40, Try.ntmps40
  go_wp2
  go_ret
  exact ⟨rfl, rfl⟩
theorem rl_2 (y : UInt8) : bits .or .u8 ((y.toNat : Int) * (4 : Int) % (256 : Int)) ((y.toNat : Int) / (64 : Int)) = ((rl y 2).toNat : Int) := by
  have e1 : (y.toNat : Int) * (4 : Int) % (256 : Int) = ((y <<< 2).toNat : Int) := by
    rw [UInt8.toNat_shiftLeft]
    simp [Nat.shiftLeft_eq]
  have e2 : (y.toNat : Int) / (64 : Int) = ((y >>> 6).toNat : Int) := by
    rw [UInt8.toNat_shiftRight]
    simp [Nat.shiftRight_eq_div_pow]
  rw [e1, e2, U8.or]
  rfl
theorem rot_2 (y : UInt8) (w : World) : Calls Try.prog 43 #[.int .u8 (y.toNat : Int), .int .i64 2] w fun e w' => e = .returned (.int .u8 ((rl y 2).toNat : Int)) ∧ w = w' := by
  have e := rl_2 y
  obtain ⟨r, hr⟩ : ∃ r, r = rl y 2 := ⟨_, rfl⟩
  rw [← hr] at e ⊢
  clear hr
  have hand : bits .and .u64 2 7 = 2 := by decide
  go_enter Try.func43, Try.ntmps43
  go_wp2
  go_ret
  exact ⟨rfl, rfl⟩
theorem left_2 (y : UInt8) (w : World) : Calls Try.prog 40 #[.int .u8 (y.toNat : Int), .int .u64 2] w fun e w' => e = .returned (.int .u8 ((rl y 2).toNat : Int)) ∧ w = w' := by
  have e := rl_2 y
  obtain ⟨r, hr⟩ : ∃ r, r = rl y 2 := ⟨_, rfl⟩
  rw [← hr] at e ⊢
  clear hr
  go_enter Try.func40, Try.ntmps40
  go_wp2
  go_ret
  exact ⟨rfl, rfl⟩
theorem rl_3 (y : UInt8) : bits .or .u8 ((y.toNat : Int) * (8 : Int) % (256 : Int)) ((y.toNat : Int) / (32 : Int)) = ((rl y 3).toNat : Int) := by
  have e1 : (y.toNat : Int) * (8 : Int) % (256 : Int) = ((y <<< 3).toNat : Int) := by
    rw [UInt8.toNat_shiftLeft]
    simp [Nat.shiftLeft_eq]
  have e2 : (y.toNat : Int) / (32 : Int) = ((y >>> 5).toNat : Int) := by
    rw [UInt8.toNat_shiftRight]
    simp [Nat.shiftRight_eq_div_pow]
  rw [e1, e2, U8.or]
  rfl
theorem rot_3 (y : UInt8) (w : World) : Calls Try.prog 43 #[.int .u8 (y.toNat : Int), .int .i64 3] w fun e w' => e = .returned (.int .u8 ((rl y 3).toNat : Int)) ∧ w = w' := by
  have e := rl_3 y
  obtain ⟨r, hr⟩ : ∃ r, r = rl y 3 := ⟨_, rfl⟩
  rw [← hr] at e ⊢
  clear hr
  have hand : bits .and .u64 3 7 = 3 := by decide
  go_enter Try.func43, Try.ntmps43
  go_wp2
  go_ret
  exact ⟨rfl, rfl⟩
theorem left_3 (y : UInt8) (w : World) : Calls Try.prog 40 #[.int .u8 (y.toNat : Int), .int .u64 3] w fun e w' => e = .returned (.int .u8 ((rl y 3).toNat : Int)) ∧ w = w' := by
  have e := rl_3 y
  obtain ⟨r, hr⟩ : ∃ r, r = rl y 3 := ⟨_, rfl⟩
  rw [← hr] at e ⊢
  clear hr
  go_enter Try.func40, Try.ntmps40
  go_wp2
  go_ret
  exact ⟨rfl, rfl⟩
theorem rl_4 (y : UInt8) : bits .or .u8 ((y.toNat : Int) * (16 : Int) % (256 : Int)) ((y.toNat : Int) / (16 : Int)) = ((rl y 4).toNat : Int) := by
  have e1 : (y.toNat : Int) * (16 : Int) % (256 : Int) = ((y <<< 4).toNat : Int) := by
    rw [UInt8.toNat_shiftLeft]
    simp [Nat.shiftLeft_eq]
  have e2 : (y.toNat : Int) / (16 : Int) = ((y >>> 4).toNat : Int) := by
    rw [UInt8.toNat_shiftRight]
    simp [Nat.shiftRight_eq_div_pow]
  rw [e1, e2, U8.or]
  rfl
theorem rot_4 (y : UInt8) (w : World) : Calls Try.prog 43 #[.int .u8 (y.toNat : Int), .int .i64 4] w fun e w' => e = .returned (.int .u8 ((rl y 4).toNat : Int)) ∧ w = w' := by
  have e := rl_4 y
  obtain ⟨r, hr⟩ : ∃ r, r = rl y 4 := ⟨_, rfl⟩
  rw [← hr] at e ⊢
  clear hr
  have hand : bits .and .u64 4 7 = 4 := by decide
  go_enter Try.func43, Try.ntmps43
  go_wp2
  go_ret
  exact ⟨rfl, rfl⟩
theorem left_4 (y : UInt8) (w : World) : Calls Try.prog 40 #[.int .u8 (y.toNat : Int), .int .u64 4] w fun e w' => e = .returned (.int .u8 ((rl y 4).toNat : Int)) ∧ w = w' := by
  have e := rl_4 y
  obtain ⟨r, hr⟩ : ∃ r, r = rl y 4 := ⟨_, rfl⟩
  rw [← hr] at e ⊢
  clear hr
  go_enter Try.func40, Try.ntmps40
  go_wp2
  go_ret
  exact ⟨rfl, rfl⟩
set_option maxHeartbeats 800000 in
theorem box_c (y : UInt8) (w : World) : Calls Try.prog 39 #[.int .u8 (y.toNat : Int)] w fun e w' => e = .returned (.int .u8 ((boxS y).toNat : Int)) ∧ w = w' := by
  obtain ⟨R, hR⟩ : ∃ R, R = boxS y := ⟨_, rfl⟩
  rw [← hR]
  obtain ⟨r1, h1⟩ : ∃ r, r = rl y 1 := ⟨_, rfl⟩
  obtain ⟨r2, h2⟩ : ∃ r, r = rl y 2 := ⟨_, rfl⟩
  obtain ⟨r3, h3⟩ : ∃ r, r = rl y 3 := ⟨_, rfl⟩
  obtain ⟨r4, h4⟩ : ∃ r, r = rl y 4 := ⟨_, rfl⟩
  have k1 := rot_1 y w
  have k2 := rot_2 y w
  have k3 := rot_3 y w
  have k4 := rot_4 y w
  rw [← h1] at k1
  rw [← h2] at k2
  rw [← h3] at k3
  rw [← h4] at k4
  obtain ⟨x1, g1⟩ : ∃ r, r = y ^^^ r1 := ⟨_, rfl⟩
  obtain ⟨x2, g2⟩ : ∃ r, r = x1 ^^^ r2 := ⟨_, rfl⟩
  obtain ⟨x3, g3⟩ : ∃ r, r = x2 ^^^ r3 := ⟨_, rfl⟩
  obtain ⟨x4, g4⟩ : ∃ r, r = x3 ^^^ r4 := ⟨_, rfl⟩
  have e1 := U8.xor y r1
  have e2 := U8.xor x1 r2
  have e3 := U8.xor x2 r3
  have e4 := U8.xor x3 r4
  have e5 := U8.xor x4 99
  rw [← g1] at e1
  rw [← g2] at e2
  rw [← g3] at e3
  rw [← g4] at e4
  have hx : x4 ^^^ 99 = R := by rw [g4, g3, g2, g1, hR, h1, h2, h3, h4]; rfl
  rw [hx, show ((99 : UInt8).toNat : Int) = 99 from rfl] at e5
  have K1 := Lib.hid k1
  have K2 := Lib.hid k2
  have K3 := Lib.hid k3
  have K4 := Lib.hid k4
  clear k1 k2 k3 k4 h1 h2 h3 h4 g1 g2 g3 g4 hR hx
  go_enter Try.func39, Try.ntmps39
  go_wp2_with fail
  refine wp_loop_rounds 5 ?_
  rw [rounds_succ]; go_wp2_with fail
  refine K1.out.mono ?_
  rintro e0 w1 ⟨rfl, rfl⟩
  go_wp2_with fail
  rw [rounds_succ]; go_wp2_with fail
  refine K2.out.mono ?_
  rintro e0 w1 ⟨rfl, rfl⟩
  go_wp2_with fail
  rw [rounds_succ]; go_wp2_with fail
  refine K3.out.mono ?_
  rintro e0 w1 ⟨rfl, rfl⟩
  go_wp2_with fail
  rw [rounds_succ]; go_wp2_with fail
  refine K4.out.mono ?_
  rintro e0 w1 ⟨rfl, rfl⟩
  go_wp2_with fail
  rw [rounds_succ]; go_wp2
  go_ret
  exact ⟨rfl, rfl⟩
theorem tw_alt (a : UInt8) : (a <<< 1) ^^^ ((a >>> 7) * 27) = tw a := by
  have : ∀ n, n < 256 → ((UInt8.ofNat n) <<< 1) ^^^ (((UInt8.ofNat n) >>> 7) * 27) = tw (UInt8.ofNat n) := by decide +kernel
  have h := this a.toNat (UInt8.toNat_lt a)
  simpa using h
theorem tw_ref (a : UInt8) : bits .xor .u8 ((a.toNat : Int) * (2 : Int) % (256 : Int)) (((a >>> 7).toNat : Int) * (27 : Int) % (256 : Int)) = ((tw a).toNat : Int) := by
  rw [U8.shl1, show (((a >>> 7).toNat : Int) * (27 : Int) % (256 : Int)) = (((a >>> 7) * 27).toNat : Int) by rw [UInt8.toNat_mul]; rfl, U8.xor, tw_alt]
set_option maxHeartbeats 800000 in
theorem rtimes_c (a b : UInt8) (w : World) : Calls Try.prog 19 #[.int .u8 (a.toNat : Int), .int .u8 (b.toNat : Int)] w fun e w' => e = .returned (.int .u8 ((times a b).toNat : Int)) ∧ w = w' := by
  obtain ⟨R, hR⟩ : ∃ R, R = times a b := ⟨_, rfl⟩
  rw [← hR]
  go_enter Try.func19, Try.ntmps19
  go_wp2_with fail
  go_loopg [5, 6, 7] 8 (fun gg vp vx vi wr => ∃ (i : Nat) (x p c : UInt8), i ≤ 8 ∧ gg = 8 - i ∧ vi = .int .i64 (i : Int) ∧ vx = .int .u8 (x.toNat : Int) ∧ vp = .int .u8 (p.toNat : Int) ∧ wr = w ∧ (c.toNat : Int) = (b.toNat : Int) / (2 : Int) ^ i ∧ timesG (8 - i) x c p = R)
  case atStart => exact ⟨0, a, 0, b, by omega, rfl, rfl, rfl, rfl, rfl, by simp, hR.symm⟩
  case round =>
    obtain ⟨i, x, p, c, hi, rfl, rfl, rfl, rfl, rfl, hc, hG⟩ := hrel
    have HG := Lib.hid hG
    have HR := Lib.hid hR
    clear hG hR
    by_cases h8 : i < 8
    · obtain ⟨j, hj⟩ : ∃ j, 8 - i = j + 1 := ⟨7 - i, by omega⟩
      have hj2 : 8 - (i + 1) = j := by omega
      have HJ := Lib.hid hj
      have HJ2 := Lib.hid hj2
      have hb8 : i < 8 := h8
      have hshr : (b.toNat : Int) / (2 : Int) ^ i = (c.toNat : Int) := hc.symm
      have htw := tw_ref x
      have h7 : (x.toNat : Int) / (128 : Int) = ((x >>> 7).toNat : Int) := by
        rw [UInt8.toNat_shiftRight]
        simp [Nat.shiftRight_eq_div_pow]
      obtain ⟨h, hh⟩ : ∃ h, h = x >>> 7 := ⟨_, rfl⟩
      rw [← hh] at htw h7
      clear hh
      have hcn : ((c >>> 1).toNat : Int) = (b.toNat : Int) / (2 : Int) ^ (i + 1) := by
        rw [← U8.shr1, hc, Int.pow_succ, Int.ediv_ediv_of_nonneg (by first | exact Int.pow_nonneg (by decide) | exact Int.le_of_lt (Int.pow_pos (by decide)))]
      have HCN := Lib.hid hcn
      clear hc hcn hj hj2
      by_cases hbit : c &&& 1 = 1
      · have hand : (bits .and .u8 (c.toNat : Int) 1 == 1) = true := by rw [and_one]; simp [hbit]
        obtain ⟨y, hy⟩ : ∃ y, y = p ^^^ x := ⟨_, rfl⟩
        have hxor := U8.xor p x
        rw [← hy] at hxor
        have HN : Hid (timesG j (tw x) (c >>> 1) y = R) := by
          have := HG.out
          rw [HJ.out, timesG_step, if_pos hbit, ← hy] at this
          exact this
        clear hbit hy
        obtain ⟨t, ht⟩ : ∃ t, t = tw x := ⟨_, rfl⟩
        rw [← ht] at htw
        have HT := Lib.hid ht
        clear ht
        go_wp2
        go_roundg (8 - (i + 1))
        case measure => omega
        case rel => exact ⟨i + 1, t, y, c >>> 1, by omega, rfl, by go_num, rfl, rfl, rfl, HCN.out, by rw [HT.out, HJ2.out]; exact HN.out⟩
      · have hand : (bits .and .u8 (c.toNat : Int) 1 == 1) = false := by rw [and_one]; simp [hbit]
        have HN : Hid (timesG j (tw x) (c >>> 1) p = R) := by
          have := HG.out
          rw [HJ.out, timesG_step, if_neg hbit] at this
          exact this
        clear hbit
        obtain ⟨t, ht⟩ : ∃ t, t = tw x := ⟨_, rfl⟩
        rw [← ht] at htw
        have HT := Lib.hid ht
        clear ht
        go_wp2
        go_roundg (8 - (i + 1))
        case measure => omega
        case rel => exact ⟨i + 1, t, p, c >>> 1, by omega, rfl, by go_num, rfl, rfl, rfl, HCN.out, by rw [HT.out, HJ2.out]; exact HN.out⟩
    · have hi8 : i = 8 := by omega
      subst hi8
      have HP : Hid (p = R) := HG.out
      go_wp2
      go_ret
      exact ⟨by rw [HP.out]; rfl, rfl⟩
end Go.Proofs.Ytklkehpcifnfkaa
