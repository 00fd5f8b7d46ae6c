/- What the program's twice, Times, box and the library's RotateLeft8, the reference's Times and left return (contracts). Conditions: none. -/
import Derived.Test.YtklkehpcifnfkaaU8
import Derived.Test.YtklkehpcifnfkaaAes
set_option linter.unusedVariables false
namespace Go.Proofs.Ytklkehpcifnfkaa
open Go.RowKit
attribute [local go_sem ↓] Go.wp_at_zero Go.wp_at_succ

theorem tw_hi (a : UInt8) (h : 128 ≤ a.toNat) : bits .xor .u8 (((a.toNat : Int) * 2 % 256)) 27 = ((tw a).toNat : Int) := by
  rw [U8.shl1, tw, if_pos h]
  exact U8.xor (a <<< 1) 27
theorem tw_lo (a : UInt8) (h : ¬ 128 ≤ a.toNat) : (a.toNat : Int) * (2 : Int) = ((tw a).toNat : Int) := by
  have := U8.shl1 a
  rw [tw, if_neg h]
  omega
theorem twice_c (a : UInt8) (w : World) : Calls Try.prog 29 #[.int .u8 (a.toNat : Int)] w fun e w' => e = .returned (.int .u8 ((tw a).toNat : Int)) ∧ w = w' := by
  obtain ⟨r, hr⟩ : ∃ r, r = tw a := ⟨_, rfl⟩
  rw [← hr]
  have ha := UInt8.toNat_lt a
  by_cases h : 128 ≤ a.toNat
  · have e := tw_hi a h
    rw [← hr] at e
    clear hr
    have hi : (128 : Int) ≤ (a.toNat : Int) := by omega
    go_enter Try.func29, Try.ntmps29
    go_wp2
    go_ret
    exact ⟨rfl, rfl⟩
  · have e := tw_lo a h
    rw [← hr] at e
    clear hr
    have hi : ¬ (128 : Int) ≤ (a.toNat : Int) := by omega
    go_enter Try.func29, Try.ntmps29
    go_wp2
    go_ret
    exact ⟨rfl, rfl⟩
theorem and_one (b : UInt8) : (bits .and .u8 (b.toNat : Int) 1 == 1) = (b &&& 1 == 1) := by
  rw [show (1 : Int) = ((1 : UInt8).toNat : Int) from rfl, U8.and, U8.eq]
theorem timesG_step {k : Nat} (a b x : UInt8) : timesG (k + 1) a b x = timesG k (tw a) (b >>> 1) (if b &&& 1 = 1 then x ^^^ a else x) := rfl
set_option maxHeartbeats 800000 in
theorem times_c (a b : UInt8) (w : World) : Calls Try.prog 18 #[.int .u8 (a.toNat : Int), .int .u8 (b.toNat : Int)] w fun e w' => e = .returned (.int .u8 ((times a b).toNat : Int)) ∧ w = w' := by
  obtain ⟨R, hR⟩ : ∃ R, R = times a b := ⟨_, rfl⟩
  rw [← hR]
  go_enter Try.func18, Try.ntmps18
  go_wp2_with fail
  go_loopg [0, 1, 5] 8 (fun gg va vb vx wr => ∃ (k : Nat) (a b x : UInt8), gg = k ∧ va = .int .u8 (a.toNat : Int) ∧ vb = .int .u8 (b.toNat : Int) ∧ vx = .int .u8 (x.toNat : Int) ∧ wr = w ∧ timesG k a b x = R ∧ b.toNat < 2 ^ k)
  case atStart => exact ⟨8, a, b, 0, rfl, rfl, rfl, rfl, rfl, hR.symm, UInt8.toNat_lt b⟩
  case round =>
    obtain ⟨k, a, b, x, rfl, rfl, rfl, rfl, rfl, hG, hb⟩ := hrel
    have HG := Lib.hid hG
    have HR := Lib.hid hR
    clear hG hR
    by_cases h0 : b.toNat = 0
    · have HP : Hid (x = R) := by
        have e : b = 0 := UInt8.toNat_inj.1 h0
        have := HG.out
        rw [e, timesG_zero] at this
        exact this
      have hi : ¬ (0 : Int) < (b.toNat : Int) := by omega
      go_wp2
      go_ret
      exact ⟨by rw [HP.out]; rfl, rfl⟩
    · obtain ⟨j, rfl⟩ : ∃ j, gk = j + 1 := by
        cases gk with
        | zero => exact absurd hb (by omega)
        | succ j => exact ⟨j, rfl⟩
      have hi : (0 : Int) < (b.toNat : Int) := by omega
      have hi2 : 0 < b.toNat := by omega
      have HB := Lib.hid hb
      clear hb h0
      obtain ⟨b', hb'⟩ : ∃ b', b' = b >>> 1 := ⟨_, rfl⟩
      have hsh := U8.shr1 b
      rw [← hb'] at hsh
      have HB' := Lib.hid hb'
      clear hb'
      have hlt : b'.toNat < 2 ^ j := by
        have h1 := HB.out
        rw [Nat.pow_succ] at h1
        omega
      have HLT := Lib.hid hlt
      clear hlt
      by_cases hbit : b &&& 1 = 1
      · have hand : (bits .and .u8 (b.toNat : Int) 1 == 1) = true := by rw [and_one]; simp [hbit]
        obtain ⟨y, hy⟩ : ∃ y, y = x ^^^ a := ⟨_, rfl⟩
        have hxor := U8.xor x a
        rw [← hy] at hxor
        have HN : Hid (timesG j (tw a) b' y = R) := by
          have := HG.out
          rw [timesG_step, if_pos hbit, ← HB'.out, ← hy] at this
          exact this
        clear hbit hy
        go_wp2_with (go_at_call 29; refine (twice_c a _).mono ?_; rintro e0 w1 ⟨rfl, rfl⟩)
        go_roundg j
        case measure => omega
        case rel => exact ⟨j, tw a, b', y, rfl, rfl, rfl, rfl, rfl, HN.out, HLT.out⟩
      · have hand : (bits .and .u8 (b.toNat : Int) 1 == 1) = false := by rw [and_one]; simp [hbit]
        have HN : Hid (timesG j (tw a) b' x = R) := by
          have := HG.out
          rw [timesG_step, if_neg hbit, ← HB'.out] at this
          exact this
        clear hbit
        go_wp2_with (go_at_call 29; refine (twice_c a _).mono ?_; rintro e0 w1 ⟨rfl, rfl⟩)
        go_roundg j
        case measure => omega
        case rel => exact ⟨j, tw a, b', x, rfl, rfl, rfl, rfl, rfl, HN.out, HLT.out⟩
end Go.Proofs.Ytklkehpcifnfkaa
