/- What the program's prime and below and the library's Mul64 return (contracts). Conditions: as each says. -/
import Derived.Test.YtlapgccfgkokcaaWord
set_option linter.unusedVariables false
namespace Go.Proofs.Ytlapgccfgkokcaa
open Go.RowKit
attribute [local go_sem ↓] Go.wp_at_zero Go.wp_at_succ

def primeB (n : Nat) : Bool := decide (1 < n) && (List.range n).all fun d => decide (d < 2) || decide (n < d * d) || decide (n % d ≠ 0)
theorem primeB_no {n d : Nat} (h2 : 2 ≤ d) (hd : d * d ≤ n) (hm : n % d = 0) : primeB n = false := by
  have hdn : d < n := by
    have : 2 * d ≤ d * d := Nat.mul_le_mul_right d h2
    omega
  rw [primeB, Bool.and_eq_false_iff]
  right
  rw [List.all_eq_false]
  refine ⟨d, List.mem_range.2 hdn, ?_⟩
  simp [hm, h2, hd]
theorem primeB_yes {n d : Nat} (hd : n < d * d) (h : ∀ e, 2 ≤ e → e < d → e * e ≤ n → n % e ≠ 0) : primeB n = decide (1 < n) := by
  rw [primeB]
  have : ((List.range n).all fun d => decide (d < 2) || decide (n < d * d) || decide (n % d ≠ 0)) = true := by
    rw [List.all_eq_true]
    intro e _
    by_cases h2 : e < 2
    · simp [h2]
    · by_cases h3 : n < e * e
      · simp [h3]
      · have : e < d := by
          rcases Nat.lt_or_ge e d with h4 | h4
          · exact h4
          · have := Nat.mul_le_mul h4 h4
            omega
        have := h e (by omega) this (by omega)
        simp [this]
  rw [this, Bool.and_true]
set_option maxHeartbeats 800000 in
theorem prime_c (n : Nat) (w : World) (hn : n ≤ 100000) : Calls Try.prog 61 #[.int .i64 (n : Int)] w fun e w' => e = .returned (.bool (primeB n)) ∧ w = w' := by
  have hni : (n : Int) ≤ 100000 := by omega
  have hn0 : (0 : Int) ≤ (n : Int) := Int.natCast_nonneg n
  go_enter Try.func61, Try.ntmps61
  go_wp2_with fail
  go_loopg [3] n (fun gg v3 wr => ∃ d : Nat, 2 ≤ d ∧ gg = n + 2 - d ∧ (d = 2 ∨ (d - 1) * (d - 1) ≤ n) ∧ v3 = .int .i64 (d : Int) ∧ (∀ e, 2 ≤ e → e < d → e * e ≤ n → n % e ≠ 0) ∧ w = wr)
  case atStart => exact ⟨2, by omega, by omega, .inl rfl, rfl, by omega, rfl⟩
  case round =>
    obtain ⟨d, hd2, rfl, hdl, rfl, hall, rfl⟩ := hrel
    have hd : d ≤ 400 := by
      rcases hdl with h | h
      · omega
      · rcases Nat.lt_or_ge d 401 with h4 | h4
        · omega
        · have := Nat.mul_le_mul (show 400 ≤ d - 1 by omega) (show 400 ≤ d - 1 by omega)
          omega
    have hdi : (d : Int) ≤ 400 := by omega
    have hd0 : (2 : Int) ≤ (d : Int) := by omega
    obtain ⟨q, hq⟩ : ∃ q, q = d * d := ⟨_, rfl⟩
    have hqi : (d : Int) * (d : Int) = (q : Int) := by rw [hq, Int.natCast_mul]
    have hq4 : q ≤ 160000 := by rw [hq]; exact Nat.mul_le_mul hd hd
    have hwq : IntKind.i64.wrap (q : Int) = (q : Int) := by simp [IntKind.wrap, IntKind.bits, IntKind.signed]; omega
    have HALL := Lib.hid hall
    have HQ := Lib.hid hq
    clear hall hdl hq
    by_cases hle : q ≤ n
    · have hlei : (q : Int) ≤ (n : Int) := by omega
      obtain ⟨m, hm⟩ : ∃ m, m = n % d := ⟨_, rfl⟩
      have hrem : (n : Int).tmod (d : Int) = (m : Int) := by rw [hm]; rfl
      by_cases hm0 : m = 0
      · have hmb : ((m : Int) == 0) = true := by rw [hm0]; rfl
        have HR : Hid (primeB n = false) := primeB_no hd2 (by rw [← HQ.out]; exact hle) (by rw [← hm]; exact hm0)
        clear hm hm0
        go_wp2
        go_ret
        exact ⟨ret_bool HR.out.symm, rfl⟩
      · have hmb : ((m : Int) == 0) = false := by rw [beq_eq_false_iff_ne]; omega
        have HM := Lib.hid hm
        have HM0 := Lib.hid hm0
        have hdn : d ≤ n := by
          have := Nat.le_mul_self d
          have := HQ.out
          omega
        clear hm hm0
        go_wp2_with fail
        go_roundg (n + 2 - (d + 1))
        case measure => omega
        case rel =>
          refine ⟨d + 1, by omega, rfl, .inr (by rw [Nat.add_sub_cancel, ← HQ.out]; exact hle), by go_num, fun e h2 he hee => ?_, rfl⟩
          by_cases hed : e = d
          · subst hed
            rw [← HM.out]
            exact HM0.out
          · exact HALL.out e h2 (by omega) hee
    · have hlei : ¬ (q : Int) ≤ (n : Int) := by omega
      have HR : Hid (primeB n = decide (1 < n)) := primeB_yes (by rw [← HQ.out]; omega) HALL.out
      go_wp2
      go_ret
      exact ⟨ret_bool (by rw [HR.out, decide_eq_decide]; omega), rfl⟩
def lo32 (x : Nat) : Nat := x % 4294967296
theorem and32 (x : Nat) (hx : x < 18446744073709551616) : bits .and .u64 (x : Int) 4294967295 = ((x % 4294967296 : Nat) : Int) := by
  rw [show (4294967295 : Int) = ((4294967295 : Nat) : Int) from rfl, u64_and_nat _ _ hx (by decide)]
  congr 1
  exact Nat.and_two_pow_sub_one_eq_mod x 32
theorem mul64_law (x0 x1 y0 y1 p00 p10 p01 p11 t w1 : Nat) (h0 : x0 < 4294967296) (h1 : p00 = x0 * y0) (h2 : p10 = x1 * y0) (h3 : p01 = x0 * y1) (h4 : p11 = x1 * y1) (ht : t = p10 + p00 / 4294967296) (hw : w1 = t % 4294967296 + p01) :
    p11 + t / 4294967296 + w1 / 4294967296 = (x1 * 4294967296 + x0) * (y1 * 4294967296 + y0) / 18446744073709551616 := by
  have e : (x1 * 4294967296 + x0) * (y1 * 4294967296 + y0) = p11 * 18446744073709551616 + (p10 + p01) * 4294967296 + p00 := by
    rw [h1, h2, h3, h4]
    simp only [Nat.add_mul, Nat.mul_add]
    have a1 : x1 * 4294967296 * (y1 * 4294967296) = x1 * y1 * 18446744073709551616 := by
      rw [Nat.mul_mul_mul_comm]
    have a2 : x1 * 4294967296 * y0 = x1 * y0 * 4294967296 := by rw [Nat.mul_right_comm]
    have a3 : x0 * (y1 * 4294967296) = x0 * y1 * 4294967296 := by rw [Nat.mul_assoc]
    rw [a1, a2, a3]
    omega
  rw [e]
  omega
set_option maxRecDepth 100000 in
set_option maxHeartbeats 1600000 in
theorem mul64_c (x y : Nat) (w : World) (hx : x < 18446744073709551616) (hy : y < 18446744073709551616) :
    Calls Try.prog 74 #[.int .u64 (x : Int), .int .u64 (y : Int)] w fun e w' => e = .returned (.tuple #[.int .u64 ((x * y / 18446744073709551616 : Nat) : Int), .int .u64 ((x * y % 18446744073709551616 : Nat) : Int)]) ∧ w = w' := by
  obtain ⟨x0, hx0⟩ : ∃ a, a = x % 4294967296 := ⟨_, rfl⟩
  obtain ⟨x1, hx1⟩ : ∃ a, a = x / 4294967296 := ⟨_, rfl⟩
  obtain ⟨y0, hy0⟩ : ∃ a, a = y % 4294967296 := ⟨_, rfl⟩
  obtain ⟨y1, hy1⟩ : ∃ a, a = y / 4294967296 := ⟨_, rfl⟩
  obtain ⟨p00, hp00⟩ : ∃ a, a = x0 * y0 := ⟨_, rfl⟩
  obtain ⟨p10, hp10⟩ : ∃ a, a = x1 * y0 := ⟨_, rfl⟩
  obtain ⟨p01, hp01⟩ : ∃ a, a = x0 * y1 := ⟨_, rfl⟩
  obtain ⟨p11, hp11⟩ : ∃ a, a = x1 * y1 := ⟨_, rfl⟩
  obtain ⟨q0, hq0⟩ : ∃ a, a = p00 / 4294967296 := ⟨_, rfl⟩
  obtain ⟨t, ht⟩ : ∃ a, a = p10 + q0 := ⟨_, rfl⟩
  obtain ⟨tl, htl⟩ : ∃ a, a = t % 4294967296 := ⟨_, rfl⟩
  obtain ⟨th, hth⟩ : ∃ a, a = t / 4294967296 := ⟨_, rfl⟩
  obtain ⟨w1, hw1⟩ : ∃ a, a = tl + p01 := ⟨_, rfl⟩
  obtain ⟨wh, hwh⟩ : ∃ a, a = w1 / 4294967296 := ⟨_, rfl⟩
  obtain ⟨s1, hs1⟩ : ∃ a, a = p11 + th := ⟨_, rfl⟩
  obtain ⟨hi, hhi⟩ : ∃ a, a = s1 + wh := ⟨_, rfl⟩
  obtain ⟨lo, hlo⟩ : ∃ a, a = x * y % 18446744073709551616 := ⟨_, rfl⟩
  obtain ⟨xy, hxy⟩ : ∃ a, a = x * y := ⟨_, rfl⟩
  have bx0 : x0 ≤ 4294967295 := by omega
  have bx1 : x1 ≤ 4294967295 := by omega
  have by0 : y0 ≤ 4294967295 := by omega
  have by1 : y1 ≤ 4294967295 := by omega
  have b00 : p00 ≤ 18446744065119617025 := by rw [hp00]; exact Nat.mul_le_mul bx0 by0
  have b10 : p10 ≤ 18446744065119617025 := by rw [hp10]; exact Nat.mul_le_mul bx1 by0
  have b01 : p01 ≤ 18446744065119617025 := by rw [hp01]; exact Nat.mul_le_mul bx0 by1
  have b11 : p11 ≤ 18446744065119617025 := by rw [hp11]; exact Nat.mul_le_mul bx1 by1
  have hlaw : hi = x * y / 18446744073709551616 := by
    have := mul64_law x0 x1 y0 y1 p00 p10 p01 p11 t w1 (by omega) hp00 hp10 hp01 hp11 (by omega) (by omega)
    rw [show x1 * 4294967296 + x0 = x by omega, show y1 * 4294967296 + y0 = y by omega] at this
    omega
  have hil : hi < 18446744073709551616 := by
    rw [hlaw]
    have := Nat.mul_lt_mul'' hx hy
    omega
  rw [← hlaw, ← hlo]
  have f1 : bits .and .u64 (x : Int) 4294967295 = (x0 : Int) := by rw [and32 x hx, hx0]
  have f2 : (x : Int) / 4294967296 = (x1 : Int) := by omega
  have f3 : bits .and .u64 (y : Int) 4294967295 = (y0 : Int) := by rw [and32 y hy, hy0]
  have f4 : (y : Int) / 4294967296 = (y1 : Int) := by omega
  have f5 : (x0 : Int) * (y0 : Int) = (p00 : Int) := by rw [hp00, Int.natCast_mul]
  have f6 : (x1 : Int) * (y0 : Int) = (p10 : Int) := by rw [hp10, Int.natCast_mul]
  have f7 : (x0 : Int) * (y1 : Int) = (p01 : Int) := by rw [hp01, Int.natCast_mul]
  have f8 : (x1 : Int) * (y1 : Int) = (p11 : Int) := by rw [hp11, Int.natCast_mul]
  have f9 : (p00 : Int) / 4294967296 = (q0 : Int) := by omega
  have f10 : (p10 : Int) + (q0 : Int) = (t : Int) := by omega
  have bt : t < 18446744073709551616 := by omega
  have f11 : bits .and .u64 (t : Int) 4294967295 = (tl : Int) := by rw [and32 t bt, htl]
  have f12 : (t : Int) / 4294967296 = (th : Int) := by omega
  have f13 : (tl : Int) + (p01 : Int) = (w1 : Int) := by omega
  have f14 : (w1 : Int) / 4294967296 = (wh : Int) := by omega
  have f15 : (p11 : Int) + (th : Int) = (s1 : Int) := by omega
  have f16 : (s1 : Int) + (wh : Int) = (hi : Int) := by omega
  have f17 : (x : Int) * (y : Int) = (xy : Int) := by rw [hxy, Int.natCast_mul]
  have W : ∀ a : Nat, a < 18446744073709551616 → IntKind.u64.wrap (a : Int) = (a : Int) := fun a ha => by
    simp [IntKind.wrap, IntKind.bits, IntKind.signed]; omega
  have g1 := W p00 (by omega)
  have g2 := W p10 (by omega)
  have g3 := W p01 (by omega)
  have g4 := W p11 (by omega)
  have g5 := W t (by omega)
  have g6 := W w1 (by omega)
  have g7 := W s1 (by omega)
  have g8 := W hi hil
  have g9 : IntKind.u64.wrap (xy : Int) = (lo : Int) := by
    simp [IntKind.wrap, IntKind.bits, IntKind.signed]; omega
  clear W hx0 hx1 hy0 hy1 hp00 hp10 hp01 hp11 hq0 ht htl hth hw1 hwh hs1 hhi hlo hxy hlaw b00 b10 b01 b11 bt hil bx0 bx1 by0 by1
  go_enter Try.func74, Try.ntmps74
  go_wp2
  go_ret2
  exact ⟨rfl, rfl⟩
def belowB (x p : Nat) : Bool := decide (x * x * x ≤ p * 79228162514264337593543950336)
theorem below_law (x p hi lo h l : Nat) (h1 : hi = x * x / 18446744073709551616) (h2 : lo = x * x % 18446744073709551616) (h3 : h = lo * x / 18446744073709551616) (h4 : l = lo * x % 18446744073709551616) :
    belowB x p = (decide (h + hi * x < p * 4294967296) || decide (h + hi * x = p * 4294967296) && decide (l = 0)) := by
  have e : x * x * x = (h + hi * x) * 18446744073709551616 + l := by
    have a : x * x = hi * 18446744073709551616 + lo := by omega
    have b : lo * x = h * 18446744073709551616 + l := by omega
    rw [a, Nat.add_mul, b, Nat.mul_right_comm]
    omega
  generalize h + hi * x = H at *
  have hl : l < 18446744073709551616 := by omega
  rw [belowB, e, Bool.eq_iff_iff]
  simp only [Bool.or_eq_true, Bool.and_eq_true, decide_eq_true_eq]
  omega
set_option maxRecDepth 100000 in
set_option maxHeartbeats 1600000 in
theorem below_c (x p : Nat) (w : World) (hx : x < 4398046511104) (hp : p < 4294967296) :
    Calls Try.prog 67 #[.int .u64 (x : Int), .int .u64 (p : Int)] w fun e w' => e = .returned (.bool (belowB x p)) ∧ w = w' := by
  obtain ⟨hi, h1⟩ : ∃ a, a = x * x / 18446744073709551616 := ⟨_, rfl⟩
  obtain ⟨lo, h2⟩ : ∃ a, a = x * x % 18446744073709551616 := ⟨_, rfl⟩
  obtain ⟨h, h3⟩ : ∃ a, a = lo * x / 18446744073709551616 := ⟨_, rfl⟩
  obtain ⟨l, h4⟩ : ∃ a, a = lo * x % 18446744073709551616 := ⟨_, rfl⟩
  have hlaw := below_law x p hi lo h l h1 h2 h3 h4
  have hlo : lo < 18446744073709551616 := by rw [h2]; exact Nat.mod_lt _ (by decide)
  have m1 := mul64_c x x w (by omega) (by omega)
  rw [← h1, ← h2] at m1
  have m2 := mul64_c lo x w hlo (by omega)
  rw [← h3, ← h4] at m2
  have hxx : x * x < 4398046511104 * 4398046511104 := Nat.mul_lt_mul'' hx hx
  have hhi : hi < 1048576 := by rw [h1]; omega
  have hhx : hi * x < 1048576 * 4398046511104 := Nat.mul_lt_mul'' hhi hx
  have hlox : lo * x < 18446744073709551616 * 4398046511104 := Nat.mul_lt_mul'' hlo hx
  have hh : h < 4398046511104 := by rw [h3]; omega
  obtain ⟨q, hq⟩ : ∃ q, q = hi * x := ⟨_, rfl⟩
  obtain ⟨H, hH⟩ : ∃ H, H = h + q := ⟨_, rfl⟩
  obtain ⟨P, hP⟩ : ∃ P, P = p * 4294967296 := ⟨_, rfl⟩
  rw [← hq, ← hH, ← hP] at hlaw
  have f1 : (hi : Int) * (x : Int) = (q : Int) := by rw [hq, Int.natCast_mul]
  have f2 : (h : Int) + (q : Int) = (H : Int) := by omega
  have f3 : (p : Int) * 4294967296 = (P : Int) := by omega
  have W : ∀ a : Nat, a < 18446744073709551616 → IntKind.u64.wrap (a : Int) = (a : Int) := fun a ha => by
    simp [IntKind.wrap, IntKind.bits, IntKind.signed]; omega
  have g1 := W q (by omega)
  have g2 := W H (by omega)
  have g3 := W P (by omega)
  have M1 := Lib.hid m1
  have M2 := Lib.hid m2
  have hlaw2 : belowB x p = (decide ((H : Int) < (P : Int)) || ((H : Int) == (P : Int)) && ((l : Int) == 0)) := by
    rw [hlaw, Bool.eq_iff_iff]
    simp only [Bool.or_eq_true, Bool.and_eq_true, decide_eq_true_eq, beq_iff_eq]
    omega
  have HL := Lib.hid hlaw2
  have bP : (P : Int) < 18446744073709551616 := by omega
  clear W h1 h2 h3 h4 hlaw hlaw2 hxx hhi hhx hlox hh hq hH hP m1 m2 hlo
  go_enter Try.func67, Try.ntmps67
  go_wp2_with fail
  refine M1.out.mono ?_
  rintro e0 w1 ⟨rfl, rfl⟩
  go_wp2_with fail
  refine M2.out.mono ?_
  rintro e0 w1 ⟨rfl, rfl⟩
  go_upto_region 4 with (fail)
  clear f1 f2 g1 g2 bP M1 M2
  by_cases a1 : (H : Int) < (P : Int)
  · have HA := Lib.hid a1
    have b1 : decide ((H : Int) < (P : Int)) = true := decide_eq_true a1
    go_wp2
    go_ret
    exact ⟨ret_bool (by rw [HL.out]; simp [HA.out]), rfl⟩
  · have b1 : decide ((H : Int) < (P : Int)) = false := decide_eq_false a1
    have HB := Lib.hid b1
    clear a1
    go_wp2
    all_goals
      go_ret
      refine ⟨ret_bool ?_, rfl⟩
      have hb := of_decide_eq_false HB.out
      rw [HL.out, HB.out, Bool.false_or]
      first
        | (exfalso; omega)
        | (rw [show ((H : Int) == (P : Int)) = true from beq_iff_eq.2 (by omega), Bool.true_and]; rw [decide_eq_false (show ¬ H < P by omega), Bool.false_or])
        | (rw [show ((H : Int) == (P : Int)) = false from beq_eq_false_iff_ne.2 (by omega), Bool.false_and]; exact decide_eq_false (by omega))
end Go.Proofs.Ytlapgccfgkokcaa
