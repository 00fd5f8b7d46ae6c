/- What the library's Cbrt and the program's root return (contracts). Conditions: the prime is one of the first 64. -/
import Derived.Test.YtlapgccfgkokcaaPrime
import Derived.WalkLawsBesides
import Derived.Laws.LoneSync
set_option linter.unusedVariables false
namespace Go.Proofs.Ytlapgccfgkokcaa
open Go.RowKit
attribute [local go_sem ↓] Go.wp_at_zero Go.wp_at_succ

abbrev D64 := FloatKind.f64.format
/-- The library's cube root, a step at a time, for a number that is positive and not small. -/
def cbrN (x : Nat) : Option (List Nat) :=
  let t0 := x / 3 + 3071306043645493248
  (D64.mul t0 t0).bind fun a1 =>
  (D64.div a1 x).bind fun r1 =>
  (D64.mul r1 t0).bind fun a2 =>
  (D64.add 4603064841997850097 a2).bind fun s1 =>
  (D64.add s1 4609048195788499471).bind fun a3 =>
  (D64.div 13827900089180538932 s1).bind fun a4 =>
  (D64.add a3 a4).bind fun a5 =>
  (D64.div 4609916747145206638 a5).bind fun a6 =>
  (D64.add 4600105333671292343 a6).bind fun a7 =>
  (D64.mul t0 a7).bind fun t1 =>
  let t2 := (t1 &&& 18446744072635809792) + 1073741824
  (D64.mul t2 t2).bind fun s2 =>
  (D64.div x s2).bind fun r2 =>
  (D64.add t2 t2).bind fun w2 =>
  (D64.sub r2 t2).bind fun a8 =>
  (D64.add w2 r2).bind fun a9 =>
  (D64.div a8 a9).bind fun r3 =>
  (D64.mul t2 r3).bind fun a10 =>
  (D64.add t2 a10).bind fun t3 => some [t0, t1, t2, t3]
def okX (x : Nat) : Bool := decide (x < 9218868437227405312) && (D64.order x 0 == some .gt) && (D64.order x x == some .eq) && (D64.order x 9218868437227405311 != some .gt) && (D64.order x 4503599627370496 != some .lt)
def primesL : List Nat := (List.range 312).filter fun n => primeB n
theorem primesL_len : primesL.length = 64 := by decide +kernel
/-- Where root begins. -/
def startN (p : Nat) : Option Nat :=
  if okX (FloatKind.f64.nearest (p : Int)) then
    (cbrN (FloatKind.f64.nearest (p : Int))).bind fun l => match l with
      | [t0, t1, t2, t3] => if t0 < 18446744073709551616 ∧ t1 < 18446744073709551616 ∧ t2 < 18446744073709551616 then (D64.mul t3 4751297606875873280).bind fun z => ((FloatKind.f64.decode z).toInt .zero).bind fun n => if 0 ≤ n ∧ n ≤ 4398046511000 then some n.toNat else none else none
      | _ => none
  else none
theorem start_all : (primesL.all fun p => (startN p).isSome) = true := by decide +kernel
theorem bits_run (x : Nat) (w : World) : (callFunc 82 #[.float .f64 x]).run Try.prog w = .ok (.value (.int .u64 (x : Int))) w := by
  rw [run_callFunc_extern Try.func82 (by kernel_rfl) (by kernel_rfl) (by kernel_rfl) (show _ = some Extern.MathFloatBits.float64bits by kernel_rfl)]
  rfl
theorem frombits_run (x : Nat) (w : World) : (callFunc 81 #[.int .u64 (x : Int)]).run Try.prog w = .ok (.value (.float .f64 x)) w := by
  rw [run_callFunc_extern Try.func81 (by kernel_rfl) (by kernel_rfl) (by kernel_rfl) (show _ = some Extern.MathFloatBits.float64frombits by kernel_rfl)]
  rfl
theorem isnan_c (x : Nat) (w : World) (h : D64.order x x = some .eq) : Calls Try.prog 79 #[.float .f64 x] w fun e w' => e = .returned (.bool false) ∧ w = w' := by
  have h1 : (Op.floatCmp .neq .f64 x x).run Try.prog w = .ok (.bool false) w := by simp [Op.floatCmp, h]
  go_enter Try.func79, Try.ntmps79
  go_wp2
  go_ret
  exact ⟨ret_bool (by simp), rfl⟩
theorem abs_c (x : Nat) (w : World) (h : x < 9223372036854775808) : Calls Try.prog 91 #[.float .f64 x] w fun e w' => e = .returned (.float .f64 x) ∧ w = w' := by
  have h1 := bits_run x
  have h2 := frombits_run x
  have h3 : bits .andNot .u64 (x : Int) 9223372036854775808 = (x : Int) := by
    rw [show (9223372036854775808 : Int) = ((9223372036854775808 : Nat) : Int) from rfl, u64_andNot_nat _ _ (by omega) (by decide)]
    congr 1
    rw [show 18446744073709551615 - 9223372036854775808 = 2 ^ 63 - 1 from rfl, Nat.and_two_pow_sub_one_eq_mod]
    omega
  go_enter Try.func91, Try.ntmps91
  go_wp2
  go_ret
  exact ⟨rfl, rfl⟩
theorem isinf_c (x : Nat) (w : World) (h : x < 9223372036854775808) (ho : D64.order x 9218868437227405311 ≠ some .gt) : Calls Try.prog 80 #[.float .f64 x, .int .i64 0] w fun e w' => e = .returned (.bool false) ∧ w = w' := by
  have HA := Lib.hid (abs_c x w h)
  have hb : (D64.order x 9218868437227405311 == some .gt) = false := beq_eq_false_iff_ne.2 ho
  have HO := Lib.hid hb
  clear h ho hb
  go_enter Try.func80, Try.ntmps80
  go_wp2_with (go_at_call 91; refine HA.out.mono ?_; rintro e0 w' ⟨rfl, rfl⟩)
  go_ret
  exact ⟨ret_bool HO.out, rfl⟩
theorem fl {op : BinOp} {a b r : Nat} (h : (match op with | .add => D64.add a b | .sub => D64.sub a b | .mul => D64.mul a b | .quo => D64.div a b | _ => none) = some r) (hop : op = .add ∨ op = .sub ∨ op = .mul ∨ op = .quo) (w : World) :
    (binOp op 101 (.float .f64 a) (.float .f64 b)).run Try.prog w = .ok (.float .f64 r) w := by
  rcases hop with rfl | rfl | rfl | rfl <;> simp_all [binOp, Op.floatArith, go_sem]
set_option maxRecDepth 100000 in
set_option maxHeartbeats 1600000 in
theorem cbrt_c (x t0 t1 t2 t3 : Nat) (w : World) (hok : okX x = true) (h : cbrN x = some [t0, t1, t2, t3]) (b0 : t0 < 18446744073709551616) (b1 : t1 < 18446744073709551616) (b2 : t2 < 18446744073709551616) :
    Calls Try.prog 73 #[.float .f64 x] w fun e w' => e = .returned (.float .f64 t3) ∧ w = w' := by
  simp only [okX, Bool.and_eq_true, decide_eq_true_eq, beq_iff_eq, bne_iff_ne] at hok
  obtain ⟨⟨⟨⟨hx, ho0⟩, hoo⟩, hoi⟩, hos⟩ := hok
  unfold cbrN at h
  simp only [Option.bind_eq_some_iff, Option.some.injEq, List.cons.injEq, and_true] at h
  obtain ⟨a1, h1, r1, h2, a2, h3, s1, h4, a3, h5, a4, h6, a5, h7, a6, h8, a7, h9, u1, h10, s2, h11, r2, h12, w2, h13, a8, h14, a9, h15, r3, h16, a10, h17, u3, h18, rfl, rfl, rfl, rfl⟩ := h
  have e1 := fl (op := .mul) h1 (by simp)
  have e2 := fl (op := .quo) h2 (by simp)
  have e3 := fl (op := .mul) h3 (by simp)
  have e4 := fl (op := .add) h4 (by simp)
  have e5 := fl (op := .add) h5 (by simp)
  have e6 := fl (op := .quo) h6 (by simp)
  have e7 := fl (op := .add) h7 (by simp)
  have e8 := fl (op := .quo) h8 (by simp)
  have e9 := fl (op := .add) h9 (by simp)
  have e10 := fl (op := .mul) h10 (by simp)
  have e11 := fl (op := .mul) h11 (by simp)
  have e12 := fl (op := .quo) h12 (by simp)
  have e13 := fl (op := .add) h13 (by simp)
  have e14 := fl (op := .sub) h14 (by simp)
  have e15 := fl (op := .add) h15 (by simp)
  have e16 := fl (op := .quo) h16 (by simp)
  have e17 := fl (op := .mul) h17 (by simp)
  have e18 := fl (op := .add) h18 (by simp)
  clear h1 h2 h3 h4 h5 h6 h7 h8 h9 h10 h11 h12 h13 h14 h15 h16 h17 h18
  obtain ⟨t0, ht0⟩ : ∃ t, t = x / 3 + 3071306043645493248 := ⟨_, rfl⟩
  obtain ⟨t2, ht2⟩ : ∃ t, t = (u1 &&& 18446744072635809792) + 1073741824 := ⟨_, rfl⟩
  rw [← ht0] at e1 e3 e10 b0
  rw [← ht2] at e11 e13 e14 e17 e18 b2
  have hnan := isnan_c x w hoo
  have hinf := isinf_c x w (by omega) hoi
  have HNAN := Lib.hid hnan
  have HINF := Lib.hid hinf
  have o0 : (D64.order x 0 == some .eq) = false := by rw [ho0]; rfl
  have o1 : (D64.order x 0 == some .lt) = false := by rw [ho0]; rfl
  have o2 : (D64.order x 4503599627370496 == some .lt) = false := beq_eq_false_iff_ne.2 hos
  have r1 := bits_run
  have r2 := frombits_run
  obtain ⟨q, hq⟩ : ∃ q, q = x / 3 := ⟨_, rfl⟩
  have f1 : (x : Int) / 3 = (q : Int) := by omega
  have f2 : (q : Int) + 3071306043645493248 = (t0 : Int) := by omega
  have g0 : (t0 : Int) < 18446744073709551616 := by omega
  obtain ⟨v, hv⟩ : ∃ v, v = u1 &&& 18446744072635809792 := ⟨_, rfl⟩
  have f3 : bits .and .u64 (u1 : Int) 18446744072635809792 = (v : Int) := by
    rw [show (18446744072635809792 : Int) = ((18446744072635809792 : Nat) : Int) from rfl, u64_and_nat _ _ b1 (by decide), hv]
  have f4 : (v : Int) + 1073741824 = (t2 : Int) := by omega
  have g2 : (t2 : Int) < 18446744073709551616 := by omega
  have W : ∀ a : Nat, a < 18446744073709551616 → IntKind.u64.wrap (a : Int) = (a : Int) := fun a ha => by
    simp [IntKind.wrap, IntKind.bits, IntKind.signed]; omega
  have w0 := W t0 b0
  have w2' := W t2 b2
  clear W hos hoi hoo ho0 ht0 ht2 hq hv b0 b1 b2 hx hnan hinf
  go_enter Try.func73, Try.ntmps73
  go_wp2_with (first
    | (go_at_call 79; refine HNAN.out.mono ?_; rintro e0 w' ⟨rfl, rfl⟩)
    | (go_at_call 80; refine HINF.out.mono ?_; rintro e0 w' ⟨rfl, rfl⟩))
  go_ret
  exact ⟨rfl, rfl⟩
end Go.Proofs.Ytlapgccfgkokcaa
