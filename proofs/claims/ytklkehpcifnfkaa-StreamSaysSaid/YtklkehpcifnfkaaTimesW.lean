/- The walk of BlockTimes (it returns true). -/
import Derived.Test.YtklkehpcifnfkaaAwake4
import Derived.Test.YtklkehpcifnfkaaField
set_option linter.unusedVariables false
namespace Go.Proofs.Ytklkehpcifnfkaa
open Go.RowKit
attribute [local go_sem ↓] Go.wp_at_zero Go.wp_at_succ

def cntN (a : UInt8) (k : Nat) : Nat := if a ≠ 0 ∧ (mi a).toNat < k then 1 else 0
theorem cntN_hit {a x : UInt8} (h : times a x = 1) : cntN a x.toNat + 1 = cntN a (x.toNat + 1) := by
  obtain ⟨h1, rfl⟩ := mi_unique h
  unfold cntN
  rw [if_neg (by omega), if_pos ⟨h1, by omega⟩]
theorem cntN_miss {a x : UInt8} (h : times a x ≠ 1) : cntN a x.toNat = cntN a (x.toNat + 1) := by
  unfold cntN
  have : ¬ (a ≠ 0 ∧ x = mi a) := fun hx => h ((times_eq_one a x).2 hx)
  by_cases ha : a = 0
  · simp [ha]
  · have hne : (mi a).toNat ≠ x.toNat := fun e => this ⟨ha, (UInt8.toNat_inj.1 e).symm⟩
    by_cases hl : (mi a).toNat < x.toNat
    · rw [if_pos ⟨ha, hl⟩, if_pos ⟨ha, by omega⟩]
    · rw [if_neg (fun h => hl h.2), if_neg (fun h => by omega)]
theorem cntN_end (a : UInt8) : (((cntN a 256 : Nat) : Int) == 1) = ((a.toNat : Int) != 0) := by
  unfold cntN
  have hl := UInt8.toNat_lt (mi a)
  by_cases ha : a = 0
  · subst ha; rfl
  · have hz : a.toNat ≠ 0 := fun e => ha (UInt8.toNat_inj.1 e)
    rw [if_pos ⟨ha, hl⟩]
    symm
    rw [show (((1 : Nat) : Int) == 1) = true from rfl, bne_iff_ne]
    omega
theorem times_k {a b r : UInt8} (h : times a b = r) (ai bi : Int) (ha : (a.toNat : Int) = ai) (hb : (b.toNat : Int) = bi) (w : World) : Calls Try.prog 18 #[.int .u8 ai, .int .u8 bi] w fun e w' => e = .returned (.int .u8 (r.toNat : Int)) ∧ w = w' := by
  subst h ha hb
  exact times_c a b w
theorem rtimes_k {a b r : UInt8} (h : times a b = r) (w : World) : Calls Try.prog 19 #[.int .u8 (a.toNat : Int), .int .u8 (b.toNat : Int)] w fun e w' => e = .returned (.int .u8 (r.toNat : Int)) ∧ w = w' := by
  subst h
  exact rtimes_c a b w

set_option maxRecDepth 100000 in
set_option maxHeartbeats 1600000 in
theorem times_walk (a b c : UInt8) (w : World) : Calls Try.prog 5 #[.int .u8 (a.toNat : Int), .int .u8 (b.toNat : Int), .int .u8 (c.toNat : Int)] w fun e w' => e = .returned (.bool true) ∧ Below w.heap.size w w' := by
  obtain ⟨T, hT⟩ : ∃ T, times a b = T := ⟨_, rfl⟩
  obtain ⟨U, hU⟩ : ∃ U, times T c = U := ⟨_, rfl⟩
  obtain ⟨V, hV⟩ : ∃ V, times b c = V := ⟨_, rfl⟩
  obtain ⟨X, hX⟩ : ∃ X, X = b ^^^ c := ⟨_, rfl⟩
  obtain ⟨Y, hY⟩ : ∃ Y, times a X = Y := ⟨_, rfl⟩
  obtain ⟨Z, hZ⟩ : ∃ Z, times a c = Z := ⟨_, rfl⟩
  have KT := Lib.hid (fun w => times_k hT _ _ rfl rfl w)
  have KR := Lib.hid (fun w => rtimes_k hT w)
  have KB := Lib.hid (fun w => times_k ((times_comm b a).trans hT) _ _ rfl rfl w)
  have KU := Lib.hid (fun w => times_k hU _ _ rfl rfl w)
  have KV := Lib.hid (fun w => times_k hV _ _ rfl rfl w)
  have KW := Lib.hid (fun w => times_k (a := a) (b := V) (r := U) (by rw [← hU, ← hT, ← hV, times_assoc]) _ _ rfl rfl w)
  have KY := Lib.hid (fun w => times_k hY _ _ rfl rfl w)
  have KZ := Lib.hid (fun w => times_k hZ _ _ rfl rfl w)
  have K1 := Lib.hid (fun w => times_k (times_one a) _ 1 rfl rfl w)
  have hx1 := U8.xor b c
  have hx2 := U8.xor T Z
  rw [← hX] at hx1
  rw [show T ^^^ Z = Y by rw [← hY, hX, times_b, hT, hZ]] at hx2
  clear hT hU hV hX hY hZ
  have hend := cntN_end a
  go_enter Try.func5, Try.ntmps5
  go_wp2_with fail
  refine (awake4_c _).mono ?_
  rintro e0 w1 ⟨rfl, hb1⟩
  have HB1 := Lib.hid hb1
  clear hb1
  go_wp2_with fail
  go_loopg [7, 8] 256 (fun gg v7 v8 wr => ∃ i : Nat, i ≤ 256 ∧ gg = 256 - i ∧ v8 = .int .i64 (i : Int) ∧ v7 = .int .i64 ((cntN a i : Nat) : Int) ∧ wr = w1)
  case atStart => exact ⟨0, by omega, rfl, rfl, by simp [cntN], rfl⟩
  case round =>
    obtain ⟨i, hi, rfl, rfl, rfl, rfl⟩ := hrel
    by_cases hi2 : i < 256
    · obtain ⟨x, rfl⟩ : ∃ x : UInt8, i = x.toNat := ⟨UInt8.ofNat i, by simp; omega⟩
      have hii : (x.toNat : Int) < 256 := by omega
      have HEND := Lib.hid hend
      clear hend
      have hcl : cntN a x.toNat ≤ 1 := by unfold cntN; split <;> omega
      by_cases h1 : times a x = 1
      · have hstep := Lib.hid (cntN_hit h1)
        have KX := Lib.hid (fun w => times_k h1 _ _ rfl rfl w)
        obtain ⟨n0, hn0⟩ : ∃ n0, n0 = cntN a x.toNat := ⟨_, rfl⟩
        rw [← hn0] at hstep hcl ⊢
        clear h1 hn0
        go_wp2_with fail
        refine (KX.out _).mono ?_
        rintro e0 w2 ⟨rfl, rfl⟩
        go_wp2_with fail
        go_roundg (256 - (x.toNat + 1))
        case measure => omega
        case rel => exact ⟨x.toNat + 1, by omega, rfl, by go_num, by rw [← hstep.out]; go_num, rfl⟩
      · obtain ⟨r, hr⟩ : ∃ r, times a x = r := ⟨_, rfl⟩
        have hstep := Lib.hid (cntN_miss h1)
        have hne : ((r.toNat : Int) == 1) = false := by rw [beq_eq_false_iff_ne]; intro e; exact h1 (by rw [hr]; exact UInt8.toNat_inj.1 (by show r.toNat = 1; omega))
        have KX := Lib.hid (fun w => times_k hr _ _ rfl rfl w)
        obtain ⟨n0, hn0⟩ : ∃ n0, n0 = cntN a x.toNat := ⟨_, rfl⟩
        rw [← hn0] at hstep ⊢
        clear h1 hn0 hr
        go_wp2_with fail
        refine (KX.out _).mono ?_
        rintro e0 w2 ⟨rfl, rfl⟩
        go_wp2_with fail
        go_roundg (256 - (x.toNat + 1))
        case measure => omega
        case rel => exact ⟨x.toNat + 1, by omega, rfl, by go_num, by rw [← hstep.out], rfl⟩
    · have hi3 : i = 256 := by omega
      subst hi3
      obtain ⟨n0, hn0⟩ : ∃ n0, n0 = cntN a 256 := ⟨_, rfl⟩
      rw [← hn0] at hend ⊢
      have HEND := Lib.hid hend
      clear hn0 hend
      go_wp2_with fail
      refine (KT.out _).mono ?_
      rintro e0 w2 ⟨rfl, rfl⟩
      go_wp2_with fail
      refine (KR.out _).mono ?_
      rintro e0 w2 ⟨rfl, rfl⟩
      go_wp2_with fail
      refine (KT.out _).mono ?_
      rintro e0 w2 ⟨rfl, rfl⟩
      go_wp2_with fail
      refine (KB.out _).mono ?_
      rintro e0 w2 ⟨rfl, rfl⟩
      go_wp2_with fail
      refine (KT.out _).mono ?_
      rintro e0 w2 ⟨rfl, rfl⟩
      go_wp2_with fail
      refine (KU.out _).mono ?_
      rintro e0 w2 ⟨rfl, rfl⟩
      go_wp2_with fail
      refine (KV.out _).mono ?_
      rintro e0 w2 ⟨rfl, rfl⟩
      go_wp2_with fail
      refine (KW.out _).mono ?_
      rintro e0 w2 ⟨rfl, rfl⟩
      go_wp2_with fail
      refine (KY.out _).mono ?_
      rintro e0 w2 ⟨rfl, rfl⟩
      go_wp2_with fail
      refine (KT.out _).mono ?_
      rintro e0 w2 ⟨rfl, rfl⟩
      go_wp2_with fail
      refine (KZ.out _).mono ?_
      rintro e0 w2 ⟨rfl, rfl⟩
      go_wp2_with fail
      refine (K1.out _).mono ?_
      rintro e0 w2 ⟨rfl, rfl⟩
      go_wp2
      go_ret
      exact ⟨by have := HEND.out; simp [this], HB1.out⟩
end Go.Proofs.Ytklkehpcifnfkaa
