/- The walk of BlockBox (it returns true). -/
import Derived.Test.YtklkehpcifnfkaaBoxC
import Derived.Test.YtklkehpcifnfkaaTimesW
set_option linter.unusedVariables false
namespace Go.Proofs.Ytklkehpcifnfkaa
open Go.RowKit
attribute [local go_sem ↓] Go.wp_at_zero Go.wp_at_succ

def invN (a : UInt8) (k : Nat) : UInt8 := if a ≠ 0 ∧ (mi a).toNat < k then mi a else 0
theorem invN_hit {a x : UInt8} (h : times a x = 1) : invN a (x.toNat + 1) = x := by
  obtain ⟨h1, rfl⟩ := mi_unique h
  unfold invN
  rw [if_pos ⟨h1, by omega⟩]
theorem invN_miss {a x : UInt8} (h : times a x ≠ 1) : invN a (x.toNat + 1) = invN a x.toNat := by
  unfold invN
  have : ¬ (a ≠ 0 ∧ x = mi a) := fun hx => h ((times_eq_one a x).2 hx)
  by_cases ha : a = 0
  · simp [ha]
  · have hne : (mi a).toNat ≠ x.toNat := fun e => this ⟨ha, (UInt8.toNat_inj.1 e).symm⟩
    by_cases hl : (mi a).toNat < x.toNat
    · rw [if_pos ⟨ha, by omega⟩, if_pos ⟨ha, hl⟩]
    · rw [if_neg (fun h => by omega), if_neg (fun h => hl h.2)]
theorem invN_end (a : UInt8) : invN a 256 = mi a := by
  unfold invN
  have hl := UInt8.toNat_lt (mi a)
  by_cases ha : a = 0
  · subst ha; decide +kernel
  · rw [if_pos ⟨ha, hl⟩]
def bitS (v : UInt8) (i : Nat) : Nat → UInt8
  | 0 => (99 >>> UInt8.ofNat i) &&& 1
  | k + 1 => bitS v i k ^^^ ((v >>> UInt8.ofNat (if k = 0 then i else (i + k + 3) % 8)) &&& 1)
def wantS (v : UInt8) : Nat → UInt8
  | 0 => 0
  | i + 1 => wantS v i ||| (bitS v i 5 <<< UInt8.ofNat i)
theorem want_all (x : UInt8) : wantS (mi x) 8 = sb x := all1 (p := fun x => wantS (mi x) 8 = sb x) (by decide +kernel) x
def isb (y : UInt8) : UInt8 := isL.getD y.toNat 0
theorem sb_back (x : UInt8) : isb (sb x) = x := all1 (p := fun x => isb (sb x) = x) (by decide +kernel) x
theorem sb_eq (x y : UInt8) : (((sb x).toNat : Int) == ((sb y).toNat : Int)) = ((x.toNat : Int) == (y.toNat : Int)) := by
  rw [U8.eq, U8.eq, Bool.eq_iff_iff, beq_iff_eq, beq_iff_eq]
  exact ⟨fun h => by rw [← sb_back x, h, sb_back], fun h => by rw [h]⟩
theorem shrI (a : UInt8) (i : Nat) (hi : i < 8) : (a.toNat : Int) / (2 : Int) ^ i = ((a >>> UInt8.ofNat i).toNat : Int) := by
  rw [UInt8.toNat_shiftRight, UInt8.toNat_ofNat', Nat.mod_eq_of_lt (show i < 2 ^ 8 by omega), Nat.mod_eq_of_lt hi, Nat.shiftRight_eq_div_pow]
  simp
theorem shlI (a : UInt8) (i : Nat) (hi : i < 8) : (a.toNat : Int) * (2 : Int) ^ i % (256 : Int) = ((a <<< UInt8.ofNat i).toNat : Int) := by
  rw [UInt8.toNat_shiftLeft, UInt8.toNat_ofNat', Nat.mod_eq_of_lt (show i < 2 ^ 8 by omega), Nat.mod_eq_of_lt hi, Nat.shiftLeft_eq]
  simp
theorem Box_k {x r : UInt8} (h : sb x = r) (w : World) : Calls Try.prog 20 #[.int .u8 (x.toNat : Int)] w fun e w' => e = .returned (.int .u8 (r.toNat : Int)) ∧ Below w.heap.size w w' := by
  subst h
  exact Box_c x w

set_option maxRecDepth 100000 in
set_option maxHeartbeats 1600000 in
theorem box_walk (x y : UInt8) (w : World) : Calls Try.prog 7 #[.int .u8 (x.toNat : Int), .int .u8 (y.toNat : Int)] w fun e w' => e = .returned (.bool true) ∧ Below w.heap.size w w' := by
  have heq := sb_eq x y
  obtain ⟨v, hv⟩ : ∃ v, v = mi x := ⟨_, rfl⟩
  obtain ⟨rx, hrx⟩ : ∃ r, sb x = r := ⟨_, rfl⟩
  obtain ⟨ry, hry⟩ : ∃ r, sb y = r := ⟨_, rfl⟩
  have hwant := want_all x
  rw [← hv, hrx] at hwant
  rw [hrx, hry] at heq
  have HW := Lib.hid hwant
  have HV := Lib.hid hv
  have HEQ := Lib.hid heq
  have KX := Lib.hid (fun w => Box_k hrx w)
  have KY := Lib.hid (fun w => Box_k hry w)
  clear hwant hv heq hrx hry
  go_enter Try.func7, Try.ntmps7
  go_wp2_with fail
  refine (awake4_c _).mono ?_
  rintro e0 w1 ⟨rfl, hb1⟩
  have HB1 := Lib.hid hb1
  clear hb1
  go_wp2_with fail
  go_loopg [5, 6] 256 (fun gg v5 v6 wr => ∃ i : Nat, i ≤ 256 ∧ gg = 256 - i ∧ v6 = .int .i64 (i : Int) ∧ v5 = .int .u8 ((invN x i).toNat : Int) ∧ wr = w1)
  case atStart => exact ⟨0, by omega, rfl, rfl, by simp [invN], rfl⟩
  case round =>
    obtain ⟨i, hi, rfl, rfl, rfl, rfl⟩ := hrel
    by_cases hi2 : i < 256
    · obtain ⟨z, rfl⟩ : ∃ z : UInt8, i = z.toNat := ⟨UInt8.ofNat i, by simp; omega⟩
      have hii : (z.toNat : Int) < 256 := by omega
      by_cases h1 : times x z = 1
      · have hstep := Lib.hid (invN_hit h1)
        have KM := Lib.hid (fun w => times_k h1 _ _ rfl rfl w)
        obtain ⟨n0, hn0⟩ : ∃ n0, n0 = invN x z.toNat := ⟨_, rfl⟩
        rw [← hn0]
        clear h1 hn0
        go_wp2_with fail
        refine (KM.out _).mono ?_
        rintro e0 w2 ⟨rfl, rfl⟩
        go_wp2_with fail
        go_roundg (256 - (z.toNat + 1))
        case measure => omega
        case rel => exact ⟨z.toNat + 1, by omega, rfl, by go_num, by rw [hstep.out], rfl⟩
      · obtain ⟨r, hr⟩ : ∃ r, times x z = r := ⟨_, rfl⟩
        have hstep := Lib.hid (invN_miss h1)
        have hne : ((r.toNat : Int) == 1) = false := by rw [beq_eq_false_iff_ne]; intro e; exact h1 (by rw [hr]; exact UInt8.toNat_inj.1 (by show r.toNat = 1; omega))
        have KM := Lib.hid (fun w => times_k hr _ _ rfl rfl w)
        obtain ⟨n0, hn0⟩ : ∃ n0, n0 = invN x z.toNat := ⟨_, rfl⟩
        rw [← hn0] at hstep ⊢
        clear h1 hn0 hr
        go_wp2_with fail
        refine (KM.out _).mono ?_
        rintro e0 w2 ⟨rfl, rfl⟩
        go_wp2_with fail
        go_roundg (256 - (z.toNat + 1))
        case measure => omega
        case rel => exact ⟨z.toNat + 1, by omega, rfl, by go_num, by rw [hstep.out], rfl⟩
    · have hi3 : i = 256 := by omega
      subst hi3
      rw [invN_end, ← HV.out]
      go_wp2_with fail
      go_loopg [7, 8] 8 (fun gg v7 v8 wx => ∃ i : Nat, i ≤ 8 ∧ gg = 8 - i ∧ v8 = .int .i64 (i : Int) ∧ v7 = .int .u8 ((wantS v i).toNat : Int) ∧ wx = wr)
      case atStart => exact ⟨0, by omega, rfl, rfl, rfl, rfl⟩
      case round =>
        obtain ⟨i, hi, rfl, rfl, rfl, rfl⟩ := hrel
        by_cases hi2 : i < 8
        · have hii : (i : Int) < 8 := by omega
          obtain ⟨s, hs⟩ : ∃ s, s = wantS v i := ⟨_, rfl⟩
          rw [← hs]
          have HS := Lib.hid hs
          have h99 := shrI 99 i hi2
          have hand := U8.and (99 >>> UInt8.ofNat i) 1
          obtain ⟨q, hq⟩ : ∃ q : UInt8, q = 99 >>> UInt8.ofNat i := ⟨_, rfl⟩
          obtain ⟨q1, hq1⟩ : ∃ q1 : UInt8, q1 = q &&& 1 := ⟨_, rfl⟩
          rw [← hq] at h99 hand
          rw [← hq1, show ((1 : UInt8).toNat : Int) = 1 from rfl] at hand
          rw [show ((99 : UInt8).toNat : Int) = 99 from rfl] at h99
          have H0 : Hid (q1 = bitS v i 0) := by show _ = _; rw [hq1, hq]; rfl
          have hvi := shrI v i hi2
          have hvand := U8.and (v >>> UInt8.ofNat i) 1
          obtain ⟨p, hp⟩ : ∃ p : UInt8, p = v >>> UInt8.ofNat i := ⟨_, rfl⟩
          obtain ⟨p1, hp1⟩ : ∃ p1 : UInt8, p1 = p &&& 1 := ⟨_, rfl⟩
          rw [← hp] at hvi hvand
          rw [← hp1, show ((1 : UInt8).toNat : Int) = 1 from rfl] at hvand
          have HP1 : Hid (p1 = (v >>> UInt8.ofNat i) &&& 1) := by show _ = _; rw [hp1, hp]
          clear hs hq hq1 hp hp1
          go_wp2_with fail
          go_loopg [9, 10] 5 (fun gg v9 v10 wy => ∃ k : Nat, k ≤ 5 ∧ gg = 5 - k ∧ v10 = .int .i64 (k : Int) ∧ v9 = .int .u8 ((bitS v i k).toNat : Int) ∧ wy = wr)
          case atStart => exact ⟨0, by omega, rfl, rfl, by rw [← H0.out], rfl⟩
          case round =>
            obtain ⟨k, hk, rfl, rfl, rfl, rfl⟩ := hrel
            by_cases hk2 : k < 5
            · have hki : (k : Int) < 5 := by omega
              obtain ⟨t, ht⟩ : ∃ t, t = bitS v i k := ⟨_, rfl⟩
              rw [← ht]
              by_cases hk0 : k = 0
              · have hk1 : ((k : Int) != 0) = false := by rw [hk0]; rfl
                obtain ⟨t2, ht2⟩ : ∃ t2, t2 = t ^^^ p1 := ⟨_, rfl⟩
                have hxor := U8.xor t p1
                rw [← ht2] at hxor
                have HN : Hid (t2 = bitS v i (k + 1)) := by show _ = _; rw [ht2, ht, HP1.out, bitS, if_pos hk0]
                clear ht ht2 hk0
                go_wp2_with fail
                go_roundg (5 - (k + 1))
                case measure => omega
                case rel => exact ⟨k + 1, by omega, rfl, by go_num, by rw [HN.out], rfl⟩
              · have hk1 : ((k : Int) != 0) = true := by rw [bne_iff_ne]; omega
                obtain ⟨m, hm⟩ : ∃ m, m = (i + k + 3) % 8 := ⟨_, rfl⟩
                have hml : m < 8 := by rw [hm]; exact Nat.mod_lt _ (by decide)
                have hrem : ((i : Int) + (k : Int) + 3).tmod 8 = (m : Int) := by rw [hm, show (i : Int) + (k : Int) + 3 = ((i + k + 3 : Nat) : Int) by omega]; rfl
                have hvm := shrI v m hml
                have hvma := U8.and (v >>> UInt8.ofNat m) 1
                obtain ⟨u, hu⟩ : ∃ u : UInt8, u = v >>> UInt8.ofNat m := ⟨_, rfl⟩
                obtain ⟨u1, hu1⟩ : ∃ u1 : UInt8, u1 = u &&& 1 := ⟨_, rfl⟩
                rw [← hu] at hvm hvma
                rw [← hu1, show ((1 : UInt8).toNat : Int) = 1 from rfl] at hvma
                obtain ⟨t2, ht2⟩ : ∃ t2, t2 = t ^^^ u1 := ⟨_, rfl⟩
                have hxor := U8.xor t u1
                rw [← ht2] at hxor
                have HN : Hid (t2 = bitS v i (k + 1)) := by show _ = _; rw [ht2, ht, hu1, hu, bitS, if_neg hk0, ← hm]
                clear ht ht2 hk0 hu hu1 hm
                go_wp2_with fail
                go_roundg (5 - (k + 1))
                case measure => omega
                case rel => exact ⟨k + 1, by omega, rfl, by go_num, by rw [HN.out], rfl⟩
            · have hk3 : k = 5 := by omega
              subst hk3
              obtain ⟨t, ht⟩ : ∃ t, t = bitS v i 5 := ⟨_, rfl⟩
              rw [← ht]
              have hshl := shlI t i hi2
              obtain ⟨a, ha⟩ : ∃ a : UInt8, a = t <<< UInt8.ofNat i := ⟨_, rfl⟩
              rw [← ha] at hshl
              have hor := U8.or s a
              obtain ⟨s2, hs2⟩ : ∃ s2, s2 = s ||| a := ⟨_, rfl⟩
              rw [← hs2] at hor
              have HN : Hid (s2 = wantS v (i + 1)) := by show _ = _; rw [hs2, HS.out, ha, ht, wantS]
              clear ht ha hs2
              go_wp2_with fail
              go_roundg (8 - (i + 1))
              case measure => omega
              case rel => exact ⟨i + 1, by omega, rfl, by go_num, by rw [HN.out], rfl⟩
        · have hi3 : i = 8 := by omega
          subst hi3
          rw [HW.out]
          go_wp2_with fail
          refine (KX.out _).mono ?_
          rintro e0 w2 ⟨rfl, hb2⟩
          have HB2 := Lib.hid (bcall HB1.out hb2)
          clear hb2
          go_wp2_with fail
          refine (KX.out _).mono ?_
          rintro e0 w3 ⟨rfl, hb3⟩
          have HB3 := Lib.hid (bcall HB2.out hb3)
          clear hb3
          go_wp2_with fail
          refine (KY.out _).mono ?_
          rintro e0 w4 ⟨rfl, hb4⟩
          have HB4 := Lib.hid (bcall HB3.out hb4)
          clear hb4
          go_wp2
          go_ret
          exact ⟨by have := HEQ.out; simp [this], HB4.out⟩
end Go.Proofs.Ytklkehpcifnfkaa
