/- The laws of the seat: windows. -/
import Derived.Test.YtahdkdbcdopgjaaRef
set_option linter.unusedVariables false
namespace Go.Proofs.Ytahdkdbcdopgjaa
open Go.RowKit
attribute [local go_sem ↓] Go.wp_at_zero Go.wp_at_succ

theorem mark_v {a : Bool} {h s n : Nat} {a' : Bool} {h' s' : Nat} {e : Int} (hv : markF a h s n = (a', h', s', e)) (w : World) (hh : h < 18446744073709551616) (hs : s < 18446744073709551616) (hn : n < 18446744073709551616) :
    Calls Try.prog 9 #[.agg #[.bool a, .int .u64 h, .int .u64 s], .int .u64 n] w fun e0 w' => e0 = .returned (.tuple #[.agg #[.bool a', .int .u64 h', .int .u64 s'], .int .i64 e]) ∧ Below w.heap.size w w' := by
  have := mark_c a h s n w hh hs hn
  rw [hv] at this
  exact this
theorem rmark_v {a : Bool} {h s n : Nat} {a' : Bool} {h' s' : Nat} {e : Int} (hv : markF a h s n = (a', h', s', e)) (w : World) (hh : h < 18446744073709551616) (hs : s < 18446744073709551616) (hn : n < 18446744073709551616) :
    Calls Try.prog 12 #[.agg #[.bool a, .int .u64 h, .int .u64 s], .int .u64 n] w fun e0 w' => e0 = .returned (.tuple #[.agg #[.bool a', .int .u64 h', .int .u64 s'], .int .i64 e]) ∧ Below w.heap.size w w' := by
  have := rmark_c a h s n w hh hs hn
  rw [hv] at this
  exact this
theorem may_v {a : Bool} {h s n : Nat} {e : Int} (hv : may a h s n = e) (w : World) (hh : h < 18446744073709551616) (hs : s < 18446744073709551616) (hn : n < 18446744073709551616) :
    Calls Try.prog 10 #[.agg #[.bool a, .int .u64 h, .int .u64 s], .int .u64 n] w fun e0 w' => e0 = .returned (.int .i64 e) ∧ Below w.heap.size w w' := by
  have := may_c a h s n w hh hs hn
  rw [hv] at this
  exact this
theorem good_v {a : Bool} {h s : Nat} {e : Bool} (hv : good a h s = e) (w : World) (hh : h < 18446744073709551616) (hs : s < 18446744073709551616) :
    Calls Try.prog 11 #[.agg #[.bool a, .int .u64 h, .int .u64 s]] w fun e0 w' => e0 = .returned (.bool e) ∧ Below w.heap.size w w' := by
  have := good_c a h s w hh hs
  rw [hv] at this
  exact this
theorem awake_c (w : World) : Calls Try.prog 8 #[] w fun e w' => e = .returned (.bool true) ∧ Below w.heap.size w w' := by
  go_enter Try.func8, Try.ntmps8
  go_wp2_with fail
  refine (mark_v (a := false) (h := 0) (s := 0) (n := 5) (a' := true) (h' := 5) (s' := 1) (e := 0) (by decide) _ (by omega) (by omega) (by omega)).mono ?_
  rintro e w1 ⟨rfl, hb1⟩
  go_wp2_with fail
  refine (mark_v (a := true) (h := 5) (s := 1) (n := 3) (a' := true) (h' := 5) (s' := 5) (e := 0) (by decide) _ (by omega) (by omega) (by omega)).mono ?_
  rintro e w2 ⟨rfl, hb2⟩
  go_wp2_with fail
  refine (may_v (a := true) (h := 5) (s := 5) (n := 5) (e := 9) (by decide) _ (by omega) (by omega) (by omega)).mono ?_
  rintro e w3 ⟨rfl, hb3⟩
  obtain ⟨hc3, hf3⟩ := bcell hb3
  have hz3 : w2.heap.size < w3.heap.size := by have := hb3.size; simp only [World.size_alloc] at this; omega
  go_wp2_with fail
  refine (may_v (a := true) (h := 5) (s := 5) (n := 4) (e := 0) (by decide) _ (by omega) (by omega) (by omega)).mono ?_
  rintro e w4 ⟨rfl, hb4⟩
  obtain ⟨hc4, hf4⟩ := bcell hb4
  go_wp2_with fail
  refine (good_v (a := true) (h := 5) (s := 5) (e := true) (by decide) _ (by omega) (by omega)).mono ?_
  rintro e w5 ⟨rfl, hb5⟩
  go_wp2
  go_ret
  have hz1 := hb1.size
  have hz2 := hb2.size
  simp only [World.size_alloc] at hz1 hz2
  exact ⟨rfl, hb1.trans (((Below.refl _ _).alloc hz1 _).trans ((hb2.mono (by simp; omega)).trans (((Below.refl _ _).alloc (by omega) _).trans ((hb3.mono (by simp; omega)).trans ((hb4.mono (by omega)).trans (hb5.mono (by have := hb4.size; omega)))))))⟩

theorem rgood_v {a : Bool} {h s : Nat} {e : Bool} (hv : good a h s = e) (w : World) (hh : h < 18446744073709551616) (hs : s < 18446744073709551616) :
    Calls Try.prog 13 #[.agg #[.bool a, .int .u64 h, .int .u64 s]] w fun e0 w' => e0 = .returned (.bool e) ∧ Below w.heap.size w w' := by
  have := rgood_c a h s w hh hs
  rw [hv] at this
  exact this
theorem rmay_v {a : Bool} {h s n : Nat} {e : Int} (hv : may a h s n = e) (w : World) (hh : h < 18446744073709551616) (hs : s < 18446744073709551616) (hn : n < 18446744073709551616) :
    Calls Try.prog 14 #[.agg #[.bool a, .int .u64 h, .int .u64 s], .int .u64 n] w fun e0 w' => e0 = .returned (.int .i64 e) ∧ Below w.heap.size w w' := by
  have := rmay_c a h s n w hh hs hn
  rw [hv] at this
  exact this
theorem says_walk (a : Bool) (h s n : Nat) (w : World) (hh : h < 18446744073709551616) (hs : s < 18446744073709551616) (hn : n < 18446744073709551616) :
    Calls Try.prog 4 #[.agg #[.bool a, .int .u64 h, .int .u64 s], .int .u64 n] w fun e0 w' => e0 = .returned (.bool true) ∧ Below w.heap.size w w' := by
  obtain ⟨a', h', s', e, hv⟩ : ∃ a' h' s' e, markF a h s n = (a', h', s', e) := ⟨_, _, _, _, rfl⟩
  obtain ⟨g, hg⟩ : ∃ g, good a h s = g := ⟨_, rfl⟩
  obtain ⟨m, hm⟩ : ∃ m, may a h s n = m := ⟨_, rfl⟩
  have HV := Lib.hid hv
  have HG := Lib.hid hg
  have HM := Lib.hid hm
  clear hv hg hm
  have k0 := Below.refl w.heap.size w
  go_enter Try.func4, Try.ntmps4
  go_wp2_with fail
  refine (awake_c _).mono ?_
  rintro e0 w1 ⟨rfl, hb1⟩
  have k1 := bcall (balloc k0 _) hb1
  have b2 := (Blk.new w 25 #[.bool a, .int .u64 h, .int .u64 s]).below hb1
  have c2 := b2.cell3
  go_wp2_with fail
  refine (mark_v HV.out _ hh hs hn).mono ?_
  rintro e0 w2 ⟨rfl, hb2⟩
  have k2 := bcall (balloc k1 _) hb2
  have b5 := (Blk.new w1 31 #[.bool a, .int .u64 h, .int .u64 s]).below hb2
  have c5 := b5.cell3
  replace b2 := (b2.alloc _).below hb2
  clear c2
  go_wp2_with fail
  refine (rmark_v HV.out _ hh hs hn).mono ?_
  rintro e0 w3 ⟨rfl, hb3⟩
  have k3 := bcall (balloc k2 _) hb3
  have b6 := (Blk.new w2 25 #[.bool a', .int .u64 h', .int .u64 s']).below hb3
  replace b2 := (b2.alloc _).below hb3
  replace b5 := (b5.alloc _).below hb3
  clear c5
  go_wp2_with fail
  have k4 := balloc k3 (Obj.cells #[.bool a', .int .u64 h', .int .u64 s'] 31)
  have b8 := Blk.new w3 31 #[.bool a', .int .u64 h', .int .u64 s']
  replace b2 := b2.alloc (.cells #[.bool a', .int .u64 h', .int .u64 s'] 31)
  replace b5 := b5.alloc (.cells #[.bool a', .int .u64 h', .int .u64 s'] 31)
  replace b6 := b6.alloc (.cells #[.bool a', .int .u64 h', .int .u64 s'] 31)
  generalize (w3.alloc (Obj.cells #[.bool a', .int .u64 h', .int .u64 s'] 31)) = W at *
  clear hb1 hb2 hb3 k0 k1 k2 k3
  have kW := Below.refl W.heap.size W
  have keep : ∀ w', Below W.heap.size W w' → (w'.cell? ⟨w.heap.size, 0, none⟩ = some (.bool a) ∧ w'.cell? ⟨w.heap.size, 1, none⟩ = some (.int .u64 h) ∧ w'.cell? ⟨w.heap.size, 2, none⟩ = some (.int .u64 s) ∧ w.heap.size < w'.heap.size) ∧
      (w'.cell? ⟨w1.heap.size, 0, none⟩ = some (.bool a) ∧ w'.cell? ⟨w1.heap.size, 1, none⟩ = some (.int .u64 h) ∧ w'.cell? ⟨w1.heap.size, 2, none⟩ = some (.int .u64 s) ∧ w1.heap.size < w'.heap.size) ∧
      (w'.cell? ⟨w2.heap.size, 0, none⟩ = some (.bool a') ∧ w'.cell? ⟨w2.heap.size, 1, none⟩ = some (.int .u64 h') ∧ w'.cell? ⟨w2.heap.size, 2, none⟩ = some (.int .u64 s') ∧ w2.heap.size < w'.heap.size) ∧
      (w'.cell? ⟨w3.heap.size, 0, none⟩ = some (.bool a') ∧ w'.cell? ⟨w3.heap.size, 1, none⟩ = some (.int .u64 h') ∧ w'.cell? ⟨w3.heap.size, 2, none⟩ = some (.int .u64 s') ∧ w3.heap.size < w'.heap.size) ∧ Below W.heap.size W w' :=
    fun w' hb => ⟨(b2.below hb).cell3, (b5.below hb).cell3, (b6.below hb).cell3, (b8.below hb).cell3, hb⟩
  have K := Lib.hid keep
  clear keep b2 b5 b6 b8
  go_region_held3 (fun w' => (w'.cell? ⟨w.heap.size, 0, none⟩ = some (.bool a) ∧ w'.cell? ⟨w.heap.size, 1, none⟩ = some (.int .u64 h) ∧ w'.cell? ⟨w.heap.size, 2, none⟩ = some (.int .u64 s) ∧ w.heap.size < w'.heap.size) ∧
      (w'.cell? ⟨w1.heap.size, 0, none⟩ = some (.bool a) ∧ w'.cell? ⟨w1.heap.size, 1, none⟩ = some (.int .u64 h) ∧ w'.cell? ⟨w1.heap.size, 2, none⟩ = some (.int .u64 s) ∧ w1.heap.size < w'.heap.size) ∧
      (w'.cell? ⟨w2.heap.size, 0, none⟩ = some (.bool a') ∧ w'.cell? ⟨w2.heap.size, 1, none⟩ = some (.int .u64 h') ∧ w'.cell? ⟨w2.heap.size, 2, none⟩ = some (.int .u64 s') ∧ w2.heap.size < w'.heap.size) ∧
      (w'.cell? ⟨w3.heap.size, 0, none⟩ = some (.bool a') ∧ w'.cell? ⟨w3.heap.size, 1, none⟩ = some (.int .u64 h') ∧ w'.cell? ⟨w3.heap.size, 2, none⟩ = some (.int .u64 s') ∧ w3.heap.size < w'.heap.size) ∧ Below W.heap.size W w')
    (first | exact K.out _ (by assumption) | exact K.out _ (bdrew (by assumption)))
    (first
      | (go_at_call 11; refine (good_v HG.out _ hh hs).mono ?_; rintro e0 w' ⟨rfl, hb⟩; have kW' := bcallr hb (by first | assumption | exact bdrew (by assumption)))
      | (go_at_call 13; refine (rgood_v HG.out _ hh hs).mono ?_; rintro e0 w' ⟨rfl, hb⟩; have kW' := bcallr hb (by first | assumption | exact bdrew (by assumption)))
      | (go_at_call 10; refine (may_v HM.out _ hh hs hn).mono ?_; rintro e0 w' ⟨rfl, hb⟩; have kW' := bcallr hb (by first | assumption | exact bdrew (by assumption)))
      | (go_at_call 14; refine (rmay_v HM.out _ hh hs hn).mono ?_; rintro e0 w' ⟨rfl, hb⟩; have kW' := bcallr hb (by first | assumption | exact bdrew (by assumption))))
  go_wp2
  go_ret
  exact ⟨rfl, bcallr (by assumption) k4⟩
theorem known_walk (w : World) : Calls Try.prog 3 #[] w fun e0 w' => e0 = .returned (.bool true) ∧ Below w.heap.size w w' := by
  have k0 := Below.refl w.heap.size w
  go_enter Try.func3, Try.ntmps3
  go_wp2_with fail
  refine (awake_c _).mono ?_
  rintro e0 w1 ⟨rfl, hb1⟩
  have k1 := bcall k0 hb1
  go_wp2_with fail
  refine (mark_v (a := false) (h := 0) (s := 0) (n := 100) (a' := true) (h' := 100) (s' := 1) (e := 0) (by decide) _ (by omega) (by omega) (by omega)).mono ?_
  rintro e0 w2 ⟨rfl, hb2⟩
  have k2 := bcall k1 hb2
  go_wp2_with fail
  have k3 := balloc k2 (Obj.cells #[.bool true, .int .u64 100, .int .u64 1] 25)
  have b1 := Blk.new w2 25 #[.bool true, .int .u64 100, .int .u64 1]
  generalize (w2.alloc (Obj.cells #[.bool true, .int .u64 100, .int .u64 1] 25)) = W at *
  clear hb1 hb2 k0 k1 k2
  have kW := Below.refl W.heap.size W
  have keep : ∀ w', Below W.heap.size W w' → (w'.cell? ⟨w2.heap.size, 0, none⟩ = some (.bool true) ∧ w'.cell? ⟨w2.heap.size, 1, none⟩ = some (.int .u64 100) ∧ w'.cell? ⟨w2.heap.size, 2, none⟩ = some (.int .u64 1) ∧ w2.heap.size < w'.heap.size) ∧ Below W.heap.size W w' :=
    fun w' hb => ⟨(b1.below hb).cell3, hb⟩
  have K := Lib.hid keep
  clear keep
  go_region_held3 (fun w' => (w'.cell? ⟨w2.heap.size, 0, none⟩ = some (.bool true) ∧ w'.cell? ⟨w2.heap.size, 1, none⟩ = some (.int .u64 100) ∧ w'.cell? ⟨w2.heap.size, 2, none⟩ = some (.int .u64 1) ∧ w2.heap.size < w'.heap.size) ∧ Below W.heap.size W w')
    (first | exact K.out _ (by assumption) | exact K.out _ (bdrew (by assumption)))
    (first
      | (go_at_call_of 10 (Value.int .u64 37); refine (may_v (a := true) (h := 100) (s := 1) (n := 37) (e := 0) (by decide) _ (by omega) (by omega) (by omega)).mono ?_; rintro e0 w' ⟨rfl, hb⟩; have kW' := bcallr hb (by first | assumption | exact bdrew (by assumption)))
      | (go_at_call_of 10 (Value.int .u64 36); refine (may_v (a := true) (h := 100) (s := 1) (n := 36) (e := 9) (by decide) _ (by omega) (by omega) (by omega)).mono ?_; rintro e0 w' ⟨rfl, hb⟩; have kW' := bcallr hb (by first | assumption | exact bdrew (by assumption)))
      | (go_at_call_of 10 (Value.int .u64 101); refine (may_v (a := true) (h := 100) (s := 1) (n := 101) (e := 0) (by decide) _ (by omega) (by omega) (by omega)).mono ?_; rintro e0 w' ⟨rfl, hb⟩; have kW' := bcallr hb (by first | assumption | exact bdrew (by assumption))))
  have kV := bcallr kW' k3
  replace b1 := b1.below kW'
  clear kW K k3
  have c1 := b1.cell3
  go_wp2_with fail
  refine (mark_v (a := true) (h := 100) (s := 1) (n := 18446744073709551615) (a' := true) (h' := 18446744073709551615) (s' := 1) (e := 0) (by decide +kernel) _ (by omega) (by omega) (by omega)).mono ?_
  rintro e0 w3 ⟨rfl, hb3⟩
  have k3 := bcall kV hb3
  go_wp2_with fail
  have b6 := Blk.new w3 25 #[.bool true, .int .u64 18446744073709551615, .int .u64 1]
  have k4 := balloc k3 (Obj.cells #[.bool true, .int .u64 18446744073709551615, .int .u64 1] 25)
  refine (mark_v (a := false) (h := 1) (s := 0) (n := 5) (a' := false) (h' := 0) (s' := 0) (e := 1) (by decide +kernel) _ (by omega) (by omega) (by omega)).mono ?_
  rintro e0 w4 ⟨rfl, hb4⟩
  replace b6 := b6.below hb4
  have k5 := bcall k4 hb4
  go_wp2_with fail
  have k6 := balloc k5 (Obj.cells #[.bool false, .int .u64 0, .int .u64 0] 25)
  replace b6 := b6.alloc (Obj.cells #[.bool false, .int .u64 0, .int .u64 0] 25)
  refine (mark_v (a := false) (h := 0) (s := 0) (n := 0) (a' := true) (h' := 0) (s' := 1) (e := 0) (by decide +kernel) _ (by omega) (by omega) (by omega)).mono ?_
  rintro e0 w5 ⟨rfl, hb5⟩
  have k7 := bcall k6 hb5
  replace b6 := b6.below hb5
  have c6 := b6.cell3
  go_wp2_with fail
  have b10 := Blk.new w5 25 #[.bool true, .int .u64 0, .int .u64 1]
  have k8 := balloc k7 (Obj.cells #[.bool true, .int .u64 0, .int .u64 1] 25)
  replace b6 := b6.alloc (Obj.cells #[.bool true, .int .u64 0, .int .u64 1] 25)
  clear c6
  refine (good_v (a := true) (h := 0) (s := 0) (e := false) (by decide +kernel) _ (by omega) (by omega)).mono ?_
  rintro e0 w6 ⟨rfl, hb6⟩
  have k9 := bcall k8 hb6
  replace b6 := b6.below hb6
  replace b10 := b10.below hb6
  go_wp2_with fail
  refine (good_v (a := true) (h := 0) (s := 3) (e := false) (by decide +kernel) _ (by omega) (by omega)).mono ?_
  rintro e0 w7 ⟨rfl, hb7⟩
  have k10 := bcall k9 hb7
  replace b6 := b6.below hb7
  replace b10 := b10.below hb7
  have c6 := b6.cell3
  have c10 := b10.cell3
  go_wp2
  go_ret
  exact ⟨rfl, k10⟩
end Go.Proofs.Ytahdkdbcdopgjaa
