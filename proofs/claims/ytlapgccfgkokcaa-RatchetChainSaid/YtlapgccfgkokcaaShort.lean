/- What KdfShorter does. Conditions: the arguments lie in memory. (Printed by gen1h.py.) -/
import Derived.Test.YtlapgccfgkokcaaAwake3
set_option linter.unusedVariables false
set_option linter.unusedSimpArgs false
namespace Go.Proofs.Ytlapgccfgkokcaa
open Go.RowKit
attribute [local go_sem ↓] Go.wp_at_zero Go.wp_at_succ

theorem expandS_take (s info : List UInt8) {p q : Nat} (h : p ≤ q) : (expandS s info q).take p = expandS s info p := by
  rw [expandS_at s info p ((q + 31) / 32) (by omega), expandS, List.take_take, Nat.min_eq_left h]
theorem same_s {a b : List UInt8} {r : Bool} (hr : (a == b) = r) {A D : Option Addr} {n m c d : Nat} {w : World} (ha : SlV w (.slice A n c) a) (hb : SlV w (.slice D m d) b) :
    Calls Try.prog 40 #[.slice A n c, .slice D m d] w fun e w' => e = .returned (.bool r) ∧ w = w' := by
  subst hr
  obtain ⟨A1, c1, e1, _, h1⟩ := ha
  obtain ⟨A2, c2, e2, _, h2⟩ := hb
  injection e1 with x1 x2 x3
  injection e2 with y1 y2 y3
  subst x1 x2 x3 y1 y2 y3
  exact same_c h1 h2
set_option maxRecDepth 100000 in
set_option maxHeartbeats 6400000 in
theorem shorter_walk (s info : List UInt8) (A0 A1 : Option Addr) (n0 n1 c0 c1 x y : Nat) (w : World) (h0 : SlV w (.slice A0 n0 c0) s) (h1 : SlV w (.slice A1 n1 c1) info) (hx : x < 65536) (hy : y < 65536) :
    Calls Try.prog 15 #[.slice A0 n0 c0, .slice A1 n1 c1, .int .u16 (x : Int), .int .u16 (y : Int)] w fun e w' => e = .returned (.bool true) ∧ Below w.heap.size w w' := by
  obtain ⟨i, hi⟩ : ∃ i, i = x % 2000 := ⟨_, rfl⟩
  obtain ⟨k, hk⟩ : ∃ k, k = y % 2000 := ⟨_, rfl⟩
  have hi2 : i < 2000 := by omega
  have hk2 : k < 2000 := by omega
  have hxi : (x : Int) % 2000 = (i : Int) := by omega
  have hyk : (y : Int) % 2000 = (k : Int) := by omega
  have hE : ∀ p : Nat, p < 2000 → ∀ wx : World, Below w.heap.size w wx → Calls Try.prog 36 #[.slice A0 n0 c0, .slice A1 n1 c1, .int .i64 (p : Int)] wx fun e w' => ∃ A c, e = .returned (.tuple #[.slice A p c, .int .i64 0]) ∧ SlV w' (.slice A p c) (expandS s info p) ∧ Below wx.heap.size wx w' := by
    intro p hp wx hb
    have hp2 : p ≤ 8160 := by omega
    exact expand_c s info A0 A1 n0 n1 c0 c1 p wx (h0.below hb) (h1.below hb) hp2
  have HE := Lib.hid hE
  clear hE
  have HXI := Lib.hid hxi
  have HYK := Lib.hid hyk
  have HI2 := Lib.hid hi2
  have HK2 := Lib.hid hk2
  clear hi hk h0 h1 hxi hyk hi2 hk2
  go_enter Try.func15, Try.ntmps15
  go_upto_region 4 with (first
    | (go_at_call 35
       refine (awake3_c w).mono ?_
       rintro e0 w1 ⟨rfl, hb1⟩
       have HB1 := Lib.hid hb1
       clear hb1)
    )
  rw [HXI.out, HYK.out]
  have hi2 := HI2.out
  have hk2 := HK2.out
  rcases Nat.lt_trichotomy i k with hlt | heq | hlt
  · have c1 : (i : Int) < (k : Int) := by omega
    have c2 : ¬ (k : Int) < (i : Int) := by omega
    have HEP := Lib.hid (HE.out i (by omega))
    have HEQ := Lib.hid (HE.out k (by omega))
    go_upto_region 5 with (first
      | (go_at_call 36
         refine (HEP.out w1 HB1.out).mono ?_
         rintro e0 w2 ⟨A2, c2, rfl, hs2, hb2⟩
         have HB2 := Lib.hid (bcall HB1.out hb2)
         have HS2 := Lib.hid hs2
         clear hb2 hs2))
    go_upto_region 6 with (first
      | (go_at_call 36
         refine (HEQ.out w2 HB2.out).mono ?_
         rintro e0 w3 ⟨A3, c3, rfl, hs3, hb3⟩
         have HB3 := Lib.hid (bcall HB2.out hb3)
         have HS3 := Lib.hid hs3
         have HS23 := Lib.hid (HS2.out.below hb3)
         have HCAP : Hid (k ≤ c3) := by
           obtain ⟨A', c', e, hc, _⟩ := hs3
           injection e with _ e2 e3
           show _ ≤ _
           omega
         clear hb3 hs3))
    have hct := fun wx : World => cut_to wx A3 k c3 i (by have := HCAP.out; omega)
    have HT : Hid (SlV w3 (.slice (cutA A3 c3 0) i c3) (expandS s info i)) := by
      have := HS3.out.to_ (k := i) (by omega)
      rw [expandS_take s info (by omega)] at this
      exact this
    go_wp2_with (first
      | (go_at_call 40
         refine (same_s (r := true) (beq_self_eq_true _) HS23.out HT.out).mono ?_
         rintro e0 w4 ⟨rfl, rfl⟩))
    go_ret
    exact ⟨rfl, HB3.out⟩
  · subst heq
    have c1 : ¬ (i : Int) < (i : Int) := by omega
    have HEP := Lib.hid (HE.out i (by omega))
    have HEQ := Lib.hid (HE.out i (by omega))
    go_upto_region 5 with (first
      | (go_at_call 36
         refine (HEP.out w1 HB1.out).mono ?_
         rintro e0 w2 ⟨A2, c2, rfl, hs2, hb2⟩
         have HB2 := Lib.hid (bcall HB1.out hb2)
         have HS2 := Lib.hid hs2
         clear hb2 hs2))
    go_upto_region 6 with (first
      | (go_at_call 36
         refine (HEQ.out w2 HB2.out).mono ?_
         rintro e0 w3 ⟨A3, c3, rfl, hs3, hb3⟩
         have HB3 := Lib.hid (bcall HB2.out hb3)
         have HS3 := Lib.hid hs3
         have HS23 := Lib.hid (HS2.out.below hb3)
         have HCAP : Hid (i ≤ c3) := by
           obtain ⟨A', c', e, hc, _⟩ := hs3
           injection e with _ e2 e3
           show _ ≤ _
           omega
         clear hb3 hs3))
    have hct := fun wx : World => cut_to wx A3 i c3 i (by have := HCAP.out; omega)
    have HT : Hid (SlV w3 (.slice (cutA A3 c3 0) i c3) (expandS s info i)) := by
      have := HS3.out.to_ (k := i) (by omega)
      rw [expandS_take s info (by omega)] at this
      exact this
    go_wp2_with (first
      | (go_at_call 40
         refine (same_s (r := true) (beq_self_eq_true _) HS23.out HT.out).mono ?_
         rintro e0 w4 ⟨rfl, rfl⟩))
    go_ret
    exact ⟨rfl, HB3.out⟩
  · have c1 : (k : Int) < (i : Int) := by omega
    have c2 : ¬ (i : Int) < (k : Int) := by omega
    have HEP := Lib.hid (HE.out k (by omega))
    have HEQ := Lib.hid (HE.out i (by omega))
    go_upto_region 5 with (first
      | (go_at_call 36
         refine (HEP.out w1 HB1.out).mono ?_
         rintro e0 w2 ⟨A2, c2, rfl, hs2, hb2⟩
         have HB2 := Lib.hid (bcall HB1.out hb2)
         have HS2 := Lib.hid hs2
         clear hb2 hs2))
    go_upto_region 6 with (first
      | (go_at_call 36
         refine (HEQ.out w2 HB2.out).mono ?_
         rintro e0 w3 ⟨A3, c3, rfl, hs3, hb3⟩
         have HB3 := Lib.hid (bcall HB2.out hb3)
         have HS3 := Lib.hid hs3
         have HS23 := Lib.hid (HS2.out.below hb3)
         have HCAP : Hid (i ≤ c3) := by
           obtain ⟨A', c', e, hc, _⟩ := hs3
           injection e with _ e2 e3
           show _ ≤ _
           omega
         clear hb3 hs3))
    have hct := fun wx : World => cut_to wx A3 i c3 k (by have := HCAP.out; omega)
    have HT : Hid (SlV w3 (.slice (cutA A3 c3 0) k c3) (expandS s info k)) := by
      have := HS3.out.to_ (k := k) (by omega)
      rw [expandS_take s info (by omega)] at this
      exact this
    go_wp2_with (first
      | (go_at_call 40
         refine (same_s (r := true) (beq_self_eq_true _) HS23.out HT.out).mono ?_
         rintro e0 w4 ⟨rfl, rfl⟩))
    go_ret
    exact ⟨rfl, HB3.out⟩
end Go.Proofs.Ytlapgccfgkokcaa
