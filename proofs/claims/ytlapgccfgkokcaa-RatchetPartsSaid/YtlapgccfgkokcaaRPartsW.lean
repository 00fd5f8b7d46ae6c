/- What RatchetParts does. Conditions: the base lies in memory. -/
import Derived.Test.YtlapgccfgkokcaaGo
set_option linter.unusedVariables false
set_option linter.unusedSimpArgs false
namespace Go.Proofs.Ytlapgccfgkokcaa
open Go.RowKit
attribute [local go_sem ↓] Go.wp_at_zero Go.wp_at_succ

set_option maxRecDepth 100000 in
set_option maxHeartbeats 3200000 in
theorem rparts_walk (b : List UInt8) (A : Option Addr) (n c x y : Nat) (w : World) (h : SlV w (.slice A n c) b) (hl : n ≤ 140737488355328) (hx : x < 256) (hy : y < 256) :
    Calls Try.prog 18 #[.slice A n c, .int .u8 (x : Int), .int .u8 (y : Int)] w fun e w' => e = .returned (.bool true) ∧ Below w.heap.size w w' := by
  obtain ⟨i, hi⟩ : ∃ i, i = x % 16 := ⟨_, rfl⟩
  obtain ⟨k, hk⟩ : ∃ k, k = y % 16 := ⟨_, rfl⟩
  have hi16 : i < 16 := by omega
  have hk16 : k < 16 := by omega
  have hxi : (x : Int) % 16 = (i : Int) := by omega
  have hyk : (y : Int) % 16 = (k : Int) := by omega
  have hbl : b.length ≤ 140737488355328 := by rw [← h.num]; exact hl
  obtain ⟨s, hs⟩ : ∃ s, s = i + k := ⟨_, rfl⟩
  have HXI := Lib.hid hxi
  have HYK := Lib.hid hyk
  have HA1 := Lib.hid (fun wx (hb : Below w.heap.size w wx) => after_c b A n c i wx (h.below hb) hl (by omega))
  have HA3 := Lib.hid (fun wx (hb : Below w.heap.size w wx) => after_c b A n c s wx (h.below hb) hl (by omega))
  have HA2 : Hid (∀ (wx : World) (A1 : Option Addr) (n1 c1 : Nat), SlV wx (.slice A1 n1 c1) (iterS b i) → Calls Try.prog 42 #[.slice A1 n1 c1, .int .i64 (k : Int)] wx fun e w' => ∃ A' n' c', e = .returned (.tuple #[.slice A' n' c', .int .i64 0]) ∧ SlV w' (.slice A' n' c') (iterS b s) ∧ Below wx.heap.size wx w') := by
    intro wx A1 n1 c1 h1
    have := after_c (iterS b i) A1 n1 c1 k wx h1 (by rw [h1.num]; exact iterS_len b hbl i) (by omega)
    rw [iterS_add, ← hs] at this
    exact this
  have HSE := Lib.hid hs
  have HI16 := Lib.hid hi16
  have HK16 := Lib.hid hk16
  clear hi hk hxi hyk h hs hi16 hk16 hbl
  go_enter Try.func18, Try.ntmps18
  go_upto_region 4 with (first
    | (go_at_call 41
       refine (awake4_c w).mono ?_
       rintro e0 w1 ⟨rfl, hb1⟩
       have HB1 := Lib.hid hb1
       clear hb1))
  rw [HXI.out, HYK.out]
  have hik : (i : Int) + (k : Int) = (s : Int) := by have := HSE.out; omega
  have hi16 := HI16.out
  have hk16 := HK16.out
  go_wp2_with (first
    | (go_at_call 42
       first
         | ((with_reducible show Calls _ _ _ w1 _)
            refine (HA1.out w1 HB1.out).mono ?_
            rintro e0 w2 ⟨A2, n2, c2, rfl, hs2, hb2⟩
            have HS2 := Lib.hid hs2
            have HB2 := Lib.hid (bcall HB1.out hb2)
            clear hs2 hb2)
         | ((with_reducible show Calls _ _ _ w2 _)
            refine (HA2.out w2 A2 n2 c2 HS2.out).mono ?_
            rintro e0 w3 ⟨A3, n3, c3, rfl, hs3, hb3⟩
            have HS3 := Lib.hid hs3
            have HB3 := Lib.hid (bcall HB2.out hb3)
            clear hs3 hb3)
         | ((with_reducible show Calls _ _ _ w3 _)
            refine (HA3.out w3 HB3.out).mono ?_
            rintro e0 w4 ⟨A4, n4, c4, rfl, hs4, hb4⟩
            have HS4 := Lib.hid hs4
            have HB4 := Lib.hid (bcall HB3.out hb4)
            have HS34 := Lib.hid (HS3.out.below hb4)
            clear hs4 hb4))
    | (go_at_call 40
       refine (same_s (r := true) (beq_self_eq_true _) HS34.out HS4.out).mono ?_
       rintro e0 w5 ⟨rfl, rfl⟩))
  go_ret
  exact ⟨rfl, HB4.out⟩
end Go.Proofs.Ytlapgccfgkokcaa
