/- What DigestCopies does. Conditions: the arguments lie in memory. -/
import Derived.Test.YtlapgccfgkokcaaAwake1
set_option linter.unusedVariables false
set_option linter.unusedSimpArgs false
namespace Go.Proofs.Ytlapgccfgkokcaa
open Go.RowKit
attribute [local go_sem ↓] Go.wp_at_zero Go.wp_at_succ

set_option maxRecDepth 100000 in
set_option maxHeartbeats 6400000 in
theorem copies_walk (a b c : List UInt8) (A0 A1 A2 : Option Addr) (n0 n1 n2 c0 c1 c2 : Nat) (w : World) (h0 : SlV w (.slice A0 n0 c0) a) (h1 : SlV w (.slice A1 n1 c1) b) (h2 : SlV w (.slice A2 n2 c2) c) (e0 : n0 = a.length) (e1 : n1 = b.length) (e2 : n2 = c.length) :
    Calls Try.prog 6 #[.slice A0 n0 c0, .slice A1 n1 c1, .slice A2 n2 c2] w fun e w' => e = .returned (.bool true) ∧ Below w.heap.size w w' := by
  have H0 := Lib.hid h0
  have H1 := Lib.hid h1
  have H2 := Lib.hid h2
  have E0 := Lib.hid e0
  have E1 := Lib.hid e1
  have E2 := Lib.hid e2
  clear h0 h1 h2 e0 e1 e2
  have hc := new_c w
  obtain ⟨gs, hgs⟩ : ∃ gs, gs = w.heap.size + 1 := ⟨_, rfl⟩
  rw [← hgs] at hc
  have HGS : Hid (w.heap.size ≤ gs) := by show _ ≤ _; omega
  clear hgs
  go_enter Try.func6, Try.ntmps6
  go_upto_region 4 with (first
    | (go_at_call 25
       refine hc.mono ?_
       rintro e0 w1 ⟨rfl, hs1, hb1⟩
       have HB1 := Lib.hid hb1
       have HS1 := Lib.hid hs1
       clear hb1 hs1)
    | (go_at_call 21
       refine (awake1_c w1).mono ?_
       rintro e0 w2 ⟨rfl, hb2⟩
       have HB2 := Lib.hid (bcall HB1.out hb2)
       have HS2 := Lib.hid (HS1.out.below hb2)
       clear hb2))
  go_upto_region 8 with (first
    | (go_at_call 26
       refine (add_s HS2.out H0.out HB2.out (Nat.le_refl _) HGS.out (Nat.le_refl _) HB2.out.size).mono ?_
       rintro e0 w3 ⟨rfl, ⟨v3, hs3, hv3⟩, hsv3, hb3⟩
       have HB3 := Lib.hid hb3
       have HS3 := Lib.hid hs3
       obtain ⟨g2, hg2⟩ : ∃ g2, g2 = w3.heap.size := ⟨_, rfl⟩
       have HCP := Lib.hid (copy_c _ v3 w.heap.size gs w.heap.size w3 hs3)
       rw [← hg2] at HCP
       have HG2 := Lib.hid hg2
       clear hb3 hs3 hv3 hsv3 hg2)
    | (go_at_call 28
       refine HCP.out.mono ?_
       rintro e0 w4 ⟨rfl, ⟨v4, hs4⟩, hb4⟩
       have HT4 := Lib.hid hs4
       rw [HG2.out] at hb4
       have HS4 := Lib.hid (HS3.out.below hb4)
       have HB4 := Lib.hid (bcall HB3.out hb4)
       have HL4 : Hid (g2 ≤ w4.heap.size) := by show _ ≤ _; rw [HG2.out]; exact hb4.size
       clear hs4 hb4))
  have HGSL : Hid (gs < g2) := by show _ < _; rw [HG2.out]; exact HS3.out.1.lt
  have HGCL : Hid (w.heap.size < g2) := by show _ < _; rw [HG2.out]; exact HS3.out.2.2.lt
  have HLOW : Hid (∀ k, Own3 gs w.heap.size v3 k → k < g2) := fun k hk => by
    rw [HG2.out]
    rcases hk with h | h | h
    · rw [h]; exact HS3.out.1.lt
    · rw [h]; exact HS3.out.2.2.lt
    · exact (HS3.out.2.1.lt k h).2
  go_upto_region 10 with (first
    | (go_at_call 26
       first
         | ((with_reducible show Calls _ _ _ w4 _)
            refine (add_s HS4.out H1.out HB4.out (Nat.le_refl _) HGS.out (Nat.le_refl _) HB4.out.size).mono ?_
            rintro e0 w5 ⟨rfl, ⟨v5, hs5, hv5⟩, hsv5, hb5⟩
            have HB5 := Lib.hid hb5
            have HS5 := Lib.hid hs5
            have HV5 := Lib.hid hv5
            have HT5 : Hid (StrV w5 g2 g2 w.heap.size v4 ([] ++ a)) := HT4.out.keep hsv5 (fun h => absurd (HLOW.out _ h) (Nat.lt_irrefl _)) (fun g hg h => by have h1 := HLOW.out _ h; have h2 := (HT4.out.2.1.lt g hg).1; omega) hs5.2.2
            have HL5 : Hid (g2 ≤ w5.heap.size) := Nat.le_trans HL4.out hsv5.size
            clear hb5 hs5 hv5 hsv5)
         | ((with_reducible show Calls _ _ _ w5 _)
            refine (add_s HT5.out H2.out HB5.out (Nat.le_of_lt HGCL.out) (Nat.le_of_lt HGCL.out) (Nat.le_refl _) HL5.out).mono ?_
            rintro e0 w6 ⟨rfl, ⟨v6, ht6, hv6⟩, hsv6, hb6⟩
            have hg24 : g2 < w4.heap.size := HT4.out.1.lt
            have HS6 : Hid (StrV w6 w.heap.size gs w.heap.size v5 ([] ++ a ++ b)) := HS5.out.keep hsv6 (fun h => by
                rcases h with h | h | h
                · have := HGSL.out; omega
                · exact StrN.ne HS5.out h
                · have h1 := (HT4.out.2.1.lt _ h).1; have := HGSL.out; omega) (fun g hg h => by
                rcases HV5.out with hv | hv
                · rw [hv] at hg
                  have h0 := (HS3.out.2.1.lt g hg).2
                  rw [← HG2.out] at h0
                  rcases h with h | h | h
                  · omega
                  · exact StrN.own_c HS3.out (by rw [← h]; exact hg)
                  · have h1 := (HT4.out.2.1.lt _ h).1; omega
                · have h0 := hv g hg
                  rcases h with h | h | h
                  · omega
                  · exact StrN.own_c HS5.out (by rw [← h]; exact hg)
                  · have h1 := (HT4.out.2.1.lt _ h).2; omega) ht6.2.2
            have HT6 := Lib.hid ht6
            have HB6 := Lib.hid hb6
            clear ht6 hv6 hsv6 hb6 hg24)))
  obtain ⟨O1, hO1⟩ : ∃ O, O = shaS ([] ++ a ++ b) := ⟨_, rfl⟩
  obtain ⟨O2, hO2⟩ : ∃ O, O = shaS ([] ++ a ++ c) := ⟨_, rfl⟩
  have q1 := eq_arr (O := O1) (by rw [hO1]; exact shaS_len _)
  have q2 := eq_arr (O := O2) (by rw [hO2]; exact shaS_len _)
  have HO1 := Lib.hid hO1
  have HO2 := Lib.hid hO2
  have HP1 : Hid (O1 = shaS ([a, b] : List (List UInt8)).flatten) := by show _ = _; rw [hO1]; simp
  have HP2 : Hid (O2 = shaS ([a, c] : List (List UInt8)).flatten) := by show _ = _; rw [hO2]; simp
  clear hO1 hO2 HS1 HS2 HS3 HB1 HB2 HB3 HCP HG2 HS4 HB4 HT4 HL4 HLOW HS5 HV5 HT5 HL5 HB5 hc
  go_wp2_with (first
    | (go_at_call 27
       first
         | ((with_reducible show Calls _ _ _ w6 _)
            refine (sum_s HO1.out HS6.out HB6.out (Nat.le_refl _)).mono ?_
            rintro e0 w7 ⟨rfl, hs7, hsv7, hb7⟩
            have HT7 : Hid (StrV w7 g2 g2 w.heap.size v6 ([] ++ a ++ c)) := HT6.out.keep hsv7 (StrN.ne HT6.out) (fun g hg e => StrN.own_c HT6.out (by rw [← e]; exact hg)) hs7.2.2
            have HB7 := Lib.hid hb7
            clear hs7 hsv7 hb7)
         | ((with_reducible show Calls _ _ _ w8 _)
            refine (sum_s HO2.out HT8.out HB8.out (Nat.le_refl _)).mono ?_
            rintro e0 w9 ⟨rfl, hs9, hsv9, hb9⟩
            have HB9 := Lib.hid hb9
            clear hs9 hsv9 hb9))
    | (go_at_call 22
       first
         | ((with_reducible show Calls _ _ _ (World.alloc w7 _) _)
            refine (of_blk HP1.out (Parts.two (Blk.newAt rfl _ _) (H0.out.below (balloc HB7.out _)) (H1.out.below (balloc HB7.out _))) rfl (by simp)).mono ?_
            rintro e0 w8 ⟨rfl, hb8⟩
            have HB8 := Lib.hid (bcall (balloc HB7.out _) hb8)
            have HT8 := Lib.hid ((HT7.out.below (balloc (Below.refl _ _) _)).below hb8)
            clear hb8)
         | ((with_reducible show Calls _ _ _ (World.alloc w9 _) _)
            refine (of_blk HP2.out (Parts.two (Blk.newAt rfl _ _) (H0.out.below (balloc HB9.out _)) (H2.out.below (balloc HB9.out _))) rfl (by simp)).mono ?_
            rintro e0 wA ⟨rfl, hbA⟩
            have HBA := Lib.hid (bcall (balloc HB9.out _) hbA)
            clear hbA)))
  go_ret
  exact ⟨rfl, HBA.out⟩
end Go.Proofs.Ytlapgccfgkokcaa
