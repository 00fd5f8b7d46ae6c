/- TagParts returns true (walk). Conditions: the bytes lie in memory; together they are no more than fit. -/
import Derived.Test.YtlapgccfgkokcaaSaysW
set_option linter.unusedVariables false
set_option linter.unusedSimpArgs false
namespace Go.Proofs.Ytlapgccfgkokcaa
open Go.RowKit
attribute [local go_sem ↓] Go.wp_at_zero Go.wp_at_succ

theorem join_blk {w : World} {g n c : Nat} {ps : List (List UInt8)} {J : List UInt8} (hJ : J = ps.flatten) (hp : Parts w (some ⟨g, 0, none⟩) ps) (hn : n = ps.length) (h : n < 9223372036854775808) (hl : J.length ≤ 140737488353000) :
    Calls Try.prog 24 #[.slice (some ⟨g, 0, none⟩) n c] w fun e w' => ∃ A c', e = .returned (.slice A J.length c') ∧ SlV w' (.slice A J.length c') J ∧ Below w.heap.size w w' := by
  subst hn hJ
  refine (join_c ps _ c w hp h (by omega)).mono ?_
  rintro e w' ⟨v, rfl, hr, hb⟩
  obtain ⟨A, c', rfl, hc⟩ := (SlV.own hr).form
  exact ⟨A, c', rfl, SlV.own hr, hb⟩
set_option maxRecDepth 100000 in
set_option maxHeartbeats 6400000 in
theorem tparts_walk (key a b c : List UInt8) (A0 A1 A2 A3 : Option Addr) (n0 n1 n2 n3 c0 c1 c2 c3 : Nat) (w : World) (h0 : SlV w (.slice A0 n0 c0) key) (h1 : SlV w (.slice A1 n1 c1) a) (h2 : SlV w (.slice A2 n2 c2) b) (h3 : SlV w (.slice A3 n3 c3) c)
    (hl : n1 + n2 + n3 ≤ 140737488353000) :
    Calls Try.prog 12 #[.slice A0 n0 c0, .slice A1 n1 c1, .slice A2 n2 c2, .slice A3 n3 c3] w fun e w' => e = .returned (.bool true) ∧ Below w.heap.size w w' := by
  obtain ⟨J, hJ⟩ : ∃ J, J = ([a, b, c] : List (List UInt8)).flatten := ⟨_, rfl⟩
  have HJL : Hid (J.length ≤ 140737488353000) := by
    have e1 := h1.num
    have e2 := h2.num
    have e3 := h3.num
    show _ ≤ _
    rw [hJ]
    simp
    omega
  obtain ⟨O1, hO1⟩ : ∃ O, O = hmacS key ([a, b, c] : List (List UInt8)).flatten := ⟨_, rfl⟩
  obtain ⟨O2, hO2⟩ : ∃ O, O = hmacS key ([a, b] : List (List UInt8)).flatten := ⟨_, rfl⟩
  have q1 := eq_arr (O := O1) (by rw [hO1]; exact hmacS_len _ _)
  have q2 := eq_arr (O := O2) (by rw [hO2]; exact hmacS_len _ _)
  have HO1J : Hid (O1 = hmacS key ([J] : List (List UInt8)).flatten) := by show _ = _; rw [hO1, hJ]; simp
  have HO2N : Hid (O2 = hmacS key ([a, [], b] : List (List UInt8)).flatten) := by show _ = _; rw [hO2]; simp
  have HO1 := Lib.hid hO1
  have HO2 := Lib.hid hO2
  have HJ := Lib.hid hJ
  have H0 := Lib.hid h0
  have H1 := Lib.hid h1
  have H2 := Lib.hid h2
  have H3 := Lib.hid h3
  clear hJ hO1 hO2 h0 h1 h2 h3 hl
  go_enter Try.func12, Try.ntmps12
  go_wp2_with (first
    | (go_at_call 31
       refine (awake2_c w).mono ?_
       rintro e0 w1 ⟨rfl, hb1⟩
       have HB1 : Hid (Below w.heap.size w w1) := hb1
       clear hb1)
    | (go_at_call 24
       refine (join_blk HJ.out (Parts.three (Blk.newAt (by simp) _ _) ((H1.out.below HB2.out).below (balloc (Below.refl _ _) _)) ((H2.out.below HB2.out).below (balloc (Below.refl _ _) _)) ((H3.out.below HB2.out).below (balloc (Below.refl _ _) _))) rfl (by simp) HJL.out).mono ?_
       rintro e0 w3 ⟨A5, c5, rfl, hs3, hb3⟩
       have HS3 := Lib.hid hs3
       have HB3 : Hid (Below w.heap.size w w3) := bcall (balloc HB2.out _) hb3
       clear hs3 hb3)
    | (go_at_call 32
       first
         | ((with_reducible show Calls _ _ _ (World.alloc w1 _) _)
            refine (tag_blk HO1.out ((H0.out.below HB1.out).below (balloc (Below.refl _ _) _)) (Parts.three (Blk.newAt (by simp) _ _) ((H1.out.below HB1.out).below (balloc (Below.refl _ _) _)) ((H2.out.below HB1.out).below (balloc (Below.refl _ _) _)) ((H3.out.below HB1.out).below (balloc (Below.refl _ _) _))) rfl (by simp)).mono ?_
            rintro e0 w2 ⟨rfl, hb2⟩
            have HB2 : Hid (Below w.heap.size w w2) := bcall (balloc HB1.out _) hb2
            clear hb2)
         | ((with_reducible show Calls _ _ _ (World.alloc w3 _) _)
            refine (tag_blk HO1J.out ((H0.out.below HB3.out).below (balloc (Below.refl _ _) _)) (Parts.one (Blk.newAt (by simp) _ _) (HS3.out.below (balloc (Below.refl _ _) _))) rfl (by simp)).mono ?_
            rintro e0 w4 ⟨rfl, hb4⟩
            have HB4 : Hid (Below w.heap.size w w4) := bcall (balloc HB3.out _) hb4
            clear hb4)
         | ((with_reducible show Calls _ _ _ (World.alloc w4 _) _)
            refine (tag_blk HO2N.out ((H0.out.below HB4.out).below (balloc (Below.refl _ _) _)) (Parts.three (Blk.newAt (by simp) _ _) ((H1.out.below HB4.out).below (balloc (Below.refl _ _) _)) (SlV.nil _) ((H2.out.below HB4.out).below (balloc (Below.refl _ _) _))) rfl (by simp)).mono ?_
            rintro e0 w5 ⟨rfl, hb5⟩
            have HB5 : Hid (Below w.heap.size w w5) := bcall (balloc HB4.out _) hb5
            clear hb5)
         | ((with_reducible show Calls _ _ _ (World.alloc w5 _) _)
            refine (tag_blk HO2.out ((H0.out.below HB5.out).below (balloc (Below.refl _ _) _)) (Parts.two (Blk.newAt (by simp) _ _) ((H1.out.below HB5.out).below (balloc (Below.refl _ _) _)) ((H2.out.below HB5.out).below (balloc (Below.refl _ _) _))) rfl (by simp)).mono ?_
            rintro e0 w6 ⟨rfl, hb6⟩
            have HB6 : Hid (Below w.heap.size w w6) := bcall (balloc HB5.out _) hb6
            clear hb6)))
  go_ret
  exact ⟨rfl, HB6.out⟩
end Go.Proofs.Ytlapgccfgkokcaa
