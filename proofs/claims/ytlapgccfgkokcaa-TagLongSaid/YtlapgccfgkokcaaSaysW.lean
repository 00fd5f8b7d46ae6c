/- DigestSays and TagSays return true (walks). Conditions: the parts lie in memory; together they are no more than fit. -/
import Derived.Test.YtlapgccfgkokcaaRefHmac
import Derived.Test.YtlapgccfgkokcaaRefJoin
import Derived.Test.YtlapgccfgkokcaaAwake2
import Derived.Test.YtlapgccfgkokcaaAwake1
set_option linter.unusedVariables false
set_option linter.unusedSimpArgs false
namespace Go.Proofs.Ytlapgccfgkokcaa
open Go.RowKit
attribute [local go_sem ↓] Go.wp_at_zero Go.wp_at_succ

theorem Parts.below {w w' : World} {A : Option Addr} {ps : List (List UInt8)} (h : Parts w A ps) (hb : Below w.heap.size w w') : Parts w' A ps := by
  intro hp
  obtain ⟨g, o, rfl, hg, hc⟩ := h hp
  refine ⟨g, o, rfl, Nat.lt_of_lt_of_le hg hb.size, fun i hi => ?_⟩
  obtain ⟨Ai, ci, h1, h2, h3⟩ := hc i hi
  exact ⟨Ai, ci, (hb.cell (p := ⟨g, o + i, none⟩) hg).trans h1, h2, (h3.below hb).more hb.size⟩
set_option maxRecDepth 100000 in
set_option maxHeartbeats 3200000 in
theorem dsays_walk (ps : List (List UInt8)) (A : Option Addr) (c : Nat) (w : World) (hp : Parts w A ps) (hn : ps.length < 9223372036854775808) (hl : ps.flatten.length ≤ 140737488353000) :
    Calls Try.prog 3 #[.slice A ps.length c] w fun e w' => e = .returned (.bool true) ∧ Below w.heap.size w w' := by
  obtain ⟨O, hO⟩ : ∃ O, O = shaS ps.flatten := ⟨_, rfl⟩
  have hOl : O.length = 32 := by rw [hO]; exact shaS_len _
  have q1 := eq_arr hOl
  have HO := Lib.hid hO
  have HL := Lib.hid hl
  have HOF : Hid (∀ wx, Below w.heap.size w wx → Calls Try.prog 22 #[.slice A ps.length c] wx fun e w' => e = .returned (.agg (O.map u8v).toArray) ∧ Below wx.heap.size wx w') := fun wx hb => by
    rw [hO]
    exact of_c ps A c wx (hp.below hb) hn
  have HJN : Hid (∀ wx, Below w.heap.size w wx → Calls Try.prog 24 #[.slice A ps.length c] wx fun e w' => ∃ v, e = .returned v ∧ ByteRow w' wx.heap.size v ps.flatten ∧ Below wx.heap.size wx w') := fun wx hb => join_c ps A c wx (hp.below hb) hn (by omega)
  clear hO hOl hp hl hn
  generalize ps.flatten = F at *
  generalize ps.length = n at *
  go_enter Try.func3, Try.ntmps3
  go_wp2_with (first
    | (go_at_call 21
       refine (awake1_c w).mono ?_
       rintro e0 w1 ⟨rfl, hb1⟩
       have HB1 : Hid (Below w.heap.size w w1) := hb1
       clear hb1)
    | (go_at_call 22
       refine (HOF.out w1 HB1.out).mono ?_
       rintro e0 w2 ⟨rfl, hb2⟩
       have HB2 : Hid (Below w.heap.size w w2) := bcall HB1.out hb2
       clear hb2)
    | (go_at_call 24
       refine (HJN.out w2 HB2.out).mono ?_
       rintro e0 w3 ⟨v3, rfl, hr3, hb3⟩
       have HB3 : Hid (Below w.heap.size w w3) := bcall HB2.out hb3
       obtain ⟨A3, c3, rfl, hc3⟩ := (SlV.own hr3).form
       have HS3 := Lib.hid (SlV.own hr3)
       have HSH : Hid (Calls Try.prog 23 #[.slice A3 F.length c3] w3 fun e w' => e = .returned (.agg (O.map u8v).toArray) ∧ Below w3.heap.size w3 w') := by
         have := rsha_c F A3 _ c3 w3 HS3.out (by have := HL.out; omega)
         rw [← HO.out] at this
         exact this
       clear hb3 hr3 hc3)
    | (go_at_call 23
       refine HSH.out.mono ?_
       rintro e0 w4 ⟨rfl, hb4⟩
       have HB4 : Hid (Below w.heap.size w w4) := bcall HB3.out hb4
       clear hb4))
  go_ret
  exact ⟨rfl, HB4.out⟩
set_option maxRecDepth 100000 in
set_option maxHeartbeats 3200000 in
theorem tsays_walk (key : List UInt8) (ps : List (List UInt8)) (A D : Option Addr) (k c d : Nat) (w : World) (hk : SlV w (.slice A k c) key) (hk2 : k ≤ 140737488351232) (hp : Parts w D ps) (hn : ps.length < 9223372036854775808) (hl : ps.flatten.length ≤ 140737488353000) :
    Calls Try.prog 9 #[.slice A k c, .slice D ps.length d] w fun e w' => e = .returned (.bool true) ∧ Below w.heap.size w w' := by
  obtain ⟨O, hO⟩ : ∃ O, O = hmacS key ps.flatten := ⟨_, rfl⟩
  have hOl : O.length = 32 := by rw [hO]; exact hmacS_len _ _
  have q1 := eq_arr hOl
  have HO := Lib.hid hO
  have HL := Lib.hid hl
  have HK := Lib.hid hk
  have HOF : Hid (∀ wx, Below w.heap.size w wx → Calls Try.prog 32 #[.slice A k c, .slice D ps.length d] wx fun e w' => e = .returned (.agg (O.map u8v).toArray) ∧ Below wx.heap.size wx w') := fun wx hb => by
    rw [hO]
    exact tagof_c key ps A D k c d wx (hk.below hb) (hp.below hb) hn
  have HJN : Hid (∀ wx, Below w.heap.size w wx → Calls Try.prog 24 #[.slice D ps.length d] wx fun e w' => ∃ v, e = .returned v ∧ ByteRow w' wx.heap.size v ps.flatten ∧ Below wx.heap.size wx w') := fun wx hb => join_c ps D d wx (hp.below hb) hn (by omega)
  clear hO hOl hp hl hk hn
  generalize ps.flatten = F at *
  generalize ps.length = n at *
  go_enter Try.func9, Try.ntmps9
  go_wp2_with (first
    | (go_at_call 31
       refine (awake2_c w).mono ?_
       rintro e0 w1 ⟨rfl, hb1⟩
       have HB1 : Hid (Below w.heap.size w w1) := hb1
       clear hb1)
    | (go_at_call 32
       refine (HOF.out w1 HB1.out).mono ?_
       rintro e0 w2 ⟨rfl, hb2⟩
       have HB2 : Hid (Below w.heap.size w w2) := bcall HB1.out hb2
       clear hb2)
    | (go_at_call 24
       refine (HJN.out w2 HB2.out).mono ?_
       rintro e0 w3 ⟨v3, rfl, hr3, hb3⟩
       have HB3 : Hid (Below w.heap.size w w3) := bcall HB2.out hb3
       obtain ⟨A3, c3, rfl, hc3⟩ := (SlV.own hr3).form
       have HS3 := Lib.hid (SlV.own hr3)
       have HSH : Hid (Calls Try.prog 34 #[.slice A k c, .slice A3 F.length c3] w3 fun e w' => e = .returned (.agg (O.map u8v).toArray) ∧ Below w3.heap.size w3 w') := by
         have := rhmac_c key F A A3 k c _ c3 w3 (HK.out.below HB3.out) HS3.out (by omega) (by have := HL.out; omega)
         rw [← HO.out] at this
         exact this
       clear hb3 hr3 hc3)
    | (go_at_call 34
       refine HSH.out.mono ?_
       rintro e0 w4 ⟨rfl, hb4⟩
       have HB4 : Hid (Below w.heap.size w w4) := bcall HB3.out hb4
       clear hb4))
  go_ret
  exact ⟨rfl, HB4.out⟩
end Go.Proofs.Ytlapgccfgkokcaa
