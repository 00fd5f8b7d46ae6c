/- What KdfKnown does. Conditions: none. (Printed by gen1h.py.) -/
import Derived.Test.YtlapgccfgkokcaaAwake3
set_option linter.unusedVariables false
set_option linter.unusedSimpArgs false
namespace Go.Proofs.Ytlapgccfgkokcaa
open Go.RowKit
attribute [local go_sem ↓] Go.wp_at_zero Go.wp_at_succ

set_option maxRecDepth 100000 in
set_option maxHeartbeats 6400000 in
theorem known3_walk (w : World) : Calls Try.prog 13 #[] w fun e w' => e = .returned (.bool true) ∧ Below w.heap.size w w' := by
  have h3 := fun wx : World => expand_neg none none 0 0 0 0 (-1) wx (by decide)
  have h4 := fun wx : World => expand_big none none 0 0 0 0 8161 wx (by decide)
  have h5 : ∀ wx : World, Calls Try.prog 36 #[.slice none 0 0, .slice none 0 0, .int .i64 8160] wx fun e w' => ∃ A c, e = .returned (.tuple #[.slice A 8160 c, .int .i64 0]) ∧ SlV w' (.slice A 8160 c) (expandS [] [] 8160) ∧ Below wx.heap.size wx w' := fun wx => expand_c [] [] none none 0 0 0 0 8160 wx (SlV.nil _) (SlV.nil _) (by decide)
  have h6 : ∀ wx : World, Calls Try.prog 36 #[.slice none 0 0, .slice none 0 0, .int .i64 0] wx fun e w' => ∃ A c, e = .returned (.tuple #[.slice A 0 c, .int .i64 0]) ∧ SlV w' (.slice A 0 c) (expandS [] [] 0) ∧ Below wx.heap.size wx w' := fun wx => expand_c [] [] none none 0 0 0 0 0 wx (SlV.nil _) (SlV.nil _) (by decide)
  have H3 := Lib.hid h3
  have H4 := Lib.hid h4
  have H5 := Lib.hid h5
  have H6 := Lib.hid h6
  clear h3 h4 h5 h6
  go_enter Try.func13, Try.ntmps13
  go_wp2_with (first
    | (go_at_call 35
       refine (awake3_c w).mono ?_
       rintro e0 w1 ⟨rfl, hb1⟩
       have HB1 := Lib.hid hb1
       clear hb1)
    | (go_at_call 36
       first
         | ((with_reducible show Calls _ _ _ w1 _)
            refine (H3.out w1).mono ?_
            rintro e0 w2 ⟨rfl, hb2⟩
            have HB2 := Lib.hid (bcall HB1.out hb2)
            clear hb2)
         | ((with_reducible show Calls _ _ _ w2 _)
            refine (H4.out w2).mono ?_
            rintro e0 w3 ⟨rfl, hb3⟩
            have HB3 := Lib.hid (bcall HB2.out hb3)
            clear hb3)
         | ((with_reducible show Calls _ _ _ w3 _)
            refine (H5.out w3).mono ?_
            rintro e0 w4 ⟨A4, c4, rfl, hs4, hb4⟩
            have HB4 := Lib.hid (bcall HB3.out hb4)
            clear hb4 hs4)
         | (refine (H6.out w4).mono ?_
            rintro e0 w5 ⟨A5, c5, rfl, hs5, hb5⟩
            have HB5 := Lib.hid (bcall HB4.out hb5)
            clear hb5 hs5)))
  go_ret
  exact ⟨rfl, HB5.out⟩
end Go.Proofs.Ytlapgccfgkokcaa
