/- What TagKnown does. Conditions: none. -/
import Derived.Test.YtlapgccfgkokcaaAwake2
set_option linter.unusedVariables false
set_option linter.unusedSimpArgs false
namespace Go.Proofs.Ytlapgccfgkokcaa
open Go.RowKit
attribute [local go_sem ↓] Go.wp_at_zero Go.wp_at_succ

def larger : List UInt8 := [84, 101, 115, 116, 32, 85, 115, 105, 110, 103, 32, 76, 97, 114, 103, 101, 114, 32, 84, 104, 97, 110, 32, 66, 108, 111, 99, 107, 45, 83, 105, 122, 101, 32, 75, 101, 121, 32, 45, 32, 72, 97, 115, 104, 32, 75, 101, 121, 32, 70, 105, 114, 115, 116]
def kAA : List UInt8 := List.replicate 131 0xaa
theorem hmac_larger : (hmacS kAA larger).getD 0 0 = 96 ∧ (hmacS kAA larger).getD 1 0 = 228 ∧ (hmacS kAA larger).getD 31 0 = 84 := by decide +kernel
set_option maxRecDepth 100000 in
set_option maxHeartbeats 6400000 in
theorem known2_walk (w : World) : Calls Try.prog 8 #[] w fun e w' => e = .returned (.bool true) ∧ Below w.heap.size w w' := by
  have kc := fun (w : World) (C : Array Value) (n c : Nat) => Lib.run_convert_bytes_const (P := Try.prog) w 27 5 C n c Try.underlying27 Try.underlying5
  have kc2 := conv2
  obtain ⟨O, hO⟩ : ∃ O, O = hmacS kAA larger := ⟨_, rfl⟩
  have hOl : O.length = 32 := by rw [hO]; exact hmacS_len _ _
  have HO : Hid (O = hmacS kAA ([larger] : List (List UInt8)).flatten) := by show _ = _; rw [hO]; simp
  have HX : Hid (O.getD 0 0 = 96 ∧ O.getD 1 0 = 228 ∧ O.getD 31 0 = 84) := by show _ ∧ _; rw [hO]; exact hmac_larger
  have HOL := Lib.hid hOl
  have HJ := Lib.hid (infoO hOl)
  clear hO hOl
  have hmk : ∀ wx : World, (Instr.makeSlice 27 (.int .i64 131) (.int .i64 131)).run Try.prog wx = .ok (.slice (some ⟨wx.heap.size, 0, none⟩) 131 131) (wx.alloc (.cells ((zerosB 131).map u8v).toArray 5)) := fun wx => run_make_bytes 131 (by decide) wx
  go_enter Try.func8, Try.ntmps8
  go_upto_region 5 with (first
    | (go_at_call 31
       refine (awake2_c w).mono ?_
       rintro e0 w1 ⟨rfl, hb1⟩
       have HB1 := Lib.hid hb1
       clear hb1))
  obtain ⟨F, hF⟩ : ∃ F : Nat → UInt8, F = fun _ => 0xaa := ⟨_, rfl⟩
  obtain ⟨G, hG⟩ : ∃ G : Nat → UInt8, G = fun _ => 0 := ⟨_, rfl⟩
  have HF := Lib.hid hF
  have HF1 : Hid (∀ i, F i = 170) := fun i => by rw [hF]
  obtain ⟨w2, hw2⟩ : ∃ w2, w2 = w1.alloc (.cells ((zerosB 131).map u8v).toArray 5) := ⟨_, rfl⟩
  rw [← hw2]
  have HU2 : Hid (UB w2 w1.heap.size 5 (upL 131 0 F G)) := by show UB _ _ _ _; rw [upL_zero, hG, hw2]; exact Blk.new _ _ _
  have HB2 : Hid (Below w.heap.size w w2) := by show Below _ _ _; rw [hw2]; exact balloc HB1.out _
  have HW1 : Hid (w.heap.size ≤ w1.heap.size) := HB1.out.size
  clear hF hG hw2 hmk HB1
  go_loopg [2] 131 (fun gg v2 wx => ∃ i : Nat, i ≤ 131 ∧ gg = 131 - i ∧ v2 = .int .i64 (i : Int) ∧ UB wx w1.heap.size 5 (upL 131 i F G) ∧ Below w.heap.size w wx)
  case atStart => exact ⟨0, by omega, rfl, rfl, HU2.out, HB2.out⟩
  case round =>
    obtain ⟨i, hi, rfl, rfl, hu, hb⟩ := hrel
    clear HU2 HB2
    have HU := Lib.hid hu
    have HB := Lib.hid hb
    by_cases hi2 : i < 131
    · have hii : (i : Int) < 131 := by omega
      have c1 := hu.cell i (by rw [upL_len]; exact hi2)
      have f1 := hu.free i
      clear hu hb
      go_wp2_with fail
      go_roundg (131 - (i + 1))
      case measure => omega
      case rel =>
        refine ⟨i + 1, by omega, rfl, by go_num, ?_, bset HB.out HW1.out _⟩
        rw [← upL_set F G hi2, HF1.out i]
        exact HU.out.set i 170
    · have hi3 : i = 131 := by omega
      subst hi3
      have HK : Hid (SlV wr (.slice (some ⟨w1.heap.size, 0, none⟩) 131 131) kAA) := by
        rw [upL_full, HF.out] at hu
        exact SlV.blk hu rfl
      clear hu hb HU
      go_upto_region 9 with
       (first
        | (go_at_call 32
           refine (tag_blk HO.out ((HK.out.below (balloc (Below.refl _ _) _)).below (balloc (Below.refl _ _) _)) (Parts.one (Blk.newAt (by simp) _ _) ((SlV.lit wr _ _ 54 _ rfl rfl).below (balloc (Below.refl _ _) _))) rfl (by simp)).mono ?_
           rintro e0 w3 ⟨rfl, hb3⟩
           have HB3 : Hid (Below w.heap.size w w3) := bcall (balloc (balloc HB.out _) _) hb3
           have HU3 : Hid (UB (w3.alloc (.cells (z32.map u8v).toArray 24)) w3.heap.size 24 z32) := Blk.new _ _ _
           have HTH : Hid ((w3.alloc (.cells (z32.map u8v).toArray 24)).there w3.heap.size 0 (O.map u8v).toArray.size) := there32 HU3.out rfl HOL.out
           clear hb3)
        | ((with_reducible show wpList _ _ _ (⟨none, .store 24 (.tmp 3) (.tmp 18), _, _, _, _⟩ :: _) _ _); refine wpList_store_mid rfl 24 (.tmp 3) (.tmp 18) rfl w3.heap.size 0 (O.map u8v).toArray rfl rfl HTH.out HJ.out (bytes_one _) ?_))
      obtain ⟨w4, hw4⟩ : ∃ w4, w4 = (w3.alloc (.cells (z32.map u8v).toArray 24)).setCells w3.heap.size 0 (O.map u8v) := ⟨_, rfl⟩
      change Code.wp _ _ _ _ ((w3.alloc (.cells (z32.map u8v).toArray 24)).setCells w3.heap.size 0 (O.map u8v))
      have hst : UB w4 w3.heap.size 24 O := by rw [hw4]; exact blk_setAll HU3.out (by rw [List.length_map, HOL.out]; rfl)
      have HB4 : Hid (Below w.heap.size w w4) := by show Below _ _ _; rw [hw4]; exact below_setCells (balloc HB3.out _) HB3.out.size _ _
      rw [← hw4]
      have c0 := hst.at32 HOL.out 0 (by decide) HX.out.1 (show _ = (96 : Int) from rfl)
      have c1 := hst.at32 HOL.out 1 (by decide) HX.out.2.1 (show _ = (228 : Int) from rfl)
      have c2 := hst.at32 HOL.out 31 (by decide) HX.out.2.2 (show _ = (84 : Int) from rfl)
      clear hw4 hst HU3 HTH HJ HO HOL HB3 HK HB
      go_wp2_with
       (first
        | (go_at_call 33
           first
             | ((with_reducible show Calls _ _ _ (World.alloc w4 _) _)
                refine (tsame_t (a := []) (b := [0]) (r := false) rfl (SlV.nil _) (SlV.lit w4 _ _ 1 _ rfl rfl) (by decide) (by decide)).mono ?_
                rintro e0 w5 ⟨rfl, hb5⟩
                have HB5 : Hid (Below w.heap.size w w5) := bcall (balloc HB4.out _) hb5
                clear hb5)
             | ((with_reducible show Calls _ _ _ w5 _)
                refine (tsame_t (a := []) (b := []) (r := true) rfl (SlV.nil _) (SlV.nil _) (by decide) (by decide)).mono ?_
                rintro e0 w6 ⟨rfl, hb6⟩
                have HB6 : Hid (Below w.heap.size w w6) := bcall HB5.out hb6
                clear hb6)
             | (refine (tsame_t (a := [97, 98]) (b := [97, 99]) (r := false) rfl ((SlV.lit w6 _ _ 2 _ rfl rfl).below (balloc (Below.refl _ _) _)) (SlV.litAt _ (by simp) _ _ 2 _ rfl rfl) (by decide) (by decide)).mono ?_
                rintro e0 w7 ⟨rfl, hb7⟩
                have HB7 : Hid (Below w.heap.size w w7) := bcall (balloc (balloc HB6.out _) _) hb7
                clear hb7)))
      go_ret
      exact ⟨rfl, HB7.out⟩
end Go.Proofs.Ytlapgccfgkokcaa
