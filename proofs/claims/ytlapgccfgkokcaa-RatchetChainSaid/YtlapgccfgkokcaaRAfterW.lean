/- RatchetAfter returns true (walk). Conditions: the base lies in memory. -/
import Derived.Test.YtlapgccfgkokcaaRefAfter
import Derived.Test.YtlapgccfgkokcaaGo
set_option linter.unusedVariables false
set_option linter.unusedSimpArgs false
namespace Go.Proofs.Ytlapgccfgkokcaa
open Go.RowKit
attribute [local go_sem ↓] Go.wp_at_zero Go.wp_at_succ

/-- What After returns for any number of steps. -/
def aftS (b : List UInt8) (z : Int) : List UInt8 := if z < 0 ∨ 31 < z then [] else iterS b z.toNat
def aftE (z : Int) : Int := if z < 0 ∨ 31 < z then 1 else 0
def AftV (b : List UInt8) (z : Int) (w : World) (e : Ending) (w' : World) : Prop := ∃ A' n' c', e = .returned (.tuple #[.slice A' n' c', .int .i64 (aftE z)]) ∧ SlV w' (.slice A' n' c') (aftS b z) ∧ Below w.heap.size w w'
theorem after_any (b : List UInt8) (A : Option Addr) (n c : Nat) (z : Int) (w : World) (h : SlV w (.slice A n c) b) (hl : n ≤ 140737488353000) :
    Calls Try.prog 42 #[.slice A n c, .int .i64 z] w (AftV b z w) := by
  by_cases hz : z < 0 ∨ 31 < z
  · refine (after_bad A n c z w hz).mono ?_
    rintro e w' ⟨rfl, rfl⟩
    refine ⟨none, 0, 0, by rw [aftE, if_pos hz], by rw [aftS, if_pos hz]; exact SlV.nil _, Below.refl _ _⟩
  · obtain ⟨k, rfl⟩ : ∃ k : Nat, z = (k : Int) := ⟨z.toNat, by omega⟩
    refine (after_c b A n c k w h (by omega) (by omega)).mono ?_
    rintro e w' ⟨A', n', c', rfl, hs, hb⟩
    exact ⟨A', n', c', by rw [aftE, if_neg hz], by rw [aftS, if_neg hz]; exact hs, hb⟩
theorem rafter_any (b : List UInt8) (A : Option Addr) (n c : Nat) (z : Int) (w : World) (h : SlV w (.slice A n c) b) (hl : n ≤ 140737488353000) :
    Calls Try.prog 43 #[.slice A n c, .int .i64 z] w (AftV b z w) := by
  by_cases hz : z < 0 ∨ 31 < z
  · refine (rafter_bad A n c z w hz).mono ?_
    rintro e w' ⟨rfl, rfl⟩
    refine ⟨none, 0, 0, by rw [aftE, if_pos hz], by rw [aftS, if_pos hz]; exact SlV.nil _, Below.refl _ _⟩
  · obtain ⟨k, rfl⟩ : ∃ k : Nat, z = (k : Int) := ⟨z.toNat, by omega⟩
    refine (rafter_c b A n c k w h hl (by omega)).mono ?_
    rintro e w' ⟨A', n', c', rfl, hs, hb⟩
    exact ⟨A', n', c', by rw [aftE, if_neg hz], by rw [aftS, if_neg hz]; exact hs, hb⟩
/-- Same, of slices that read alike. -/
theorem same_t {w : World} {v1 v2 : Value} {b : List UInt8} (h1 : SlV w v1 b) (h2 : SlV w v2 b) : Calls Try.prog 40 #[v1, v2] w fun e w' => e = .returned (.bool true) ∧ w = w' := by
  obtain ⟨A1, c1, rfl, _, hr1⟩ := h1
  obtain ⟨A2, c2, rfl, _, hr2⟩ := h2
  refine (same_c (b1 := b) (b2 := b) hr1 hr2).mono ?_
  rintro e w' ⟨rfl, rfl⟩
  exact ⟨by simp, rfl⟩
set_option maxRecDepth 100000 in
set_option maxHeartbeats 3200000 in
theorem rafter_walk (b : List UInt8) (A : Option Addr) (n c : Nat) (z : Int) (w : World) (h : SlV w (.slice A n c) b) (hl : n ≤ 140737488351232) :
    Calls Try.prog 17 #[.slice A n c, .int .i64 z] w fun e w' => e = .returned (.bool true) ∧ Below w.heap.size w w' := by
  have kc := fun (w : World) (C : Array Value) (n c : Nat) => Lib.run_convert_bytes_const (P := Try.prog) w 27 5 C n c Try.underlying27 Try.underlying5
  have H0 := Lib.hid h
  obtain ⟨O, hO⟩ : ∃ O, O = hmacS [] b := ⟨_, rfl⟩
  have hOl : O.length = 32 := by rw [hO]; exact hmacS_len _ _
  have HX : Hid (iterS b 1 = expandS O label18 32) := by show _ = _; rw [hO]; rfl
  have HXT : Hid (∀ wx, Below w.heap.size w wx → Calls Try.prog 37 #[.slice none 0 0, .slice A n c] wx fun e w' => e = .returned (.agg (O.map u8v).toArray) ∧ Below wx.heap.size wx w') := fun wx hb => by
    rw [hO]
    exact extract_c [] b none A 0 n 0 c wx (SlV.nil _) (h.below hb)
  have HOL := Lib.hid hOl
  have HJ := Lib.hid (infoO hOl)
  clear hO hOl h
  go_enter Try.func17, Try.ntmps17
  go_upto_region 3 with (first
    | (go_at_call 41
       refine (awake4_c w).mono ?_
       rintro e0 w1 ⟨rfl, hb1⟩
       have HB1 : Hid (Below w.heap.size w w1) := hb1
       clear hb1))
  obtain ⟨E, hE⟩ : ∃ E, E = aftE z := ⟨_, rfl⟩
  have HE := Lib.hid hE
  clear hE
  go_upto_region 4 with (first
    | (go_at_call 42
       refine (after_any b A n c z w1 (H0.out.below HB1.out) (by omega)).mono ?_
       rintro e0 w2 ⟨A2, n2, c2, rfl, hs2, hb2⟩
       have HS2 := Lib.hid hs2
       have HB2 : Hid (Below w.heap.size w w2) := bcall HB1.out hb2
       clear hs2 hb2
       rw [← HE.out]))
  go_upto_region 5 with (first
    | (go_at_call 43
       refine (rafter_any b A n c z w2 (H0.out.below HB2.out) (by omega)).mono ?_
       rintro e0 w3 ⟨A3, n3, c3, rfl, hs3, hb3⟩
       have HS3 := Lib.hid hs3
       have HS23 : Hid (SlV w3 (.slice A2 n2 c2) (aftS b z)) := HS2.out.below hb3
       have HB3 : Hid (Below w.heap.size w w3) := bcall HB2.out hb3
       clear hs3 hb3
       rw [← HE.out]))
  go_upto_region 6 with (first
    | (go_at_call 37
       refine (HXT.out w3 HB3.out).mono ?_
       rintro e0 w4 ⟨rfl, hb4⟩
       have HU4 : Hid (UB (w4.alloc (.cells (z32.map u8v).toArray 24)) w4.heap.size 24 z32) := Blk.new _ _ _
       have HTH : Hid ((w4.alloc (.cells (z32.map u8v).toArray 24)).there w4.heap.size 0 (O.map u8v).toArray.size) := there32 HU4.out rfl HOL.out
       have HB34 : Hid (Below w3.heap.size w3 w4) := hb4
       clear hb4)
    | ((with_reducible show wpList _ _ _ (⟨none, .store 24 (.tmp 9) (.tmp 29), _, _, _, _⟩ :: _) _ _); refine wpList_store_mid rfl 24 (.tmp 9) (.tmp 29) rfl w4.heap.size 0 (O.map u8v).toArray rfl rfl HTH.out HJ.out (bytes_one _) ?_))
  obtain ⟨w5, hw5⟩ : ∃ w5, w5 = (w4.alloc (.cells (z32.map u8v).toArray 24)).setCells w4.heap.size 0 (O.map u8v) := ⟨_, rfl⟩
  change Code.wp _ _ _ _ ((w4.alloc (.cells (z32.map u8v).toArray 24)).setCells w4.heap.size 0 (O.map u8v))
  have HU5 : Hid (UB w5 w4.heap.size 24 O) := by show UB _ _ _ _; rw [hw5]; exact blk_setAll HU4.out (by rw [List.length_map, HOL.out]; rfl)
  have HB35 : Hid (Below w3.heap.size w3 w5) := by show Below _ _ _; rw [hw5]; exact below_setCells (balloc HB34.out _) HB34.out.size _ _
  rw [← hw5]
  clear hw5 HU4 HTH HJ HXT HB34
  go_upto_region 7 with (first
    | (go_at_call 36
       refine (expand_c O label18 _ _ _ _ _ _ 32 _ ((SlV.arr HU5.out HOL.out).below (balloc (Below.refl _ _) _)) (SlV.lit w5 _ _ 18 _ rfl rfl) (by decide)).mono ?_
       rintro e0 w6 ⟨A6, c6, rfl, hs6, hb6⟩
       have HB36 : Hid (Below w3.heap.size w3 w6) := bcall (balloc HB35.out _) hb6
       have HS6 : Hid (SlV w6 (.slice A6 32 c6) (iterS b 1)) := by show SlV _ _ _; rw [HX.out]; exact hs6
       clear hb6 hs6))
  have HB6 : Hid (Below w.heap.size w w6) := bcall HB3.out HB36.out
  go_upto_region 8 with (first
    | (go_at_call 42
       refine (after_c b A n c 1 w6 (H0.out.below HB6.out) (by omega) (by decide)).mono ?_
       rintro e0 w7 ⟨A7, n7, c7, rfl, hs7, hb7⟩
       have HS7 := Lib.hid hs7
       have HS67 : Hid (SlV w7 (.slice A6 32 c6) (iterS b 1)) := HS6.out.below hb7
       have HB37 : Hid (Below w3.heap.size w3 w7) := bcall HB36.out hb7
       have HB7 : Hid (Below w.heap.size w w7) := bcall HB6.out hb7
       clear hs7 hb7))
  have HX2 : Hid (SlV w7 (.slice A2 n2 c2) (aftS b z)) := HS23.out.below HB37.out
  have HX3 : Hid (SlV w7 (.slice A3 n3 c3) (aftS b z)) := HS3.out.below HB37.out
  go_wp2_with (first
    | (go_at_call 40
       first
         | ((with_reducible refine (same_t HX2.out HX3.out).mono ?_)
            rintro e0 wx ⟨rfl, rfl⟩)
         | ((with_reducible refine (same_t HS67.out HS7.out).mono ?_)
            rintro e0 wx ⟨rfl, rfl⟩)))
  go_ret
  exact ⟨rfl, HB7.out⟩
end Go.Proofs.Ytlapgccfgkokcaa
