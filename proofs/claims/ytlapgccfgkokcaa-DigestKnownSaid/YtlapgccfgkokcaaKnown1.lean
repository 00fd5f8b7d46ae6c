/- What DigestKnown does. Conditions: none. -/
import Derived.Test.YtlapgccfgkokcaaConsts
import Derived.Test.YtlapgccfgkokcaaAwake1
set_option linter.unusedVariables false
set_option linter.unusedSimpArgs false
namespace Go.Proofs.Ytlapgccfgkokcaa
open Go.RowKit
attribute [local go_sem ↓] Go.wp_at_zero Go.wp_at_succ

def b56 : List UInt8 := [97, 98, 99, 100, 98, 99, 100, 101, 99, 100, 101, 102, 100, 101, 102, 103, 101, 102, 103, 104, 102, 103, 104, 105, 103, 104, 105, 106, 104, 105, 106, 107, 105, 106, 107, 108, 106, 107, 108, 109, 107, 108, 109, 110, 108, 109, 110, 111, 109, 110, 111, 112, 110, 111, 112, 113]
theorem sha_nil : (shaS []).getD 0 0 = 227 ∧ (shaS []).getD 1 0 = 176 ∧ (shaS []).getD 31 0 = 85 := by decide +kernel
theorem sha_56 : (shaS b56).getD 0 0 = 36 ∧ (shaS b56).getD 1 0 = 141 ∧ (shaS b56).getD 31 0 = 193 := by decide +kernel
theorem of_nil {O : List UInt8} (hO : O = shaS []) (w : World) : Calls Try.prog 22 #[.slice none 0 0] w fun e w' => e = .returned (.agg (O.map u8v).toArray) ∧ Below w.heap.size w w' := by
  subst hO
  exact of_c [] none 0 w (Parts.nil _ _) (by decide)
theorem rconsts_z {Z : List Value} (hZ : Z = kL.map u32v) (w : World) : Calls Try.prog 30 #[] w fun e w' => e = .returned (.agg Z.toArray) ∧ Below w.heap.size w w' := by
  subst hZ
  exact rconsts_c w
theorem UB.at_ {w : World} {g : Nat} {t : TypeId} {O : List UInt8} (h : UB w g t O) (hO : O.length = 32) (i : Nat) (hi : i < 32) (x : UInt8) (hx : O.getD i 0 = x) : w.cell? ⟨g, i, none⟩ = some (.int .u8 (x.toNat : Int)) := by
  rw [h.cell i (by omega), hx]
/-- A slice of 64 words that is the constants. -/
theorem const_cells {w : World} {A : Option Addr} (h : Reads w w.heap.size 1 A 64 (kL.map u32v)) : ∃ b o, A = some ⟨b, o, none⟩ ∧ b < w.heap.size ∧ ∀ i, i < 64 → w.cell? ⟨b, o + i, none⟩ = some (.int .u32 ((kL.getD i 0).toNat : Int)) := by
  obtain ⟨ad, rfl, hb, hc⟩ := h.2 (by decide)
  have c0 := hc 0 (u32v (kL.getD 0 0)) rfl
  obtain ⟨b, o, rfl⟩ := addr_plain c0
  refine ⟨b, o, rfl, hb, fun i hi => ?_⟩
  have hi' : i < kL.length := by rw [kL_len]; exact hi
  have := hc i (u32v (kL.getD i 0)) (by rw [List.getElem?_map, List.getElem?_eq_getElem hi', List.getD_eq_getElem?_getD, List.getElem?_eq_getElem hi']; rfl)
  rwa [Go.WideShapes.add_plain] at this
set_option maxRecDepth 100000 in
set_option maxHeartbeats 6400000 in
theorem known1_walk (w : World) : Calls Try.prog 7 #[] w fun e w' => e = .returned (.bool true) ∧ Below w.heap.size w w' := by
  have kc := fun (w : World) (C : Array Value) (n c : Nat) => Lib.run_convert_bytes_const (P := Try.prog) w 27 5 C n c Try.underlying27 Try.underlying5
  obtain ⟨O1, hO1⟩ : ∃ O, O = shaS [] := ⟨_, rfl⟩
  obtain ⟨O2, hO2⟩ : ∃ O, O = shaS b56 := ⟨_, rfl⟩
  have hl1 : O1.length = 32 := by rw [hO1]; exact shaS_len _
  have hl2 : O2.length = 32 := by rw [hO2]; exact shaS_len _
  have HO1 := Lib.hid hO1
  have HO2 : Hid (O2 = shaS ([b56] : List (List UInt8)).flatten) := by show _ = _; rw [hO2]; simp
  have HX1 : Hid (O1.getD 0 0 = 227 ∧ O1.getD 1 0 = 176 ∧ O1.getD 31 0 = 85) := by show _ ∧ _; rw [hO1]; exact sha_nil
  have HX2 : Hid (O2.getD 0 0 = 36 ∧ O2.getD 1 0 = 141 ∧ O2.getD 31 0 = 193) := by show _ ∧ _; rw [hO2]; exact sha_56
  have HL1 := Lib.hid hl1
  have HL2 := Lib.hid hl2
  have HJ1 := Lib.hid (infoO hl1)
  have HJ2 := Lib.hid (infoO hl2)
  obtain ⟨Z, hZ⟩ : ∃ Z : List Value, Z = kL.map u32v := ⟨_, rfl⟩
  have hZl : Z.length = 64 := by rw [hZ, List.length_map]; exact kL_len
  have HZ := Lib.hid hZ
  have HZL := Lib.hid hZl
  have HONE : Hid (Z.toArray.all (·.oneCell') = true) := by show _ = _; rw [hZ]; exact all_oneCell_toArray (u32_one _)
  have HJ : Hid ((Try.prog.info? 40).map (·.size) = some Z.toArray.size) := by show _ = _; rw [List.size_toArray, hZl]; exact info40
  clear hO1 hO2 hl1 hl2 hZ hZl
  go_enter Try.func7, Try.ntmps7
  go_upto_region 4 with
   (first
    | (go_at_call 21
       refine (awake1_c w).mono ?_
       rintro e0 w1 ⟨rfl, hb1⟩
       have HB1 := Lib.hid hb1
       clear hb1)
    | (go_at_call 22
       first
         | ((with_reducible show Calls _ _ _ w1 _)
            refine (of_nil HO1.out w1).mono ?_
            rintro e0 w2 ⟨rfl, hb2⟩
            have HB2 := Lib.hid (bcall HB1.out hb2)
            clear hb2)
         | (refine (of_blk HO2.out (Parts.one (Blk.newAt (by simp) _ _) ((SlV.lit w2 _ _ 56 _ rfl rfl).below (balloc (Below.refl _ _) _))) rfl (by simp)).mono ?_
            rintro e0 w3 ⟨rfl, hb3⟩
            have HB3 : Hid (Below w.heap.size w w3) := bcall (balloc (balloc HB2.out _) _) hb3
            have HU1 : Hid (UB ((w3.alloc (.cells (z32.map u8v).toArray 24)).alloc (.cells (z32.map u8v).toArray 24)) w3.heap.size 24 z32) := Blk.alloc (Blk.new _ _ _) _
            have HU2 : Hid (UB ((w3.alloc (.cells (z32.map u8v).toArray 24)).alloc (.cells (z32.map u8v).toArray 24)) (w3.heap.size + 1) 24 z32) := Blk.newAt (by simp) _ _
            have HTH1 : Hid (((w3.alloc (.cells (z32.map u8v).toArray 24)).alloc (.cells (z32.map u8v).toArray 24)).there w3.heap.size 0 (O1.map u8v).toArray.size) := there32 HU1.out rfl HL1.out
            have HU3 : Hid (UB (((w3.alloc (.cells (z32.map u8v).toArray 24)).alloc (.cells (z32.map u8v).toArray 24)).setCells w3.heap.size 0 (O1.map u8v)) (w3.heap.size + 1) 24 z32) := Blk.farAll (by omega) _ _ _ HU2.out
            have HTH2 : Hid ((((w3.alloc (.cells (z32.map u8v).toArray 24)).alloc (.cells (z32.map u8v).toArray 24)).setCells w3.heap.size 0 (O1.map u8v)).there (w3.heap.size + 1) 0 (O2.map u8v).toArray.size) := there32 HU3.out rfl HL2.out
            clear hb3))
    | ((with_reducible show wpList _ _ _ (⟨none, .store 24 (.tmp 1) (.tmp 8), _, _, _, _⟩ :: _) _ _); refine wpList_store_mid rfl 24 (.tmp 1) (.tmp 8) rfl w3.heap.size 0 (O1.map u8v).toArray rfl rfl HTH1.out HJ1.out (bytes_one _) ?_)
    | ((with_reducible show wpList _ _ _ (⟨none, .store 24 (.tmp 2) (.tmp 12), _, _, _, _⟩ :: _) _ _); refine wpList_store_mid rfl 24 (.tmp 2) (.tmp 12) rfl (w3.heap.size + 1) 0 (O2.map u8v).toArray rfl rfl HTH2.out HJ2.out (bytes_one _) ?_))
  obtain ⟨w4, hw4⟩ : ∃ w4, w4 = (((w3.alloc (.cells (z32.map u8v).toArray 24)).alloc (.cells (z32.map u8v).toArray 24)).setCells w3.heap.size 0 (O1.map u8v)).setCells (w3.heap.size + 1) 0 (O2.map u8v) := ⟨_, rfl⟩
  change Code.wp _ _ _ _ ((((w3.alloc (.cells (z32.map u8v).toArray 24)).alloc (.cells (z32.map u8v).toArray 24)).setCells w3.heap.size 0 (O1.map u8v)).setCells (w3.heap.size + 1) 0 (O2.map u8v))
  have hu1 : UB w4 w3.heap.size 24 O1 := by rw [hw4]; exact Blk.farAll (by omega) _ _ _ (blk_setAll HU1.out (by rw [List.length_map, HL1.out]; rfl))
  have hu2 : UB w4 (w3.heap.size + 1) 24 O2 := by rw [hw4]; exact blk_setAll HU3.out (by rw [List.length_map, HL2.out]; rfl)
  have hb4 : Below w.heap.size w w4 := by
    rw [hw4]
    have := HB3.out.size
    exact below_setCells (below_setCells (balloc (balloc HB3.out _) _) this _ _) (by omega) _ _
  have HA4 := Lib.hid hu1
  have HC4 := Lib.hid hu2
  have HB4 := Lib.hid hb4
  rw [← hw4]
  clear hw4 hu1 hu2 hb4 HU1 HU2 HU3 HTH1 HTH2 HB1 HB2 HB3 HJ1 HJ2
  go_upto_region 6 with (first
    | (go_at_call 29
       refine (consts_c w4).mono ?_
       rintro e0 w5 ⟨⟨A5, c5, rfl, hr5⟩, hb5⟩
       have HR5 := Lib.hid hr5
       have HB5 := Lib.hid hb5
       clear hr5 hb5)
    | (go_at_call 30
       refine (rconsts_z HZ.out w5).mono ?_
       rintro e0 w6 ⟨rfl, hb6⟩
       have HR6 : Hid (Reads w6 w6.heap.size 1 A5 64 (kL.map u32v)) := HR5.out.to_ hb6
       have HB6 : Hid (Below w4.heap.size w4 w6) := bcall HB5.out hb6
       have HK7 : Hid (WB (w6.alloc (.cells (z64.map u32v).toArray 40)) w6.heap.size 40 z64) := Blk.new _ _ _
       have HTH : Hid ((w6.alloc (.cells (z64.map u32v).toArray 40)).there w6.heap.size 0 Z.toArray.size) := by show World.there _ _ _ Z.toArray.size; rw [show Z.toArray.size = 64 by rw [List.size_toArray, HZL.out]]; exact wb_there HK7.out rfl
       clear hb6)
    | ((with_reducible show wpList _ _ _ (⟨none, .store 40 (.tmp 4) (.tmp 14), _, _, _, _⟩ :: _) _ _); refine wpList_store_mid rfl 40 (.tmp 4) (.tmp 14) rfl w6.heap.size 0 Z.toArray rfl rfl HTH.out HJ.out HONE.out ?_))
  obtain ⟨w7, hw7⟩ : ∃ w7, w7 = (w6.alloc (.cells (z64.map u32v).toArray 40)).setCells w6.heap.size 0 Z := ⟨_, rfl⟩
  change Code.wp _ _ _ _ ((w6.alloc (.cells (z64.map u32v).toArray 40)).setCells w6.heap.size 0 Z)
  have h67 : Below w6.heap.size w6 w7 := by rw [hw7]; exact below_setCells (balloc (Below.refl _ _) _) (Nat.le_refl _) _ _
  have hk7 : WB w7 w6.heap.size 40 kL := by
    have := blk_setAll (l' := Z) HK7.out (by rw [HZL.out]; rfl)
    rw [HZ.out] at this
    rw [hw7, HZ.out]
    exact this
  have h47 := bcall HB6.out h67
  have HK7b := Lib.hid hk7
  have HA7 : Hid (UB w7 w3.heap.size 24 O1) := Blk.below HA4.out h47
  have HC7 : Hid (UB w7 (w3.heap.size + 1) 24 O2) := Blk.below HC4.out h47
  have HB7 : Hid (Below w.heap.size w w7) := bcall HB4.out h47
  obtain ⟨b, o, hA5, hbl, hcs⟩ := const_cells (HR6.out.to_ h67)
  subst hA5
  have HCS := Lib.hid hcs
  rw [← hw7]
  clear hw7 h67 hk7 h47 hbl hcs HK7 HTH HR5 HR6 HA4 HC4 HB4 HB5 HB6 HZ HZL HONE HJ kc
  go_loopg [5] 64 (fun gg v5 wx => ∃ i : Nat, i ≤ 64 ∧ gg = 64 - i ∧ v5 = .int .i64 (i : Int) ∧ UB wx w3.heap.size 24 O1 ∧ UB wx (w3.heap.size + 1) 24 O2 ∧ WB wx w6.heap.size 40 kL ∧ (∀ i, i < 64 → wx.cell? ⟨b, o + i, none⟩ = some (.int .u32 ((kL.getD i 0).toNat : Int))) ∧ Below w.heap.size w wx)
  case atStart => exact ⟨0, by omega, rfl, rfl, HA7.out, HC7.out, HK7b.out, HCS.out, HB7.out⟩
  case round =>
    obtain ⟨i, hi, rfl, rfl, ha, hc, hk, hcs, hb⟩ := hrel
    clear HA7 HC7 HK7b HCS HB7
    by_cases hi2 : i < 64
    · have hii : (i : Int) < 64 := by omega
      have c1 := hcs i hi2
      have c2 := hk.cell i (by rw [kL_len]; exact hi2)
      obtain ⟨x, hx⟩ : ∃ x, x = kL.getD i 0 := ⟨_, rfl⟩
      rw [← hx] at c1 c2
      have HA := Lib.hid ha
      have HC := Lib.hid hc
      have HK := Lib.hid hk
      have HCS := Lib.hid hcs
      have HB := Lib.hid hb
      clear ha hc hk hcs hb hx
      go_wp2_with fail
      go_quiet (fail)
      go_wp2_with fail
      go_roundg (64 - (i + 1))
      case measure => omega
      case rel => exact ⟨i + 1, by omega, rfl, by go_num, HA.out, HC.out, HK.out, HCS.out, below_drewN HB.out _⟩
    · have hi3 : i = 64 := by omega
      subst hi3
      have a0 := ha.at_ HL1.out 0 (by decide) 227 HX1.out.1
      have a1 := ha.at_ HL1.out 1 (by decide) 176 HX1.out.2.1
      have a2 := ha.at_ HL1.out 31 (by decide) 85 HX1.out.2.2
      have d0 := hc.at_ HL2.out 0 (by decide) 36 HX2.out.1
      have d1 := hc.at_ HL2.out 1 (by decide) 141 HX2.out.2.1
      have d2 := hc.at_ HL2.out 31 (by decide) 193 HX2.out.2.2
      have n0 : ((227 : UInt8).toNat : Int) = 227 := rfl
      have n1 : ((176 : UInt8).toNat : Int) = 176 := rfl
      have n2 : ((85 : UInt8).toNat : Int) = 85 := rfl
      have n3 : ((36 : UInt8).toNat : Int) = 36 := rfl
      have n4 : ((141 : UInt8).toNat : Int) = 141 := rfl
      have n5 : ((193 : UInt8).toNat : Int) = 193 := rfl
      rw [n0] at a0
      rw [n1] at a1
      rw [n2] at a2
      rw [n3] at d0
      rw [n4] at d1
      rw [n5] at d2
      have HB := Lib.hid hb
      clear ha hc hk hcs hb n0 n1 n2 n3 n4 n5
      go_wp2_with fail
      go_ret
      exact ⟨rfl, HB.out⟩
end Go.Proofs.Ytlapgccfgkokcaa
