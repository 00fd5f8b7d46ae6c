/- The digest statements' awake returns true (contract). Conditions: none. -/
import Derived.Test.YtlapgccfgkokcaaParts
set_option linter.unusedVariables false
set_option linter.unusedSimpArgs false
namespace Go.Proofs.Ytlapgccfgkokcaa
open Go.RowKit
attribute [local go_sem ↓] Go.wp_at_zero Go.wp_at_succ

theorem sha_abc : (shaS [97, 98, 99]).getD 0 0 = 0xba ∧ (shaS [97, 98, 99]).getD 1 0 = 0x78 ∧ (shaS [97, 98, 99]).getD 31 0 = 0xad := by decide +kernel
set_option maxRecDepth 100000 in
set_option maxHeartbeats 1600000 in
theorem awake1_c (w : World) : Calls Try.prog 21 #[] w fun e w' => e = .returned (.bool true) ∧ Below w.heap.size w w' := by
  have kc := fun (w : World) (C : Array Value) (n c : Nat) => Lib.run_convert_bytes_const (P := Try.prog) w 27 5 C n c Try.underlying27 Try.underlying5
  obtain ⟨O, hO⟩ : ∃ O, O = shaS [97, 98, 99] := ⟨_, rfl⟩
  have hOl : O.length = 32 := by rw [hO]; exact shaS_len _
  have HO : Hid (O = shaS ([[97, 98, 99]] : List (List UInt8)).flatten) := hO
  have HOL := Lib.hid hOl
  have HJ := Lib.hid (infoO hOl)
  clear hO hOl
  go_enter Try.func21, Try.ntmps21
  go_upto_region 2 with
   (first
    | (go_at_call 22
       refine (of_blk HO.out (Parts.one (Blk.newAt (by simp) _ _) ((SlV.lit w _ _ 3 _ rfl rfl).below (balloc (Below.refl _ _) _))) rfl (by decide)).mono ?_
       rintro e0 w1 ⟨rfl, hb1⟩
       have HB1 : Hid (Below w.heap.size w w1) := bcall (balloc (balloc (Below.refl _ _) _) _) hb1
       have HU1 : Hid (UB (w1.alloc (.cells (z32.map u8v).toArray 24)) w1.heap.size 24 z32) := Blk.new _ _ _
       have HTH : Hid ((w1.alloc (.cells (z32.map u8v).toArray 24)).there w1.heap.size 0 (O.map u8v).toArray.size) := there32 HU1.out rfl HOL.out
       clear hb1)
    | ((with_reducible show wpList _ _ _ (⟨none, .store 24 (.tmp 1) (.tmp 5), _, _, _, _⟩ :: _) _ _); refine wpList_store_mid rfl 24 (.tmp 1) (.tmp 5) rfl w1.heap.size 0 (O.map u8v).toArray rfl rfl HTH.out HJ.out (bytes_one _) ?_))
  obtain ⟨w2, hw2⟩ : ∃ w2, w2 = (w1.alloc (.cells (z32.map u8v).toArray 24)).setCells w1.heap.size 0 (O.map u8v) := ⟨_, rfl⟩
  change Code.wp _ _ _ _ ((w1.alloc (.cells (z32.map u8v).toArray 24)).setCells w1.heap.size 0 (O.map u8v))
  have hst : UB w2 w1.heap.size 24 O := by rw [hw2]; exact blk_setAll HU1.out (by rw [List.length_map, HOL.out]; rfl)
  have HB2 : Hid (Below w.heap.size w w2) := by show Below _ _ _; rw [hw2]; exact below_setCells (balloc HB1.out _) HB1.out.size _ _
  rw [← hw2]
  have c0 : w2.cell? ⟨w1.heap.size, 0, none⟩ = some (.int .u8 186) := by have := hst.cell 0 (by rw [HOL.out]; decide); rw [HO.out] at this; exact this.trans (by rw [show shaS ([[97, 98, 99]] : List (List UInt8)).flatten = shaS [97, 98, 99] from rfl, sha_abc.1]; rfl)
  have c1 : w2.cell? ⟨w1.heap.size, 1, none⟩ = some (.int .u8 120) := by have := hst.cell 1 (by rw [HOL.out]; decide); rw [HO.out] at this; exact this.trans (by rw [show shaS ([[97, 98, 99]] : List (List UInt8)).flatten = shaS [97, 98, 99] from rfl, sha_abc.2.1]; rfl)
  have c2 : w2.cell? ⟨w1.heap.size, 31, none⟩ = some (.int .u8 173) := by have := hst.cell 31 (by rw [HOL.out]; decide); rw [HO.out] at this; exact this.trans (by rw [show shaS ([[97, 98, 99]] : List (List UInt8)).flatten = shaS [97, 98, 99] from rfl, sha_abc.2.2]; rfl)
  clear hw2 hst HU1 HTH HJ HO HOL HB1
  go_wp2_with fail
  go_ret
  exact ⟨rfl, HB2.out⟩
end Go.Proofs.Ytlapgccfgkokcaa
