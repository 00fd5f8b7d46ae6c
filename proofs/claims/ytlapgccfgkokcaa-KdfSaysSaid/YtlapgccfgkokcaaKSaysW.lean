/- KdfSays returns true (walk). Conditions: the bytes lie in memory. -/
import Derived.Test.YtlapgccfgkokcaaRefExp
import Derived.Test.YtlapgccfgkokcaaRAfterW
import Derived.Test.YtlapgccfgkokcaaAwake3
set_option linter.unusedVariables false
set_option linter.unusedSimpArgs false
namespace Go.Proofs.Ytlapgccfgkokcaa
open Go.RowKit
attribute [local go_sem ↓] Go.wp_at_zero Go.wp_at_succ

def expS (s info : List UInt8) (z : Int) : List UInt8 := if z < 0 ∨ 8160 < z then [] else expandS s info z.toNat
def expE (z : Int) : Int := if z < 0 then 1 else if 8160 < z then 4 else 0
def ExpV (s info : List UInt8) (z : Int) (w : World) (e : Ending) (w' : World) : Prop := ∃ A' n' c', e = .returned (.tuple #[.slice A' n' c', .int .i64 (expE z)]) ∧ SlV w' (.slice A' n' c') (expS s info z) ∧ Below w.heap.size w w'
theorem expand_any (s info : List UInt8) (A0 A1 : Option Addr) (n0 n1 c0 c1 : Nat) (z : Int) (w : World) (h0 : SlV w (.slice A0 n0 c0) s) (h1 : SlV w (.slice A1 n1 c1) info) :
    Calls Try.prog 36 #[.slice A0 n0 c0, .slice A1 n1 c1, .int .i64 z] w (ExpV s info z w) := by
  by_cases hz : z < 0
  · refine (expand_neg A0 A1 n0 n1 c0 c1 z w hz).mono ?_
    rintro e w' ⟨rfl, hb⟩
    exact ⟨none, 0, 0, by rw [expE, if_pos hz], by rw [expS, if_pos (.inl hz)]; exact SlV.nil _, hb⟩
  · by_cases hz2 : 8160 < z
    · refine (expand_big A0 A1 n0 n1 c0 c1 z w hz2).mono ?_
      rintro e w' ⟨rfl, hb⟩
      exact ⟨none, 0, 0, by rw [expE, if_neg hz, if_pos hz2], by rw [expS, if_pos (.inr hz2)]; exact SlV.nil _, hb⟩
    · obtain ⟨k, rfl⟩ : ∃ k : Nat, z = (k : Int) := ⟨z.toNat, by omega⟩
      refine (expand_c s info A0 A1 n0 n1 c0 c1 k w h0 h1 (by omega)).mono ?_
      rintro e w' ⟨A', c', rfl, hs, hb⟩
      exact ⟨A', k, c', by rw [expE, if_neg hz, if_neg hz2], by rw [expS, if_neg (by omega)]; exact hs, hb⟩
theorem rexpand_any (s info : List UInt8) (A0 A1 : Option Addr) (n0 n1 c0 c1 : Nat) (z : Int) (w : World) (h0 : SlV w (.slice A0 n0 c0) s) (h1 : SlV w (.slice A1 n1 c1) info) (hl0 : n0 ≤ 140737488354000) (hl1 : n1 ≤ 140737488353000) :
    Calls Try.prog 39 #[.slice A0 n0 c0, .slice A1 n1 c1, .int .i64 z] w (ExpV s info z w) := by
  by_cases hz : z < 0
  · refine (rexpand_neg A0 A1 n0 n1 c0 c1 z w hz).mono ?_
    rintro e w' ⟨rfl, hb⟩
    exact ⟨none, 0, 0, by rw [expE, if_pos hz], by rw [expS, if_pos (.inl hz)]; exact SlV.nil _, hb⟩
  · by_cases hz2 : 8160 < z
    · refine (rexpand_big A0 A1 n0 n1 c0 c1 z w hz2).mono ?_
      rintro e w' ⟨rfl, hb⟩
      exact ⟨none, 0, 0, by rw [expE, if_neg hz, if_pos hz2], by rw [expS, if_pos (.inr hz2)]; exact SlV.nil _, hb⟩
    · obtain ⟨k, rfl⟩ : ∃ k : Nat, z = (k : Int) := ⟨z.toNat, by omega⟩
      refine (rexpand_c s info A0 A1 n0 n1 c0 c1 k w h0 h1 (by omega) hl0 hl1).mono ?_
      rintro e w' ⟨A', c', rfl, hs, hb⟩
      exact ⟨A', k, c', by rw [expE, if_neg hz, if_neg hz2], by rw [expS, if_neg (by omega)]; exact hs, hb⟩
set_option maxRecDepth 100000 in
set_option maxHeartbeats 6400000 in
theorem ksays_walk (salt key info : List UInt8) (A0 A1 A2 : Option Addr) (n0 n1 n2 c0 c1 c2 : Nat) (z : Int) (w : World) (h0 : SlV w (.slice A0 n0 c0) salt) (h1 : SlV w (.slice A1 n1 c1) key) (h2 : SlV w (.slice A2 n2 c2) info)
    (hl0 : n0 ≤ 140737488351232) (hl1 : n1 ≤ 140737488351232) (hl2 : n2 ≤ 140737488351232) :
    Calls Try.prog 14 #[.slice A0 n0 c0, .slice A1 n1 c1, .slice A2 n2 c2, .int .i64 z] w fun e w' => e = .returned (.bool true) ∧ Below w.heap.size w w' := by
  obtain ⟨O, hO⟩ : ∃ O, O = hmacS salt key := ⟨_, rfl⟩
  have hOl : O.length = 32 := by rw [hO]; exact hmacS_len _ _
  have q1 := eq_arr hOl
  have HXT := Lib.hid (extract_c salt key A0 A1 n0 n1 c0 c1 w h0 h1)
  have HRX : Hid (∀ wx, Below w.heap.size w wx → Calls Try.prog 38 #[.slice A0 n0 c0, .slice A1 n1 c1] wx fun e w' => e = .returned (.agg (O.map u8v).toArray) ∧ Below wx.heap.size wx w') := fun wx hb => by
    rw [hO]
    exact rextract_c salt key A0 A1 n0 n1 c0 c1 wx (h0.below hb) (h1.below hb) (by omega) (by omega)
  have HO := Lib.hid hO
  have HOL := Lib.hid hOl
  have HJ := Lib.hid (infoO hOl)
  have HI := Lib.hid (infoL hOl)
  have H2 := Lib.hid h2
  clear hO hOl h0 h1 h2
  go_enter Try.func14, Try.ntmps14
  go_upto_region 2 with (first
    | (go_at_call 37
       refine HXT.out.mono ?_
       rintro e0 w1 ⟨h1, hb1⟩
       rw [← HO.out] at h1
       subst h1
       have HB1 : Hid (Below w.heap.size w w1) := hb1
       have HU1 : Hid (UB (w1.alloc (.cells (z32.map u8v).toArray 24)) w1.heap.size 24 z32) := Blk.new _ _ _
       have HTH : Hid ((w1.alloc (.cells (z32.map u8v).toArray 24)).there w1.heap.size 0 (O.map u8v).toArray.size) := there32 HU1.out rfl HOL.out
       clear hb1)
    | ((with_reducible show wpList _ _ _ (⟨none, .store 24 (.tmp 9) (.tmp 16), _, _, _, _⟩ :: _) _ _); refine wpList_store_mid rfl 24 (.tmp 9) (.tmp 16) rfl w1.heap.size 0 (O.map u8v).toArray rfl rfl HTH.out HJ.out (bytes_one _) ?_))
  obtain ⟨w2, hw2⟩ : ∃ w2, w2 = (w1.alloc (.cells (z32.map u8v).toArray 24)).setCells w1.heap.size 0 (O.map u8v) := ⟨_, rfl⟩
  change Code.wp _ _ _ _ ((w1.alloc (.cells (z32.map u8v).toArray 24)).setCells w1.heap.size 0 (O.map u8v))
  have HU2 : Hid (UB w2 w1.heap.size 24 O) := by show UB _ _ _ _; rw [hw2]; exact blk_setAll HU1.out (by rw [List.length_map, HOL.out]; rfl)
  have HB2 : Hid (Below w.heap.size w w2) := by show Below _ _ _; rw [hw2]; exact below_setCells (balloc HB1.out _) HB1.out.size _ _
  rw [← hw2]
  obtain ⟨g9, hg9⟩ : ∃ g9, g9 = w1.heap.size := ⟨_, rfl⟩
  rw [← hg9] at HU2
  rw [← hg9]
  clear hw2 hg9 HU1 HTH HJ HB1
  have K9 : Hid (∀ w', Below w2.heap.size w2 w' → w'.rangeAt g9 0 (O.map u8v)) := fun w' hb => UB.range (Blk.below HU2.out hb)
  refine wp_region_held_drew (S := (fun w' => Below w2.heap.size w2 w')) (by kernel_rfl) (bdrew (Below.refl _ _)) (fun hHeld => ?_)
  refine wpAnyH_ready (rs := [0]) (by kernel_rfl) (by simp) (AllReadyH.cons rfl (fun K' hK => ?_) AllReadyH.nil)
  go_simp
  go_at_call 35
  refine (awake3_c _).mono ?_
  rintro e0 w' ⟨rfl, hb⟩
  go_wp2_with fail
  refine hK.out _ _ ((fun _ h => h) _ (bcall hHeld hb)) (fun hHeld' => ?_)
  clear hK hHeld hb
  have hHeld := hHeld'
  clear hHeld'
  refine wpAnyH_takeAt (i := 1) (v := (.bool false)) rfl (by kernel_rfl) (by kernel_rfl) (by kernel_rfl) (fun _ _ _ h => h) rfl (Or.inl ⟨by rfl, fun w' hS => ?_⟩) hHeld ?_
  · go_simp
  simp only [List.set_cons_zero, List.set_cons_succ]
  refine wpAnyH_takeAt (i := 2) (v := (.bool false)) rfl (by kernel_rfl) (by kernel_rfl) (by kernel_rfl) (fun _ _ _ h => h) rfl (Or.inl ⟨by rfl, fun w' hS => ?_⟩) hHeld ?_
  · go_simp
  simp only [List.set_cons_zero, List.set_cons_succ]
  refine wpAnyH_takeAt (i := 3) (v := (.agg (O.map u8v).toArray)) rfl (by kernel_rfl) (by kernel_rfl) (by kernel_rfl) (fun _ _ _ h => h) rfl (yieldsIf_load_mid (by rfl) 24 _ rfl g9 0 rfl (O.map u8v) _ (fun w' hS => K9.out _ hS) Try.underlying24 rfl HI.out) hHeld ?_
  simp only [List.set_cons_zero, List.set_cons_succ]
  refine wpAnyH_takeAt (i := 4) (v := (.slice A0 n0 c0)) rfl (by kernel_rfl) (by kernel_rfl) (by kernel_rfl) (fun _ _ _ h => h) rfl (Or.inl ⟨by rfl, fun w' hS => ?_⟩) hHeld ?_
  · go_simp
  simp only [List.set_cons_zero, List.set_cons_succ]
  refine wpAnyH_takeAt (i := 5) (v := (.slice A1 n1 c1)) rfl (by kernel_rfl) (by kernel_rfl) (by kernel_rfl) (fun _ _ _ h => h) rfl (Or.inl ⟨by rfl, fun w' hS => ?_⟩) hHeld ?_
  · go_simp
  simp only [List.set_cons_zero, List.set_cons_succ]
  refine wpAnyH_ready (rs := [6]) (by kernel_rfl) (by simp) (AllReadyH.cons rfl (fun K' hK => ?_) AllReadyH.nil)
  go_simp
  go_at_call 38
  refine (HRX.out _ (bcall HB2.out hHeld)).mono ?_
  rintro e0 w' ⟨rfl, hb⟩
  go_wp2_with fail
  refine hK.out _ _ ((fun _ h => h) _ (bcall hHeld hb)) (fun hHeld' => ?_)
  clear hK hHeld hb
  have hHeld := hHeld'
  clear hHeld'
  refine wpAnyH_takeAt (i := 7) (v := (.bool false)) rfl (by kernel_rfl) (by kernel_rfl) (by kernel_rfl) (fun _ _ _ h => h) rfl (Or.inl ⟨by rfl, fun w' hS => ?_⟩) hHeld ?_
  · go_simp
  simp only [List.set_cons_zero, List.set_cons_succ]
  refine wpAnyH_takeAt (i := 8) (v := (.bool false)) rfl (by kernel_rfl) (by kernel_rfl) (by kernel_rfl) (fun _ _ _ h => h) rfl (Or.inl ⟨by rfl, fun w' hS => ?_⟩) hHeld ?_
  · go_simp
  simp only [List.set_cons_zero, List.set_cons_succ]
  refine wpAnyH_done (by kernel_rfl) ?_ _
  obtain ⟨w3, rfl⟩ : ∃ w3 : World, w3 = w' := ⟨_, rfl⟩
  have HB3 : Hid (Below w.heap.size w w3) := bcall HB2.out hHeld
  have HU3 : Hid (UB w3 g9 24 O) := Blk.below HU2.out hHeld
  obtain ⟨E, hE⟩ : ∃ E, E = expE z := ⟨_, rfl⟩
  have HE := Lib.hid hE
  clear hE hHeld K9 HI HRX HXT q1 HU2 HB2
  go_upto_region 5 with (first
    | (go_at_call 36
       refine (expand_any O info _ A2 32 n2 32 c2 z w3 (SlV.arr HU3.out HOL.out) (H2.out.below HB3.out)).mono ?_
       rintro e0 w4 ⟨A4, n4, c4, rfl, hs4, hb4⟩
       have HS4 := Lib.hid hs4
       have HB4 : Hid (Below w.heap.size w w4) := bcall HB3.out hb4
       have HU4 : Hid (UB w4 g9 24 O) := Blk.below HU3.out hb4
       clear hs4 hb4
       rw [← HE.out]))
  go_upto_region 6 with (first
    | (go_at_call 39
       refine (rexpand_any O info _ A2 32 n2 32 c2 z w4 (SlV.arr HU4.out HOL.out) (H2.out.below HB4.out) (by decide) (by omega)).mono ?_
       rintro e0 w5 ⟨A5, n5, c5, rfl, hs5, hb5⟩
       have HS5 := Lib.hid hs5
       have HS45 := Lib.hid (HS4.out.below hb5)
       have HB5 : Hid (Below w.heap.size w w5) := bcall HB4.out hb5
       clear hs5 hb5
       rw [← HE.out]))
  go_wp2_with (first
    | (go_at_call 40
       refine (same_t HS45.out HS5.out).mono ?_
       rintro e0 wx ⟨rfl, rfl⟩))
  go_ret
  exact ⟨rfl, HB5.out⟩
end Go.Proofs.Ytlapgccfgkokcaa
