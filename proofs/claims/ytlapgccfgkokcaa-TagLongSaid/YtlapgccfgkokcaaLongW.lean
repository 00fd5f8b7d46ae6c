/- TagLong returns true (walk). Conditions: the key and the bytes lie in memory. (Printed by gen1L.py.) -/
import Derived.Test.YtlapgccfgkokcaaSaysW
import Derived.Test.YtlapgccfgkokcaaZeros
set_option linter.unusedVariables false
set_option linter.unusedSimpArgs false
namespace Go.Proofs.Ytlapgccfgkokcaa
open Go.RowKit
attribute [local go_sem ↓] Go.wp_at_zero Go.wp_at_succ

theorem sz_drewL (w : World) : w.drew.heap.size = w.heap.size := rfl
theorem padK_zeros (key : List UInt8) (k : Nat) (x : UInt8) : padK (key ++ List.replicate k 0) x = padK key x := by
  unfold padK
  refine List.map_congr_left fun i _ => ?_
  congr 1
  rw [List.getD_eq_getElem?_getD, List.getD_eq_getElem?_getD]
  by_cases h : i < key.length
  · rw [List.getElem?_append_left h]
  · rw [List.getElem?_append_right (by omega), List.getElem?_eq_none (show key.length ≤ i by omega), List.getElem?_replicate]
    split <;> rfl
theorem hmac_zeros (key m : List UInt8) (k : Nat) (h : key.length + k ≤ 64) : hmacS (key ++ List.replicate k 0) m = hmacS key m := by
  have h1 : hkey (key ++ List.replicate k 0) = key ++ List.replicate k 0 := by rw [hkey, if_neg (by rw [List.length_append, List.length_replicate]; omega)]
  have h2 : hkey key = key := by rw [hkey, if_neg (by omega)]
  rw [hmacS, hmacS, h1, h2, padK_zeros, padK_zeros]
theorem hmac_digest (key m : List UInt8) (h : 64 < key.length) : hmacS (shaS key) m = hmacS key m := by
  have h1 : hkey (shaS key) = shaS key := by rw [hkey, if_neg (by rw [shaS_len]; decide)]
  have h2 : hkey key = shaS key := by rw [hkey, if_pos h]
  rw [hmacS, hmacS, h1, h2]
set_option maxRecDepth 100000 in
set_option maxHeartbeats 6400000 in
theorem long_walk (key b : List UInt8) (A0 A1 : Option Addr) (n0 n1 c0 c1 : Nat) (w : World) (h0 : SlV w (.slice A0 n0 c0) key) (h1 : SlV w (.slice A1 n1 c1) b) :
    Calls Try.prog 11 #[.slice A0 n0 c0, .slice A1 n1 c1] w fun e w' => e = .returned (.bool true) ∧ Below w.heap.size w w' := by
  obtain ⟨i5, hi5, hz0, hz1, hz2⟩ := info_parts infoByte
  obtain ⟨O, hO⟩ : ∃ O, O = hmacS key ([b] : List (List UInt8)).flatten := ⟨_, rfl⟩
  have hOl : O.length = 32 := by rw [hO]; exact hmacS_len _ _
  have q1 := eq_arr hOl
  have HO := Lib.hid hO
  have HOL := Lib.hid hOl
  have HN := Lib.hid h0.num
  have H0 := Lib.hid h0
  have H1 := Lib.hid h1
  clear hO hOl h0 h1
  go_enter Try.func11, Try.ntmps11
  go_upto_region 3 with (first
    | (go_at_call 31
       refine (awake2_c w).mono ?_
       rintro e0 w1 ⟨rfl, hb1⟩
       have HB1 : Hid (Below w.heap.size w w1) := hb1
       clear hb1))
  by_cases hs : n0 ≤ 64
  · have hsi : (n0 : Int) ≤ 64 := by omega
    obtain ⟨K, hK⟩ : ∃ K, K = 64 - n0 := ⟨_, rfl⟩
    have hKi : (64 : Int) - (n0 : Int) = (K : Int) := by omega
    have hn64 : n0 + K = 64 := by omega
    have HOZ : Hid (O = hmacS (key ++ List.replicate K 0) ([b] : List (List UInt8)).flatten) := by
      show _ = _
      rw [hmac_zeros _ _ _ (by rw [← HN.out]; omega), HO.out]
    have HN64 := Lib.hid hn64
    clear hK hn64
    go_wp2_with (first
      | (go_at_call 32
         first
           | ((with_reducible show Calls _ _ _ (World.alloc w1 _) _)
              refine (tag_blk HO.out ((H0.out.below HB1.out).below (balloc (Below.refl _ _) _)) (Parts.one (Blk.newAt rfl _ _) ((H1.out.below HB1.out).below (balloc (Below.refl _ _) _))) rfl (by simp)).mono ?_
              rintro e0 w2 ⟨rfl, hb2⟩
              have HB2 : Hid (Below w.heap.size w w2) := bcall (balloc HB1.out _) hb2
              have HRD2 : Hid (Reads (w2.alloc (.cells #[] 5)) (w2.alloc (.cells #[] 5)).heap.size 1 A0 n0 (key.map u8v)) := ((H0.out.below HB2.out).below (balloc (Below.refl _ _) _)).rd
              clear hb2)
           | ((with_reducible show Calls _ _ _ (World.alloc w4 _) _)
              refine (tag_blk HOZ.out (HS4.out.below (balloc (Below.refl _ _) _)) (Parts.one (Blk.newAt rfl _ _) ((H1.out.below HB4.out).below (balloc (Below.refl _ _) _))) rfl (by simp)).mono ?_
              rintro e0 w5 ⟨rfl, hb5⟩
              have HB5 : Hid (Below w.heap.size w w5) := bcall (balloc HB4.out _) hb5
              clear hb5))
      | (at_builtin
         refine wpList_append_any _ rfl (.tmp 15) (.tmp 16) _ rfl w2.heap.size 5 i5 _ 1 1 Try.underlying27 hi5 hz0 hz1 hz2 rfl (by omega) (.slice (some ⟨w2.heap.size, 0, none⟩) 0 0) 0 [] rfl (own_empty w2 _ _)
           _ A0 n0 c0 (key.map u8v) rfl HRD2.out (u8_one key) (by simp only [maxLen]; omega) (by omega) (by simp) ?_
         intro v3 w3 hown3 hg3 hv3
         rw [Nat.zero_add, List.nil_append] at hown3
         obtain ⟨A3, c3, rfl⟩ := own_slice hown3
         have HO3 := Lib.hid hown3
         have HB23 : Hid (Below w2.heap.size w2 w3) := fresh_below hg3
         clear hown3 hg3 hv3)
      | (at_builtin
         (with_reducible show wpList _ _ _ (⟨some 21, _, _, _, _, _⟩ :: _) _ _)
         obtain ⟨v4, w4, hr4, hown4, hg4, hv4⟩ := run_append_zeros (P := Try.prog) w3 w2.heap.size 27 3 27 5 i5 (.int .u8 0) .i64 .i64 Try.underlying27 Try.underlying3 hi5 hz0 hz1 hz2 rfl rfl (.slice A3 n0 c3) n0 (key.map u8v) HO3.out K (by simp only [maxLen]; omega) (by omega) HB23.out.size
         refine Lib.wpList_append_run _ rfl (.tmp 17) (.tmp 20) _ _ rfl _ _ rfl rfl v4 w4 hr4 ?_
         obtain ⟨A4, c4, rfl⟩ := own_slice hown4
         have HB24 : Hid (Below w2.heap.size w2 w4) := own_grow_below HB23.out HO3.out hg4
         have HB4 : Hid (Below w.heap.size w w4) := bcall HB2.out HB24.out
         have HS4 : Hid (SlV w4 (.slice A4 (n0 + K) c4) (key ++ List.replicate K 0)) := SlV.own (base := w2.heap.size) (by
           unfold ByteRow
           rw [List.length_append, List.length_replicate, ← HN.out, List.map_append, List.map_replicate]
           exact hown4)
         clear hr4 hown4 hg4 hv4))
    go_ret
    exact ⟨rfl, HB5.out⟩
  · have hsi : ¬ (n0 : Int) ≤ 64 := by omega
    obtain ⟨D, hD⟩ : ∃ D, D = shaS ([key] : List (List UInt8)).flatten := ⟨_, rfl⟩
    have hDl : D.length = 32 := by rw [hD]; exact shaS_len _
    have HOD : Hid (O = hmacS D ([b] : List (List UInt8)).flatten) := by
      show _ = _
      have e1 : ([key] : List (List UInt8)).flatten = key := by simp
      rw [hD, e1, hmac_digest _ _ (by rw [← HN.out]; omega), HO.out]
    have HD := Lib.hid hD
    have HDL := Lib.hid hDl
    have HJD := Lib.hid (infoO hDl)
    clear hD hDl hs
    go_upto_region 6 with (first
      | (go_at_call 22
         refine (of_blk HD.out (Parts.one (Blk.newAt rfl _ _) ((H0.out.below HB1.out).below (balloc (Below.refl _ _) _))) rfl (by simp)).mono ?_
         rintro e0 w2 ⟨rfl, hb2⟩
         have HB2 : Hid (Below w.heap.size w w2) := bcall (balloc HB1.out _) hb2
         have HU2 : Hid (UB (w2.alloc (.cells (z32.map u8v).toArray 24)) w2.heap.size 24 z32) := Blk.new _ _ _
         have HTH : Hid ((w2.alloc (.cells (z32.map u8v).toArray 24)).there w2.heap.size 0 (D.map u8v).toArray.size) := there32 HU2.out rfl HDL.out
         clear hb2)
      | ((with_reducible show wpList _ _ _ (⟨none, .store 24 (.tmp 5) (.tmp 28), _, _, _, _⟩ :: _) _ _); refine wpList_store_mid rfl 24 (.tmp 5) (.tmp 28) rfl w2.heap.size 0 (D.map u8v).toArray rfl rfl HTH.out HJD.out (bytes_one _) ?_))
    obtain ⟨wb, hwb⟩ : ∃ wb, wb = (w2.alloc (.cells (z32.map u8v).toArray 24)).setCells w2.heap.size 0 (D.map u8v) := ⟨_, rfl⟩
    change Code.wp _ _ _ _ ((w2.alloc (.cells (z32.map u8v).toArray 24)).setCells w2.heap.size 0 (D.map u8v))
    have HUD : Hid (UB wb w2.heap.size 24 D) := by show UB _ _ _ _; rw [hwb]; exact blk_setAll HU2.out (by rw [List.length_map, HDL.out]; rfl)
    have HBW : Hid (Below w.heap.size w wb) := by show Below _ _ _; rw [hwb]; exact below_setCells (balloc HB2.out _) HB2.out.size _ _
    rw [← hwb]
    obtain ⟨gd, hgd⟩ : ∃ gd, gd = w2.heap.size := ⟨_, rfl⟩
    rw [← hgd] at HUD
    rw [← hgd]
    have HDb : Hid (SlV wb (.slice (some ⟨gd, 0, none⟩) 32 32) D) := SlV.arr HUD.out HDL.out
    have HAb : Hid (SlV wb (.slice A0 n0 c0) key) := H0.out.below HBW.out
    have HBb : Hid (SlV wb (.slice A1 n1 c1) b) := H1.out.below HBW.out
    clear hwb hgd HU2 HTH HB2 HUD HB1
    have HB00 : Hid (Below wb.heap.size wb (World.drew wb)) := bdrew (Below.refl _ _)
    refine wp_region_held_drew (S := (fun _ => True)) (by kernel_rfl) (trivial) (fun hHeld => ?_)
    refine wpAnyH_takeAt (i := 0) (v := (.slice A0 n0 c0)) rfl (by kernel_rfl) (by kernel_rfl) (by kernel_rfl) (fun _ _ _ h => h) rfl (Or.inl ⟨by rfl, fun w' hS => ?_⟩) hHeld ?_
    · go_simp
    simp only [List.set_cons_zero, List.set_cons_succ]
    refine wpAnyH_takeAt (i := 1) (v := (.slice A1 n1 c1)) rfl (by kernel_rfl) (by kernel_rfl) (by kernel_rfl) (fun _ _ _ h => h) rfl (Or.inl ⟨by rfl, fun w' hS => ?_⟩) hHeld ?_
    · go_simp
    simp only [List.set_cons_zero, List.set_cons_succ]
    refine wpAnyH_takeAt (i := 4) (v := (.slice (some ⟨gd, 0, none⟩) 32 32)) rfl (by kernel_rfl) (by kernel_rfl) (by kernel_rfl) (fun _ _ _ h => h) rfl (Or.inl ⟨by rfl, fun w' hS => ?_⟩) hHeld ?_
    · go_simp
    simp only [List.set_cons_zero, List.set_cons_succ]
    refine wpAnyH_takeAt (i := 5) (v := (.slice A1 n1 c1)) rfl (by kernel_rfl) (by kernel_rfl) (by kernel_rfl) (fun _ _ _ h => h) rfl (Or.inl ⟨by rfl, fun w' hS => ?_⟩) hHeld ?_
    · go_simp
    simp only [List.set_cons_zero, List.set_cons_succ]
    refine wpAnyH_ready (rs := [2, 6]) (by kernel_rfl) (by simp) (AllReadyH.cons rfl (fun K' hK => ?_) (AllReadyH.cons rfl (fun K' hK => ?_) AllReadyH.nil))
    · go_simp
      have HB_1 : Hid (Below wb.heap.size wb (World.drew (World.alloc wb (.cells #[(.slice A1 n1 c1)] 27)))) := balloc HB00.out _
      have HK_1 : Hid (Blk (World.drew (World.alloc wb (.cells #[(.slice A1 n1 c1)] 27))) wb.heap.size 27 #[(.slice A1 n1 c1)]) := Blk.newAt (w := (World.drew wb)) (by simp only [sz_drewL, World.size_alloc]) _ _
      refine hK.out _ _ trivial (fun hHeld' => ?_)
      clear hK hHeld
      have hHeld := hHeld'
      clear hHeld'
      refine wpAnyH_ready (rs := [3, 6]) (by kernel_rfl) (by simp) (AllReadyH.cons rfl (fun K' hK => ?_) (AllReadyH.cons rfl (fun K' hK => ?_) AllReadyH.nil))
      · go_simp
        go_at_call 32
        refine (tag_blk HO.out (HAb.out.below HB_1.out) (Parts.one HK_1.out (HBb.out.below HB_1.out)) rfl (by simp)).mono ?_
        rintro e0 w_2 ⟨rfl, hb_2⟩
        go_wp2_with fail
        have HB_2 : Hid (Below wb.heap.size wb w_2) := bcall HB_1.out hb_2
        clear hb_2
        refine hK.out _ _ trivial (fun hHeld' => ?_)
        clear hK hHeld
        have hHeld := hHeld'
        clear hHeld'
        refine wpAnyH_ready (rs := [6]) (by kernel_rfl) (by simp) (AllReadyH.cons rfl (fun K' hK => ?_) AllReadyH.nil)
        go_simp
        have HB_3 : Hid (Below wb.heap.size wb (World.alloc w_2 (.cells #[(.slice A1 n1 c1)] 27))) := balloc HB_2.out _
        have HK_3 : Hid (Blk (World.alloc w_2 (.cells #[(.slice A1 n1 c1)] 27)) w_2.heap.size 27 #[(.slice A1 n1 c1)]) := Blk.newAt (w := w_2) (by simp only [sz_drewL, World.size_alloc]) _ _
        refine hK.out _ _ trivial (fun hHeld' => ?_)
        clear hK hHeld
        have hHeld := hHeld'
        clear hHeld'
        refine wpAnyH_ready (rs := [7]) (by kernel_rfl) (by simp) (AllReadyH.cons rfl (fun K' hK => ?_) AllReadyH.nil)
        go_simp
        go_at_call 32
        refine (tag_blk HOD.out (HDb.out.below HB_3.out) (Parts.one HK_3.out (HBb.out.below HB_3.out)) rfl (by simp)).mono ?_
        rintro e0 w_4 ⟨rfl, hb_4⟩
        go_wp2_with fail
        have HB_4 : Hid (Below wb.heap.size wb w_4) := bcall HB_3.out hb_4
        clear hb_4
        refine hK.out _ _ trivial (fun hHeld' => ?_)
        clear hK hHeld
        have hHeld := hHeld'
        clear hHeld'
        refine wpAnyH_takeAt (i := 8) (v := (.bool true)) rfl (by kernel_rfl) (by kernel_rfl) (by kernel_rfl) (fun _ _ _ h => h) rfl (Or.inl ⟨by rfl, fun w' hS => ?_⟩) hHeld ?_
        · go_simp
        simp only [List.set_cons_zero, List.set_cons_succ]
        refine wpAnyH_takeAt (i := 9) (v := (.bool true)) rfl (by kernel_rfl) (by kernel_rfl) (by kernel_rfl) (fun _ _ _ h => h) rfl (Or.inl ⟨by rfl, fun w' hS => ?_⟩) hHeld ?_
        · go_simp
        simp only [List.set_cons_zero, List.set_cons_succ]
        refine wpAnyH_done (by kernel_rfl) ?_ _
        go_wp2_with fail
        go_ret
        exact ⟨rfl, bcall HBW.out HB_4.out⟩
      · go_simp
        have HB_5 : Hid (Below wb.heap.size wb (World.drew (World.alloc (World.alloc wb (.cells #[(.slice A1 n1 c1)] 27)) (.cells #[(.slice A1 n1 c1)] 27)))) := balloc HB_1.out _
        have HK_5 : Hid (Blk (World.drew (World.alloc (World.alloc wb (.cells #[(.slice A1 n1 c1)] 27)) (.cells #[(.slice A1 n1 c1)] 27))) (wb.heap.size + 1) 27 #[(.slice A1 n1 c1)]) := Blk.newAt (w := (World.drew (World.alloc wb (.cells #[(.slice A1 n1 c1)] 27)))) (by simp only [sz_drewL, World.size_alloc]) _ _
        have HK_1_5 : Hid (Blk (World.drew (World.alloc (World.alloc wb (.cells #[(.slice A1 n1 c1)] 27)) (.cells #[(.slice A1 n1 c1)] 27))) wb.heap.size 27 #[(.slice A1 n1 c1)]) := Blk.alloc HK_1.out _
        refine hK.out _ _ trivial (fun hHeld' => ?_)
        clear hK hHeld
        have hHeld := hHeld'
        clear hHeld'
        refine wpAnyH_ready (rs := [3]) (by kernel_rfl) (by simp) (AllReadyH.cons rfl (fun K' hK => ?_) AllReadyH.nil)
        go_simp
        go_at_call 32
        refine (tag_blk HO.out (HAb.out.below HB_5.out) (Parts.one HK_1_5.out (HBb.out.below HB_5.out)) rfl (by simp)).mono ?_
        rintro e0 w_6 ⟨rfl, hb_6⟩
        go_wp2_with fail
        have HB_6 : Hid (Below wb.heap.size wb w_6) := bcall HB_5.out hb_6
        have HK_5_6 : Hid (Blk w_6 (wb.heap.size + 1) 27 #[(.slice A1 n1 c1)]) := Blk.below HK_5.out hb_6
        clear hb_6
        refine hK.out _ _ trivial (fun hHeld' => ?_)
        clear hK hHeld
        have hHeld := hHeld'
        clear hHeld'
        refine wpAnyH_ready (rs := [7]) (by kernel_rfl) (by simp) (AllReadyH.cons rfl (fun K' hK => ?_) AllReadyH.nil)
        go_simp
        go_at_call 32
        refine (tag_blk HOD.out (HDb.out.below HB_6.out) (Parts.one HK_5_6.out (HBb.out.below HB_6.out)) rfl (by simp)).mono ?_
        rintro e0 w_7 ⟨rfl, hb_7⟩
        go_wp2_with fail
        have HB_7 : Hid (Below wb.heap.size wb w_7) := bcall HB_6.out hb_7
        clear hb_7
        refine hK.out _ _ trivial (fun hHeld' => ?_)
        clear hK hHeld
        have hHeld := hHeld'
        clear hHeld'
        refine wpAnyH_takeAt (i := 8) (v := (.bool true)) rfl (by kernel_rfl) (by kernel_rfl) (by kernel_rfl) (fun _ _ _ h => h) rfl (Or.inl ⟨by rfl, fun w' hS => ?_⟩) hHeld ?_
        · go_simp
        simp only [List.set_cons_zero, List.set_cons_succ]
        refine wpAnyH_takeAt (i := 9) (v := (.bool true)) rfl (by kernel_rfl) (by kernel_rfl) (by kernel_rfl) (fun _ _ _ h => h) rfl (Or.inl ⟨by rfl, fun w' hS => ?_⟩) hHeld ?_
        · go_simp
        simp only [List.set_cons_zero, List.set_cons_succ]
        refine wpAnyH_done (by kernel_rfl) ?_ _
        go_wp2_with fail
        go_ret
        exact ⟨rfl, bcall HBW.out HB_7.out⟩
    · go_simp
      have HB_8 : Hid (Below wb.heap.size wb (World.drew (World.alloc wb (.cells #[(.slice A1 n1 c1)] 27)))) := balloc HB00.out _
      have HK_8 : Hid (Blk (World.drew (World.alloc wb (.cells #[(.slice A1 n1 c1)] 27))) wb.heap.size 27 #[(.slice A1 n1 c1)]) := Blk.newAt (w := (World.drew wb)) (by simp only [sz_drewL, World.size_alloc]) _ _
      refine hK.out _ _ trivial (fun hHeld' => ?_)
      clear hK hHeld
      have hHeld := hHeld'
      clear hHeld'
      refine wpAnyH_ready (rs := [2]) (by kernel_rfl) (by simp) (AllReadyH.cons rfl (fun K' hK => ?_) AllReadyH.nil)
      go_simp
      have HB_9 : Hid (Below wb.heap.size wb (World.drew (World.alloc (World.alloc wb (.cells #[(.slice A1 n1 c1)] 27)) (.cells #[(.slice A1 n1 c1)] 27)))) := balloc HB_8.out _
      have HK_9 : Hid (Blk (World.drew (World.alloc (World.alloc wb (.cells #[(.slice A1 n1 c1)] 27)) (.cells #[(.slice A1 n1 c1)] 27))) (wb.heap.size + 1) 27 #[(.slice A1 n1 c1)]) := Blk.newAt (w := (World.drew (World.alloc wb (.cells #[(.slice A1 n1 c1)] 27)))) (by simp only [sz_drewL, World.size_alloc]) _ _
      have HK_8_9 : Hid (Blk (World.drew (World.alloc (World.alloc wb (.cells #[(.slice A1 n1 c1)] 27)) (.cells #[(.slice A1 n1 c1)] 27))) wb.heap.size 27 #[(.slice A1 n1 c1)]) := Blk.alloc HK_8.out _
      refine hK.out _ _ trivial (fun hHeld' => ?_)
      clear hK hHeld
      have hHeld := hHeld'
      clear hHeld'
      refine wpAnyH_ready (rs := [3]) (by kernel_rfl) (by simp) (AllReadyH.cons rfl (fun K' hK => ?_) AllReadyH.nil)
      go_simp
      go_at_call 32
      refine (tag_blk HO.out (HAb.out.below HB_9.out) (Parts.one HK_9.out (HBb.out.below HB_9.out)) rfl (by simp)).mono ?_
      rintro e0 w_10 ⟨rfl, hb_10⟩
      go_wp2_with fail
      have HB_10 : Hid (Below wb.heap.size wb w_10) := bcall HB_9.out hb_10
      have HK_8_9_10 : Hid (Blk w_10 wb.heap.size 27 #[(.slice A1 n1 c1)]) := Blk.below HK_8_9.out hb_10
      clear hb_10
      refine hK.out _ _ trivial (fun hHeld' => ?_)
      clear hK hHeld
      have hHeld := hHeld'
      clear hHeld'
      refine wpAnyH_ready (rs := [7]) (by kernel_rfl) (by simp) (AllReadyH.cons rfl (fun K' hK => ?_) AllReadyH.nil)
      go_simp
      go_at_call 32
      refine (tag_blk HOD.out (HDb.out.below HB_10.out) (Parts.one HK_8_9_10.out (HBb.out.below HB_10.out)) rfl (by simp)).mono ?_
      rintro e0 w_11 ⟨rfl, hb_11⟩
      go_wp2_with fail
      have HB_11 : Hid (Below wb.heap.size wb w_11) := bcall HB_10.out hb_11
      clear hb_11
      refine hK.out _ _ trivial (fun hHeld' => ?_)
      clear hK hHeld
      have hHeld := hHeld'
      clear hHeld'
      refine wpAnyH_takeAt (i := 8) (v := (.bool true)) rfl (by kernel_rfl) (by kernel_rfl) (by kernel_rfl) (fun _ _ _ h => h) rfl (Or.inl ⟨by rfl, fun w' hS => ?_⟩) hHeld ?_
      · go_simp
      simp only [List.set_cons_zero, List.set_cons_succ]
      refine wpAnyH_takeAt (i := 9) (v := (.bool true)) rfl (by kernel_rfl) (by kernel_rfl) (by kernel_rfl) (fun _ _ _ h => h) rfl (Or.inl ⟨by rfl, fun w' hS => ?_⟩) hHeld ?_
      · go_simp
      simp only [List.set_cons_zero, List.set_cons_succ]
      refine wpAnyH_done (by kernel_rfl) ?_ _
      go_wp2_with fail
      go_ret
      exact ⟨rfl, bcall HBW.out HB_11.out⟩
end Go.Proofs.Ytlapgccfgkokcaa
