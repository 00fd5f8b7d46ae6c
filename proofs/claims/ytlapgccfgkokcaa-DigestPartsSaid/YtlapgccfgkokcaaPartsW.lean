/- What DigestParts does. Conditions: the arguments lie in memory. (Printed by gen1w.py.) -/
import Derived.Test.YtlapgccfgkokcaaAwake1
set_option linter.unusedVariables false
set_option linter.unusedSimpArgs false
namespace Go.Proofs.Ytlapgccfgkokcaa
open Go.RowKit
attribute [local go_sem ↓] Go.wp_at_zero Go.wp_at_succ

theorem sz_drew (w : World) : w.drew.heap.size = w.heap.size := rfl
set_option maxRecDepth 100000 in
set_option maxHeartbeats 6400000 in
theorem parts_walk (b : List UInt8) (A0 : Option Addr) (n c0 at_ : Nat) (w : World) (h0 : SlV w (.slice A0 n c0) b) (e0 : n = b.length) (hat : at_ < 65536) (hn : n < 4611686018427387904) :
    Calls Try.prog 5 #[.slice A0 n c0, .int .u16 (at_ : Int)] w fun e w' => e = .returned (.bool true) ∧ Below w.heap.size w w' := by
  have H0 := Lib.hid h0
  have E0 := Lib.hid e0
  obtain ⟨k, hk⟩ : ∃ k, k = at_ % (n + 1) := ⟨_, rfl⟩
  have hkn : k ≤ n := by have := Nat.mod_lt at_ (show 0 < n + 1 by omega); omega
  have hcap : n ≤ c0 := by
    obtain ⟨A', c', e, hc, _⟩ := h0
    injection e with _ _ e3
    omega
  have HT : Hid (SlV w (.slice (cutA A0 c0 0) k c0) (b.take k)) := h0.to_ hkn
  have HF : Hid (SlV w (.slice (cutA A0 c0 k) (n - k) (c0 - k)) (b.drop k)) := h0.from_ hkn
  have hct := fun wx : World => cut_to wx A0 n c0 k (by omega)
  have hcf := fun wx : World => cut_from wx A0 n c0 k hkn
  have hki : ((at_ : Int) % ((n : Int) + 1)) = (k : Int) := by rw [hk]; simp
  have HK := Lib.hid hk
  have HKN := Lib.hid hkn
  have HCAP := Lib.hid hcap
  obtain ⟨O, hO⟩ : ∃ O, O = shaS b := ⟨_, rfl⟩
  have q1 := eq_arr (O := O) (by rw [hO]; exact shaS_len _)
  have HO : Hid (O = shaS ([] ++ b.take k ++ [] ++ b.drop k)) := by show _ = _; rw [hO]; simp
  have HP1 : Hid (O = shaS ([b] : List (List UInt8)).flatten) := by show _ = _; rw [hO]; simp
  have HP2 : Hid (O = shaS ([b.take k, b.drop k] : List (List UInt8)).flatten) := by show _ = _; rw [hO]; simp
  clear h0 e0 hk hO hcap hkn
  go_enter Try.func5, Try.ntmps5
  go_upto_region 4 with (first
    | (go_at_call 21
       refine (awake1_c w).mono ?_
       rintro e0 w1 ⟨rfl, hb1⟩
       have HB1 := Lib.hid hb1
       clear hb1))
  rw [hki]
  have HT1 : Hid (SlV w1 (.slice (cutA A0 c0 0) k c0) (b.take k)) := HT.out.below HB1.out
  have HF1 : Hid (SlV w1 (.slice (cutA A0 c0 k) (n - k) (c0 - k)) (b.drop k)) := HF.out.below HB1.out
  have H01 : Hid (SlV w1 (.slice A0 n c0) b) := H0.out.below HB1.out
  clear HT HF H0 hki
  have hc := new_c w1
  obtain ⟨gs, hgs⟩ : ∃ gs, gs = w1.heap.size + 1 := ⟨_, rfl⟩
  rw [← hgs] at hc
  have HGS : Hid (w1.heap.size ≤ gs) := by show _ ≤ _; omega
  have HC := Lib.hid hc
  clear hgs hc
  go_upto_region 10 with (first
    | (go_at_call 25
       refine HC.out.mono ?_
       rintro e0 w2 ⟨rfl, hs2, hb2⟩
       have HB2 := Lib.hid hb2
       have HS2 := Lib.hid hs2
       clear hs2 hb2)
    | (go_at_call 26
       first
         | ((with_reducible show Calls _ _ _ w2 _)
            refine (add_s HS2.out HT1.out HB2.out (Nat.le_refl _) HGS.out (Nat.le_refl _) HB2.out.size).mono ?_
            rintro e0 w3 ⟨rfl, ⟨v3, hs3, hv3⟩, hsv3, hb3⟩
            have HB3 := Lib.hid hb3
            have HS3 := Lib.hid hs3
            clear hb3 hs3 hv3 hsv3)
         | ((with_reducible show Calls _ _ _ w3 _)
            refine (add_s HS3.out (SlV.nil w1) HB3.out (Nat.le_refl _) HGS.out (Nat.le_refl _) HB3.out.size).mono ?_
            rintro e0 w4 ⟨rfl, ⟨v4, hs4, hv4⟩, hsv4, hb4⟩
            have HB4 := Lib.hid hb4
            have HS4 := Lib.hid hs4
            clear hb4 hs4 hv4 hsv4)
         | ((with_reducible show Calls _ _ _ w4 _)
            refine (add_s HS4.out HF1.out HB4.out (Nat.le_refl _) HGS.out (Nat.le_refl _) HB4.out.size).mono ?_
            rintro e0 w5 ⟨rfl, ⟨v5, hs5, hv5⟩, hsv5, hb5⟩
            have HB5 := Lib.hid hb5
            have HS5 := Lib.hid hs5
            clear hb5 hs5 hv5 hsv5)))
  have HB6 : Hid (Below w1.heap.size w1 (World.drew w5)) := bdrew HB5.out
  have HS6 : Hid (StrV (World.drew w5) w1.heap.size gs w1.heap.size v5 ([] ++ b.take k ++ [] ++ b.drop k)) := HS5.out.below (bdrew (Below.refl _ _))
  refine wp_region_held_drew (S := (fun _ => True)) (by kernel_rfl) (trivial) (fun hHeld => ?_)
  refine wpAnyH_takeAt (i := 0) (v := (.slice A0 n c0)) rfl (by kernel_rfl) (by kernel_rfl) (by kernel_rfl) (fun _ _ _ h => h) rfl (Or.inl ⟨by rfl, fun w' hS => ?_⟩) hHeld ?_
  · go_simp
  simp only [List.set_cons_zero, List.set_cons_succ]
  refine wpAnyH_takeAt (i := 1) (v := (.int .i64 (k : Int))) rfl (by kernel_rfl) (by kernel_rfl) (by kernel_rfl) (fun _ _ _ h => h) rfl (Or.inl ⟨by rfl, fun w' hS => ?_⟩) hHeld ?_
  · go_simp
  simp only [List.set_cons_zero, List.set_cons_succ]
  refine wpAnyH_takeAt (i := 2) (v := (.slice (cutA A0 c0 0) k c0)) rfl (by kernel_rfl) (by kernel_rfl) (by kernel_rfl) (fun _ _ _ h => h) rfl (Or.inl ⟨by rfl, fun w' hS => ?_⟩) hHeld ?_
  · go_simp
  simp only [List.set_cons_zero, List.set_cons_succ]
  refine wpAnyH_takeAt (i := 3) (v := (.slice A0 n c0)) rfl (by kernel_rfl) (by kernel_rfl) (by kernel_rfl) (fun _ _ _ h => h) rfl (Or.inl ⟨by rfl, fun w' hS => ?_⟩) hHeld ?_
  · go_simp
  simp only [List.set_cons_zero, List.set_cons_succ]
  refine wpAnyH_takeAt (i := 4) (v := (.int .i64 (k : Int))) rfl (by kernel_rfl) (by kernel_rfl) (by kernel_rfl) (fun _ _ _ h => h) rfl (Or.inl ⟨by rfl, fun w' hS => ?_⟩) hHeld ?_
  · go_simp
  simp only [List.set_cons_zero, List.set_cons_succ]
  refine wpAnyH_takeAt (i := 5) (v := (.slice (cutA A0 c0 k) (n - k) (c0 - k))) rfl (by kernel_rfl) (by kernel_rfl) (by kernel_rfl) (fun _ _ _ h => h) rfl (Or.inl ⟨by rfl, fun w' hS => ?_⟩) hHeld ?_
  · go_simp
  simp only [List.set_cons_zero, List.set_cons_succ]
  refine wpAnyH_takeAt (i := 8) (v := (.slice A0 n c0)) rfl (by kernel_rfl) (by kernel_rfl) (by kernel_rfl) (fun _ _ _ h => h) rfl (Or.inl ⟨by rfl, fun w' hS => ?_⟩) hHeld ?_
  · go_simp
  simp only [List.set_cons_zero, List.set_cons_succ]
  refine wpAnyH_ready (rs := [6, 9]) (by kernel_rfl) (by simp) (AllReadyH.cons rfl (fun K' hK => ?_) (AllReadyH.cons rfl (fun K' hK => ?_) AllReadyH.nil))
  · go_simp
    have HB_1 : Hid (Below w1.heap.size w1 (World.drew (World.alloc w5 (.cells #[(.slice (cutA A0 c0 0) k c0), (.slice (cutA A0 c0 k) (n - k) (c0 - k))] 27)))) := balloc HB6.out _
    have HS_1 : Hid (StrV (World.drew (World.alloc w5 (.cells #[(.slice (cutA A0 c0 0) k c0), (.slice (cutA A0 c0 k) (n - k) (c0 - k))] 27))) w1.heap.size gs w1.heap.size v5 ([] ++ b.take k ++ [] ++ b.drop k)) := HS6.out.below (balloc (Below.refl _ _) _)
    have HK_1 : Hid (Blk (World.drew (World.alloc w5 (.cells #[(.slice (cutA A0 c0 0) k c0), (.slice (cutA A0 c0 k) (n - k) (c0 - k))] 27))) w5.heap.size 27 #[(.slice (cutA A0 c0 0) k c0), (.slice (cutA A0 c0 k) (n - k) (c0 - k))]) := Blk.newAt (w := (World.drew w5)) (by simp only [sz_drew, World.size_alloc]) _ _
    have HN_1 : Hid (w1.heap.size < w5.heap.size) := by show _ < _; have := HS5.out.2.2.lt; omega
    refine hK.out _ _ trivial (fun hHeld' => ?_)
    clear hK hHeld
    have hHeld := hHeld'
    clear hHeld'
    refine wpAnyH_ready (rs := [7, 9]) (by kernel_rfl) (by simp) (AllReadyH.cons rfl (fun K' hK => ?_) (AllReadyH.cons rfl (fun K' hK => ?_) AllReadyH.nil))
    · go_simp
      go_at_call 22
      refine (of_blk HP2.out (Parts.two HK_1.out (HT1.out.below HB_1.out) (HF1.out.below HB_1.out)) rfl (by simp)).mono ?_
      rintro e0 w_2 ⟨rfl, hb_2⟩
      go_wp2_with fail
      have HB_2 : Hid (Below w1.heap.size w1 w_2) := bcall HB_1.out hb_2
      have HT_2 : Hid (StrV w_2 w1.heap.size gs w1.heap.size v5 ([] ++ b.take k ++ [] ++ b.drop k)) := HS_1.out.below hb_2
      have HS_2 : Hid (StrV w_2 w1.heap.size gs w1.heap.size v5 ([] ++ b.take k ++ [] ++ b.drop k)) := HS_1.out.below hb_2
      clear hb_2
      refine hK.out _ _ trivial (fun hHeld' => ?_)
      clear hK hHeld
      have hHeld := hHeld'
      clear hHeld'
      refine wpAnyH_ready (rs := [9]) (by kernel_rfl) (by simp) (AllReadyH.cons rfl (fun K' hK => ?_) AllReadyH.nil)
      go_simp
      have HB_3 : Hid (Below w1.heap.size w1 (World.alloc w_2 (.cells #[(.slice A0 n c0)] 27))) := balloc HB_2.out _
      have HS_3 : Hid (StrV (World.alloc w_2 (.cells #[(.slice A0 n c0)] 27)) w1.heap.size gs w1.heap.size v5 ([] ++ b.take k ++ [] ++ b.drop k)) := HS_2.out.below (balloc (Below.refl _ _) _)
      have HK_3 : Hid (Blk (World.alloc w_2 (.cells #[(.slice A0 n c0)] 27)) w_2.heap.size 27 #[(.slice A0 n c0)]) := Blk.newAt (w := w_2) (by simp only [sz_drew, World.size_alloc]) _ _
      have HN_3 : Hid (w1.heap.size < w_2.heap.size) := by show _ < _; have := HT_2.out.2.2.lt; omega
      refine hK.out _ _ trivial (fun hHeld' => ?_)
      clear hK hHeld
      have hHeld := hHeld'
      clear hHeld'
      refine wpAnyH_ready (rs := [10]) (by kernel_rfl) (by simp) (AllReadyH.cons rfl (fun K' hK => ?_) AllReadyH.nil)
      go_simp
      go_at_call 22
      refine (of_blk HP1.out (Parts.one HK_3.out (H01.out.below HB_3.out)) rfl (by simp)).mono ?_
      rintro e0 w_4 ⟨rfl, hb_4⟩
      go_wp2_with fail
      have HB_4 : Hid (Below w1.heap.size w1 w_4) := bcall HB_3.out hb_4
      have HT_4 : Hid (StrV w_4 w1.heap.size gs w1.heap.size v5 ([] ++ b.take k ++ [] ++ b.drop k)) := HS_3.out.below hb_4
      have HS_4 : Hid (StrV w_4 w1.heap.size gs w1.heap.size v5 ([] ++ b.take k ++ [] ++ b.drop k)) := HS_3.out.below hb_4
      clear hb_4
      refine hK.out _ _ trivial (fun hHeld' => ?_)
      clear hK hHeld
      have hHeld := hHeld'
      clear hHeld'
      refine wpAnyH_takeAt (i := 11) (v := (.bool true)) rfl (by kernel_rfl) (by kernel_rfl) (by kernel_rfl) (fun _ _ _ h => h) rfl (Or.inl ⟨by rfl, fun w' hS => ?_⟩) hHeld ?_
      · go_simp
      simp only [List.set_cons_zero, List.set_cons_succ]
      refine wpAnyH_takeAt (i := 12) (v := (.bool true)) rfl (by kernel_rfl) (by kernel_rfl) (by kernel_rfl) (fun _ _ _ h => h) rfl (Or.inl ⟨by rfl, fun w' hS => ?_⟩) hHeld ?_
      · go_simp
      simp only [List.set_cons_zero, List.set_cons_succ]
      refine wpAnyH_takeAt (i := 13) (v := (.pointer (some ⟨gs, 0, none⟩))) rfl (by kernel_rfl) (by kernel_rfl) (by kernel_rfl) (fun _ _ _ h => h) rfl (Or.inl ⟨by rfl, fun w' hS => ?_⟩) hHeld ?_
      · go_simp
      simp only [List.set_cons_zero, List.set_cons_succ]
      refine wpAnyH_takeAt (i := 15) (v := (.slice A0 n c0)) rfl (by kernel_rfl) (by kernel_rfl) (by kernel_rfl) (fun _ _ _ h => h) rfl (Or.inl ⟨by rfl, fun w' hS => ?_⟩) hHeld ?_
      · go_simp
      simp only [List.set_cons_zero, List.set_cons_succ]
      refine wpAnyH_ready (rs := [14, 16]) (by kernel_rfl) (by simp) (AllReadyH.cons rfl (fun K' hK => ?_) (AllReadyH.cons rfl (fun K' hK => ?_) AllReadyH.nil))
      · go_simp
        go_at_call 27
        refine (sum_s HO.out HS_4.out HB_4.out (Nat.le_refl _)).mono ?_
        rintro e0 w_5 ⟨rfl, hs_5, hsv_5, hb_5⟩
        go_wp2_with fail
        have HB_5 : Hid (Below w1.heap.size w1 w_5) := hb_5
        have HT_5 := Lib.hid hs_5
        have HS_5 : Hid (StrV w_5 w1.heap.size gs w1.heap.size v5 ([] ++ b.take k ++ [] ++ b.drop k)) := hs_5
        clear hb_5 hs_5 hsv_5
        refine hK.out _ _ trivial (fun hHeld' => ?_)
        clear hK hHeld
        have hHeld := hHeld'
        clear hHeld'
        refine wpAnyH_ready (rs := [16]) (by kernel_rfl) (by simp) (AllReadyH.cons rfl (fun K' hK => ?_) AllReadyH.nil)
        go_simp
        have HB_6 : Hid (Below w1.heap.size w1 (World.alloc w_5 (.cells #[(.slice A0 n c0)] 27))) := balloc HB_5.out _
        have HS_6 : Hid (StrV (World.alloc w_5 (.cells #[(.slice A0 n c0)] 27)) w1.heap.size gs w1.heap.size v5 ([] ++ b.take k ++ [] ++ b.drop k)) := HS_5.out.below (balloc (Below.refl _ _) _)
        have HK_6 : Hid (Blk (World.alloc w_5 (.cells #[(.slice A0 n c0)] 27)) w_5.heap.size 27 #[(.slice A0 n c0)]) := Blk.newAt (w := w_5) (by simp only [sz_drew, World.size_alloc]) _ _
        have HN_6 : Hid (w1.heap.size < w_5.heap.size) := by show _ < _; have := HT_5.out.2.2.lt; omega
        refine hK.out _ _ trivial (fun hHeld' => ?_)
        clear hK hHeld
        have hHeld := hHeld'
        clear hHeld'
        refine wpAnyH_ready (rs := [17]) (by kernel_rfl) (by simp) (AllReadyH.cons rfl (fun K' hK => ?_) AllReadyH.nil)
        go_simp
        go_at_call 22
        refine (of_blk HP1.out (Parts.one HK_6.out (H01.out.below HB_6.out)) rfl (by simp)).mono ?_
        rintro e0 w_7 ⟨rfl, hb_7⟩
        go_wp2_with fail
        have HB_7 : Hid (Below w1.heap.size w1 w_7) := bcall HB_6.out hb_7
        have HT_7 : Hid (StrV w_7 w1.heap.size gs w1.heap.size v5 ([] ++ b.take k ++ [] ++ b.drop k)) := HS_6.out.below hb_7
        have HS_7 : Hid (StrV w_7 w1.heap.size gs w1.heap.size v5 ([] ++ b.take k ++ [] ++ b.drop k)) := HS_6.out.below hb_7
        clear hb_7
        refine hK.out _ _ trivial (fun hHeld' => ?_)
        clear hK hHeld
        have hHeld := hHeld'
        clear hHeld'
        refine wpAnyH_takeAt (i := 18) (v := (.bool true)) rfl (by kernel_rfl) (by kernel_rfl) (by kernel_rfl) (fun _ _ _ h => h) rfl (Or.inl ⟨by rfl, fun w' hS => ?_⟩) hHeld ?_
        · go_simp
        simp only [List.set_cons_zero, List.set_cons_succ]
        refine wpAnyH_takeAt (i := 19) (v := (.bool true)) rfl (by kernel_rfl) (by kernel_rfl) (by kernel_rfl) (fun _ _ _ h => h) rfl (Or.inl ⟨by rfl, fun w' hS => ?_⟩) hHeld ?_
        · go_simp
        simp only [List.set_cons_zero, List.set_cons_succ]
        refine wpAnyH_takeAt (i := 20) (v := (.bool true)) rfl (by kernel_rfl) (by kernel_rfl) (by kernel_rfl) (fun _ _ _ h => h) rfl (Or.inl ⟨by rfl, fun w' hS => ?_⟩) hHeld ?_
        · go_simp
        simp only [List.set_cons_zero, List.set_cons_succ]
        refine wpAnyH_done (by kernel_rfl) ?_ _
        go_wp2_with fail
        go_ret
        exact ⟨rfl, bcall HB1.out HB_7.out⟩
      · go_simp
        have HB_8 : Hid (Below w1.heap.size w1 (World.alloc w_4 (.cells #[(.slice A0 n c0)] 27))) := balloc HB_4.out _
        have HS_8 : Hid (StrV (World.alloc w_4 (.cells #[(.slice A0 n c0)] 27)) w1.heap.size gs w1.heap.size v5 ([] ++ b.take k ++ [] ++ b.drop k)) := HS_4.out.below (balloc (Below.refl _ _) _)
        have HK_8 : Hid (Blk (World.alloc w_4 (.cells #[(.slice A0 n c0)] 27)) w_4.heap.size 27 #[(.slice A0 n c0)]) := Blk.newAt (w := w_4) (by simp only [sz_drew, World.size_alloc]) _ _
        have HN_8 : Hid (w1.heap.size < w_4.heap.size) := by show _ < _; have := HT_4.out.2.2.lt; omega
        refine hK.out _ _ trivial (fun hHeld' => ?_)
        clear hK hHeld
        have hHeld := hHeld'
        clear hHeld'
        refine wpAnyH_ready (rs := [14]) (by kernel_rfl) (by simp) (AllReadyH.cons rfl (fun K' hK => ?_) AllReadyH.nil)
        go_simp
        go_at_call 27
        refine (sum_s HO.out HS_8.out HB_8.out (Nat.le_refl _)).mono ?_
        rintro e0 w_9 ⟨rfl, hs_9, hsv_9, hb_9⟩
        go_wp2_with fail
        have HB_9 : Hid (Below w1.heap.size w1 w_9) := hb_9
        have HT_9 := Lib.hid hs_9
        have HS_9 : Hid (StrV w_9 w1.heap.size gs w1.heap.size v5 ([] ++ b.take k ++ [] ++ b.drop k)) := hs_9
        have HK_8_9 : Hid (Blk w_9 w_4.heap.size 27 #[(.slice A0 n c0)]) := hsv_9.blk HK_8.out (fun e => by have := HN_8.out; omega)
        clear hb_9 hs_9 hsv_9
        refine hK.out _ _ trivial (fun hHeld' => ?_)
        clear hK hHeld
        have hHeld := hHeld'
        clear hHeld'
        refine wpAnyH_ready (rs := [17]) (by kernel_rfl) (by simp) (AllReadyH.cons rfl (fun K' hK => ?_) AllReadyH.nil)
        go_simp
        go_at_call 22
        refine (of_blk HP1.out (Parts.one HK_8_9.out (H01.out.below HB_9.out)) rfl (by simp)).mono ?_
        rintro e0 w_10 ⟨rfl, hb_10⟩
        go_wp2_with fail
        have HB_10 : Hid (Below w1.heap.size w1 w_10) := bcall HB_9.out hb_10
        have HT_10 : Hid (StrV w_10 w1.heap.size gs w1.heap.size v5 ([] ++ b.take k ++ [] ++ b.drop k)) := HS_9.out.below hb_10
        have HS_10 : Hid (StrV w_10 w1.heap.size gs w1.heap.size v5 ([] ++ b.take k ++ [] ++ b.drop k)) := HS_9.out.below hb_10
        clear hb_10
        refine hK.out _ _ trivial (fun hHeld' => ?_)
        clear hK hHeld
        have hHeld := hHeld'
        clear hHeld'
        refine wpAnyH_takeAt (i := 18) (v := (.bool true)) rfl (by kernel_rfl) (by kernel_rfl) (by kernel_rfl) (fun _ _ _ h => h) rfl (Or.inl ⟨by rfl, fun w' hS => ?_⟩) hHeld ?_
        · go_simp
        simp only [List.set_cons_zero, List.set_cons_succ]
        refine wpAnyH_takeAt (i := 19) (v := (.bool true)) rfl (by kernel_rfl) (by kernel_rfl) (by kernel_rfl) (fun _ _ _ h => h) rfl (Or.inl ⟨by rfl, fun w' hS => ?_⟩) hHeld ?_
        · go_simp
        simp only [List.set_cons_zero, List.set_cons_succ]
        refine wpAnyH_takeAt (i := 20) (v := (.bool true)) rfl (by kernel_rfl) (by kernel_rfl) (by kernel_rfl) (fun _ _ _ h => h) rfl (Or.inl ⟨by rfl, fun w' hS => ?_⟩) hHeld ?_
        · go_simp
        simp only [List.set_cons_zero, List.set_cons_succ]
        refine wpAnyH_done (by kernel_rfl) ?_ _
        go_wp2_with fail
        go_ret
        exact ⟨rfl, bcall HB1.out HB_10.out⟩
    · go_simp
      have HB_11 : Hid (Below w1.heap.size w1 (World.drew (World.alloc (World.alloc w5 (.cells #[(.slice (cutA A0 c0 0) k c0), (.slice (cutA A0 c0 k) (n - k) (c0 - k))] 27)) (.cells #[(.slice A0 n c0)] 27)))) := balloc HB_1.out _
      have HS_11 : Hid (StrV (World.drew (World.alloc (World.alloc w5 (.cells #[(.slice (cutA A0 c0 0) k c0), (.slice (cutA A0 c0 k) (n - k) (c0 - k))] 27)) (.cells #[(.slice A0 n c0)] 27))) w1.heap.size gs w1.heap.size v5 ([] ++ b.take k ++ [] ++ b.drop k)) := HS_1.out.below (balloc (Below.refl _ _) _)
      have HK_11 : Hid (Blk (World.drew (World.alloc (World.alloc w5 (.cells #[(.slice (cutA A0 c0 0) k c0), (.slice (cutA A0 c0 k) (n - k) (c0 - k))] 27)) (.cells #[(.slice A0 n c0)] 27))) (w5.heap.size + 1) 27 #[(.slice A0 n c0)]) := Blk.newAt (w := (World.drew (World.alloc w5 (.cells #[(.slice (cutA A0 c0 0) k c0), (.slice (cutA A0 c0 k) (n - k) (c0 - k))] 27)))) (by simp only [sz_drew, World.size_alloc]) _ _
      have HN_11 : Hid (w1.heap.size < (w5.heap.size + 1)) := by show _ < _; have := HS5.out.2.2.lt; omega
      have HK_1_11 : Hid (Blk (World.drew (World.alloc (World.alloc w5 (.cells #[(.slice (cutA A0 c0 0) k c0), (.slice (cutA A0 c0 k) (n - k) (c0 - k))] 27)) (.cells #[(.slice A0 n c0)] 27))) w5.heap.size 27 #[(.slice (cutA A0 c0 0) k c0), (.slice (cutA A0 c0 k) (n - k) (c0 - k))]) := Blk.alloc HK_1.out _
      refine hK.out _ _ trivial (fun hHeld' => ?_)
      clear hK hHeld
      have hHeld := hHeld'
      clear hHeld'
      refine wpAnyH_ready (rs := [7]) (by kernel_rfl) (by simp) (AllReadyH.cons rfl (fun K' hK => ?_) AllReadyH.nil)
      go_simp
      go_at_call 22
      refine (of_blk HP2.out (Parts.two HK_1_11.out (HT1.out.below HB_11.out) (HF1.out.below HB_11.out)) rfl (by simp)).mono ?_
      rintro e0 w_12 ⟨rfl, hb_12⟩
      go_wp2_with fail
      have HB_12 : Hid (Below w1.heap.size w1 w_12) := bcall HB_11.out hb_12
      have HT_12 : Hid (StrV w_12 w1.heap.size gs w1.heap.size v5 ([] ++ b.take k ++ [] ++ b.drop k)) := HS_11.out.below hb_12
      have HS_12 : Hid (StrV w_12 w1.heap.size gs w1.heap.size v5 ([] ++ b.take k ++ [] ++ b.drop k)) := HS_11.out.below hb_12
      have HK_11_12 : Hid (Blk w_12 (w5.heap.size + 1) 27 #[(.slice A0 n c0)]) := Blk.below HK_11.out hb_12
      clear hb_12
      refine hK.out _ _ trivial (fun hHeld' => ?_)
      clear hK hHeld
      have hHeld := hHeld'
      clear hHeld'
      refine wpAnyH_ready (rs := [10]) (by kernel_rfl) (by simp) (AllReadyH.cons rfl (fun K' hK => ?_) AllReadyH.nil)
      go_simp
      go_at_call 22
      refine (of_blk HP1.out (Parts.one HK_11_12.out (H01.out.below HB_12.out)) rfl (by simp)).mono ?_
      rintro e0 w_13 ⟨rfl, hb_13⟩
      go_wp2_with fail
      have HB_13 : Hid (Below w1.heap.size w1 w_13) := bcall HB_12.out hb_13
      have HT_13 : Hid (StrV w_13 w1.heap.size gs w1.heap.size v5 ([] ++ b.take k ++ [] ++ b.drop k)) := HS_12.out.below hb_13
      have HS_13 : Hid (StrV w_13 w1.heap.size gs w1.heap.size v5 ([] ++ b.take k ++ [] ++ b.drop k)) := HS_12.out.below hb_13
      clear hb_13
      refine hK.out _ _ trivial (fun hHeld' => ?_)
      clear hK hHeld
      have hHeld := hHeld'
      clear hHeld'
      refine wpAnyH_takeAt (i := 11) (v := (.bool true)) rfl (by kernel_rfl) (by kernel_rfl) (by kernel_rfl) (fun _ _ _ h => h) rfl (Or.inl ⟨by rfl, fun w' hS => ?_⟩) hHeld ?_
      · go_simp
      simp only [List.set_cons_zero, List.set_cons_succ]
      refine wpAnyH_takeAt (i := 12) (v := (.bool true)) rfl (by kernel_rfl) (by kernel_rfl) (by kernel_rfl) (fun _ _ _ h => h) rfl (Or.inl ⟨by rfl, fun w' hS => ?_⟩) hHeld ?_
      · go_simp
      simp only [List.set_cons_zero, List.set_cons_succ]
      refine wpAnyH_takeAt (i := 13) (v := (.pointer (some ⟨gs, 0, none⟩))) rfl (by kernel_rfl) (by kernel_rfl) (by kernel_rfl) (fun _ _ _ h => h) rfl (Or.inl ⟨by rfl, fun w' hS => ?_⟩) hHeld ?_
      · go_simp
      simp only [List.set_cons_zero, List.set_cons_succ]
      refine wpAnyH_takeAt (i := 15) (v := (.slice A0 n c0)) rfl (by kernel_rfl) (by kernel_rfl) (by kernel_rfl) (fun _ _ _ h => h) rfl (Or.inl ⟨by rfl, fun w' hS => ?_⟩) hHeld ?_
      · go_simp
      simp only [List.set_cons_zero, List.set_cons_succ]
      refine wpAnyH_ready (rs := [14, 16]) (by kernel_rfl) (by simp) (AllReadyH.cons rfl (fun K' hK => ?_) (AllReadyH.cons rfl (fun K' hK => ?_) AllReadyH.nil))
      · go_simp
        go_at_call 27
        refine (sum_s HO.out HS_13.out HB_13.out (Nat.le_refl _)).mono ?_
        rintro e0 w_14 ⟨rfl, hs_14, hsv_14, hb_14⟩
        go_wp2_with fail
        have HB_14 : Hid (Below w1.heap.size w1 w_14) := hb_14
        have HT_14 := Lib.hid hs_14
        have HS_14 : Hid (StrV w_14 w1.heap.size gs w1.heap.size v5 ([] ++ b.take k ++ [] ++ b.drop k)) := hs_14
        clear hb_14 hs_14 hsv_14
        refine hK.out _ _ trivial (fun hHeld' => ?_)
        clear hK hHeld
        have hHeld := hHeld'
        clear hHeld'
        refine wpAnyH_ready (rs := [16]) (by kernel_rfl) (by simp) (AllReadyH.cons rfl (fun K' hK => ?_) AllReadyH.nil)
        go_simp
        have HB_15 : Hid (Below w1.heap.size w1 (World.alloc w_14 (.cells #[(.slice A0 n c0)] 27))) := balloc HB_14.out _
        have HS_15 : Hid (StrV (World.alloc w_14 (.cells #[(.slice A0 n c0)] 27)) w1.heap.size gs w1.heap.size v5 ([] ++ b.take k ++ [] ++ b.drop k)) := HS_14.out.below (balloc (Below.refl _ _) _)
        have HK_15 : Hid (Blk (World.alloc w_14 (.cells #[(.slice A0 n c0)] 27)) w_14.heap.size 27 #[(.slice A0 n c0)]) := Blk.newAt (w := w_14) (by simp only [sz_drew, World.size_alloc]) _ _
        have HN_15 : Hid (w1.heap.size < w_14.heap.size) := by show _ < _; have := HT_14.out.2.2.lt; omega
        refine hK.out _ _ trivial (fun hHeld' => ?_)
        clear hK hHeld
        have hHeld := hHeld'
        clear hHeld'
        refine wpAnyH_ready (rs := [17]) (by kernel_rfl) (by simp) (AllReadyH.cons rfl (fun K' hK => ?_) AllReadyH.nil)
        go_simp
        go_at_call 22
        refine (of_blk HP1.out (Parts.one HK_15.out (H01.out.below HB_15.out)) rfl (by simp)).mono ?_
        rintro e0 w_16 ⟨rfl, hb_16⟩
        go_wp2_with fail
        have HB_16 : Hid (Below w1.heap.size w1 w_16) := bcall HB_15.out hb_16
        have HT_16 : Hid (StrV w_16 w1.heap.size gs w1.heap.size v5 ([] ++ b.take k ++ [] ++ b.drop k)) := HS_15.out.below hb_16
        have HS_16 : Hid (StrV w_16 w1.heap.size gs w1.heap.size v5 ([] ++ b.take k ++ [] ++ b.drop k)) := HS_15.out.below hb_16
        clear hb_16
        refine hK.out _ _ trivial (fun hHeld' => ?_)
        clear hK hHeld
        have hHeld := hHeld'
        clear hHeld'
        refine wpAnyH_takeAt (i := 18) (v := (.bool true)) rfl (by kernel_rfl) (by kernel_rfl) (by kernel_rfl) (fun _ _ _ h => h) rfl (Or.inl ⟨by rfl, fun w' hS => ?_⟩) hHeld ?_
        · go_simp
        simp only [List.set_cons_zero, List.set_cons_succ]
        refine wpAnyH_takeAt (i := 19) (v := (.bool true)) rfl (by kernel_rfl) (by kernel_rfl) (by kernel_rfl) (fun _ _ _ h => h) rfl (Or.inl ⟨by rfl, fun w' hS => ?_⟩) hHeld ?_
        · go_simp
        simp only [List.set_cons_zero, List.set_cons_succ]
        refine wpAnyH_takeAt (i := 20) (v := (.bool true)) rfl (by kernel_rfl) (by kernel_rfl) (by kernel_rfl) (fun _ _ _ h => h) rfl (Or.inl ⟨by rfl, fun w' hS => ?_⟩) hHeld ?_
        · go_simp
        simp only [List.set_cons_zero, List.set_cons_succ]
        refine wpAnyH_done (by kernel_rfl) ?_ _
        go_wp2_with fail
        go_ret
        exact ⟨rfl, bcall HB1.out HB_16.out⟩
      · go_simp
        have HB_17 : Hid (Below w1.heap.size w1 (World.alloc w_13 (.cells #[(.slice A0 n c0)] 27))) := balloc HB_13.out _
        have HS_17 : Hid (StrV (World.alloc w_13 (.cells #[(.slice A0 n c0)] 27)) w1.heap.size gs w1.heap.size v5 ([] ++ b.take k ++ [] ++ b.drop k)) := HS_13.out.below (balloc (Below.refl _ _) _)
        have HK_17 : Hid (Blk (World.alloc w_13 (.cells #[(.slice A0 n c0)] 27)) w_13.heap.size 27 #[(.slice A0 n c0)]) := Blk.newAt (w := w_13) (by simp only [sz_drew, World.size_alloc]) _ _
        have HN_17 : Hid (w1.heap.size < w_13.heap.size) := by show _ < _; have := HT_13.out.2.2.lt; omega
        refine hK.out _ _ trivial (fun hHeld' => ?_)
        clear hK hHeld
        have hHeld := hHeld'
        clear hHeld'
        refine wpAnyH_ready (rs := [14]) (by kernel_rfl) (by simp) (AllReadyH.cons rfl (fun K' hK => ?_) AllReadyH.nil)
        go_simp
        go_at_call 27
        refine (sum_s HO.out HS_17.out HB_17.out (Nat.le_refl _)).mono ?_
        rintro e0 w_18 ⟨rfl, hs_18, hsv_18, hb_18⟩
        go_wp2_with fail
        have HB_18 : Hid (Below w1.heap.size w1 w_18) := hb_18
        have HT_18 := Lib.hid hs_18
        have HS_18 : Hid (StrV w_18 w1.heap.size gs w1.heap.size v5 ([] ++ b.take k ++ [] ++ b.drop k)) := hs_18
        have HK_17_18 : Hid (Blk w_18 w_13.heap.size 27 #[(.slice A0 n c0)]) := hsv_18.blk HK_17.out (fun e => by have := HN_17.out; omega)
        clear hb_18 hs_18 hsv_18
        refine hK.out _ _ trivial (fun hHeld' => ?_)
        clear hK hHeld
        have hHeld := hHeld'
        clear hHeld'
        refine wpAnyH_ready (rs := [17]) (by kernel_rfl) (by simp) (AllReadyH.cons rfl (fun K' hK => ?_) AllReadyH.nil)
        go_simp
        go_at_call 22
        refine (of_blk HP1.out (Parts.one HK_17_18.out (H01.out.below HB_18.out)) rfl (by simp)).mono ?_
        rintro e0 w_19 ⟨rfl, hb_19⟩
        go_wp2_with fail
        have HB_19 : Hid (Below w1.heap.size w1 w_19) := bcall HB_18.out hb_19
        have HT_19 : Hid (StrV w_19 w1.heap.size gs w1.heap.size v5 ([] ++ b.take k ++ [] ++ b.drop k)) := HS_18.out.below hb_19
        have HS_19 : Hid (StrV w_19 w1.heap.size gs w1.heap.size v5 ([] ++ b.take k ++ [] ++ b.drop k)) := HS_18.out.below hb_19
        clear hb_19
        refine hK.out _ _ trivial (fun hHeld' => ?_)
        clear hK hHeld
        have hHeld := hHeld'
        clear hHeld'
        refine wpAnyH_takeAt (i := 18) (v := (.bool true)) rfl (by kernel_rfl) (by kernel_rfl) (by kernel_rfl) (fun _ _ _ h => h) rfl (Or.inl ⟨by rfl, fun w' hS => ?_⟩) hHeld ?_
        · go_simp
        simp only [List.set_cons_zero, List.set_cons_succ]
        refine wpAnyH_takeAt (i := 19) (v := (.bool true)) rfl (by kernel_rfl) (by kernel_rfl) (by kernel_rfl) (fun _ _ _ h => h) rfl (Or.inl ⟨by rfl, fun w' hS => ?_⟩) hHeld ?_
        · go_simp
        simp only [List.set_cons_zero, List.set_cons_succ]
        refine wpAnyH_takeAt (i := 20) (v := (.bool true)) rfl (by kernel_rfl) (by kernel_rfl) (by kernel_rfl) (fun _ _ _ h => h) rfl (Or.inl ⟨by rfl, fun w' hS => ?_⟩) hHeld ?_
        · go_simp
        simp only [List.set_cons_zero, List.set_cons_succ]
        refine wpAnyH_done (by kernel_rfl) ?_ _
        go_wp2_with fail
        go_ret
        exact ⟨rfl, bcall HB1.out HB_19.out⟩
  · go_simp
    have HB_20 : Hid (Below w1.heap.size w1 (World.drew (World.alloc w5 (.cells #[(.slice A0 n c0)] 27)))) := balloc HB6.out _
    have HS_20 : Hid (StrV (World.drew (World.alloc w5 (.cells #[(.slice A0 n c0)] 27))) w1.heap.size gs w1.heap.size v5 ([] ++ b.take k ++ [] ++ b.drop k)) := HS6.out.below (balloc (Below.refl _ _) _)
    have HK_20 : Hid (Blk (World.drew (World.alloc w5 (.cells #[(.slice A0 n c0)] 27))) w5.heap.size 27 #[(.slice A0 n c0)]) := Blk.newAt (w := (World.drew w5)) (by simp only [sz_drew, World.size_alloc]) _ _
    have HN_20 : Hid (w1.heap.size < w5.heap.size) := by show _ < _; have := HS5.out.2.2.lt; omega
    refine hK.out _ _ trivial (fun hHeld' => ?_)
    clear hK hHeld
    have hHeld := hHeld'
    clear hHeld'
    refine wpAnyH_ready (rs := [6]) (by kernel_rfl) (by simp) (AllReadyH.cons rfl (fun K' hK => ?_) AllReadyH.nil)
    go_simp
    have HB_21 : Hid (Below w1.heap.size w1 (World.drew (World.alloc (World.alloc w5 (.cells #[(.slice A0 n c0)] 27)) (.cells #[(.slice (cutA A0 c0 0) k c0), (.slice (cutA A0 c0 k) (n - k) (c0 - k))] 27)))) := balloc HB_20.out _
    have HS_21 : Hid (StrV (World.drew (World.alloc (World.alloc w5 (.cells #[(.slice A0 n c0)] 27)) (.cells #[(.slice (cutA A0 c0 0) k c0), (.slice (cutA A0 c0 k) (n - k) (c0 - k))] 27))) w1.heap.size gs w1.heap.size v5 ([] ++ b.take k ++ [] ++ b.drop k)) := HS_20.out.below (balloc (Below.refl _ _) _)
    have HK_21 : Hid (Blk (World.drew (World.alloc (World.alloc w5 (.cells #[(.slice A0 n c0)] 27)) (.cells #[(.slice (cutA A0 c0 0) k c0), (.slice (cutA A0 c0 k) (n - k) (c0 - k))] 27))) (w5.heap.size + 1) 27 #[(.slice (cutA A0 c0 0) k c0), (.slice (cutA A0 c0 k) (n - k) (c0 - k))]) := Blk.newAt (w := (World.drew (World.alloc w5 (.cells #[(.slice A0 n c0)] 27)))) (by simp only [sz_drew, World.size_alloc]) _ _
    have HN_21 : Hid (w1.heap.size < (w5.heap.size + 1)) := by show _ < _; have := HS5.out.2.2.lt; omega
    have HK_20_21 : Hid (Blk (World.drew (World.alloc (World.alloc w5 (.cells #[(.slice A0 n c0)] 27)) (.cells #[(.slice (cutA A0 c0 0) k c0), (.slice (cutA A0 c0 k) (n - k) (c0 - k))] 27))) w5.heap.size 27 #[(.slice A0 n c0)]) := Blk.alloc HK_20.out _
    refine hK.out _ _ trivial (fun hHeld' => ?_)
    clear hK hHeld
    have hHeld := hHeld'
    clear hHeld'
    refine wpAnyH_ready (rs := [7]) (by kernel_rfl) (by simp) (AllReadyH.cons rfl (fun K' hK => ?_) AllReadyH.nil)
    go_simp
    go_at_call 22
    refine (of_blk HP2.out (Parts.two HK_21.out (HT1.out.below HB_21.out) (HF1.out.below HB_21.out)) rfl (by simp)).mono ?_
    rintro e0 w_22 ⟨rfl, hb_22⟩
    go_wp2_with fail
    have HB_22 : Hid (Below w1.heap.size w1 w_22) := bcall HB_21.out hb_22
    have HT_22 : Hid (StrV w_22 w1.heap.size gs w1.heap.size v5 ([] ++ b.take k ++ [] ++ b.drop k)) := HS_21.out.below hb_22
    have HS_22 : Hid (StrV w_22 w1.heap.size gs w1.heap.size v5 ([] ++ b.take k ++ [] ++ b.drop k)) := HS_21.out.below hb_22
    have HK_20_21_22 : Hid (Blk w_22 w5.heap.size 27 #[(.slice A0 n c0)]) := Blk.below HK_20_21.out hb_22
    clear hb_22
    refine hK.out _ _ trivial (fun hHeld' => ?_)
    clear hK hHeld
    have hHeld := hHeld'
    clear hHeld'
    refine wpAnyH_ready (rs := [10]) (by kernel_rfl) (by simp) (AllReadyH.cons rfl (fun K' hK => ?_) AllReadyH.nil)
    go_simp
    go_at_call 22
    refine (of_blk HP1.out (Parts.one HK_20_21_22.out (H01.out.below HB_22.out)) rfl (by simp)).mono ?_
    rintro e0 w_23 ⟨rfl, hb_23⟩
    go_wp2_with fail
    have HB_23 : Hid (Below w1.heap.size w1 w_23) := bcall HB_22.out hb_23
    have HT_23 : Hid (StrV w_23 w1.heap.size gs w1.heap.size v5 ([] ++ b.take k ++ [] ++ b.drop k)) := HS_22.out.below hb_23
    have HS_23 : Hid (StrV w_23 w1.heap.size gs w1.heap.size v5 ([] ++ b.take k ++ [] ++ b.drop k)) := HS_22.out.below hb_23
    clear hb_23
    refine hK.out _ _ trivial (fun hHeld' => ?_)
    clear hK hHeld
    have hHeld := hHeld'
    clear hHeld'
    refine wpAnyH_takeAt (i := 11) (v := (.bool true)) rfl (by kernel_rfl) (by kernel_rfl) (by kernel_rfl) (fun _ _ _ h => h) rfl (Or.inl ⟨by rfl, fun w' hS => ?_⟩) hHeld ?_
    · go_simp
    simp only [List.set_cons_zero, List.set_cons_succ]
    refine wpAnyH_takeAt (i := 12) (v := (.bool true)) rfl (by kernel_rfl) (by kernel_rfl) (by kernel_rfl) (fun _ _ _ h => h) rfl (Or.inl ⟨by rfl, fun w' hS => ?_⟩) hHeld ?_
    · go_simp
    simp only [List.set_cons_zero, List.set_cons_succ]
    refine wpAnyH_takeAt (i := 13) (v := (.pointer (some ⟨gs, 0, none⟩))) rfl (by kernel_rfl) (by kernel_rfl) (by kernel_rfl) (fun _ _ _ h => h) rfl (Or.inl ⟨by rfl, fun w' hS => ?_⟩) hHeld ?_
    · go_simp
    simp only [List.set_cons_zero, List.set_cons_succ]
    refine wpAnyH_takeAt (i := 15) (v := (.slice A0 n c0)) rfl (by kernel_rfl) (by kernel_rfl) (by kernel_rfl) (fun _ _ _ h => h) rfl (Or.inl ⟨by rfl, fun w' hS => ?_⟩) hHeld ?_
    · go_simp
    simp only [List.set_cons_zero, List.set_cons_succ]
    refine wpAnyH_ready (rs := [14, 16]) (by kernel_rfl) (by simp) (AllReadyH.cons rfl (fun K' hK => ?_) (AllReadyH.cons rfl (fun K' hK => ?_) AllReadyH.nil))
    · go_simp
      go_at_call 27
      refine (sum_s HO.out HS_23.out HB_23.out (Nat.le_refl _)).mono ?_
      rintro e0 w_24 ⟨rfl, hs_24, hsv_24, hb_24⟩
      go_wp2_with fail
      have HB_24 : Hid (Below w1.heap.size w1 w_24) := hb_24
      have HT_24 := Lib.hid hs_24
      have HS_24 : Hid (StrV w_24 w1.heap.size gs w1.heap.size v5 ([] ++ b.take k ++ [] ++ b.drop k)) := hs_24
      clear hb_24 hs_24 hsv_24
      refine hK.out _ _ trivial (fun hHeld' => ?_)
      clear hK hHeld
      have hHeld := hHeld'
      clear hHeld'
      refine wpAnyH_ready (rs := [16]) (by kernel_rfl) (by simp) (AllReadyH.cons rfl (fun K' hK => ?_) AllReadyH.nil)
      go_simp
      have HB_25 : Hid (Below w1.heap.size w1 (World.alloc w_24 (.cells #[(.slice A0 n c0)] 27))) := balloc HB_24.out _
      have HS_25 : Hid (StrV (World.alloc w_24 (.cells #[(.slice A0 n c0)] 27)) w1.heap.size gs w1.heap.size v5 ([] ++ b.take k ++ [] ++ b.drop k)) := HS_24.out.below (balloc (Below.refl _ _) _)
      have HK_25 : Hid (Blk (World.alloc w_24 (.cells #[(.slice A0 n c0)] 27)) w_24.heap.size 27 #[(.slice A0 n c0)]) := Blk.newAt (w := w_24) (by simp only [sz_drew, World.size_alloc]) _ _
      have HN_25 : Hid (w1.heap.size < w_24.heap.size) := by show _ < _; have := HT_24.out.2.2.lt; omega
      refine hK.out _ _ trivial (fun hHeld' => ?_)
      clear hK hHeld
      have hHeld := hHeld'
      clear hHeld'
      refine wpAnyH_ready (rs := [17]) (by kernel_rfl) (by simp) (AllReadyH.cons rfl (fun K' hK => ?_) AllReadyH.nil)
      go_simp
      go_at_call 22
      refine (of_blk HP1.out (Parts.one HK_25.out (H01.out.below HB_25.out)) rfl (by simp)).mono ?_
      rintro e0 w_26 ⟨rfl, hb_26⟩
      go_wp2_with fail
      have HB_26 : Hid (Below w1.heap.size w1 w_26) := bcall HB_25.out hb_26
      have HT_26 : Hid (StrV w_26 w1.heap.size gs w1.heap.size v5 ([] ++ b.take k ++ [] ++ b.drop k)) := HS_25.out.below hb_26
      have HS_26 : Hid (StrV w_26 w1.heap.size gs w1.heap.size v5 ([] ++ b.take k ++ [] ++ b.drop k)) := HS_25.out.below hb_26
      clear hb_26
      refine hK.out _ _ trivial (fun hHeld' => ?_)
      clear hK hHeld
      have hHeld := hHeld'
      clear hHeld'
      refine wpAnyH_takeAt (i := 18) (v := (.bool true)) rfl (by kernel_rfl) (by kernel_rfl) (by kernel_rfl) (fun _ _ _ h => h) rfl (Or.inl ⟨by rfl, fun w' hS => ?_⟩) hHeld ?_
      · go_simp
      simp only [List.set_cons_zero, List.set_cons_succ]
      refine wpAnyH_takeAt (i := 19) (v := (.bool true)) rfl (by kernel_rfl) (by kernel_rfl) (by kernel_rfl) (fun _ _ _ h => h) rfl (Or.inl ⟨by rfl, fun w' hS => ?_⟩) hHeld ?_
      · go_simp
      simp only [List.set_cons_zero, List.set_cons_succ]
      refine wpAnyH_takeAt (i := 20) (v := (.bool true)) rfl (by kernel_rfl) (by kernel_rfl) (by kernel_rfl) (fun _ _ _ h => h) rfl (Or.inl ⟨by rfl, fun w' hS => ?_⟩) hHeld ?_
      · go_simp
      simp only [List.set_cons_zero, List.set_cons_succ]
      refine wpAnyH_done (by kernel_rfl) ?_ _
      go_wp2_with fail
      go_ret
      exact ⟨rfl, bcall HB1.out HB_26.out⟩
    · go_simp
      have HB_27 : Hid (Below w1.heap.size w1 (World.alloc w_23 (.cells #[(.slice A0 n c0)] 27))) := balloc HB_23.out _
      have HS_27 : Hid (StrV (World.alloc w_23 (.cells #[(.slice A0 n c0)] 27)) w1.heap.size gs w1.heap.size v5 ([] ++ b.take k ++ [] ++ b.drop k)) := HS_23.out.below (balloc (Below.refl _ _) _)
      have HK_27 : Hid (Blk (World.alloc w_23 (.cells #[(.slice A0 n c0)] 27)) w_23.heap.size 27 #[(.slice A0 n c0)]) := Blk.newAt (w := w_23) (by simp only [sz_drew, World.size_alloc]) _ _
      have HN_27 : Hid (w1.heap.size < w_23.heap.size) := by show _ < _; have := HT_23.out.2.2.lt; omega
      refine hK.out _ _ trivial (fun hHeld' => ?_)
      clear hK hHeld
      have hHeld := hHeld'
      clear hHeld'
      refine wpAnyH_ready (rs := [14]) (by kernel_rfl) (by simp) (AllReadyH.cons rfl (fun K' hK => ?_) AllReadyH.nil)
      go_simp
      go_at_call 27
      refine (sum_s HO.out HS_27.out HB_27.out (Nat.le_refl _)).mono ?_
      rintro e0 w_28 ⟨rfl, hs_28, hsv_28, hb_28⟩
      go_wp2_with fail
      have HB_28 : Hid (Below w1.heap.size w1 w_28) := hb_28
      have HT_28 := Lib.hid hs_28
      have HS_28 : Hid (StrV w_28 w1.heap.size gs w1.heap.size v5 ([] ++ b.take k ++ [] ++ b.drop k)) := hs_28
      have HK_27_28 : Hid (Blk w_28 w_23.heap.size 27 #[(.slice A0 n c0)]) := hsv_28.blk HK_27.out (fun e => by have := HN_27.out; omega)
      clear hb_28 hs_28 hsv_28
      refine hK.out _ _ trivial (fun hHeld' => ?_)
      clear hK hHeld
      have hHeld := hHeld'
      clear hHeld'
      refine wpAnyH_ready (rs := [17]) (by kernel_rfl) (by simp) (AllReadyH.cons rfl (fun K' hK => ?_) AllReadyH.nil)
      go_simp
      go_at_call 22
      refine (of_blk HP1.out (Parts.one HK_27_28.out (H01.out.below HB_28.out)) rfl (by simp)).mono ?_
      rintro e0 w_29 ⟨rfl, hb_29⟩
      go_wp2_with fail
      have HB_29 : Hid (Below w1.heap.size w1 w_29) := bcall HB_28.out hb_29
      have HT_29 : Hid (StrV w_29 w1.heap.size gs w1.heap.size v5 ([] ++ b.take k ++ [] ++ b.drop k)) := HS_28.out.below hb_29
      have HS_29 : Hid (StrV w_29 w1.heap.size gs w1.heap.size v5 ([] ++ b.take k ++ [] ++ b.drop k)) := HS_28.out.below hb_29
      clear hb_29
      refine hK.out _ _ trivial (fun hHeld' => ?_)
      clear hK hHeld
      have hHeld := hHeld'
      clear hHeld'
      refine wpAnyH_takeAt (i := 18) (v := (.bool true)) rfl (by kernel_rfl) (by kernel_rfl) (by kernel_rfl) (fun _ _ _ h => h) rfl (Or.inl ⟨by rfl, fun w' hS => ?_⟩) hHeld ?_
      · go_simp
      simp only [List.set_cons_zero, List.set_cons_succ]
      refine wpAnyH_takeAt (i := 19) (v := (.bool true)) rfl (by kernel_rfl) (by kernel_rfl) (by kernel_rfl) (fun _ _ _ h => h) rfl (Or.inl ⟨by rfl, fun w' hS => ?_⟩) hHeld ?_
      · go_simp
      simp only [List.set_cons_zero, List.set_cons_succ]
      refine wpAnyH_takeAt (i := 20) (v := (.bool true)) rfl (by kernel_rfl) (by kernel_rfl) (by kernel_rfl) (fun _ _ _ h => h) rfl (Or.inl ⟨by rfl, fun w' hS => ?_⟩) hHeld ?_
      · go_simp
      simp only [List.set_cons_zero, List.set_cons_succ]
      refine wpAnyH_done (by kernel_rfl) ?_ _
      go_wp2_with fail
      go_ret
      exact ⟨rfl, bcall HB1.out HB_29.out⟩
end Go.Proofs.Ytlapgccfgkokcaa
