/- The kdf statements' awake returns true (contract). Conditions: none. (Printed by gen1k.py.) -/
import Derived.Test.YtlapgccfgkokcaaExpand
set_option linter.unusedVariables false
set_option linter.unusedSimpArgs false
namespace Go.Proofs.Ytlapgccfgkokcaa
open Go.RowKit
attribute [local go_sem ↓] Go.wp_at_zero Go.wp_at_succ

theorem expand_neg (A0 A1 : Option Addr) (n0 n1 c0 c1 : Nat) (z : Int) (w : World) (hz : z < 0) :
    Calls Try.prog 36 #[.slice A0 n0 c0, .slice A1 n1 c1, .int .i64 z] w fun e w' => e = .returned (.tuple #[.slice none 0 0, .int .i64 1]) ∧ Below w.heap.size w w' := by
  go_enter Try.func36, Try.ntmps36
  go_wp2_with fail
  go_ret2
  exact ⟨rfl, Below.refl _ _⟩
theorem expand_big (A0 A1 : Option Addr) (n0 n1 c0 c1 : Nat) (z : Int) (w : World) (hz : 8160 < z) :
    Calls Try.prog 36 #[.slice A0 n0 c0, .slice A1 n1 c1, .int .i64 z] w fun e w' => e = .returned (.tuple #[.slice none 0 0, .int .i64 4]) ∧ Below w.heap.size w w' := by
  have h2 : ¬ z < 0 := by omega
  go_enter Try.func36, Try.ntmps36
  go_wp2_with fail
  go_ret2
  exact ⟨rfl, Below.refl _ _⟩
theorem sz_drew3 (w : World) : w.drew.heap.size = w.heap.size := rfl
def key3 : List UInt8 := List.replicate 22 11
def salt3 : List UInt8 := [0, 1, 2, 3, 4, 5, 6, 7, 8, 9, 10, 11, 12]
def info3 : List UInt8 := [240, 241, 242, 243, 244, 245, 246, 247, 248, 249]
theorem hkdf_1 : (hmacS salt3 key3).getD 0 0 = 7 ∧ (hmacS salt3 key3).getD 1 0 = 119 := by decide +kernel
theorem hkdf_2 : (expandS (hmacS salt3 key3) info3 42).getD 0 0 = 60 ∧ (expandS (hmacS salt3 key3) info3 42).getD 1 0 = 178 ∧ (expandS (hmacS salt3 key3) info3 42).getD 41 0 = 101 := by decide +kernel
set_option maxRecDepth 100000 in
set_option maxHeartbeats 6400000 in
theorem awake3_c (w : World) : Calls Try.prog 35 #[] w fun e w' => e = .returned (.bool true) ∧ Below w.heap.size w w' := by
  have hm1 : ∀ wx : World, (Instr.makeSlice 27 (.int .i64 22) (.int .i64 22)).run Try.prog wx = .ok (.slice (some ⟨wx.heap.size, 0, none⟩) 22 22) (wx.alloc (.cells ((zerosB 22).map u8v).toArray 5)) := fun wx => run_make_bytes 22 (by decide) wx
  have hm2 : ∀ wx : World, (Instr.makeSlice 27 (.int .i64 13) (.int .i64 13)).run Try.prog wx = .ok (.slice (some ⟨wx.heap.size, 0, none⟩) 13 13) (wx.alloc (.cells ((zerosB 13).map u8v).toArray 5)) := fun wx => run_make_bytes 13 (by decide) wx
  have hm3 : ∀ wx : World, (Instr.makeSlice 27 (.int .i64 10) (.int .i64 10)).run Try.prog wx = .ok (.slice (some ⟨wx.heap.size, 0, none⟩) 10 10) (wx.alloc (.cells ((zerosB 10).map u8v).toArray 5)) := fun wx => run_make_bytes 10 (by decide) wx
  go_enter Try.func35, Try.ntmps35
  go_upto_region 1 with fail
  go_cut [1, 2, 3] (fun v1 v2 v3 wx => ∃ g1 g2 g3, v1 = .slice (some ⟨g1, 0, none⟩) 22 22 ∧ v2 = .slice (some ⟨g2, 0, none⟩) 13 13 ∧ v3 = .slice (some ⟨g3, 0, none⟩) 10 10 ∧ UB wx g1 5 (zerosB 22) ∧ UB wx g2 5 (zerosB 13) ∧ UB wx g3 5 (zerosB 10) ∧ w.heap.size ≤ g1 ∧ w.heap.size ≤ g2 ∧ w.heap.size ≤ g3 ∧ g1 ≠ g2 ∧ g1 ≠ g3 ∧ g2 ≠ g3 ∧ Below w.heap.size w wx)
  case first =>
    have HB_0 : Hid (Below w.heap.size w (World.drew w)) := bdrew (Below.refl _ _)
    refine wp_region_held_drew (S := (fun _ => True)) (by kernel_rfl) (trivial) (fun hHeld => ?_)
    refine wpAnyH_ready (rs := [0, 1, 2]) (by kernel_rfl) (by simp) (AllReadyH.cons rfl (fun K' hK => ?_) (AllReadyH.cons rfl (fun K' hK => ?_) (AllReadyH.cons rfl (fun K' hK => ?_) AllReadyH.nil)))
    · go_simp
      have HB_1 : Hid (Below w.heap.size w (World.drew (World.alloc w (.cells ((zerosB 22).map u8v).toArray 5)))) := balloc HB_0.out _
      have HU_1 : Hid (UB (World.drew (World.alloc w (.cells ((zerosB 22).map u8v).toArray 5))) w.heap.size 5 (zerosB 22)) := Blk.newAt (w := (World.drew w)) (by simp only [sz_drew3, World.size_alloc]) _ _
      refine hK.out _ _ trivial (fun hHeld' => ?_)
      clear hK hHeld
      have hHeld := hHeld'
      clear hHeld'
      refine wpAnyH_takeAt (i := 3) (v := (.slice (some ⟨w.heap.size, 0, none⟩) 22 22)) rfl (by kernel_rfl) (by kernel_rfl) (by kernel_rfl) (fun _ _ _ h => h) rfl (Or.inl ⟨by rfl, fun w' hS => ?_⟩) hHeld ?_
      · go_simp
      simp only [List.set_cons_zero, List.set_cons_succ]
      refine wpAnyH_ready (rs := [1, 2]) (by kernel_rfl) (by simp) (AllReadyH.cons rfl (fun K' hK => ?_) (AllReadyH.cons rfl (fun K' hK => ?_) AllReadyH.nil))
      · go_simp
        have HB_2 : Hid (Below w.heap.size w (World.drew (World.alloc (World.alloc w (.cells ((zerosB 22).map u8v).toArray 5)) (.cells ((zerosB 13).map u8v).toArray 5)))) := balloc HB_1.out _
        have HU_2 : Hid (UB (World.drew (World.alloc (World.alloc w (.cells ((zerosB 22).map u8v).toArray 5)) (.cells ((zerosB 13).map u8v).toArray 5))) (w.heap.size + 1) 5 (zerosB 13)) := Blk.newAt (w := (World.drew (World.alloc w (.cells ((zerosB 22).map u8v).toArray 5)))) (by simp only [sz_drew3, World.size_alloc]) _ _
        have HU_1_2 : Hid (UB (World.drew (World.alloc (World.alloc w (.cells ((zerosB 22).map u8v).toArray 5)) (.cells ((zerosB 13).map u8v).toArray 5))) w.heap.size 5 (zerosB 22)) := Blk.alloc HU_1.out _
        refine hK.out _ _ trivial (fun hHeld' => ?_)
        clear hK hHeld
        have hHeld := hHeld'
        clear hHeld'
        refine wpAnyH_takeAt (i := 4) (v := (.slice (some ⟨(w.heap.size + 1), 0, none⟩) 13 13)) rfl (by kernel_rfl) (by kernel_rfl) (by kernel_rfl) (fun _ _ _ h => h) rfl (Or.inl ⟨by rfl, fun w' hS => ?_⟩) hHeld ?_
        · go_simp
        simp only [List.set_cons_zero, List.set_cons_succ]
        refine wpAnyH_ready (rs := [2]) (by kernel_rfl) (by simp) (AllReadyH.cons rfl (fun K' hK => ?_) AllReadyH.nil)
        go_simp
        have HB_3 : Hid (Below w.heap.size w (World.drew (World.alloc (World.alloc (World.alloc w (.cells ((zerosB 22).map u8v).toArray 5)) (.cells ((zerosB 13).map u8v).toArray 5)) (.cells ((zerosB 10).map u8v).toArray 5)))) := balloc HB_2.out _
        have HU_3 : Hid (UB (World.drew (World.alloc (World.alloc (World.alloc w (.cells ((zerosB 22).map u8v).toArray 5)) (.cells ((zerosB 13).map u8v).toArray 5)) (.cells ((zerosB 10).map u8v).toArray 5))) (w.heap.size + 2) 5 (zerosB 10)) := Blk.newAt (w := (World.drew (World.alloc (World.alloc w (.cells ((zerosB 22).map u8v).toArray 5)) (.cells ((zerosB 13).map u8v).toArray 5)))) (by simp only [sz_drew3, World.size_alloc]) _ _
        have HU_1_2_3 : Hid (UB (World.drew (World.alloc (World.alloc (World.alloc w (.cells ((zerosB 22).map u8v).toArray 5)) (.cells ((zerosB 13).map u8v).toArray 5)) (.cells ((zerosB 10).map u8v).toArray 5))) w.heap.size 5 (zerosB 22)) := Blk.alloc HU_1_2.out _
        have HU_2_3 : Hid (UB (World.drew (World.alloc (World.alloc (World.alloc w (.cells ((zerosB 22).map u8v).toArray 5)) (.cells ((zerosB 13).map u8v).toArray 5)) (.cells ((zerosB 10).map u8v).toArray 5))) (w.heap.size + 1) 5 (zerosB 13)) := Blk.alloc HU_2.out _
        refine hK.out _ _ trivial (fun hHeld' => ?_)
        clear hK hHeld
        have hHeld := hHeld'
        clear hHeld'
        refine wpAnyH_takeAt (i := 5) (v := (.slice (some ⟨(w.heap.size + 2), 0, none⟩) 10 10)) rfl (by kernel_rfl) (by kernel_rfl) (by kernel_rfl) (fun _ _ _ h => h) rfl (Or.inl ⟨by rfl, fun w' hS => ?_⟩) hHeld ?_
        · go_simp
        simp only [List.set_cons_zero, List.set_cons_succ]
        refine wpAnyH_done (by kernel_rfl) ?_ _
        go_wp2_with fail
        go_meet
        exact ⟨w.heap.size, (w.heap.size + 1), (w.heap.size + 2), rfl, rfl, rfl, HU_1_2_3.out, HU_2_3.out, HU_3.out, by omega, by omega, by omega, by omega, by omega, by omega, HB_3.out⟩
      · go_simp
        have HB_4 : Hid (Below w.heap.size w (World.drew (World.alloc (World.alloc w (.cells ((zerosB 22).map u8v).toArray 5)) (.cells ((zerosB 10).map u8v).toArray 5)))) := balloc HB_1.out _
        have HU_4 : Hid (UB (World.drew (World.alloc (World.alloc w (.cells ((zerosB 22).map u8v).toArray 5)) (.cells ((zerosB 10).map u8v).toArray 5))) (w.heap.size + 1) 5 (zerosB 10)) := Blk.newAt (w := (World.drew (World.alloc w (.cells ((zerosB 22).map u8v).toArray 5)))) (by simp only [sz_drew3, World.size_alloc]) _ _
        have HU_1_4 : Hid (UB (World.drew (World.alloc (World.alloc w (.cells ((zerosB 22).map u8v).toArray 5)) (.cells ((zerosB 10).map u8v).toArray 5))) w.heap.size 5 (zerosB 22)) := Blk.alloc HU_1.out _
        refine hK.out _ _ trivial (fun hHeld' => ?_)
        clear hK hHeld
        have hHeld := hHeld'
        clear hHeld'
        refine wpAnyH_ready (rs := [1]) (by kernel_rfl) (by simp) (AllReadyH.cons rfl (fun K' hK => ?_) AllReadyH.nil)
        go_simp
        have HB_5 : Hid (Below w.heap.size w (World.drew (World.alloc (World.alloc (World.alloc w (.cells ((zerosB 22).map u8v).toArray 5)) (.cells ((zerosB 10).map u8v).toArray 5)) (.cells ((zerosB 13).map u8v).toArray 5)))) := balloc HB_4.out _
        have HU_5 : Hid (UB (World.drew (World.alloc (World.alloc (World.alloc w (.cells ((zerosB 22).map u8v).toArray 5)) (.cells ((zerosB 10).map u8v).toArray 5)) (.cells ((zerosB 13).map u8v).toArray 5))) (w.heap.size + 2) 5 (zerosB 13)) := Blk.newAt (w := (World.drew (World.alloc (World.alloc w (.cells ((zerosB 22).map u8v).toArray 5)) (.cells ((zerosB 10).map u8v).toArray 5)))) (by simp only [sz_drew3, World.size_alloc]) _ _
        have HU_1_4_5 : Hid (UB (World.drew (World.alloc (World.alloc (World.alloc w (.cells ((zerosB 22).map u8v).toArray 5)) (.cells ((zerosB 10).map u8v).toArray 5)) (.cells ((zerosB 13).map u8v).toArray 5))) w.heap.size 5 (zerosB 22)) := Blk.alloc HU_1_4.out _
        have HU_4_5 : Hid (UB (World.drew (World.alloc (World.alloc (World.alloc w (.cells ((zerosB 22).map u8v).toArray 5)) (.cells ((zerosB 10).map u8v).toArray 5)) (.cells ((zerosB 13).map u8v).toArray 5))) (w.heap.size + 1) 5 (zerosB 10)) := Blk.alloc HU_4.out _
        refine hK.out _ _ trivial (fun hHeld' => ?_)
        clear hK hHeld
        have hHeld := hHeld'
        clear hHeld'
        refine wpAnyH_takeAt (i := 4) (v := (.slice (some ⟨(w.heap.size + 2), 0, none⟩) 13 13)) rfl (by kernel_rfl) (by kernel_rfl) (by kernel_rfl) (fun _ _ _ h => h) rfl (Or.inl ⟨by rfl, fun w' hS => ?_⟩) hHeld ?_
        · go_simp
        simp only [List.set_cons_zero, List.set_cons_succ]
        refine wpAnyH_takeAt (i := 5) (v := (.slice (some ⟨(w.heap.size + 1), 0, none⟩) 10 10)) rfl (by kernel_rfl) (by kernel_rfl) (by kernel_rfl) (fun _ _ _ h => h) rfl (Or.inl ⟨by rfl, fun w' hS => ?_⟩) hHeld ?_
        · go_simp
        simp only [List.set_cons_zero, List.set_cons_succ]
        refine wpAnyH_done (by kernel_rfl) ?_ _
        go_wp2_with fail
        go_meet
        exact ⟨w.heap.size, (w.heap.size + 2), (w.heap.size + 1), rfl, rfl, rfl, HU_1_4_5.out, HU_5.out, HU_4_5.out, by omega, by omega, by omega, by omega, by omega, by omega, HB_5.out⟩
    · go_simp
      have HB_6 : Hid (Below w.heap.size w (World.drew (World.alloc w (.cells ((zerosB 13).map u8v).toArray 5)))) := balloc HB_0.out _
      have HU_6 : Hid (UB (World.drew (World.alloc w (.cells ((zerosB 13).map u8v).toArray 5))) w.heap.size 5 (zerosB 13)) := Blk.newAt (w := (World.drew w)) (by simp only [sz_drew3, World.size_alloc]) _ _
      refine hK.out _ _ trivial (fun hHeld' => ?_)
      clear hK hHeld
      have hHeld := hHeld'
      clear hHeld'
      refine wpAnyH_ready (rs := [0, 2]) (by kernel_rfl) (by simp) (AllReadyH.cons rfl (fun K' hK => ?_) (AllReadyH.cons rfl (fun K' hK => ?_) AllReadyH.nil))
      · go_simp
        have HB_7 : Hid (Below w.heap.size w (World.drew (World.alloc (World.alloc w (.cells ((zerosB 13).map u8v).toArray 5)) (.cells ((zerosB 22).map u8v).toArray 5)))) := balloc HB_6.out _
        have HU_7 : Hid (UB (World.drew (World.alloc (World.alloc w (.cells ((zerosB 13).map u8v).toArray 5)) (.cells ((zerosB 22).map u8v).toArray 5))) (w.heap.size + 1) 5 (zerosB 22)) := Blk.newAt (w := (World.drew (World.alloc w (.cells ((zerosB 13).map u8v).toArray 5)))) (by simp only [sz_drew3, World.size_alloc]) _ _
        have HU_6_7 : Hid (UB (World.drew (World.alloc (World.alloc w (.cells ((zerosB 13).map u8v).toArray 5)) (.cells ((zerosB 22).map u8v).toArray 5))) w.heap.size 5 (zerosB 13)) := Blk.alloc HU_6.out _
        refine hK.out _ _ trivial (fun hHeld' => ?_)
        clear hK hHeld
        have hHeld := hHeld'
        clear hHeld'
        refine wpAnyH_takeAt (i := 3) (v := (.slice (some ⟨(w.heap.size + 1), 0, none⟩) 22 22)) rfl (by kernel_rfl) (by kernel_rfl) (by kernel_rfl) (fun _ _ _ h => h) rfl (Or.inl ⟨by rfl, fun w' hS => ?_⟩) hHeld ?_
        · go_simp
        simp only [List.set_cons_zero, List.set_cons_succ]
        refine wpAnyH_takeAt (i := 4) (v := (.slice (some ⟨w.heap.size, 0, none⟩) 13 13)) rfl (by kernel_rfl) (by kernel_rfl) (by kernel_rfl) (fun _ _ _ h => h) rfl (Or.inl ⟨by rfl, fun w' hS => ?_⟩) hHeld ?_
        · go_simp
        simp only [List.set_cons_zero, List.set_cons_succ]
        refine wpAnyH_ready (rs := [2]) (by kernel_rfl) (by simp) (AllReadyH.cons rfl (fun K' hK => ?_) AllReadyH.nil)
        go_simp
        have HB_8 : Hid (Below w.heap.size w (World.drew (World.alloc (World.alloc (World.alloc w (.cells ((zerosB 13).map u8v).toArray 5)) (.cells ((zerosB 22).map u8v).toArray 5)) (.cells ((zerosB 10).map u8v).toArray 5)))) := balloc HB_7.out _
        have HU_8 : Hid (UB (World.drew (World.alloc (World.alloc (World.alloc w (.cells ((zerosB 13).map u8v).toArray 5)) (.cells ((zerosB 22).map u8v).toArray 5)) (.cells ((zerosB 10).map u8v).toArray 5))) (w.heap.size + 2) 5 (zerosB 10)) := Blk.newAt (w := (World.drew (World.alloc (World.alloc w (.cells ((zerosB 13).map u8v).toArray 5)) (.cells ((zerosB 22).map u8v).toArray 5)))) (by simp only [sz_drew3, World.size_alloc]) _ _
        have HU_6_7_8 : Hid (UB (World.drew (World.alloc (World.alloc (World.alloc w (.cells ((zerosB 13).map u8v).toArray 5)) (.cells ((zerosB 22).map u8v).toArray 5)) (.cells ((zerosB 10).map u8v).toArray 5))) w.heap.size 5 (zerosB 13)) := Blk.alloc HU_6_7.out _
        have HU_7_8 : Hid (UB (World.drew (World.alloc (World.alloc (World.alloc w (.cells ((zerosB 13).map u8v).toArray 5)) (.cells ((zerosB 22).map u8v).toArray 5)) (.cells ((zerosB 10).map u8v).toArray 5))) (w.heap.size + 1) 5 (zerosB 22)) := Blk.alloc HU_7.out _
        refine hK.out _ _ trivial (fun hHeld' => ?_)
        clear hK hHeld
        have hHeld := hHeld'
        clear hHeld'
        refine wpAnyH_takeAt (i := 5) (v := (.slice (some ⟨(w.heap.size + 2), 0, none⟩) 10 10)) rfl (by kernel_rfl) (by kernel_rfl) (by kernel_rfl) (fun _ _ _ h => h) rfl (Or.inl ⟨by rfl, fun w' hS => ?_⟩) hHeld ?_
        · go_simp
        simp only [List.set_cons_zero, List.set_cons_succ]
        refine wpAnyH_done (by kernel_rfl) ?_ _
        go_wp2_with fail
        go_meet
        exact ⟨(w.heap.size + 1), w.heap.size, (w.heap.size + 2), rfl, rfl, rfl, HU_7_8.out, HU_6_7_8.out, HU_8.out, by omega, by omega, by omega, by omega, by omega, by omega, HB_8.out⟩
      · go_simp
        have HB_9 : Hid (Below w.heap.size w (World.drew (World.alloc (World.alloc w (.cells ((zerosB 13).map u8v).toArray 5)) (.cells ((zerosB 10).map u8v).toArray 5)))) := balloc HB_6.out _
        have HU_9 : Hid (UB (World.drew (World.alloc (World.alloc w (.cells ((zerosB 13).map u8v).toArray 5)) (.cells ((zerosB 10).map u8v).toArray 5))) (w.heap.size + 1) 5 (zerosB 10)) := Blk.newAt (w := (World.drew (World.alloc w (.cells ((zerosB 13).map u8v).toArray 5)))) (by simp only [sz_drew3, World.size_alloc]) _ _
        have HU_6_9 : Hid (UB (World.drew (World.alloc (World.alloc w (.cells ((zerosB 13).map u8v).toArray 5)) (.cells ((zerosB 10).map u8v).toArray 5))) w.heap.size 5 (zerosB 13)) := Blk.alloc HU_6.out _
        refine hK.out _ _ trivial (fun hHeld' => ?_)
        clear hK hHeld
        have hHeld := hHeld'
        clear hHeld'
        refine wpAnyH_ready (rs := [0]) (by kernel_rfl) (by simp) (AllReadyH.cons rfl (fun K' hK => ?_) AllReadyH.nil)
        go_simp
        have HB_10 : Hid (Below w.heap.size w (World.drew (World.alloc (World.alloc (World.alloc w (.cells ((zerosB 13).map u8v).toArray 5)) (.cells ((zerosB 10).map u8v).toArray 5)) (.cells ((zerosB 22).map u8v).toArray 5)))) := balloc HB_9.out _
        have HU_10 : Hid (UB (World.drew (World.alloc (World.alloc (World.alloc w (.cells ((zerosB 13).map u8v).toArray 5)) (.cells ((zerosB 10).map u8v).toArray 5)) (.cells ((zerosB 22).map u8v).toArray 5))) (w.heap.size + 2) 5 (zerosB 22)) := Blk.newAt (w := (World.drew (World.alloc (World.alloc w (.cells ((zerosB 13).map u8v).toArray 5)) (.cells ((zerosB 10).map u8v).toArray 5)))) (by simp only [sz_drew3, World.size_alloc]) _ _
        have HU_6_9_10 : Hid (UB (World.drew (World.alloc (World.alloc (World.alloc w (.cells ((zerosB 13).map u8v).toArray 5)) (.cells ((zerosB 10).map u8v).toArray 5)) (.cells ((zerosB 22).map u8v).toArray 5))) w.heap.size 5 (zerosB 13)) := Blk.alloc HU_6_9.out _
        have HU_9_10 : Hid (UB (World.drew (World.alloc (World.alloc (World.alloc w (.cells ((zerosB 13).map u8v).toArray 5)) (.cells ((zerosB 10).map u8v).toArray 5)) (.cells ((zerosB 22).map u8v).toArray 5))) (w.heap.size + 1) 5 (zerosB 10)) := Blk.alloc HU_9.out _
        refine hK.out _ _ trivial (fun hHeld' => ?_)
        clear hK hHeld
        have hHeld := hHeld'
        clear hHeld'
        refine wpAnyH_takeAt (i := 3) (v := (.slice (some ⟨(w.heap.size + 2), 0, none⟩) 22 22)) rfl (by kernel_rfl) (by kernel_rfl) (by kernel_rfl) (fun _ _ _ h => h) rfl (Or.inl ⟨by rfl, fun w' hS => ?_⟩) hHeld ?_
        · go_simp
        simp only [List.set_cons_zero, List.set_cons_succ]
        refine wpAnyH_takeAt (i := 4) (v := (.slice (some ⟨w.heap.size, 0, none⟩) 13 13)) rfl (by kernel_rfl) (by kernel_rfl) (by kernel_rfl) (fun _ _ _ h => h) rfl (Or.inl ⟨by rfl, fun w' hS => ?_⟩) hHeld ?_
        · go_simp
        simp only [List.set_cons_zero, List.set_cons_succ]
        refine wpAnyH_takeAt (i := 5) (v := (.slice (some ⟨(w.heap.size + 1), 0, none⟩) 10 10)) rfl (by kernel_rfl) (by kernel_rfl) (by kernel_rfl) (fun _ _ _ h => h) rfl (Or.inl ⟨by rfl, fun w' hS => ?_⟩) hHeld ?_
        · go_simp
        simp only [List.set_cons_zero, List.set_cons_succ]
        refine wpAnyH_done (by kernel_rfl) ?_ _
        go_wp2_with fail
        go_meet
        exact ⟨(w.heap.size + 2), w.heap.size, (w.heap.size + 1), rfl, rfl, rfl, HU_10.out, HU_6_9_10.out, HU_9_10.out, by omega, by omega, by omega, by omega, by omega, by omega, HB_10.out⟩
    · go_simp
      have HB_11 : Hid (Below w.heap.size w (World.drew (World.alloc w (.cells ((zerosB 10).map u8v).toArray 5)))) := balloc HB_0.out _
      have HU_11 : Hid (UB (World.drew (World.alloc w (.cells ((zerosB 10).map u8v).toArray 5))) w.heap.size 5 (zerosB 10)) := Blk.newAt (w := (World.drew w)) (by simp only [sz_drew3, World.size_alloc]) _ _
      refine hK.out _ _ trivial (fun hHeld' => ?_)
      clear hK hHeld
      have hHeld := hHeld'
      clear hHeld'
      refine wpAnyH_ready (rs := [0, 1]) (by kernel_rfl) (by simp) (AllReadyH.cons rfl (fun K' hK => ?_) (AllReadyH.cons rfl (fun K' hK => ?_) AllReadyH.nil))
      · go_simp
        have HB_12 : Hid (Below w.heap.size w (World.drew (World.alloc (World.alloc w (.cells ((zerosB 10).map u8v).toArray 5)) (.cells ((zerosB 22).map u8v).toArray 5)))) := balloc HB_11.out _
        have HU_12 : Hid (UB (World.drew (World.alloc (World.alloc w (.cells ((zerosB 10).map u8v).toArray 5)) (.cells ((zerosB 22).map u8v).toArray 5))) (w.heap.size + 1) 5 (zerosB 22)) := Blk.newAt (w := (World.drew (World.alloc w (.cells ((zerosB 10).map u8v).toArray 5)))) (by simp only [sz_drew3, World.size_alloc]) _ _
        have HU_11_12 : Hid (UB (World.drew (World.alloc (World.alloc w (.cells ((zerosB 10).map u8v).toArray 5)) (.cells ((zerosB 22).map u8v).toArray 5))) w.heap.size 5 (zerosB 10)) := Blk.alloc HU_11.out _
        refine hK.out _ _ trivial (fun hHeld' => ?_)
        clear hK hHeld
        have hHeld := hHeld'
        clear hHeld'
        refine wpAnyH_takeAt (i := 3) (v := (.slice (some ⟨(w.heap.size + 1), 0, none⟩) 22 22)) rfl (by kernel_rfl) (by kernel_rfl) (by kernel_rfl) (fun _ _ _ h => h) rfl (Or.inl ⟨by rfl, fun w' hS => ?_⟩) hHeld ?_
        · go_simp
        simp only [List.set_cons_zero, List.set_cons_succ]
        refine wpAnyH_ready (rs := [1]) (by kernel_rfl) (by simp) (AllReadyH.cons rfl (fun K' hK => ?_) AllReadyH.nil)
        go_simp
        have HB_13 : Hid (Below w.heap.size w (World.drew (World.alloc (World.alloc (World.alloc w (.cells ((zerosB 10).map u8v).toArray 5)) (.cells ((zerosB 22).map u8v).toArray 5)) (.cells ((zerosB 13).map u8v).toArray 5)))) := balloc HB_12.out _
        have HU_13 : Hid (UB (World.drew (World.alloc (World.alloc (World.alloc w (.cells ((zerosB 10).map u8v).toArray 5)) (.cells ((zerosB 22).map u8v).toArray 5)) (.cells ((zerosB 13).map u8v).toArray 5))) (w.heap.size + 2) 5 (zerosB 13)) := Blk.newAt (w := (World.drew (World.alloc (World.alloc w (.cells ((zerosB 10).map u8v).toArray 5)) (.cells ((zerosB 22).map u8v).toArray 5)))) (by simp only [sz_drew3, World.size_alloc]) _ _
        have HU_11_12_13 : Hid (UB (World.drew (World.alloc (World.alloc (World.alloc w (.cells ((zerosB 10).map u8v).toArray 5)) (.cells ((zerosB 22).map u8v).toArray 5)) (.cells ((zerosB 13).map u8v).toArray 5))) w.heap.size 5 (zerosB 10)) := Blk.alloc HU_11_12.out _
        have HU_12_13 : Hid (UB (World.drew (World.alloc (World.alloc (World.alloc w (.cells ((zerosB 10).map u8v).toArray 5)) (.cells ((zerosB 22).map u8v).toArray 5)) (.cells ((zerosB 13).map u8v).toArray 5))) (w.heap.size + 1) 5 (zerosB 22)) := Blk.alloc HU_12.out _
        refine hK.out _ _ trivial (fun hHeld' => ?_)
        clear hK hHeld
        have hHeld := hHeld'
        clear hHeld'
        refine wpAnyH_takeAt (i := 4) (v := (.slice (some ⟨(w.heap.size + 2), 0, none⟩) 13 13)) rfl (by kernel_rfl) (by kernel_rfl) (by kernel_rfl) (fun _ _ _ h => h) rfl (Or.inl ⟨by rfl, fun w' hS => ?_⟩) hHeld ?_
        · go_simp
        simp only [List.set_cons_zero, List.set_cons_succ]
        refine wpAnyH_takeAt (i := 5) (v := (.slice (some ⟨w.heap.size, 0, none⟩) 10 10)) rfl (by kernel_rfl) (by kernel_rfl) (by kernel_rfl) (fun _ _ _ h => h) rfl (Or.inl ⟨by rfl, fun w' hS => ?_⟩) hHeld ?_
        · go_simp
        simp only [List.set_cons_zero, List.set_cons_succ]
        refine wpAnyH_done (by kernel_rfl) ?_ _
        go_wp2_with fail
        go_meet
        exact ⟨(w.heap.size + 1), (w.heap.size + 2), w.heap.size, rfl, rfl, rfl, HU_12_13.out, HU_13.out, HU_11_12_13.out, by omega, by omega, by omega, by omega, by omega, by omega, HB_13.out⟩
      · go_simp
        have HB_14 : Hid (Below w.heap.size w (World.drew (World.alloc (World.alloc w (.cells ((zerosB 10).map u8v).toArray 5)) (.cells ((zerosB 13).map u8v).toArray 5)))) := balloc HB_11.out _
        have HU_14 : Hid (UB (World.drew (World.alloc (World.alloc w (.cells ((zerosB 10).map u8v).toArray 5)) (.cells ((zerosB 13).map u8v).toArray 5))) (w.heap.size + 1) 5 (zerosB 13)) := Blk.newAt (w := (World.drew (World.alloc w (.cells ((zerosB 10).map u8v).toArray 5)))) (by simp only [sz_drew3, World.size_alloc]) _ _
        have HU_11_14 : Hid (UB (World.drew (World.alloc (World.alloc w (.cells ((zerosB 10).map u8v).toArray 5)) (.cells ((zerosB 13).map u8v).toArray 5))) w.heap.size 5 (zerosB 10)) := Blk.alloc HU_11.out _
        refine hK.out _ _ trivial (fun hHeld' => ?_)
        clear hK hHeld
        have hHeld := hHeld'
        clear hHeld'
        refine wpAnyH_ready (rs := [0]) (by kernel_rfl) (by simp) (AllReadyH.cons rfl (fun K' hK => ?_) AllReadyH.nil)
        go_simp
        have HB_15 : Hid (Below w.heap.size w (World.drew (World.alloc (World.alloc (World.alloc w (.cells ((zerosB 10).map u8v).toArray 5)) (.cells ((zerosB 13).map u8v).toArray 5)) (.cells ((zerosB 22).map u8v).toArray 5)))) := balloc HB_14.out _
        have HU_15 : Hid (UB (World.drew (World.alloc (World.alloc (World.alloc w (.cells ((zerosB 10).map u8v).toArray 5)) (.cells ((zerosB 13).map u8v).toArray 5)) (.cells ((zerosB 22).map u8v).toArray 5))) (w.heap.size + 2) 5 (zerosB 22)) := Blk.newAt (w := (World.drew (World.alloc (World.alloc w (.cells ((zerosB 10).map u8v).toArray 5)) (.cells ((zerosB 13).map u8v).toArray 5)))) (by simp only [sz_drew3, World.size_alloc]) _ _
        have HU_11_14_15 : Hid (UB (World.drew (World.alloc (World.alloc (World.alloc w (.cells ((zerosB 10).map u8v).toArray 5)) (.cells ((zerosB 13).map u8v).toArray 5)) (.cells ((zerosB 22).map u8v).toArray 5))) w.heap.size 5 (zerosB 10)) := Blk.alloc HU_11_14.out _
        have HU_14_15 : Hid (UB (World.drew (World.alloc (World.alloc (World.alloc w (.cells ((zerosB 10).map u8v).toArray 5)) (.cells ((zerosB 13).map u8v).toArray 5)) (.cells ((zerosB 22).map u8v).toArray 5))) (w.heap.size + 1) 5 (zerosB 13)) := Blk.alloc HU_14.out _
        refine hK.out _ _ trivial (fun hHeld' => ?_)
        clear hK hHeld
        have hHeld := hHeld'
        clear hHeld'
        refine wpAnyH_takeAt (i := 3) (v := (.slice (some ⟨(w.heap.size + 2), 0, none⟩) 22 22)) rfl (by kernel_rfl) (by kernel_rfl) (by kernel_rfl) (fun _ _ _ h => h) rfl (Or.inl ⟨by rfl, fun w' hS => ?_⟩) hHeld ?_
        · go_simp
        simp only [List.set_cons_zero, List.set_cons_succ]
        refine wpAnyH_takeAt (i := 4) (v := (.slice (some ⟨(w.heap.size + 1), 0, none⟩) 13 13)) rfl (by kernel_rfl) (by kernel_rfl) (by kernel_rfl) (fun _ _ _ h => h) rfl (Or.inl ⟨by rfl, fun w' hS => ?_⟩) hHeld ?_
        · go_simp
        simp only [List.set_cons_zero, List.set_cons_succ]
        refine wpAnyH_takeAt (i := 5) (v := (.slice (some ⟨w.heap.size, 0, none⟩) 10 10)) rfl (by kernel_rfl) (by kernel_rfl) (by kernel_rfl) (fun _ _ _ h => h) rfl (Or.inl ⟨by rfl, fun w' hS => ?_⟩) hHeld ?_
        · go_simp
        simp only [List.set_cons_zero, List.set_cons_succ]
        refine wpAnyH_done (by kernel_rfl) ?_ _
        go_wp2_with fail
        go_meet
        exact ⟨(w.heap.size + 2), (w.heap.size + 1), w.heap.size, rfl, rfl, rfl, HU_15.out, HU_14_15.out, HU_11_14_15.out, by omega, by omega, by omega, by omega, by omega, by omega, HB_15.out⟩
  case rest =>
    obtain ⟨g1, g2, g3, rfl, rfl, rfl, hu1, hu2, hu3, hg1, hg2, hg3, hn12, hn13, hn23, hb⟩ := hcut
    clear hm1 hm2 hm3
    obtain ⟨F1, hF1⟩ : ∃ F : Nat → UInt8, F = fun _ => 11 := ⟨_, rfl⟩
    obtain ⟨F2, hF2⟩ : ∃ F : Nat → UInt8, F = fun i => UInt8.ofNat i := ⟨_, rfl⟩
    obtain ⟨F3, hF3⟩ : ∃ F : Nat → UInt8, F = fun i => UInt8.ofNat (240 + i) := ⟨_, rfl⟩
    obtain ⟨G, hG⟩ : ∃ G : Nat → UInt8, G = fun _ => 0 := ⟨_, rfl⟩
    have HF1 := Lib.hid hF1
    have HF2 := Lib.hid hF2
    have HF3 := Lib.hid hF3
    have h1 : UB wc g1 5 (upL 22 0 F1 G) := by rw [upL_zero, hG]; exact hu1
    have h2 : UB wc g2 5 (upL 13 0 F2 G) := by rw [upL_zero, hG]; exact hu2
    have h3 : UB wc g3 5 (upL 10 0 F3 G) := by rw [upL_zero, hG]; exact hu3
    have H1 := Lib.hid h1
    have H2 := Lib.hid h2
    have H3 := Lib.hid h3
    have HB := Lib.hid hb
    have HG1 := Lib.hid hg1
    have HG2 := Lib.hid hg2
    have HG3 := Lib.hid hg3
    have HN12 := Lib.hid hn12
    have HN13 := Lib.hid hn13
    have HN23 := Lib.hid hn23
    clear h1 h2 h3 hb hg1 hg2 hg3 hn12 hn13 hn23 hu1 hu2 hu3 hF1 hF2 hF3 hG
    go_upto_region 3 with fail
    go_loopg [4] 22 (fun gg v4 wx => ∃ i : Nat, i ≤ 22 ∧ gg = 22 - i ∧ v4 = .int .i64 (i : Int) ∧ UB wx g1 5 (upL 22 i F1 G) ∧ UB wx g2 5 (upL 13 0 F2 G) ∧ UB wx g3 5 (upL 10 0 F3 G) ∧ Below w.heap.size w wx)
    case atStart => exact ⟨0, by omega, rfl, rfl, H1.out, H2.out, H3.out, HB.out⟩
    case round =>
      obtain ⟨i, hi, rfl, rfl, hu1, hu2, hu3, hb⟩ := hrel
      clear H1 H2 H3 HB
      have H1 := Lib.hid hu1
      have H2 := Lib.hid hu2
      have H3 := Lib.hid hu3
      have HB := Lib.hid hb
      by_cases hi2 : i < 22
      · have hii : (i : Int) < 22 := by omega
        have c1 := hu1.cell i (by rw [upL_len]; exact hi2)
        have f1 := hu1.free i
        clear hu1 hu2 hu3 hb
        go_wp2_with fail
        go_roundg (22 - (i + 1))
        case measure => omega
        case rel =>
          refine ⟨i + 1, by omega, rfl, by go_num, ?_, Blk.far H2.out (by show g2 ≠ g1; exact Ne.symm HN12.out) _, Blk.far H3.out (by show g3 ≠ g1; exact Ne.symm HN13.out) _, bset HB.out HG1.out _⟩
          rw [← upL_set F1 G hi2, show F1 i = 11 by rw [HF1.out]]
          exact H1.out.set i 11
      · have hi3 : i = 22 := by omega
        subst hi3
        clear hu1 hu2 hu3 hb
        go_upto_region 7 with fail
        go_loopg [5] 13 (fun gg v5 wx => ∃ i : Nat, i ≤ 13 ∧ gg = 13 - i ∧ v5 = .int .i64 (i : Int) ∧ UB wx g1 5 (upL 22 22 F1 G) ∧ UB wx g2 5 (upL 13 i F2 G) ∧ UB wx g3 5 (upL 10 0 F3 G) ∧ Below w.heap.size w wx)
        case atStart => exact ⟨0, by omega, rfl, rfl, H1.out, H2.out, H3.out, HB.out⟩
        case round =>
          obtain ⟨i, hi, rfl, rfl, hu1, hu2, hu3, hb⟩ := hrel
          clear H1 H2 H3 HB
          have H1 := Lib.hid hu1
          have H2 := Lib.hid hu2
          have H3 := Lib.hid hu3
          have HB := Lib.hid hb
          by_cases hi2 : i < 13
          · have hii : (i : Int) < 13 := by omega
            have c1 := hu2.cell i (by rw [upL_len]; exact hi2)
            have f1 := hu2.free i
            have hw : IntKind.u8.wrap (i : Int) = (i : Int) := by rw [IntKind.wrap_u8]; omega
            clear hu1 hu2 hu3 hb
            go_wp2_with fail
            go_roundg (13 - (i + 1))
            case measure => omega
            case rel =>
              have hv : (i : Int) = ((F2 i).toNat : Int) := by rw [HF2.out]; simp; omega
              refine ⟨i + 1, by omega, rfl, by go_num, Blk.far H1.out (by show g1 ≠ g2; exact HN12.out) _, ?_, Blk.far H3.out (by show g3 ≠ g2; exact Ne.symm HN23.out) _, bset HB.out HG2.out _⟩
              rw [← upL_set F2 G hi2]
              have := H2.out.set i (F2 i)
              rw [← hv] at this
              exact this
          · have hi3 : i = 13 := by omega
            subst hi3
            clear hu1 hu2 hu3 hb
            go_upto_region 11 with fail
            go_loopg [6] 10 (fun gg v6 wx => ∃ i : Nat, i ≤ 10 ∧ gg = 10 - i ∧ v6 = .int .i64 (i : Int) ∧ UB wx g1 5 (upL 22 22 F1 G) ∧ UB wx g2 5 (upL 13 13 F2 G) ∧ UB wx g3 5 (upL 10 i F3 G) ∧ Below w.heap.size w wx)
            case atStart => exact ⟨0, by omega, rfl, rfl, H1.out, H2.out, H3.out, HB.out⟩
            case round =>
              obtain ⟨i, hi, rfl, rfl, hu1, hu2, hu3, hb⟩ := hrel
              clear H1 H2 H3 HB
              have H1 := Lib.hid hu1
              have H2 := Lib.hid hu2
              have H3 := Lib.hid hu3
              have HB := Lib.hid hb
              by_cases hi2 : i < 10
              · have hii : (i : Int) < 10 := by omega
                have c1 := hu3.cell i (by rw [upL_len]; exact hi2)
                have f1 := hu3.free i
                have hw : IntKind.u8.wrap (240 + (i : Int)) = 240 + (i : Int) := by rw [IntKind.wrap_u8]; omega
                clear hu1 hu2 hu3 hb
                go_wp2_with fail
                go_roundg (10 - (i + 1))
                case measure => omega
                case rel =>
                  have hv : 240 + (i : Int) = ((F3 i).toNat : Int) := by rw [HF3.out]; simp; omega
                  refine ⟨i + 1, by omega, rfl, by go_num, Blk.far H1.out (by show g1 ≠ g3; exact HN13.out) _, Blk.far H2.out (by show g2 ≠ g3; exact HN23.out) _, ?_, bset HB.out HG3.out _⟩
                  rw [← upL_set F3 G hi2]
                  have := H3.out.set i (F3 i)
                  rw [← hv] at this
                  exact this
              · have hi3 : i = 10 := by omega
                subst hi3
                have HK : Hid (SlV wr (.slice (some ⟨g1, 0, none⟩) 22 22) key3) := SlV.blk (show UB wr g1 5 key3 by have := hu1; rw [upL_full, HF1.out] at this; exact this) rfl
                have HS : Hid (SlV wr (.slice (some ⟨g2, 0, none⟩) 13 13) salt3) := SlV.blk (show UB wr g2 5 salt3 by have := hu2; rw [upL_full, HF2.out] at this; exact this) rfl
                have HI : Hid (SlV wr (.slice (some ⟨g3, 0, none⟩) 10 10) info3) := SlV.blk (show UB wr g3 5 info3 by have := hu3; rw [upL_full, HF3.out] at this; exact this) rfl
                clear hu1 hu2 hu3 hb H1 H2 H3
                obtain ⟨O, hO⟩ : ∃ O, O = hmacS salt3 key3 := ⟨_, rfl⟩
                obtain ⟨E, hE⟩ : ∃ E, E = expandS O info3 42 := ⟨_, rfl⟩
                have hOl : O.length = 32 := by rw [hO]; exact hmacS_len _ _
                have HX : Hid (O.getD 0 0 = 7 ∧ O.getD 1 0 = 119) := by show _ ∧ _; rw [hO]; exact hkdf_1
                have HY : Hid (E.getD 0 0 = 60 ∧ E.getD 1 0 = 178 ∧ E.getD 41 0 = 101) := by show _ ∧ _; rw [hE, hO]; exact hkdf_2
                have HEL : Hid (E.length = 42) := by show _ = _; rw [hE]; exact expandS_len _ _ _
                have HO := Lib.hid hO
                have HE := Lib.hid hE
                have HOL := Lib.hid hOl
                have HJ := Lib.hid (infoO hOl)
                have HEX : Hid (∀ wx A1 n1 c1, SlV wx (.slice (some ⟨A1, 0, none⟩) 32 32) O → SlV wx (.slice (some ⟨n1, 0, none⟩) 10 c1) info3 → Calls Try.prog 36 #[.slice (some ⟨A1, 0, none⟩) 32 32, .slice (some ⟨n1, 0, none⟩) 10 c1, .int .i64 42] wx fun e w' => ∃ A c, e = .returned (.tuple #[.slice A 42 c, .int .i64 0]) ∧ SlV w' (.slice A 42 c) E ∧ Below wx.heap.size wx w') := fun wx A1 n1 c1 h1 h2 => by rw [HE.out]; exact expand_c O info3 _ _ _ _ _ _ 42 wx h1 h2 (by decide)
                have HXT : Hid (∀ wx, SlV wx (.slice (some ⟨g2, 0, none⟩) 13 13) salt3 → SlV wx (.slice (some ⟨g1, 0, none⟩) 22 22) key3 → Calls Try.prog 37 #[.slice (some ⟨g2, 0, none⟩) 13 13, .slice (some ⟨g1, 0, none⟩) 22 22] wx fun e w' => e = .returned (.agg (O.map u8v).toArray) ∧ Below wx.heap.size wx w') := fun wx h1 h2 => by rw [HO.out]; exact extract_c _ _ _ _ _ _ _ _ wx h1 h2
                clear hO hE hOl HO HE
                go_upto_region 15 with (first
                  | (go_at_call 37
                     refine (HXT.out wr HS.out HK.out).mono ?_
                     rintro e0 w2 ⟨rfl, hb2⟩
                     have HU2 : Hid (UB (w2.alloc (.cells (z32.map u8v).toArray 24)) w2.heap.size 24 z32) := Blk.new _ _ _
                     have HTH : Hid ((w2.alloc (.cells (z32.map u8v).toArray 24)).there w2.heap.size 0 (O.map u8v).toArray.size) := there32 HU2.out rfl HOL.out
                     have HB2 := Lib.hid (bcall HB.out hb2)
                     have HI2 := Lib.hid (HI.out.below hb2)
                     clear hb2)
                  | ((with_reducible show wpList _ _ _ (⟨none, .store 24 (.tmp 7) (.tmp 41), _, _, _, _⟩ :: _) _ _); refine wpList_store_mid rfl 24 (.tmp 7) (.tmp 41) rfl w2.heap.size 0 (O.map u8v).toArray rfl rfl HTH.out HJ.out (bytes_one _) ?_))
                obtain ⟨w3, hw3⟩ : ∃ w3, w3 = (w2.alloc (.cells (z32.map u8v).toArray 24)).setCells w2.heap.size 0 (O.map u8v) := ⟨_, rfl⟩
                change Code.wp _ _ _ _ ((w2.alloc (.cells (z32.map u8v).toArray 24)).setCells w2.heap.size 0 (O.map u8v))
                have hst : UB w3 w2.heap.size 24 O := by rw [hw3]; exact blk_setAll HU2.out (by rw [List.length_map, HOL.out]; rfl)
                have hb23 : Below w2.heap.size w2 w3 := by rw [hw3]; exact below_setCells (balloc (Below.refl _ _) _) (Nat.le_refl _) _ _
                have HB3 : Hid (Below w.heap.size w w3) := bcall HB2.out hb23
                have HI3 := Lib.hid (HI2.out.below hb23)
                have HU3 := Lib.hid hst
                rw [← hw3]
                clear hw3 hst hb23 HU2 HTH HJ HXT HK HS HI HI2 HB2
                go_upto_region 16 with (first
                  | (go_at_call 36
                     refine (HEX.out w3 _ _ _ (SlV.arr HU3.out HOL.out) HI3.out).mono ?_
                     rintro e0 w4 ⟨A4, c4, rfl, hs4, hb4⟩
                     have HB4 := Lib.hid (bcall HB3.out hb4)
                     have HU4 : Hid (UB w4 w2.heap.size 24 O) := Blk.below HU3.out hb4
                     have HS4 := Lib.hid hs4
                     clear hb4 hs4))
                have c0 := HU4.out.at32 HOL.out 0 (by decide) HX.out.1 (show _ = (7 : Int) from rfl)
                have c1 := HU4.out.at32 HOL.out 1 (by decide) HX.out.2 (show _ = (119 : Int) from rfl)
                obtain ⟨g4, o4, hA4, hg4, hcs⟩ := HS4.out.cells (by rw [HEL.out]; decide)
                subst hA4
                have d0 := hcs 0 (by rw [HEL.out]; decide)
                have d1 := hcs 1 (by rw [HEL.out]; decide)
                have d2 := hcs 41 (by rw [HEL.out]; decide)
                rw [HY.out.1] at d0
                rw [HY.out.2.1] at d1
                rw [HY.out.2.2] at d2
                have d0' : w4.cell? ⟨g4, o4, none⟩ = some (.int .u8 60) := d0
                have d1' : w4.cell? ⟨g4, o4 + 1, none⟩ = some (.int .u8 178) := d1
                have d2' : w4.cell? ⟨g4, o4 + 41, none⟩ = some (.int .u8 101) := d2
                clear hcs hg4 d0 d1 d2 HEL HX HY HOL
                go_wp2_with fail
                go_ret
                exact ⟨rfl, HB4.out⟩
end Go.Proofs.Ytlapgccfgkokcaa
