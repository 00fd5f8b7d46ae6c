/- The reference's reads: a lost picture (contract). Conditions: the bytes lie in memory. (Printed by gen8d.py.) -/
import Derived.Test.YtkfimncbfbbopaaBlksR
set_option linter.unusedVariables false
set_option linter.unusedSimpArgs false
namespace Go.Proofs.Ytkfimncbfbbopaa
open Go.RowKit
attribute [local go_sem ↓] Go.wp_at_zero Go.wp_at_succ

set_option maxRecDepth 100000 in
set_option maxHeartbeats 12800000 in
theorem reads4_c (b : List UInt8) (A : Option Addr) (n cap : Nat) (w : World) (h : SlV w (.slice A n cap) b) (hn : n ≤ 1200) (hcap : n ≤ cap) (hm4 : n % 4 = 0) :
    Calls Try.prog 33 #[.int .i64 206, .int .i64 1, .slice A n cap] w (RdR (reportS 206 1 b) w) := by
  have HN := Lib.hid h.num
  have HS := Lib.hid h
  clear h
  obtain ⟨gr, hgr⟩ : ∃ gr, gr = w.heap.size := ⟨_, rfl⟩
  obtain ⟨w1, hw1⟩ : ∃ w1, w1 = w.alloc (.cells #[.int .i64 0, .int .u32 0, .int .u32 0, .int .u64 0, .int .u32 0, .int .u32 0, .int .u32 0, .slice none 0 0, .slice none 0 0, .slice none 0 0, .int .i64 0, .int .u32 0, .slice none 0 0, .int .i64 0, .int .i64 0, .slice none 0 0] 40) := ⟨_, rfl⟩
  have HZ1 : Hid (Blk w1 gr 40 zR) := by show Blk _ _ _ _; rw [hw1]; exact Blk.newAt hgr _ _
  have HB1 : Hid (Below w.heap.size w w1) := by show Below _ _ _; rw [hw1]; exact balloc (Below.refl _ _) _
  have HGR : Hid (w.heap.size = gr) := hgr.symm
  have HS1 : Hid (SlV w1 (.slice A n cap) b) := HS.out.below HB1.out
  have hk : kindS ((206 : Nat) : Int) ((1 : Nat) : Int) b = 4 := rfl
  have hk2 : (kindS 206 1 b != 7) = true := rfl
  have HK := Lib.hid hk
  clear hk
  by_cases h8 : n < 8
  · have h8i : (n : Int) < 8 := by omega
    have HRN : Hid ((reportS 206 1 b).2 = false) := rep_k4_no HK.out (by have := HN.out; omega)
    clear h8
    go_enter Try.func33, Try.ntmps33
    go_upto_region 1 with fail
    rw [← hw1, ← hgr]
    clear hw1 hgr
    have HTH : Hid (w1.there gr 0 zR.size) := blk_there (l := zR.toList) HZ1.out rfl
    have HON : Hid (zR.all (·.oneCell') = true) := zR_one
    have HJZ : Hid ((Try.prog.info? 40).map (·.size) = some zR.size) := infoRef40
    go_wp2_with (first
      | (go_at_call 45
         refine (other_c 206 1 b A n cap w1 HS1.out).mono ?_
         rintro e0 _ ⟨rfl, rfl⟩)
      | ((with_reducible show wpList _ _ _ (⟨none, .store 40 (.tmp 6) (.tmp 37), _, _, _, _⟩ :: _) _ _); refine wpList_store_mid rfl 40 (.tmp 6) (.tmp 37) rfl gr 0 zR rfl rfl HTH.out HJZ.out HON.out ?_))
    have hst : Blk (w1.setCells gr 0 zR.toList) gr 40 zR := blk_setAll (l := zR.toList) (l' := zR.toList) HZ1.out rfl
    have hload := run_loadVar_mid (P := Try.prog) (w1.setCells gr 0 zR.toList) gr 0 40 zR.toList _ (blk_range hst) Try.underlying40 rfl HJZ.out
    have hbf : Below w.heap.size w (w1.setCells gr 0 zR.toList) := below_setCells HB1.out (by have := HGR.out; omega) _ _
    refine bodyPost_ret (results_ct rfl _ _ gr _ _ rfl rfl hload) rfl ⟨zR.toList, by rw [HRN.out]; rfl, rfl, zR_one, ?_, hbf⟩
    rw [HRN.out]
    intro h
    cases h
  obtain ⟨fr, hfr⟩ : ∃ fr, nAt b 0 4 = fr := ⟨_, rfl⟩
  obtain ⟨ab, hab⟩ : ∃ ab, nAt b 4 4 = ab := ⟨_, rfl⟩
  have Hfr := Lib.hid hfr
  have Hab := Lib.hid hab
  have hcut : ∀ wx, (Instr.slice 22 (.slice A n cap) (some (.int .i64 8)) none none).run Try.prog wx = .ok (.slice (cutA A cap 8) (n - 8) (cap - 8)) wx := fun wx => cut_from wx A n cap 8 (by omega)
  obtain ⟨D, hD⟩ : ∃ D, D = cutA A cap 8 := ⟨_, rfl⟩
  obtain ⟨m, hm⟩ : ∃ m, m = n - 8 := ⟨_, rfl⟩
  obtain ⟨c2, hc2⟩ : ∃ c2, c2 = cap - 8 := ⟨_, rfl⟩
  obtain ⟨r, hr⟩ : ∃ r, r = b.drop 8 := ⟨_, rfl⟩
  rw [← hD, ← hm, ← hc2] at hcut
  have HSR : Hid (SlV w (.slice D m c2) r) := by show SlV _ _ _; rw [hD, hm, hc2, hr]; exact SlB.toV (SlB.drop (HS.out.toB (Nat.le_refl _)) (by omega)) (Nat.le_refl _)
  have HRN_ : Hid (r.length = m) := HSR.out.num.symm
  have HRD := Lib.hid hr
  have HM := Lib.hid hm
  have hm1 : m ≤ 1200 := by omega
  have h8i : ¬ (n : Int) < 8 := by omega
  clear hfr hab hD hm hc2 hr
  have HK8 := Lib.hid h8
  clear h8
  go_enter Try.func33, Try.ntmps33
  go_upto_region 1 with fail
  rw [← hw1, ← hgr]
  clear hw1 hgr
  go_upto_region 7 with (first
    | (go_at_call 45
       refine (other_c 206 1 b A n cap w1 HS1.out).mono ?_
       rintro e0 _ ⟨rfl, rfl⟩)
    )
  have lfr : (fr : Int) < 4294967296 := by have := nAt_lt b 0 4; have := Hfr.out; omega
  have lab : (ab : Int) < 4294967296 := by have := nAt_lt b 4 4; have := Hab.out; omega
  go_upto_region 9 with (first
    | (go_at_call 32
       first
         | ((with_reducible show Calls _ _ #[_, .int .i64 0, .int .i64 4] _ _)
            refine (N_z (p := 0) (k := 4) HS1.out rfl rfl Hfr.out (by omega) (by decide) (by omega)).mono ?_
            rintro e0 _ ⟨rfl, rfl⟩)
         | ((with_reducible show Calls _ _ #[_, .int .i64 4, .int .i64 4] _ _)
            refine (N_z (p := 4) (k := 4) HS1.out rfl rfl Hab.out (by omega) (by decide) (by omega)).mono ?_
            rintro e0 _ ⟨rfl, rfl⟩))
    )
  clear hcut lfr lab
  obtain ⟨gx, hgx⟩ : ∃ gx, gx = w1.heap.size := ⟨_, rfl⟩
  obtain ⟨w2, hw2⟩ : ∃ w2, w2 = w1.alloc (.cells #[.int .i64 3, .int .u32 (fr : Int), .int .u32 (ab : Int), .int .u64 0, .int .u32 0, .int .u32 0, .int .u32 0, .slice none 0 0, .slice none 0 0, .slice none 0 0, .int .i64 0, .int .u32 0, .slice none 0 0, .int .i64 0, .int .i64 0, .slice none 0 0] 40) := ⟨_, rfl⟩
  rw [← hw2, ← hgx]
  have HX2 : Hid (Blk w2 gx 40 #[.int .i64 3, .int .u32 (fr : Int), .int .u32 (ab : Int), .int .u64 0, .int .u32 0, .int .u32 0, .int .u32 0, .slice none 0 0, .slice none 0 0, .slice none 0 0, .int .i64 0, .int .u32 0, .slice none 0 0, .int .i64 0, .int .i64 0, .slice none 0 0]) := by show Blk _ _ _ _; rw [hw2]; exact Blk.newAt hgx _ _
  have HZ2 : Hid (Blk w2 gr 40 zR) := by show Blk _ _ _ _; rw [hw2]; exact Blk.alloc HZ1.out _
  have HB2 : Hid (Below w.heap.size w w2) := by show Below _ _ _; rw [hw2]; exact balloc HB1.out _
  have HLT : Hid (gr < gx ∧ w.heap.size ≤ gr) := ⟨by rw [hgx]; exact HZ1.out.lt, by have := HGR.out; omega⟩
  clear hw2 hgx HS1 HB1 HZ1
  have k0 : w2.cell? ⟨gx, 0, none⟩ = some (.int .i64 3) := HX2.out.cell 0
  have f0 := HX2.out.frozen 0
  go_upto_region 17 with fail
  clear k0 f0
  obtain ⟨w3, hw3⟩ : ∃ w3, w3 = w2.setCell ⟨gx, 0, none⟩ (.int .i64 4) := ⟨_, rfl⟩
  rw [← hw3]
  have HX3 : Hid (Blk w3 gx 40 #[.int .i64 4, .int .u32 (fr : Int), .int .u32 (ab : Int), .int .u64 0, .int .u32 0, .int .u32 0, .int .u32 0, .slice none 0 0, .slice none 0 0, .slice none 0 0, .int .i64 0, .int .u32 0, .slice none 0 0, .int .i64 0, .int .i64 0, .slice none 0 0]) := by show Blk _ _ _ _; rw [hw3]; exact HX2.out.set_ 0 _
  have hne : gr ≠ gx := by have := HLT.out; omega
  have HZ3 : Hid (Blk w3 gr 40 zR) := by show Blk _ _ _ _; rw [hw3]; exact HZ2.out.far (p := ⟨gx, 0, none⟩) hne _
  have hwx : w.heap.size ≤ gx := by have := HLT.out; omega
  have HB3 : Hid (Below w.heap.size w w3) := by show Below _ _ _; rw [hw3]; exact bset HB2.out (p := ⟨gx, 0, none⟩) hwx _
  clear hw3 HX2 HZ2 HB2 hne hwx
  by_cases hm0 : m = 0
  · have q1 : ((m : Int) == 0) = true := by simp; omega
    have q2 : decide (m = 0) = true := by simp; omega
    have HRY := Lib.hid (rep_k4 HK.out (by have := HN.out; have := HM.out; have := HK8.out; omega))
    clear hm0
    obtain ⟨R, hR⟩ : ∃ R, R = (#[.int .i64 4, .int .u32 (fr : Int), .int .u32 (ab : Int), .int .u64 0, .int .u32 0, .int .u32 0, .int .u32 0, .slice none 0 0, .slice none 0 0, .slice none 0 0, .int .i64 0, .int .u32 0, .slice none 0 0, .int .i64 0, .int .i64 0, .slice none 0 0] : Array Value).toList := ⟨_, rfl⟩
    have HRA : Hid (R.toArray = #[.int .i64 4, .int .u32 (fr : Int), .int .u32 (ab : Int), .int .u64 0, .int .u32 0, .int .u32 0, .int .u32 0, .slice none 0 0, .slice none 0 0, .slice none 0 0, .int .i64 0, .int .u32 0, .slice none 0 0, .int .i64 0, .int .i64 0, .slice none 0 0]) := by show _ = _; rw [hR]
    have HRL : Hid (R.length = 16) := by show _ = _; rw [hR]; rfl
    have HR1 : Hid (R.toArray.all (·.oneCell') = true) := by show _ = _; rw [hR]; simp [Value.oneCell']
    clear hR
    have HI : Hid ((Try.prog.info? 40).map (·.size) = some R.length) := by show _ = _; rw [HRL.out]; exact infoRef40
    have HJ : Hid ((Try.prog.info? 40).map (·.size) = some R.toArray.size) := by show _ = _; rw [List.size_toArray, HRL.out]; exact infoRef40
    have HXR : Hid (Blk w3 gx 40 R.toArray) := by show Blk _ _ _ _; rw [HRA.out]; exact HX3.out
    have HRG : Hid (w3.rangeAt gx 0 R) := blk_range HXR.out
    have HTH : Hid (w3.there gr 0 R.toArray.size) := by show World.there _ _ _ R.toArray.size; rw [List.size_toArray, HRL.out]; exact blk_there (l := zR.toList) HZ3.out rfl
    go_wp2_with (first
      | ((with_reducible show wpList _ _ _ (⟨some 79, .load 40 (.tmp 8), _, _, _, _⟩ :: _) _ _); refine wpList_load_mid rfl 40 (.tmp 8) rfl gx 0 rfl R _ HRG.out Try.underlying40 rfl HI.out ?_)
      | ((with_reducible show wpList _ _ _ (⟨none, .store 40 (.tmp 6) (.tmp 79), _, _, _, _⟩ :: _) _ _); refine wpList_store_mid rfl 40 (.tmp 6) (.tmp 79) rfl gr 0 R.toArray rfl rfl HTH.out HJ.out HR1.out ?_))
    have hst : Blk (w3.setCells gr 0 R) gr 40 R.toArray := blk_setAll (l := zR.toList) HZ3.out (by rw [HRL.out]; rfl)
    have hload := run_loadVar_mid (P := Try.prog) (w3.setCells gr 0 R) gr 0 40 R _ (blk_range hst) Try.underlying40 rfl HI.out
    have hbf : Below w.heap.size w (w3.setCells gr 0 R) := below_setCells HB3.out (by have := HGR.out; omega) _ _
    refine bodyPost_ret (results_ct rfl _ _ gr _ _ rfl rfl hload) rfl ⟨R, by rw [HRY.out]; rfl, HRL.out, HR1.out, ?_, hbf⟩
    intro _
    rw [HRY.out, HRA.out]
    simp only [Hfr.out, Hab.out]
    exact ⟨nilV, nilV, nilV, nilV, nilV, rfl, World.ownsRow_nil _ _ _ _, World.ownsRow_nil _ _ _ _, World.ownsRow_nil _ _ _ _, World.ownsRow_nil _ _ _ _, World.ownsRow_nil _ _ _ _⟩
  · have q1 : ((m : Int) == 0) = false := by rw [beq_eq_false_iff_ne]; omega
    have q2 : decide (m = 0) = false := by simp; omega
    have HRN : Hid ((reportS 206 1 b).2 = false) := rep_k4_no HK.out (by have := HN.out; have := HM.out; have := HK8.out; omega)
    clear hm0
    obtain ⟨R, hR⟩ : ∃ R, R = (#[.int .i64 4, .int .u32 (fr : Int), .int .u32 (ab : Int), .int .u64 0, .int .u32 0, .int .u32 0, .int .u32 0, .slice none 0 0, .slice none 0 0, .slice none 0 0, .int .i64 0, .int .u32 0, .slice none 0 0, .int .i64 0, .int .i64 0, .slice none 0 0] : Array Value).toList := ⟨_, rfl⟩
    have HRA : Hid (R.toArray = #[.int .i64 4, .int .u32 (fr : Int), .int .u32 (ab : Int), .int .u64 0, .int .u32 0, .int .u32 0, .int .u32 0, .slice none 0 0, .slice none 0 0, .slice none 0 0, .int .i64 0, .int .u32 0, .slice none 0 0, .int .i64 0, .int .i64 0, .slice none 0 0]) := by show _ = _; rw [hR]
    have HRL : Hid (R.length = 16) := by show _ = _; rw [hR]; rfl
    have HR1 : Hid (R.toArray.all (·.oneCell') = true) := by show _ = _; rw [hR]; simp [Value.oneCell']
    clear hR
    have HI : Hid ((Try.prog.info? 40).map (·.size) = some R.length) := by show _ = _; rw [HRL.out]; exact infoRef40
    have HJ : Hid ((Try.prog.info? 40).map (·.size) = some R.toArray.size) := by show _ = _; rw [List.size_toArray, HRL.out]; exact infoRef40
    have HXR : Hid (Blk w3 gx 40 R.toArray) := by show Blk _ _ _ _; rw [HRA.out]; exact HX3.out
    have HRG : Hid (w3.rangeAt gx 0 R) := blk_range HXR.out
    have HTH : Hid (w3.there gr 0 R.toArray.size) := by show World.there _ _ _ R.toArray.size; rw [List.size_toArray, HRL.out]; exact blk_there (l := zR.toList) HZ3.out rfl
    go_wp2_with (first
      | ((with_reducible show wpList _ _ _ (⟨some 79, .load 40 (.tmp 8), _, _, _, _⟩ :: _) _ _); refine wpList_load_mid rfl 40 (.tmp 8) rfl gx 0 rfl R _ HRG.out Try.underlying40 rfl HI.out ?_)
      | ((with_reducible show wpList _ _ _ (⟨none, .store 40 (.tmp 6) (.tmp 79), _, _, _, _⟩ :: _) _ _); refine wpList_store_mid rfl 40 (.tmp 6) (.tmp 79) rfl gr 0 R.toArray rfl rfl HTH.out HJ.out HR1.out ?_))
    have hst : Blk (w3.setCells gr 0 R) gr 40 R.toArray := blk_setAll (l := zR.toList) HZ3.out (by rw [HRL.out]; rfl)
    have hload := run_loadVar_mid (P := Try.prog) (w3.setCells gr 0 R) gr 0 40 R _ (blk_range hst) Try.underlying40 rfl HI.out
    have hbf : Below w.heap.size w (w3.setCells gr 0 R) := below_setCells HB3.out (by have := HGR.out; omega) _ _
    refine bodyPost_ret (results_ct rfl _ _ gr _ _ rfl rfl hload) rfl ⟨R, by rw [HRN.out]; rfl, HRL.out, HR1.out, ?_, hbf⟩
    rw [HRN.out]
    intro h
    cases h
end Go.Proofs.Ytkfimncbfbbopaa
