/- The reference's reads: a rate (contract). Conditions: the bytes lie in memory. (Printed by gen8d.py.) -/
import Derived.Test.YtkfimncbfbbopaaBlksR
set_option linter.unusedVariables false
set_option linter.unusedSimpArgs false
namespace Go.Proofs.Ytkfimncbfbbopaa
open Go.RowKit
attribute [local go_sem ↓] Go.wp_at_zero Go.wp_at_succ

set_option maxRecDepth 100000 in
set_option maxHeartbeats 12800000 in
theorem reads6_c (b : List UInt8) (A : Option Addr) (n cap : Nat) (w : World) (h : SlV w (.slice A n cap) b) (hn : n ≤ 1200) (hcap : n ≤ cap) (hm4 : n % 4 = 0) (hR : rembB b = true) :
    Calls Try.prog 33 #[.int .i64 206, .int .i64 15, .slice A n cap] w (RdR (reportS 206 15 b) w) := by
  have HN := Lib.hid h.num
  have HS := Lib.hid h
  clear h
  obtain ⟨gr, hgr⟩ : ∃ gr, gr = w.heap.size := ⟨_, rfl⟩
  obtain ⟨w1, hw1⟩ : ∃ w1, w1 = w.alloc (.cells #[.int .i64 0, .int .u32 0, .int .u32 0, .int .u64 0, .int .u32 0, .int .u32 0, .int .u32 0, .slice none 0 0, .slice none 0 0, .slice none 0 0, .int .i64 0, .int .u32 0, .slice none 0 0, .int .i64 0, .int .i64 0, .slice none 0 0] 40) := ⟨_, rfl⟩
  have HZ1 : Hid (Blk w1 gr 40 zR) := by show Blk _ _ _ _; rw [hw1]; exact Blk.newAt hgr _ _
  have HB1 : Hid (Below w.heap.size w w1) := by show Below _ _ _; rw [hw1]; exact balloc (Below.refl _ _) _
  have HGR : Hid (w.heap.size = gr) := hgr.symm
  have HS1 : Hid (SlV w1 (.slice A n cap) b) := HS.out.below HB1.out
  have hk : kindS ((206 : Nat) : Int) ((15 : Nat) : Int) b = 6 := by simp [kindS, hR]
  have hk2 : (kindS 206 15 b != 7) = true := by
    have : kindS 206 15 b = 6 := by simp [kindS, hR]
    rw [this]; rfl
  have HK := Lib.hid hk
  have h12 : 12 ≤ n := by
    unfold rembB at hR
    simp only [Bool.and_eq_true, decide_eq_true_eq] at hR
    have := HN.out
    omega
  have HR12 := Lib.hid h12
  have h8 : ¬ n < 8 := by omega
  clear hk hR
  obtain ⟨iS, hiS, hzaS, hzbS, hzcS⟩ := info_parts infoS
  obtain ⟨fr, hfr⟩ : ∃ fr, nAt b 0 4 = fr := ⟨_, rfl⟩
  obtain ⟨ab, hab⟩ : ∃ ab, nAt b 4 4 = ab := ⟨_, rfl⟩
  have Hfr := Lib.hid hfr
  have Hab := Lib.hid hab
  have hcut : ∀ wx, (Instr.slice 22 (.slice A n cap) (some (.int .i64 8)) none none).run Try.prog wx = .ok (.slice (cutA A cap 8) (n - 8) (cap - 8)) wx := fun wx => cut_from wx A n cap 8 (by omega)
  obtain ⟨D, hD⟩ : ∃ D, D = cutA A cap 8 := ⟨_, rfl⟩
  obtain ⟨m, hm⟩ : ∃ m, m = n - 8 := ⟨_, rfl⟩
  obtain ⟨c2, hc2⟩ : ∃ c2, c2 = cap - 8 := ⟨_, rfl⟩
  obtain ⟨r, hr⟩ : ∃ r, r = b.drop 8 := ⟨_, rfl⟩
  rw [← hD, ← hm, ← hc2] at hcut
  have HSR : Hid (SlV w (.slice D m c2) r) := by show SlV _ _ _; rw [hD, hm, hc2, hr]; exact SlB.toV (SlB.drop (HS.out.toB (Nat.le_refl _)) (by omega)) (Nat.le_refl _)
  have HRN_ : Hid (r.length = m) := HSR.out.num.symm
  have HRD := Lib.hid hr
  have HM := Lib.hid hm
  have hm1 : m ≤ 1200 := by omega
  have h8i : ¬ (n : Int) < 8 := by omega
  clear hfr hab hD hm hc2 hr
  have HK8 := Lib.hid h8
  have hm4' : 4 ≤ m := by have := HM.out; omega
  clear h8 h12
  have HX4_ : Hid (nAt r 4 1 = nAt b 12 1) := by show _ = _; rw [HRD.out, nAt_drop]
  have HX5_ : Hid (nAt r 5 3 = nAt b 13 3) := by show _ = _; rw [HRD.out, nAt_drop]
  by_cases hm8 : m < 8
  · have hm8i : (m : Int) < 8 := by omega
    have HRN : Hid ((reportS 206 15 b).2 = false) := rep_k6_no HK.out (by have := HN.out; have := HR12.out; omega) (by have := HN.out; have := HM.out; have := HK8.out; omega)
    clear hm8
    go_enter Try.func33, Try.ntmps33
    go_upto_region 1 with fail
    rw [← hw1, ← hgr]
    clear hw1 hgr
    go_upto_region 7 with (first
      | (go_at_call 45
         refine (other_c 206 15 b A n cap w1 HS1.out).mono ?_
         rintro e0 _ ⟨rfl, rfl⟩)
      )
    have lfr : (fr : Int) < 4294967296 := by have := nAt_lt b 0 4; have := Hfr.out; omega
    have lab : (ab : Int) < 4294967296 := by have := nAt_lt b 4 4; have := Hab.out; omega
    go_upto_region 9 with (first
      | (go_at_call 32
         first
           | ((with_reducible show Calls _ _ #[_, .int .i64 0, .int .i64 4] _ _)
              refine (N_z (p := 0) (k := 4) HS1.out rfl rfl Hfr.out (by omega) (by decide) (by omega)).mono ?_
              rintro e0 _ ⟨rfl, rfl⟩)
           | ((with_reducible show Calls _ _ #[_, .int .i64 4, .int .i64 4] _ _)
              refine (N_z (p := 4) (k := 4) HS1.out rfl rfl Hab.out (by omega) (by decide) (by omega)).mono ?_
              rintro e0 _ ⟨rfl, rfl⟩))
      )
    clear hcut lfr lab
    obtain ⟨gx, hgx⟩ : ∃ gx, gx = w1.heap.size := ⟨_, rfl⟩
    obtain ⟨w2, hw2⟩ : ∃ w2, w2 = w1.alloc (.cells #[.int .i64 3, .int .u32 (fr : Int), .int .u32 (ab : Int), .int .u64 0, .int .u32 0, .int .u32 0, .int .u32 0, .slice none 0 0, .slice none 0 0, .slice none 0 0, .int .i64 0, .int .u32 0, .slice none 0 0, .int .i64 0, .int .i64 0, .slice none 0 0] 40) := ⟨_, rfl⟩
    rw [← hw2, ← hgx]
    have HX2 : Hid (Blk w2 gx 40 #[.int .i64 3, .int .u32 (fr : Int), .int .u32 (ab : Int), .int .u64 0, .int .u32 0, .int .u32 0, .int .u32 0, .slice none 0 0, .slice none 0 0, .slice none 0 0, .int .i64 0, .int .u32 0, .slice none 0 0, .int .i64 0, .int .i64 0, .slice none 0 0]) := by show Blk _ _ _ _; rw [hw2]; exact Blk.newAt hgx _ _
    have HZ2 : Hid (Blk w2 gr 40 zR) := by show Blk _ _ _ _; rw [hw2]; exact Blk.alloc HZ1.out _
    have HB2 : Hid (Below w.heap.size w w2) := by show Below _ _ _; rw [hw2]; exact balloc HB1.out _
    have HLT : Hid (gr < gx ∧ w.heap.size ≤ gr) := ⟨by rw [hgx]; exact HZ1.out.lt, by have := HGR.out; omega⟩
    clear hw2 hgx HS1 HB1 HZ1
    have k0 : w2.cell? ⟨gx, 0, none⟩ = some (.int .i64 3) := HX2.out.cell 0
    have f0 := HX2.out.frozen 0
    go_upto_region 30 with fail
    clear k0 f0
    obtain ⟨w3, hw3⟩ : ∃ w3, w3 = w2.setCell ⟨gx, 0, none⟩ (.int .i64 6) := ⟨_, rfl⟩
    rw [← hw3]
    have HX3 : Hid (Blk w3 gx 40 #[.int .i64 6, .int .u32 (fr : Int), .int .u32 (ab : Int), .int .u64 0, .int .u32 0, .int .u32 0, .int .u32 0, .slice none 0 0, .slice none 0 0, .slice none 0 0, .int .i64 0, .int .u32 0, .slice none 0 0, .int .i64 0, .int .i64 0, .slice none 0 0]) := by show Blk _ _ _ _; rw [hw3]; exact HX2.out.set_ 0 _
    have hne : gr ≠ gx := by have := HLT.out; omega
    have HZ3 : Hid (Blk w3 gr 40 zR) := by show Blk _ _ _ _; rw [hw3]; exact HZ2.out.far (p := ⟨gx, 0, none⟩) hne _
    have hwx : w.heap.size ≤ gx := by have := HLT.out; omega
    have HB3 : Hid (Below w.heap.size w w3) := by show Below _ _ _; rw [hw3]; exact bset HB2.out (p := ⟨gx, 0, none⟩) hwx _
    clear hw3 HX2 HZ2 HB2 hne hwx
    obtain ⟨R, hR⟩ : ∃ R, R = (#[.int .i64 6, .int .u32 (fr : Int), .int .u32 (ab : Int), .int .u64 0, .int .u32 0, .int .u32 0, .int .u32 0, .slice none 0 0, .slice none 0 0, .slice none 0 0, .int .i64 0, .int .u32 0, .slice none 0 0, .int .i64 0, .int .i64 0, .slice none 0 0] : Array Value).toList := ⟨_, rfl⟩
    have HRA : Hid (R.toArray = #[.int .i64 6, .int .u32 (fr : Int), .int .u32 (ab : Int), .int .u64 0, .int .u32 0, .int .u32 0, .int .u32 0, .slice none 0 0, .slice none 0 0, .slice none 0 0, .int .i64 0, .int .u32 0, .slice none 0 0, .int .i64 0, .int .i64 0, .slice none 0 0]) := by show _ = _; rw [hR]
    have HRL : Hid (R.length = 16) := by show _ = _; rw [hR]; rfl
    have HR1 : Hid (R.toArray.all (·.oneCell') = true) := by show _ = _; rw [hR]; simp [Value.oneCell']
    clear hR
    have HI : Hid ((Try.prog.info? 40).map (·.size) = some R.length) := by show _ = _; rw [HRL.out]; exact infoRef40
    have HJ : Hid ((Try.prog.info? 40).map (·.size) = some R.toArray.size) := by show _ = _; rw [List.size_toArray, HRL.out]; exact infoRef40
    have HXR : Hid (Blk w3 gx 40 R.toArray) := by show Blk _ _ _ _; rw [HRA.out]; exact HX3.out
    have HRG : Hid (w3.rangeAt gx 0 R) := blk_range HXR.out
    have HTH : Hid (w3.there gr 0 R.toArray.size) := by show World.there _ _ _ R.toArray.size; rw [List.size_toArray, HRL.out]; exact blk_there (l := zR.toList) HZ3.out rfl
    go_wp2_with (first
      | ((with_reducible show wpList _ _ _ (⟨some 140, .load 40 (.tmp 8), _, _, _, _⟩ :: _) _ _); refine wpList_load_mid rfl 40 (.tmp 8) rfl gx 0 rfl R _ HRG.out Try.underlying40 rfl HI.out ?_)
      | ((with_reducible show wpList _ _ _ (⟨none, .store 40 (.tmp 6) (.tmp 140), _, _, _, _⟩ :: _) _ _); refine wpList_store_mid rfl 40 (.tmp 6) (.tmp 140) rfl gr 0 R.toArray rfl rfl HTH.out HJ.out HR1.out ?_))
    have hst : Blk (w3.setCells gr 0 R) gr 40 R.toArray := blk_setAll (l := zR.toList) HZ3.out (by rw [HRL.out]; rfl)
    have hload := run_loadVar_mid (P := Try.prog) (w3.setCells gr 0 R) gr 0 40 R _ (blk_range hst) Try.underlying40 rfl HI.out
    have hbf : Below w.heap.size w (w3.setCells gr 0 R) := below_setCells HB3.out (by have := HGR.out; omega) _ _
    refine bodyPost_ret (results_ct rfl _ _ gr _ _ rfl rfl hload) rfl ⟨R, by rw [HRN.out]; rfl, HRL.out, HR1.out, ?_, hbf⟩
    rw [HRN.out]
    intro h
    cases h
  have hm8i : ¬ (m : Int) < 8 := by omega
  have hrl : 8 ≤ r.length := by have := HRN_.out; omega
  obtain ⟨ga, oa, hA, hga, hcells⟩ := head_cells (HRN_.out ▸ HSR.out.rd) (by omega)
  have hcu := hcells 4 (by have := HRN_.out; omega)
  have HX1 := Lib.hid (nAt_one (b := r) (p := 4) (by have := HRN_.out; omega))
  have HGA := Lib.hid hga
  obtain ⟨q, hq⟩ : ∃ q, nAt r 4 1 = q := ⟨_, rfl⟩
  have hq1 : q < 256 := by have := nAt_lt r 4 1; omega
  have HU : Hid (w.cell? ⟨ga, oa + 4, none⟩ = some (.int .u8 (q : Int))) := by
    show _ = _
    rw [hcu, ← HX1.out, hq]
  have HQE := Lib.hid hq
  have hm4i : (4 : Int) < (m : Int) := by omega
  subst hA
  clear hcells hga hcu HX1 hq hrl
  by_cases hl : m = 8 + 4 * q
  case neg =>
    have q1 : ((m : Int) == 8 + 4 * (q : Int)) = false := by rw [beq_eq_false_iff_ne]; omega
    have q2 : ((m : Int) != 8 + 4 * (q : Int)) = true := by simp; omega
    have HRN : Hid ((reportS 206 15 b).2 = false) := rep_k6_no HK.out (by have := HN.out; have := HR12.out; omega) (by have := HN.out; have := HM.out; have := HK8.out; have := HX4_.out; have := HQE.out; omega)
    clear hl hm8
    go_enter Try.func33, Try.ntmps33
    go_upto_region 1 with fail
    rw [← hw1, ← hgr]
    clear hw1 hgr
    go_upto_region 7 with (first
      | (go_at_call 45
         refine (other_c 206 15 b A n cap w1 HS1.out).mono ?_
         rintro e0 _ ⟨rfl, rfl⟩)
      )
    have lfr : (fr : Int) < 4294967296 := by have := nAt_lt b 0 4; have := Hfr.out; omega
    have lab : (ab : Int) < 4294967296 := by have := nAt_lt b 4 4; have := Hab.out; omega
    go_upto_region 9 with (first
      | (go_at_call 32
         first
           | ((with_reducible show Calls _ _ #[_, .int .i64 0, .int .i64 4] _ _)
              refine (N_z (p := 0) (k := 4) HS1.out rfl rfl Hfr.out (by omega) (by decide) (by omega)).mono ?_
              rintro e0 _ ⟨rfl, rfl⟩)
           | ((with_reducible show Calls _ _ #[_, .int .i64 4, .int .i64 4] _ _)
              refine (N_z (p := 4) (k := 4) HS1.out rfl rfl Hab.out (by omega) (by decide) (by omega)).mono ?_
              rintro e0 _ ⟨rfl, rfl⟩))
      )
    clear hcut lfr lab
    obtain ⟨gx, hgx⟩ : ∃ gx, gx = w1.heap.size := ⟨_, rfl⟩
    obtain ⟨w2, hw2⟩ : ∃ w2, w2 = w1.alloc (.cells #[.int .i64 3, .int .u32 (fr : Int), .int .u32 (ab : Int), .int .u64 0, .int .u32 0, .int .u32 0, .int .u32 0, .slice none 0 0, .slice none 0 0, .slice none 0 0, .int .i64 0, .int .u32 0, .slice none 0 0, .int .i64 0, .int .i64 0, .slice none 0 0] 40) := ⟨_, rfl⟩
    rw [← hw2, ← hgx]
    have HX2 : Hid (Blk w2 gx 40 #[.int .i64 3, .int .u32 (fr : Int), .int .u32 (ab : Int), .int .u64 0, .int .u32 0, .int .u32 0, .int .u32 0, .slice none 0 0, .slice none 0 0, .slice none 0 0, .int .i64 0, .int .u32 0, .slice none 0 0, .int .i64 0, .int .i64 0, .slice none 0 0]) := by show Blk _ _ _ _; rw [hw2]; exact Blk.newAt hgx _ _
    have HZ2 : Hid (Blk w2 gr 40 zR) := by show Blk _ _ _ _; rw [hw2]; exact Blk.alloc HZ1.out _
    have HB2 : Hid (Below w.heap.size w w2) := by show Below _ _ _; rw [hw2]; exact balloc HB1.out _
    have HLT : Hid (gr < gx ∧ w.heap.size ≤ gr) := ⟨by rw [hgx]; exact HZ1.out.lt, by have := HGR.out; omega⟩
    clear hw2 hgx HS1 HB1 HZ1
    have k0 : w2.cell? ⟨gx, 0, none⟩ = some (.int .i64 3) := HX2.out.cell 0
    have f0 := HX2.out.frozen 0
    go_upto_region 30 with fail
    clear k0 f0
    obtain ⟨w3, hw3⟩ : ∃ w3, w3 = w2.setCell ⟨gx, 0, none⟩ (.int .i64 6) := ⟨_, rfl⟩
    rw [← hw3]
    have HX3 : Hid (Blk w3 gx 40 #[.int .i64 6, .int .u32 (fr : Int), .int .u32 (ab : Int), .int .u64 0, .int .u32 0, .int .u32 0, .int .u32 0, .slice none 0 0, .slice none 0 0, .slice none 0 0, .int .i64 0, .int .u32 0, .slice none 0 0, .int .i64 0, .int .i64 0, .slice none 0 0]) := by show Blk _ _ _ _; rw [hw3]; exact HX2.out.set_ 0 _
    have hne : gr ≠ gx := by have := HLT.out; omega
    have HZ3 : Hid (Blk w3 gr 40 zR) := by show Blk _ _ _ _; rw [hw3]; exact HZ2.out.far (p := ⟨gx, 0, none⟩) hne _
    have hwx : w.heap.size ≤ gx := by have := HLT.out; omega
    have HB3 : Hid (Below w.heap.size w w3) := by show Below _ _ _; rw [hw3]; exact bset HB2.out (p := ⟨gx, 0, none⟩) hwx _
    clear hw3 HX2 HZ2 HB2 hne hwx
    have ku : w3.cell? ⟨ga, oa + 4, none⟩ = some (.int .u8 (q : Int)) := (HB3.out.cell (p := ⟨ga, oa + 4, none⟩) HGA.out).trans HU.out
    obtain ⟨R, hR⟩ : ∃ R, R = (#[.int .i64 6, .int .u32 (fr : Int), .int .u32 (ab : Int), .int .u64 0, .int .u32 0, .int .u32 0, .int .u32 0, .slice none 0 0, .slice none 0 0, .slice none 0 0, .int .i64 0, .int .u32 0, .slice none 0 0, .int .i64 0, .int .i64 0, .slice none 0 0] : Array Value).toList := ⟨_, rfl⟩
    have HRA : Hid (R.toArray = #[.int .i64 6, .int .u32 (fr : Int), .int .u32 (ab : Int), .int .u64 0, .int .u32 0, .int .u32 0, .int .u32 0, .slice none 0 0, .slice none 0 0, .slice none 0 0, .int .i64 0, .int .u32 0, .slice none 0 0, .int .i64 0, .int .i64 0, .slice none 0 0]) := by show _ = _; rw [hR]
    have HRL : Hid (R.length = 16) := by show _ = _; rw [hR]; rfl
    have HR1 : Hid (R.toArray.all (·.oneCell') = true) := by show _ = _; rw [hR]; simp [Value.oneCell']
    clear hR
    have HI : Hid ((Try.prog.info? 40).map (·.size) = some R.length) := by show _ = _; rw [HRL.out]; exact infoRef40
    have HJ : Hid ((Try.prog.info? 40).map (·.size) = some R.toArray.size) := by show _ = _; rw [List.size_toArray, HRL.out]; exact infoRef40
    have HXR : Hid (Blk w3 gx 40 R.toArray) := by show Blk _ _ _ _; rw [HRA.out]; exact HX3.out
    have HRG : Hid (w3.rangeAt gx 0 R) := blk_range HXR.out
    have HTH : Hid (w3.there gr 0 R.toArray.size) := by show World.there _ _ _ R.toArray.size; rw [List.size_toArray, HRL.out]; exact blk_there (l := zR.toList) HZ3.out rfl
    go_wp2_with (first
      | ((with_reducible show wpList _ _ _ (⟨some 140, .load 40 (.tmp 8), _, _, _, _⟩ :: _) _ _); refine wpList_load_mid rfl 40 (.tmp 8) rfl gx 0 rfl R _ HRG.out Try.underlying40 rfl HI.out ?_)
      | ((with_reducible show wpList _ _ _ (⟨none, .store 40 (.tmp 6) (.tmp 140), _, _, _, _⟩ :: _) _ _); refine wpList_store_mid rfl 40 (.tmp 6) (.tmp 140) rfl gr 0 R.toArray rfl rfl HTH.out HJ.out HR1.out ?_))
    have hst : Blk (w3.setCells gr 0 R) gr 40 R.toArray := blk_setAll (l := zR.toList) HZ3.out (by rw [HRL.out]; rfl)
    have hload := run_loadVar_mid (P := Try.prog) (w3.setCells gr 0 R) gr 0 40 R _ (blk_range hst) Try.underlying40 rfl HI.out
    have hbf : Below w.heap.size w (w3.setCells gr 0 R) := below_setCells HB3.out (by have := HGR.out; omega) _ _
    refine bodyPost_ret (results_ct rfl _ _ gr _ _ rfl rfl hload) rfl ⟨R, by rw [HRN.out]; rfl, HRL.out, HR1.out, ?_, hbf⟩
    rw [HRN.out]
    intro h
    cases h
  have q1 : ((m : Int) == 8 + 4 * (q : Int)) = true := by simp; omega
  have q2 : ((m : Int) != 8 + 4 * (q : Int)) = false := by simp; omega
  have HMQ := Lib.hid hl
  clear hl hm8
  go_enter Try.func33, Try.ntmps33
  go_upto_region 1 with fail
  rw [← hw1, ← hgr]
  clear hw1 hgr
  go_upto_region 7 with (first
    | (go_at_call 45
       refine (other_c 206 15 b A n cap w1 HS1.out).mono ?_
       rintro e0 _ ⟨rfl, rfl⟩)
    )
  have lfr : (fr : Int) < 4294967296 := by have := nAt_lt b 0 4; have := Hfr.out; omega
  have lab : (ab : Int) < 4294967296 := by have := nAt_lt b 4 4; have := Hab.out; omega
  go_upto_region 9 with (first
    | (go_at_call 32
       first
         | ((with_reducible show Calls _ _ #[_, .int .i64 0, .int .i64 4] _ _)
            refine (N_z (p := 0) (k := 4) HS1.out rfl rfl Hfr.out (by omega) (by decide) (by omega)).mono ?_
            rintro e0 _ ⟨rfl, rfl⟩)
         | ((with_reducible show Calls _ _ #[_, .int .i64 4, .int .i64 4] _ _)
            refine (N_z (p := 4) (k := 4) HS1.out rfl rfl Hab.out (by omega) (by decide) (by omega)).mono ?_
            rintro e0 _ ⟨rfl, rfl⟩))
    )
  clear hcut lfr lab
  obtain ⟨gx, hgx⟩ : ∃ gx, gx = w1.heap.size := ⟨_, rfl⟩
  obtain ⟨w2, hw2⟩ : ∃ w2, w2 = w1.alloc (.cells #[.int .i64 3, .int .u32 (fr : Int), .int .u32 (ab : Int), .int .u64 0, .int .u32 0, .int .u32 0, .int .u32 0, .slice none 0 0, .slice none 0 0, .slice none 0 0, .int .i64 0, .int .u32 0, .slice none 0 0, .int .i64 0, .int .i64 0, .slice none 0 0] 40) := ⟨_, rfl⟩
  rw [← hw2, ← hgx]
  have HX2 : Hid (Blk w2 gx 40 #[.int .i64 3, .int .u32 (fr : Int), .int .u32 (ab : Int), .int .u64 0, .int .u32 0, .int .u32 0, .int .u32 0, .slice none 0 0, .slice none 0 0, .slice none 0 0, .int .i64 0, .int .u32 0, .slice none 0 0, .int .i64 0, .int .i64 0, .slice none 0 0]) := by show Blk _ _ _ _; rw [hw2]; exact Blk.newAt hgx _ _
  have HZ2 : Hid (Blk w2 gr 40 zR) := by show Blk _ _ _ _; rw [hw2]; exact Blk.alloc HZ1.out _
  have HB2 : Hid (Below w.heap.size w w2) := by show Below _ _ _; rw [hw2]; exact balloc HB1.out _
  have HLT : Hid (gr < gx ∧ w.heap.size ≤ gr) := ⟨by rw [hgx]; exact HZ1.out.lt, by have := HGR.out; omega⟩
  clear hw2 hgx HS1 HB1 HZ1
  have k0 : w2.cell? ⟨gx, 0, none⟩ = some (.int .i64 3) := HX2.out.cell 0
  have f0 := HX2.out.frozen 0
  go_upto_region 30 with fail
  clear k0 f0
  obtain ⟨w3, hw3⟩ : ∃ w3, w3 = w2.setCell ⟨gx, 0, none⟩ (.int .i64 6) := ⟨_, rfl⟩
  rw [← hw3]
  have HX3 : Hid (Blk w3 gx 40 #[.int .i64 6, .int .u32 (fr : Int), .int .u32 (ab : Int), .int .u64 0, .int .u32 0, .int .u32 0, .int .u32 0, .slice none 0 0, .slice none 0 0, .slice none 0 0, .int .i64 0, .int .u32 0, .slice none 0 0, .int .i64 0, .int .i64 0, .slice none 0 0]) := by show Blk _ _ _ _; rw [hw3]; exact HX2.out.set_ 0 _
  have hne : gr ≠ gx := by have := HLT.out; omega
  have HZ3 : Hid (Blk w3 gr 40 zR) := by show Blk _ _ _ _; rw [hw3]; exact HZ2.out.far (p := ⟨gx, 0, none⟩) hne _
  have hwx : w.heap.size ≤ gx := by have := HLT.out; omega
  have HB3 : Hid (Below w.heap.size w w3) := by show Below _ _ _; rw [hw3]; exact bset HB2.out (p := ⟨gx, 0, none⟩) hwx _
  clear hw3 HX2 HZ2 HB2 hne hwx
  have ku : w3.cell? ⟨ga, oa + 4, none⟩ = some (.int .u8 (q : Int)) := (HB3.out.cell (p := ⟨ga, oa + 4, none⟩) HGA.out).trans HU.out
  go_upto_region 32 with fail
  clear ku q1 q2 hm8i hm4i
  obtain ⟨y, hy⟩ : ∃ y, nAt r 5 3 = y := ⟨_, rfl⟩
  have byy : y < 16777216 := by have := nAt_lt r 5 3; omega
  have HY := Lib.hid hy
  have HSR3 : Hid (SlV w3 (.slice (some ⟨ga, oa, none⟩) m c2) r) := HSR.out.below HB3.out
  have hm8' : 8 ≤ m := by have := HMQ.out; omega
  obtain ⟨ex, hex⟩ : ∃ ex, ex = y / 262144 := ⟨_, rfl⟩
  obtain ⟨mt, hmt⟩ : ∃ mt, mt = y % 262144 := ⟨_, rfl⟩
  have hex1 : (y : Int) / 262144 = (ex : Int) := by omega
  have hex2 : ex < 64 := by omega
  have hex3 : (ex : Int) < 64 := by omega
  have hmt1 : bits .and .u64 (y : Int) 262143 = (mt : Int) := by rw [hmt]; exact and18 y (by omega)
  have hmt2 : mt < 262144 := by omega
  have hmt3 : (mt : Int) < 4294967296 := by omega
  have k10 : w3.cell? ⟨gx, 10, none⟩ = some (.int .i64 0) := HX3.out.cell 10
  have k11 : w3.cell? ⟨gx, 11, none⟩ = some (.int .u32 0) := HX3.out.cell 11
  have f10 := HX3.out.frozen 10
  have f11 := HX3.out.frozen 11
  have HEX := Lib.hid hex
  have HMT := Lib.hid hmt
  clear hex hmt hy
  go_upto_region 34 with (first
    | (go_at_call 32
       refine (N_z (p := 5) (k := 3) HSR3.out rfl rfl HY.out (by omega) (by decide) (by omega)).mono ?_
       rintro e0 _ ⟨rfl, rfl⟩))
  clear k10 k11 f10 f11 hex1 hmt1
  obtain ⟨w4, hw4⟩ : ∃ w4, w4 = (w3.setCell ⟨gx, 10, none⟩ (.int .i64 (ex : Int))).setCell ⟨gx, 11, none⟩ (.int .u32 (mt : Int)) := ⟨_, rfl⟩
  rw [← hw4]
  have HX4 : Hid (Blk w4 gx 40 #[.int .i64 6, .int .u32 (fr : Int), .int .u32 (ab : Int), .int .u64 0, .int .u32 0, .int .u32 0, .int .u32 0, .slice none 0 0, .slice none 0 0, .slice none 0 0, .int .i64 (ex : Int), .int .u32 (mt : Int), .slice none 0 0, .int .i64 0, .int .i64 0, .slice none 0 0]) := by show Blk _ _ _ _; rw [hw4]; exact (HX3.out.set_ 10 _).set_ 11 _
  have hne : gr ≠ gx := by have := HLT.out; omega
  have HZ4 : Hid (Blk w4 gr 40 zR) := by show Blk _ _ _ _; rw [hw4]; exact (HZ3.out.far (p := ⟨gx, 10, none⟩) hne _).far (p := ⟨gx, 11, none⟩) hne _
  have hwx : w.heap.size ≤ gx := by have := HLT.out; omega
  have HB4 : Hid (Below w.heap.size w w4) := by show Below _ _ _; rw [hw4]; exact bset (bset HB3.out (p := ⟨gx, 10, none⟩) hwx _) (p := ⟨gx, 11, none⟩) hwx _
  clear hw4 HX3 HZ3 HB3 hne hwx HSR3 byy hmt3 hmt2 hex2 hex3
  obtain ⟨B0, hB0⟩ : ∃ B0, B0 = w.heap.size := ⟨_, rfl⟩
  have HBE := Lib.hid hB0
  have HLO : Hid (B0 ≤ w.heap.size ∧ B0 ≤ gr ∧ gr < gx) := by have := HLT.out; exact ⟨by omega, by omega, by omega⟩
  have HBc : Hid (Below B0 w w4) := by show Below _ _ _; rw [hB0]; exact HB4.out
  clear hB0 HB4
  go_upto_region 35 with fail
  go_loopg [13] q (fun gg v wx => ∃ (i a : Nat) (Ao : Option Addr) (co : Nat), gg = q - i ∧ i ≤ q ∧ a = 8 + 4 * i ∧ v = .int .i64 (a : Int) ∧ Below B0 w wx ∧ Blk wx gr 40 zR ∧ Blk wx gx 40 #[.int .i64 6, .int .u32 (fr : Int), .int .u32 (ab : Int), .int .u64 0, .int .u32 0, .int .u32 0, .int .u32 0, .slice none 0 0, .slice none 0 0, .slice none 0 0, .int .i64 (ex : Int), .int .u32 (mt : Int), .slice Ao i co, .int .i64 0, .int .i64 0, .slice none 0 0] ∧ World.ownsRow wx B0 33 1 (.slice Ao i co) i (rowC ksS ((List.range i).map (ssrcAt r))))
  case atStart => exact ⟨0, 8, none, 0, by omega, by omega, rfl, rfl, HBc.out, HZ4.out, HX4.out, by simpa [rowC] using World.ownsRow_nil _ _ _ _⟩
  case round =>
    obtain ⟨i, a, Ao, co, hgg, hi, ha, rfl, hb, hz, hx, ho⟩ := hrel
    clear HBc HZ4 HX4
    have HB := Lib.hid hb
    have HZ := Lib.hid hz
    have HX := Lib.hid hx
    have HO := Lib.hid ho
    have HGG := Lib.hid hgg
    clear hb hz hx ho hgg
    by_cases hin : i < q
    · have hmq := HMQ.out
      have han : a + 4 ≤ m := by omega
      have hani : (a : Int) < (m : Int) := by omega
      have hb1 : a + 4 ≤ r.length := by have := HRN_.out; omega
      have HAL := Lib.hid ha
      have HLT2 := Lib.hid hin
      clear ha hin hmq
      obtain ⟨x0, hx0⟩ : ∃ x, nAt r a 4 = x := ⟨_, rfl⟩
      have lx0 : (x0 : Int) < 4294967296 := by have := nAt_lt r a 4; omega
      have lw0 : IntKind.u32.wrap (x0 : Int) = (x0 : Int) := by rw [wrap_u32]; omega
      have HM_0 := Lib.hid hx0
      have HTK : Hid ((rowC ksS ((List.range (i + 1)).map (ssrcAt r))) = (rowC ksS ((List.range i).map (ssrcAt r))) ++ [numV .u32 x0]) := by
        show _ = _
        rw [range_snoc, rowC_append, rowC_one]
        unfold ssrcAt
        rw [show 8 + 4 * i = a from HAL.out.symm]
        rw [hx0]
        rfl
      clear hx0 hb1
      have hw4 : IntKind.i64.wrap ((a : Int) + 4) = ((a + 4 : Nat) : Int) := by rw [IntKind.wrap_i64]; omega
      have ho4 : 0 ≤ (a : Int) + 4 := by omega
      go_upto_region 37 with fail
      have HB_0 : Hid (Below B0 w (World.drew wr)) := HB.out.drew
      have HX_0 : Hid (Blk (World.drew wr) gx 40 #[.int .i64 6, .int .u32 (fr : Int), .int .u32 (ab : Int), .int .u64 0, .int .u32 0, .int .u32 0, .int .u32 0, .slice none 0 0, .slice none 0 0, .slice none 0 0, .int .i64 (ex : Int), .int .u32 (mt : Int), .slice Ao i co, .int .i64 0, .int .i64 0, .slice none 0 0]) := HX.out
      have HZ_0 : Hid (Blk (World.drew wr) gr 40 zR) := HZ.out
      have HO_0 : Hid (World.ownsRow (World.drew wr) B0 33 1 (.slice Ao i co) i (rowC ksS ((List.range i).map (ssrcAt r)))) := HO.out
      refine wp_region_held_drew (S := (fun w2 => Below B0 w w2)) (by kernel_rfl) (HB_0.out) (fun hHeld => ?_)
      refine wpAnyH_takeAt (i := 0) (v := (.pointer (some ⟨gx, 12, none⟩))) rfl (by kernel_rfl) (by kernel_rfl) (by kernel_rfl) (fun _ _ _ h => h) rfl (Or.inl ⟨by rfl, fun w' hS => ?_⟩) hHeld ?_
      · go_simp
      simp only [List.set_cons_zero, List.set_cons_succ]
      refine wpAnyH_takeAt (i := 2) (v := (.slice (some ⟨ga, oa, none⟩) m c2)) rfl (by kernel_rfl) (by kernel_rfl) (by kernel_rfl) (fun _ _ _ h => h) rfl (Or.inl ⟨by rfl, fun w' hS => ?_⟩) hHeld ?_
      · go_simp
      simp only [List.set_cons_zero, List.set_cons_succ]
      refine wpAnyH_takeAt (i := 3) (v := (.int .i64 ((a : Nat) : Int))) rfl (by kernel_rfl) (by kernel_rfl) (by kernel_rfl) (fun _ _ _ h => h) rfl (Or.inl ⟨by rfl, fun w' hS => ?_⟩) hHeld ?_
      · go_simp
      simp only [List.set_cons_zero, List.set_cons_succ]
      refine wpAnyH_ready (rs := [1, 4]) (by kernel_rfl) (by simp) (AllReadyH.cons rfl (fun K' hK => ?_) (AllReadyH.cons rfl (fun K' hK => ?_) AllReadyH.nil))
      · have hcell : (World.drew wr).cell? ⟨gx, 12, none⟩ = some (.slice Ao i co) := HX_0.out.cell 12
        go_simp
        clear hcell
        refine hK.out _ _ HB_0.out (fun hHeld' => ?_)
        clear hK hHeld
        have hHeld := hHeld'
        clear hHeld'
        refine wpAnyH_ready (rs := [4]) (by kernel_rfl) (by simp) (AllReadyH.cons rfl (fun K' hK => ?_) AllReadyH.nil)
        go_simp
        go_at_call 32
        refine (N_z (p := a) (k := 4) (HSR.out.below (HBE.out ▸ HB_0.out)) rfl rfl HM_0.out (by omega) (by decide) (by omega)).mono ?_
        rintro e0 _ ⟨rfl, rfl⟩
        go_wp2_with fail
        refine hK.out _ _ HB_0.out (fun hHeld' => ?_)
        clear hK hHeld
        have hHeld := hHeld'
        clear hHeld'
        refine wpAnyH_takeAt (i := 5) (v := (.int .u32 (x0 : Int))) rfl (by kernel_rfl) (by kernel_rfl) (by kernel_rfl) (fun _ _ _ h => h) rfl (Or.inl ⟨by rfl, fun w' hS => ?_⟩) hHeld ?_
        · go_simp
        simp only [List.set_cons_zero, List.set_cons_succ]
        refine wpAnyH_ready (rs := [6]) (by kernel_rfl) (by simp) (AllReadyH.cons rfl (fun K' hK => ?_) AllReadyH.nil)
        go_simp
        have HB_1 : Hid (Below B0 w (World.drew (World.alloc wr (.cells #[.int .u32 (x0 : Int)] 33)))) := ballocB HB_0.out (Nat.le_trans HLO.out.1 HB_0.out.size) _
        have HX_1 : Hid (Blk (World.drew (World.alloc wr (.cells #[.int .u32 (x0 : Int)] 33))) gx 40 #[.int .i64 6, .int .u32 (fr : Int), .int .u32 (ab : Int), .int .u64 0, .int .u32 0, .int .u32 0, .int .u32 0, .slice none 0 0, .slice none 0 0, .slice none 0 0, .int .i64 (ex : Int), .int .u32 (mt : Int), .slice Ao i co, .int .i64 0, .int .i64 0, .slice none 0 0]) := Blk.alloc HX_0.out _
        have HZ_1 : Hid (Blk (World.drew (World.alloc wr (.cells #[.int .u32 (x0 : Int)] 33))) gr 40 zR) := Blk.alloc HZ_0.out _
        have HO_1 : Hid (World.ownsRow (World.drew (World.alloc wr (.cells #[.int .u32 (x0 : Int)] 33))) B0 33 1 (.slice Ao i co) i (rowC ksS ((List.range i).map (ssrcAt r)))) := HO_0.out.alloc _
        have HN_1 : Hid (Reads (World.drew (World.alloc wr (.cells #[.int .u32 (x0 : Int)] 33))) (World.heap (World.drew (World.alloc wr (.cells #[.int .u32 (x0 : Int)] 33)))).size 1 (some ⟨(World.heap (World.drew wr)).size, 0, none⟩) 1 [numV .u32 x0]) := reads_blk (Blk.newAt rfl _ _) rfl
        have HS_1 : Hid (B0 ≤ (World.heap (World.drew (World.alloc wr (.cells #[.int .u32 (x0 : Int)] 33)))).size) := by show _ ≤ _; have := HLO.out; exact Nat.le_of_lt (Nat.lt_of_le_of_lt (by omega) HX_1.out.lt)
        refine hK.out _ _ HB_1.out (fun hHeld' => ?_)
        clear hK hHeld
        have hHeld := hHeld'
        clear hHeld'
        refine wpAnyH_ready (rs := [7]) (by kernel_rfl) (by simp) (AllReadyH.cons rfl (fun K' hK => ?_) AllReadyH.nil)
        refine step_append_any _ (by rfl) (.tmp 158) (.tmp 163) _ (by rfl) B0 33 iS _ 1 4 Try.underlying38 hiS hzaS hzbS hzcS rfl (by omega) (.slice Ao i co) i (rowC ksS ((List.range i).map (ssrcAt r))) (by rfl) HO_1.out
          _ (some ⟨(World.heap (World.drew wr)).size, 0, none⟩) 1 1 [numV .u32 x0] (by rfl) HN_1.out (by simp [numV, Value.oneCell']) (by simp only [maxLen]; omega) (by omega) HS_1.out ?_
        intro v_2 w_2 hown_2 hg_2 hv_2
        obtain ⟨A_2, c_2, rfl⟩ := own_slice hown_2
        have hsv_2 : Sv (fun j => (Value.slice Ao i co).ownBlock = some j) (World.drew (World.alloc wr (.cells #[.int .u32 (x0 : Int)] 33))) w_2 := (Sv.refl _ _).grown hg_2 (fun g e => .inl e)
        have HB_2 : Hid (Below B0 w w_2) := HB_1.out.trans (hsv_2.toBelow (fun j e => (HO_1.out.lt j e).1) (Nat.le_trans HLO.out.1 HB_1.out.size))
        have HX_2 : Hid (Blk w_2 gx 40 #[.int .i64 6, .int .u32 (fr : Int), .int .u32 (ab : Int), .int .u64 0, .int .u32 0, .int .u32 0, .int .u32 0, .slice none 0 0, .slice none 0 0, .slice none 0 0, .int .i64 (ex : Int), .int .u32 (mt : Int), .slice Ao i co, .int .i64 0, .int .i64 0, .slice none 0 0]) := Blk.grown HX_1.out hg_2 (Ne.symm (own_blk_ne HO_1.out HX_1.out (by decide)))
        have HZ_2 : Hid (Blk w_2 gr 40 zR) := Blk.grown HZ_1.out hg_2 (Ne.symm (own_blk_ne HO_1.out HZ_1.out (by decide)))
        have HO_2 := Lib.hid hown_2
        clear hown_2 hg_2 hv_2 hsv_2
        refine hK.out _ _ HB_2.out (fun hHeld' => ?_)
        clear hK hHeld
        have hHeld := hHeld'
        clear hHeld'
        refine wpAnyH_putAt rfl ?_
        simp only [List.set_cons_zero, List.set_cons_succ]
        refine wpAnyH_takeAt (i := 8) (v := (.pointer (some ⟨gx, 12, none⟩))) rfl (by kernel_rfl) (by kernel_rfl) (by kernel_rfl) (fun _ _ _ h => h) rfl (Or.inl ⟨by rfl, fun w' hS => ?_⟩) hHeld ?_
        · go_simp
        simp only [List.set_cons_zero, List.set_cons_succ]
        refine wpAnyH_ready (rs := [9]) (by kernel_rfl) (by simp) (AllReadyH.cons rfl (fun K' hK => ?_) AllReadyH.nil)
        have hcell : w_2.cell? ⟨gx, 12, none⟩ = some (.slice Ao i co) := HX_2.out.cell 12
        have hfree : w_2.frozen? ⟨gx, 12, none⟩ = false := HX_2.out.frozen 12
        go_simp
        clear hcell hfree
        have HB_3 : Hid (Below B0 w (World.setCell w_2 ⟨gx, 12, none⟩ (.slice A_2 (i + 1) c_2))) := HB_2.out.setCell (p := ⟨gx, 12, none⟩) (by have := HLO.out; show _ ≤ gx; omega) _
        have HX_3 : Hid (Blk (World.setCell w_2 ⟨gx, 12, none⟩ (.slice A_2 (i + 1) c_2)) gx 40 #[.int .i64 6, .int .u32 (fr : Int), .int .u32 (ab : Int), .int .u64 0, .int .u32 0, .int .u32 0, .int .u32 0, .slice none 0 0, .slice none 0 0, .slice none 0 0, .int .i64 (ex : Int), .int .u32 (mt : Int), .slice A_2 (i + 1) c_2, .int .i64 0, .int .i64 0, .slice none 0 0]) := HX_2.out.set_ 12 _
        have HZ_3 : Hid (Blk (World.setCell w_2 ⟨gx, 12, none⟩ (.slice A_2 (i + 1) c_2)) gr 40 zR) := HZ_2.out.far (p := ⟨gx, 12, none⟩) (by have := HLO.out; show gr ≠ gx; omega) _
        have HO_3 : Hid (World.ownsRow (World.setCell w_2 ⟨gx, 12, none⟩ (.slice A_2 (i + 1) c_2)) B0 33 1 (.slice A_2 (i + 1) c_2) (i + 1) (rowC ksS ((List.range (i + 1)).map (ssrcAt r)))) := by
          show World.ownsRow _ _ _ _ _ _ _
          rw [HTK.out]
          exact own_set HO_2.out (own_blk_ne HO_2.out HX_2.out (by decide)) 12 _
        refine hK.out _ _ HB_3.out (fun hHeld' => ?_)
        clear hK hHeld
        have hHeld := hHeld'
        clear hHeld'
        refine wpAnyH_done (by kernel_rfl) ?_ _
        generalize (World.setCell w_2 ⟨gx, 12, none⟩ (.slice A_2 (i + 1) c_2)) = wf at *
        go_wp2_with fail
        go_roundg (q - (i + 1))
        case measure => have := HLT2.out; have := HGG.out; omega
        case rel =>
          have hlt := HLT2.out
          have hal := HAL.out
          exact ⟨i + 1, a + 4, A_2, c_2, rfl, by omega, by omega, by first | rfl | go_num, HB_3.out, HZ_3.out, HX_3.out, HO_3.out⟩
      · go_simp
        go_at_call 32
        refine (N_z (p := a) (k := 4) (HSR.out.below (HBE.out ▸ HB_0.out)) rfl rfl HM_0.out (by omega) (by decide) (by omega)).mono ?_
        rintro e0 _ ⟨rfl, rfl⟩
        go_wp2_with fail
        refine hK.out _ _ HB_0.out (fun hHeld' => ?_)
        clear hK hHeld
        have hHeld := hHeld'
        clear hHeld'
        refine wpAnyH_takeAt (i := 5) (v := (.int .u32 (x0 : Int))) rfl (by kernel_rfl) (by kernel_rfl) (by kernel_rfl) (fun _ _ _ h => h) rfl (Or.inl ⟨by rfl, fun w' hS => ?_⟩) hHeld ?_
        · go_simp
        simp only [List.set_cons_zero, List.set_cons_succ]
        refine wpAnyH_ready (rs := [1, 6]) (by kernel_rfl) (by simp) (AllReadyH.cons rfl (fun K' hK => ?_) (AllReadyH.cons rfl (fun K' hK => ?_) AllReadyH.nil))
        · have hcell : (World.drew wr).cell? ⟨gx, 12, none⟩ = some (.slice Ao i co) := HX_0.out.cell 12
          go_simp
          clear hcell
          refine hK.out _ _ HB_0.out (fun hHeld' => ?_)
          clear hK hHeld
          have hHeld := hHeld'
          clear hHeld'
          refine wpAnyH_ready (rs := [6]) (by kernel_rfl) (by simp) (AllReadyH.cons rfl (fun K' hK => ?_) AllReadyH.nil)
          go_simp
          have HB_4 : Hid (Below B0 w (World.drew (World.alloc wr (.cells #[.int .u32 (x0 : Int)] 33)))) := ballocB HB_0.out (Nat.le_trans HLO.out.1 HB_0.out.size) _
          have HX_4 : Hid (Blk (World.drew (World.alloc wr (.cells #[.int .u32 (x0 : Int)] 33))) gx 40 #[.int .i64 6, .int .u32 (fr : Int), .int .u32 (ab : Int), .int .u64 0, .int .u32 0, .int .u32 0, .int .u32 0, .slice none 0 0, .slice none 0 0, .slice none 0 0, .int .i64 (ex : Int), .int .u32 (mt : Int), .slice Ao i co, .int .i64 0, .int .i64 0, .slice none 0 0]) := Blk.alloc HX_0.out _
          have HZ_4 : Hid (Blk (World.drew (World.alloc wr (.cells #[.int .u32 (x0 : Int)] 33))) gr 40 zR) := Blk.alloc HZ_0.out _
          have HO_4 : Hid (World.ownsRow (World.drew (World.alloc wr (.cells #[.int .u32 (x0 : Int)] 33))) B0 33 1 (.slice Ao i co) i (rowC ksS ((List.range i).map (ssrcAt r)))) := HO_0.out.alloc _
          have HN_4 : Hid (Reads (World.drew (World.alloc wr (.cells #[.int .u32 (x0 : Int)] 33))) (World.heap (World.drew (World.alloc wr (.cells #[.int .u32 (x0 : Int)] 33)))).size 1 (some ⟨(World.heap (World.drew wr)).size, 0, none⟩) 1 [numV .u32 x0]) := reads_blk (Blk.newAt rfl _ _) rfl
          have HS_4 : Hid (B0 ≤ (World.heap (World.drew (World.alloc wr (.cells #[.int .u32 (x0 : Int)] 33)))).size) := by show _ ≤ _; have := HLO.out; exact Nat.le_of_lt (Nat.lt_of_le_of_lt (by omega) HX_4.out.lt)
          refine hK.out _ _ HB_4.out (fun hHeld' => ?_)
          clear hK hHeld
          have hHeld := hHeld'
          clear hHeld'
          refine wpAnyH_ready (rs := [7]) (by kernel_rfl) (by simp) (AllReadyH.cons rfl (fun K' hK => ?_) AllReadyH.nil)
          refine step_append_any _ (by rfl) (.tmp 158) (.tmp 163) _ (by rfl) B0 33 iS _ 1 4 Try.underlying38 hiS hzaS hzbS hzcS rfl (by omega) (.slice Ao i co) i (rowC ksS ((List.range i).map (ssrcAt r))) (by rfl) HO_4.out
            _ (some ⟨(World.heap (World.drew wr)).size, 0, none⟩) 1 1 [numV .u32 x0] (by rfl) HN_4.out (by simp [numV, Value.oneCell']) (by simp only [maxLen]; omega) (by omega) HS_4.out ?_
          intro v_5 w_5 hown_5 hg_5 hv_5
          obtain ⟨A_5, c_5, rfl⟩ := own_slice hown_5
          have hsv_5 : Sv (fun j => (Value.slice Ao i co).ownBlock = some j) (World.drew (World.alloc wr (.cells #[.int .u32 (x0 : Int)] 33))) w_5 := (Sv.refl _ _).grown hg_5 (fun g e => .inl e)
          have HB_5 : Hid (Below B0 w w_5) := HB_4.out.trans (hsv_5.toBelow (fun j e => (HO_4.out.lt j e).1) (Nat.le_trans HLO.out.1 HB_4.out.size))
          have HX_5 : Hid (Blk w_5 gx 40 #[.int .i64 6, .int .u32 (fr : Int), .int .u32 (ab : Int), .int .u64 0, .int .u32 0, .int .u32 0, .int .u32 0, .slice none 0 0, .slice none 0 0, .slice none 0 0, .int .i64 (ex : Int), .int .u32 (mt : Int), .slice Ao i co, .int .i64 0, .int .i64 0, .slice none 0 0]) := Blk.grown HX_4.out hg_5 (Ne.symm (own_blk_ne HO_4.out HX_4.out (by decide)))
          have HZ_5 : Hid (Blk w_5 gr 40 zR) := Blk.grown HZ_4.out hg_5 (Ne.symm (own_blk_ne HO_4.out HZ_4.out (by decide)))
          have HO_5 := Lib.hid hown_5
          clear hown_5 hg_5 hv_5 hsv_5
          refine hK.out _ _ HB_5.out (fun hHeld' => ?_)
          clear hK hHeld
          have hHeld := hHeld'
          clear hHeld'
          refine wpAnyH_putAt rfl ?_
          simp only [List.set_cons_zero, List.set_cons_succ]
          refine wpAnyH_takeAt (i := 8) (v := (.pointer (some ⟨gx, 12, none⟩))) rfl (by kernel_rfl) (by kernel_rfl) (by kernel_rfl) (fun _ _ _ h => h) rfl (Or.inl ⟨by rfl, fun w' hS => ?_⟩) hHeld ?_
          · go_simp
          simp only [List.set_cons_zero, List.set_cons_succ]
          refine wpAnyH_ready (rs := [9]) (by kernel_rfl) (by simp) (AllReadyH.cons rfl (fun K' hK => ?_) AllReadyH.nil)
          have hcell : w_5.cell? ⟨gx, 12, none⟩ = some (.slice Ao i co) := HX_5.out.cell 12
          have hfree : w_5.frozen? ⟨gx, 12, none⟩ = false := HX_5.out.frozen 12
          go_simp
          clear hcell hfree
          have HB_6 : Hid (Below B0 w (World.setCell w_5 ⟨gx, 12, none⟩ (.slice A_5 (i + 1) c_5))) := HB_5.out.setCell (p := ⟨gx, 12, none⟩) (by have := HLO.out; show _ ≤ gx; omega) _
          have HX_6 : Hid (Blk (World.setCell w_5 ⟨gx, 12, none⟩ (.slice A_5 (i + 1) c_5)) gx 40 #[.int .i64 6, .int .u32 (fr : Int), .int .u32 (ab : Int), .int .u64 0, .int .u32 0, .int .u32 0, .int .u32 0, .slice none 0 0, .slice none 0 0, .slice none 0 0, .int .i64 (ex : Int), .int .u32 (mt : Int), .slice A_5 (i + 1) c_5, .int .i64 0, .int .i64 0, .slice none 0 0]) := HX_5.out.set_ 12 _
          have HZ_6 : Hid (Blk (World.setCell w_5 ⟨gx, 12, none⟩ (.slice A_5 (i + 1) c_5)) gr 40 zR) := HZ_5.out.far (p := ⟨gx, 12, none⟩) (by have := HLO.out; show gr ≠ gx; omega) _
          have HO_6 : Hid (World.ownsRow (World.setCell w_5 ⟨gx, 12, none⟩ (.slice A_5 (i + 1) c_5)) B0 33 1 (.slice A_5 (i + 1) c_5) (i + 1) (rowC ksS ((List.range (i + 1)).map (ssrcAt r)))) := by
            show World.ownsRow _ _ _ _ _ _ _
            rw [HTK.out]
            exact own_set HO_5.out (own_blk_ne HO_5.out HX_5.out (by decide)) 12 _
          refine hK.out _ _ HB_6.out (fun hHeld' => ?_)
          clear hK hHeld
          have hHeld := hHeld'
          clear hHeld'
          refine wpAnyH_done (by kernel_rfl) ?_ _
          generalize (World.setCell w_5 ⟨gx, 12, none⟩ (.slice A_5 (i + 1) c_5)) = wf at *
          go_wp2_with fail
          go_roundg (q - (i + 1))
          case measure => have := HLT2.out; have := HGG.out; omega
          case rel =>
            have hlt := HLT2.out
            have hal := HAL.out
            exact ⟨i + 1, a + 4, A_5, c_5, rfl, by omega, by omega, by first | rfl | go_num, HB_6.out, HZ_6.out, HX_6.out, HO_6.out⟩
        · go_simp
          have HB_7 : Hid (Below B0 w (World.drew (World.alloc wr (.cells #[.int .u32 (x0 : Int)] 33)))) := ballocB HB_0.out (Nat.le_trans HLO.out.1 HB_0.out.size) _
          have HX_7 : Hid (Blk (World.drew (World.alloc wr (.cells #[.int .u32 (x0 : Int)] 33))) gx 40 #[.int .i64 6, .int .u32 (fr : Int), .int .u32 (ab : Int), .int .u64 0, .int .u32 0, .int .u32 0, .int .u32 0, .slice none 0 0, .slice none 0 0, .slice none 0 0, .int .i64 (ex : Int), .int .u32 (mt : Int), .slice Ao i co, .int .i64 0, .int .i64 0, .slice none 0 0]) := Blk.alloc HX_0.out _
          have HZ_7 : Hid (Blk (World.drew (World.alloc wr (.cells #[.int .u32 (x0 : Int)] 33))) gr 40 zR) := Blk.alloc HZ_0.out _
          have HO_7 : Hid (World.ownsRow (World.drew (World.alloc wr (.cells #[.int .u32 (x0 : Int)] 33))) B0 33 1 (.slice Ao i co) i (rowC ksS ((List.range i).map (ssrcAt r)))) := HO_0.out.alloc _
          have HN_7 : Hid (Reads (World.drew (World.alloc wr (.cells #[.int .u32 (x0 : Int)] 33))) (World.heap (World.drew (World.alloc wr (.cells #[.int .u32 (x0 : Int)] 33)))).size 1 (some ⟨(World.heap (World.drew wr)).size, 0, none⟩) 1 [numV .u32 x0]) := reads_blk (Blk.newAt rfl _ _) rfl
          have HS_7 : Hid (B0 ≤ (World.heap (World.drew (World.alloc wr (.cells #[.int .u32 (x0 : Int)] 33)))).size) := by show _ ≤ _; have := HLO.out; exact Nat.le_of_lt (Nat.lt_of_le_of_lt (by omega) HX_7.out.lt)
          refine hK.out _ _ HB_7.out (fun hHeld' => ?_)
          clear hK hHeld
          have hHeld := hHeld'
          clear hHeld'
          refine wpAnyH_ready (rs := [1]) (by kernel_rfl) (by simp) (AllReadyH.cons rfl (fun K' hK => ?_) AllReadyH.nil)
          have hcell : (World.drew (World.alloc wr (.cells #[.int .u32 (x0 : Int)] 33))).cell? ⟨gx, 12, none⟩ = some (.slice Ao i co) := HX_7.out.cell 12
          go_simp
          clear hcell
          refine hK.out _ _ HB_7.out (fun hHeld' => ?_)
          clear hK hHeld
          have hHeld := hHeld'
          clear hHeld'
          refine wpAnyH_ready (rs := [7]) (by kernel_rfl) (by simp) (AllReadyH.cons rfl (fun K' hK => ?_) AllReadyH.nil)
          refine step_append_any _ (by rfl) (.tmp 158) (.tmp 163) _ (by rfl) B0 33 iS _ 1 4 Try.underlying38 hiS hzaS hzbS hzcS rfl (by omega) (.slice Ao i co) i (rowC ksS ((List.range i).map (ssrcAt r))) (by rfl) HO_7.out
            _ (some ⟨(World.heap (World.drew wr)).size, 0, none⟩) 1 1 [numV .u32 x0] (by rfl) HN_7.out (by simp [numV, Value.oneCell']) (by simp only [maxLen]; omega) (by omega) HS_7.out ?_
          intro v_8 w_8 hown_8 hg_8 hv_8
          obtain ⟨A_8, c_8, rfl⟩ := own_slice hown_8
          have hsv_8 : Sv (fun j => (Value.slice Ao i co).ownBlock = some j) (World.drew (World.alloc wr (.cells #[.int .u32 (x0 : Int)] 33))) w_8 := (Sv.refl _ _).grown hg_8 (fun g e => .inl e)
          have HB_8 : Hid (Below B0 w w_8) := HB_7.out.trans (hsv_8.toBelow (fun j e => (HO_7.out.lt j e).1) (Nat.le_trans HLO.out.1 HB_7.out.size))
          have HX_8 : Hid (Blk w_8 gx 40 #[.int .i64 6, .int .u32 (fr : Int), .int .u32 (ab : Int), .int .u64 0, .int .u32 0, .int .u32 0, .int .u32 0, .slice none 0 0, .slice none 0 0, .slice none 0 0, .int .i64 (ex : Int), .int .u32 (mt : Int), .slice Ao i co, .int .i64 0, .int .i64 0, .slice none 0 0]) := Blk.grown HX_7.out hg_8 (Ne.symm (own_blk_ne HO_7.out HX_7.out (by decide)))
          have HZ_8 : Hid (Blk w_8 gr 40 zR) := Blk.grown HZ_7.out hg_8 (Ne.symm (own_blk_ne HO_7.out HZ_7.out (by decide)))
          have HO_8 := Lib.hid hown_8
          clear hown_8 hg_8 hv_8 hsv_8
          refine hK.out _ _ HB_8.out (fun hHeld' => ?_)
          clear hK hHeld
          have hHeld := hHeld'
          clear hHeld'
          refine wpAnyH_putAt rfl ?_
          simp only [List.set_cons_zero, List.set_cons_succ]
          refine wpAnyH_takeAt (i := 8) (v := (.pointer (some ⟨gx, 12, none⟩))) rfl (by kernel_rfl) (by kernel_rfl) (by kernel_rfl) (fun _ _ _ h => h) rfl (Or.inl ⟨by rfl, fun w' hS => ?_⟩) hHeld ?_
          · go_simp
          simp only [List.set_cons_zero, List.set_cons_succ]
          refine wpAnyH_ready (rs := [9]) (by kernel_rfl) (by simp) (AllReadyH.cons rfl (fun K' hK => ?_) AllReadyH.nil)
          have hcell : w_8.cell? ⟨gx, 12, none⟩ = some (.slice Ao i co) := HX_8.out.cell 12
          have hfree : w_8.frozen? ⟨gx, 12, none⟩ = false := HX_8.out.frozen 12
          go_simp
          clear hcell hfree
          have HB_9 : Hid (Below B0 w (World.setCell w_8 ⟨gx, 12, none⟩ (.slice A_8 (i + 1) c_8))) := HB_8.out.setCell (p := ⟨gx, 12, none⟩) (by have := HLO.out; show _ ≤ gx; omega) _
          have HX_9 : Hid (Blk (World.setCell w_8 ⟨gx, 12, none⟩ (.slice A_8 (i + 1) c_8)) gx 40 #[.int .i64 6, .int .u32 (fr : Int), .int .u32 (ab : Int), .int .u64 0, .int .u32 0, .int .u32 0, .int .u32 0, .slice none 0 0, .slice none 0 0, .slice none 0 0, .int .i64 (ex : Int), .int .u32 (mt : Int), .slice A_8 (i + 1) c_8, .int .i64 0, .int .i64 0, .slice none 0 0]) := HX_8.out.set_ 12 _
          have HZ_9 : Hid (Blk (World.setCell w_8 ⟨gx, 12, none⟩ (.slice A_8 (i + 1) c_8)) gr 40 zR) := HZ_8.out.far (p := ⟨gx, 12, none⟩) (by have := HLO.out; show gr ≠ gx; omega) _
          have HO_9 : Hid (World.ownsRow (World.setCell w_8 ⟨gx, 12, none⟩ (.slice A_8 (i + 1) c_8)) B0 33 1 (.slice A_8 (i + 1) c_8) (i + 1) (rowC ksS ((List.range (i + 1)).map (ssrcAt r)))) := by
            show World.ownsRow _ _ _ _ _ _ _
            rw [HTK.out]
            exact own_set HO_8.out (own_blk_ne HO_8.out HX_8.out (by decide)) 12 _
          refine hK.out _ _ HB_9.out (fun hHeld' => ?_)
          clear hK hHeld
          have hHeld := hHeld'
          clear hHeld'
          refine wpAnyH_done (by kernel_rfl) ?_ _
          generalize (World.setCell w_8 ⟨gx, 12, none⟩ (.slice A_8 (i + 1) c_8)) = wf at *
          go_wp2_with fail
          go_roundg (q - (i + 1))
          case measure => have := HLT2.out; have := HGG.out; omega
          case rel =>
            have hlt := HLT2.out
            have hal := HAL.out
            exact ⟨i + 1, a + 4, A_8, c_8, rfl, by omega, by omega, by first | rfl | go_num, HB_9.out, HZ_9.out, HX_9.out, HO_9.out⟩
    · have hie : q = i := by omega
      subst hie
      have hani : ¬ (a : Int) < (m : Int) := by have := HMQ.out; omega
      clear hin hi ha
      have HRY := Lib.hid (rep_k6 HK.out (n := q) (by rw [← HX4_.out]; exact HQE.out.symm) (by have := HN.out; have := HM.out; have := HMQ.out; have := HK8.out; omega))
      obtain ⟨R, hR⟩ : ∃ R, R = (#[.int .i64 6, .int .u32 (fr : Int), .int .u32 (ab : Int), .int .u64 0, .int .u32 0, .int .u32 0, .int .u32 0, .slice none 0 0, .slice none 0 0, .slice none 0 0, .int .i64 (ex : Int), .int .u32 (mt : Int), .slice Ao q co, .int .i64 0, .int .i64 0, .slice none 0 0] : Array Value).toList := ⟨_, rfl⟩
      have HRA : Hid (R.toArray = #[.int .i64 6, .int .u32 (fr : Int), .int .u32 (ab : Int), .int .u64 0, .int .u32 0, .int .u32 0, .int .u32 0, .slice none 0 0, .slice none 0 0, .slice none 0 0, .int .i64 (ex : Int), .int .u32 (mt : Int), .slice Ao q co, .int .i64 0, .int .i64 0, .slice none 0 0]) := by show _ = _; rw [hR]
      have HRL : Hid (R.length = 16) := by show _ = _; rw [hR]; rfl
      have HR1 : Hid (R.toArray.all (·.oneCell') = true) := by show _ = _; rw [hR]; simp [Value.oneCell']
      clear hR
      have HI : Hid ((Try.prog.info? 40).map (·.size) = some R.length) := by show _ = _; rw [HRL.out]; exact infoRef40
      have HJ : Hid ((Try.prog.info? 40).map (·.size) = some R.toArray.size) := by show _ = _; rw [List.size_toArray, HRL.out]; exact infoRef40
      have HXR : Hid (Blk wr gx 40 R.toArray) := by show Blk _ _ _ _; rw [HRA.out]; exact HX.out
      have HRG : Hid (wr.rangeAt gx 0 R) := blk_range HXR.out
      have HTH : Hid (wr.there gr 0 R.toArray.size) := by show World.there _ _ _ R.toArray.size; rw [List.size_toArray, HRL.out]; exact blk_there (l := zR.toList) HZ.out rfl
      go_wp2_with (first
        | ((with_reducible show wpList _ _ _ (⟨some 166, .load 40 (.tmp 8), _, _, _, _⟩ :: _) _ _); refine wpList_load_mid rfl 40 (.tmp 8) rfl gx 0 rfl R _ HRG.out Try.underlying40 rfl HI.out ?_)
        | ((with_reducible show wpList _ _ _ (⟨none, .store 40 (.tmp 6) (.tmp 166), _, _, _, _⟩ :: _) _ _); refine wpList_store_mid rfl 40 (.tmp 6) (.tmp 166) rfl gr 0 R.toArray rfl rfl HTH.out HJ.out HR1.out ?_))
      have hst : Blk (wr.setCells gr 0 R) gr 40 R.toArray := blk_setAll (l := zR.toList) HZ.out (by rw [HRL.out]; rfl)
      have hload := run_loadVar_mid (P := Try.prog) (wr.setCells gr 0 R) gr 0 40 R _ (blk_range hst) Try.underlying40 rfl HI.out
      have hbf : Below w.heap.size w (wr.setCells gr 0 R) := below_setCells (by rw [← HBE.out]; exact HB.out) (by have := HGR.out; omega) _ _
      refine bodyPost_ret (results_ct rfl _ _ gr _ _ rfl rfl hload) rfl ⟨R, by rw [HRY.out]; rfl, HRL.out, HR1.out, ?_, hbf⟩
      intro _
      rw [HRY.out, HRA.out]
      simp only [Hfr.out, Hab.out, ← HRD.out, ← HX5_.out, HY.out, ← HEX.out, ← HMT.out]
      exact ⟨nilV, nilV, nilV, .slice Ao q co, nilV, rfl, World.ownsRow_nil _ _ _ _, World.ownsRow_nil _ _ _ _, World.ownsRow_nil _ _ _ _, rowR (own_setAll (own_blk_ne HO.out HZ.out (by decide)) _ _ _ HO.out) HBE.out (by simp), World.ownsRow_nil _ _ _ _⟩
end Go.Proofs.Ytkfimncbfbbopaa
