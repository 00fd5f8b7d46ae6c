/- The reference's blocks (contract, one kind). Conditions: the bytes lie in memory. (Printed by gen8b.py.) -/
import Derived.Test.YtkfimncbfbbopaaBlksR
set_option linter.unusedVariables false
set_option linter.unusedSimpArgs false
namespace Go.Proofs.Ytkfimncbfbbopaa
open Go.RowKit
attribute [local go_sem ↓] Go.wp_at_zero Go.wp_at_succ

set_option maxRecDepth 100000 in
set_option maxHeartbeats 12800000 in
theorem blocksR1_c (t c : Nat) (b : List UInt8) (A : Option Addr) (n cap : Nat) (w : World) (h : SlV w (.slice A n cap) b) (hn : n ≤ 1200) (hc : c ≤ 31) (hk : kindS t c b = 1) :
    Calls Try.prog 54 #[.int .i64 1, .int .i64 (c : Int), .slice A n cap] w (RdR (reportS t c b) w) := by
  obtain ⟨iB, hiB, hzaB, hzbB, hzcB⟩ := info_parts infoBlkQ
  have HN := Lib.hid h.num
  have HS := Lib.hid h
  have HK := Lib.hid hk
  clear h hk
  obtain ⟨gr, hgr⟩ : ∃ gr, gr = w.heap.size := ⟨_, rfl⟩
  obtain ⟨w1, hw1⟩ : ∃ w1, w1 = w.alloc (.cells #[.int .i64 0, .int .u32 0, .int .u32 0, .int .u64 0, .int .u32 0, .int .u32 0, .int .u32 0, .slice none 0 0, .slice none 0 0, .slice none 0 0, .int .i64 0, .int .u32 0, .slice none 0 0, .int .i64 0, .int .i64 0, .slice none 0 0] 40) := ⟨_, rfl⟩
  have HZ1 : Hid (Blk w1 gr 40 #[.int .i64 0, .int .u32 0, .int .u32 0, .int .u64 0, .int .u32 0, .int .u32 0, .int .u32 0, .slice none 0 0, .slice none 0 0, .slice none 0 0, .int .i64 0, .int .u32 0, .slice none 0 0, .int .i64 0, .int .i64 0, .slice none 0 0]) := by show Blk _ _ _ _; rw [hw1]; exact Blk.newAt hgr _ _
  have HB1 : Hid (Below w.heap.size w w1) := by show Below _ _ _; rw [hw1]; exact balloc (Below.refl _ _) _
  have HGR : Hid (w.heap.size = gr) := hgr.symm
  have HJ40 : Hid ((Try.prog.info? 40).map (·.size) = some 16) := infoRef40
  by_cases hl : n = 24 + 24 * c
  case neg =>
    have hd1 : ((n : Int) == 24 + 24 * (c : Int)) = false := by rw [beq_eq_false_iff_ne]; omega
    have hd2 : ((n : Int) != 24 + 24 * (c : Int)) = true := by simp; omega
    have HRN : Hid ((reportS t c b).2 = false) := rep_k1_no HK.out (by have := HN.out; omega)
    clear hl
    go_enter Try.func54, Try.ntmps54
    go_upto_region 1 with fail
    rw [← hw1, ← hgr]
    clear hw1 hgr
    have HZZ : Hid (Blk w1 gr 40 zR) := HZ1.out
    have HTH : Hid (w1.there gr 0 zR.size) := blk_there (l := zR.toList) HZZ.out rfl
    have HON : Hid (zR.all (·.oneCell') = true) := zR_one
    have HJZ : Hid ((Try.prog.info? 40).map (·.size) = some zR.size) := infoRef40
    go_wp2_with (first
      | ((with_reducible show wpList _ _ _ (⟨none, .store 40 (.tmp 6) (.tmp 20), _, _, _, _⟩ :: _) _ _); refine wpList_store_mid rfl 40 (.tmp 6) (.tmp 20) rfl gr 0 zR rfl rfl HTH.out HJZ.out HON.out ?_))
    have hst : Blk (w1.setCells gr 0 zR.toList) gr 40 zR := blk_setAll (l := zR.toList) (l' := zR.toList) HZZ.out rfl
    have hload := run_loadVar_mid (P := Try.prog) (w1.setCells gr 0 zR.toList) gr 0 40 zR.toList _ (blk_range hst) Try.underlying40 rfl HJZ.out
    have hbf : Below w.heap.size w (w1.setCells gr 0 zR.toList) := below_setCells HB1.out (by have := HGR.out; omega) _ _
    refine bodyPost_ret (results_ct rfl _ _ gr _ _ rfl rfl hload) rfl ⟨zR.toList, by rw [HRN.out]; rfl, rfl, zR_one, ?_, hbf⟩
    rw [HRN.out]
    intro h
    cases h
  have hd1 : ((n : Int) == 24 + 24 * (c : Int)) = true := by simp; omega
  have hd2 : ((n : Int) != 24 + 24 * (c : Int)) = false := by simp; omega
  have HLN := Lib.hid hl
  have HRY := Lib.hid (rep_k1 HK.out (by have := HN.out; omega : b.length = 24 + 24 * c))
  obtain ⟨fr, hfr⟩ : ∃ fr, nAt b 0 4 = fr := ⟨_, rfl⟩
  have lfr : (fr : Int) < 4294967296 := by have := nAt_lt b 0 4; omega
  obtain ⟨ntp, hntp⟩ : ∃ x, nAt b 4 8 = x := ⟨_, rfl⟩
  obtain ⟨ts, hts⟩ : ∃ x, nAt b 12 4 = x := ⟨_, rfl⟩
  have lts : (ts : Int) < 4294967296 := by have := nAt_lt b 12 4; omega
  obtain ⟨pk, hpk⟩ : ∃ x, nAt b 16 4 = x := ⟨_, rfl⟩
  have lpk : (pk : Int) < 4294967296 := by have := nAt_lt b 16 4; omega
  obtain ⟨oc, hoc⟩ : ∃ x, nAt b 20 4 = x := ⟨_, rfl⟩
  have loc : (oc : Int) < 4294967296 := by have := nAt_lt b 20 4; omega
  have Hntp := Lib.hid hntp
  have Hts := Lib.hid hts
  have Hpk := Lib.hid hpk
  have Hoc := Lib.hid hoc
  clear hntp hts hpk hoc
  have Hfr := Lib.hid hfr
  clear hfr hl
  go_enter Try.func54, Try.ntmps54
  go_upto_region 1 with fail
  rw [← hw1, ← hgr]
  clear hw1 hgr
  have HS1 : Hid (SlV w1 (.slice A n cap) b) := HS.out.below HB1.out
  have hq1 : 4 ≤ n := by have := HLN.out; omega
  go_upto_region 8 with (first
    | (go_at_call 32
       refine (N_z (p := 0) (k := 4) HS1.out rfl rfl Hfr.out (by omega) (by decide) (by omega)).mono ?_
       rintro e0 _ ⟨rfl, rfl⟩))
  clear hd1 hd2
  obtain ⟨gx, hgx⟩ : ∃ gx, gx = w1.heap.size := ⟨_, rfl⟩
  obtain ⟨w2, hw2⟩ : ∃ w2, w2 = w1.alloc (.cells #[.int .i64 1, .int .u32 (fr : Int), .int .u32 0, .int .u64 0, .int .u32 0, .int .u32 0, .int .u32 0, .slice none 0 0, .slice none 0 0, .slice none 0 0, .int .i64 0, .int .u32 0, .slice none 0 0, .int .i64 0, .int .i64 0, .slice none 0 0] 40) := ⟨_, rfl⟩
  rw [← hw2, ← hgx]
  have HX2 : Hid (Blk w2 gx 40 #[.int .i64 1, .int .u32 (fr : Int), .int .u32 0, .int .u64 0, .int .u32 0, .int .u32 0, .int .u32 0, .slice none 0 0, .slice none 0 0, .slice none 0 0, .int .i64 0, .int .u32 0, .slice none 0 0, .int .i64 0, .int .i64 0, .slice none 0 0]) := by show Blk _ _ _ _; rw [hw2]; exact Blk.newAt hgx _ _
  have HZ2 : Hid (Blk w2 gr 40 #[.int .i64 0, .int .u32 0, .int .u32 0, .int .u64 0, .int .u32 0, .int .u32 0, .int .u32 0, .slice none 0 0, .slice none 0 0, .slice none 0 0, .int .i64 0, .int .u32 0, .slice none 0 0, .int .i64 0, .int .i64 0, .slice none 0 0]) := by show Blk _ _ _ _; rw [hw2]; exact Blk.alloc HZ1.out _
  have HB2 : Hid (Below w.heap.size w w2) := by show Below _ _ _; rw [hw2]; exact balloc HB1.out _
  have HLT : Hid (gr < gx ∧ w.heap.size ≤ gr) := ⟨by rw [hgx]; exact HZ1.out.lt, by have := HGR.out; omega⟩
  clear hw2 hgx HS1 HB1 HZ1
  have HS2 : Hid (SlV w2 (.slice A n cap) b) := HS.out.below HB2.out
  have k3 : w2.cell? ⟨gx, 3, none⟩ = some (.int .u64 0) := HX2.out.cell 3
  have k4 : w2.cell? ⟨gx, 4, none⟩ = some (.int .u32 0) := HX2.out.cell 4
  have k5 : w2.cell? ⟨gx, 5, none⟩ = some (.int .u32 0) := HX2.out.cell 5
  have k6 : w2.cell? ⟨gx, 6, none⟩ = some (.int .u32 0) := HX2.out.cell 6
  have f3 := HX2.out.frozen 3
  have f4 := HX2.out.frozen 4
  have f5 := HX2.out.frozen 5
  have f6 := HX2.out.frozen 6
  have hq24 : 24 ≤ n := by have := HLN.out; omega
  go_upto_region 9 with (first
    | (go_at_call 32
       first
         | ((with_reducible show Calls _ _ #[_, .int .i64 4, .int .i64 8] _ _)
            refine (N_z (p := 4) (k := 8) HS2.out rfl rfl Hntp.out (by omega) (by decide) (by omega)).mono ?_
            rintro e0 _ ⟨rfl, rfl⟩)
         | ((with_reducible show Calls _ _ #[_, .int .i64 12, .int .i64 4] _ _)
            refine (N_z (p := 12) (k := 4) HS2.out rfl rfl Hts.out (by omega) (by decide) (by omega)).mono ?_
            rintro e0 _ ⟨rfl, rfl⟩)
         | ((with_reducible show Calls _ _ #[_, .int .i64 16, .int .i64 4] _ _)
            refine (N_z (p := 16) (k := 4) HS2.out rfl rfl Hpk.out (by omega) (by decide) (by omega)).mono ?_
            rintro e0 _ ⟨rfl, rfl⟩)
         | ((with_reducible show Calls _ _ #[_, .int .i64 20, .int .i64 4] _ _)
            refine (N_z (p := 20) (k := 4) HS2.out rfl rfl Hoc.out (by omega) (by decide) (by omega)).mono ?_
            rintro e0 _ ⟨rfl, rfl⟩)))
  clear k3 k4 k5 k6 f3 f4 f5 f6
  obtain ⟨w3, hw3⟩ : ∃ w3, w3 = (((w2.setCell ⟨gx, 3, none⟩ (.int .u64 (ntp : Int))).setCell ⟨gx, 4, none⟩ (.int .u32 (ts : Int))).setCell ⟨gx, 5, none⟩ (.int .u32 (pk : Int))).setCell ⟨gx, 6, none⟩ (.int .u32 (oc : Int)) := ⟨_, rfl⟩
  rw [← hw3]
  have HX3 : Hid (Blk w3 gx 40 #[.int .i64 1, .int .u32 (fr : Int), .int .u32 0, .int .u64 (ntp : Int), .int .u32 (ts : Int), .int .u32 (pk : Int), .int .u32 (oc : Int), .slice none 0 0, .slice none 0 0, .slice none 0 0, .int .i64 0, .int .u32 0, .slice none 0 0, .int .i64 0, .int .i64 0, .slice none 0 0]) := by show Blk _ _ _ _; rw [hw3]; exact (((HX2.out.set_ 3 _).set_ 4 _).set_ 5 _).set_ 6 _
  have hne : gr ≠ gx := by have := HLT.out; omega
  have HZ3 : Hid (Blk w3 gr 40 #[.int .i64 0, .int .u32 0, .int .u32 0, .int .u64 0, .int .u32 0, .int .u32 0, .int .u32 0, .slice none 0 0, .slice none 0 0, .slice none 0 0, .int .i64 0, .int .u32 0, .slice none 0 0, .int .i64 0, .int .i64 0, .slice none 0 0]) := by show Blk _ _ _ _; rw [hw3]; exact (((HZ2.out.far (p := ⟨gx, 3, none⟩) hne _).far (p := ⟨gx, 4, none⟩) hne _).far (p := ⟨gx, 5, none⟩) hne _).far (p := ⟨gx, 6, none⟩) hne _
  have hwx : w.heap.size ≤ gx := by have := HLT.out; omega
  have HB3 : Hid (Below w.heap.size w w3) := by show Below _ _ _; rw [hw3]; exact bset (bset (bset (bset HB2.out (p := ⟨gx, 3, none⟩) hwx _) (p := ⟨gx, 4, none⟩) hwx _) (p := ⟨gx, 5, none⟩) hwx _) (p := ⟨gx, 6, none⟩) hwx _
  clear hw3 HX2 HZ2 HB2 HS2
  obtain ⟨B0, hB0⟩ : ∃ B0, B0 = w.heap.size := ⟨_, rfl⟩
  have HBE := Lib.hid hB0
  have HLO : Hid (B0 ≤ w.heap.size ∧ B0 ≤ gr ∧ gr < gx) := by have := HLT.out; exact ⟨by omega, by omega, by omega⟩
  have HBc : Hid (Below B0 w w3) := by show Below _ _ _; rw [hB0]; exact HB3.out
  clear hB0 HB3
  go_upto_region 10 with fail
  go_loopg [10] c (fun gg v wx => ∃ (i a : Nat) (Ao : Option Addr) (co : Nat), gg = c - i ∧ i ≤ c ∧ a = 24 + 24 * i ∧ v = .int .i64 (a : Int) ∧ Below B0 w wx ∧ Blk wx gr 40 #[.int .i64 0, .int .u32 0, .int .u32 0, .int .u64 0, .int .u32 0, .int .u32 0, .int .u32 0, .slice none 0 0, .slice none 0 0, .slice none 0 0, .int .i64 0, .int .u32 0, .slice none 0 0, .int .i64 0, .int .i64 0, .slice none 0 0] ∧ Blk wx gx 40 #[.int .i64 1, .int .u32 (fr : Int), .int .u32 0, .int .u64 (ntp : Int), .int .u32 (ts : Int), .int .u32 (pk : Int), .int .u32 (oc : Int), .slice Ao i co, .slice none 0 0, .slice none 0 0, .int .i64 0, .int .u32 0, .slice none 0 0, .int .i64 0, .int .i64 0, .slice none 0 0] ∧ World.ownsRow wx B0 77 7 (.slice Ao i co) i (rowC ks7 ((List.range i).map (fun j => blkAt b (24 + 24 * j)))))
  case atStart => exact ⟨0, 24, none, 0, by omega, by omega, rfl, rfl, HBc.out, HZ3.out, HX3.out, by simpa [rowC] using World.ownsRow_nil _ _ _ _⟩
  case round =>
    obtain ⟨i, a, Ao, co, hgg, hi, ha, rfl, hb, hz, hx, ho⟩ := hrel
    clear HBc HZ3 HX3
    have HB := Lib.hid hb
    have HZ := Lib.hid hz
    have HX := Lib.hid hx
    have HO := Lib.hid ho
    have HGG := Lib.hid hgg
    clear hb hz hx ho hgg
    by_cases hin : i < c
    · have hln := HLN.out
      have han : a + 24 ≤ n := by omega
      have hani : (a : Int) < (n : Int) := by omega
      have hb1 : a + 24 ≤ b.length := by have := HN.out; omega
      have HAL := Lib.hid ha
      have HLT2 := Lib.hid hin
      obtain ⟨ga, oa, hA, hga, hcells⟩ := head_cells (HN.out ▸ HS.out.rd) (by omega)
      have hcu := hcells (a + 4) (by omega)
      have HGA : Hid (ga < B0) := by show _ < _; rw [HBE.out]; exact hga
      have HX1 := Lib.hid (nAt_one (b := b) (p := a + 4) (by omega))
      clear hcells hga ha hin hln
      obtain ⟨x0, hx0⟩ : ∃ x, nAt b a 4 = x := ⟨_, rfl⟩
      have lx0 : (x0 : Int) < 4294967296 := by have := nAt_lt b a 4; omega
      have lw0 : IntKind.u32.wrap (x0 : Int) = (x0 : Int) := by rw [wrap_u32]; omega
      have HX_0 := Lib.hid hx0
      obtain ⟨x1, hx1⟩ : ∃ x, nAt b (a + 4) 1 = x := ⟨_, rfl⟩
      have HX_1 := Lib.hid hx1
      obtain ⟨x2, hx2⟩ : ∃ x, nAt b (a + 5) 3 = x := ⟨_, rfl⟩
      have lx2 : (x2 : Int) < 4294967296 := by have := nAt_lt b (a + 5) 3; omega
      have lw2 : IntKind.u32.wrap (x2 : Int) = (x2 : Int) := by rw [wrap_u32]; omega
      have HX_2 := Lib.hid hx2
      obtain ⟨x3, hx3⟩ : ∃ x, nAt b (a + 8) 4 = x := ⟨_, rfl⟩
      have lx3 : (x3 : Int) < 4294967296 := by have := nAt_lt b (a + 8) 4; omega
      have lw3 : IntKind.u32.wrap (x3 : Int) = (x3 : Int) := by rw [wrap_u32]; omega
      have HX_3 := Lib.hid hx3
      obtain ⟨x4, hx4⟩ : ∃ x, nAt b (a + 12) 4 = x := ⟨_, rfl⟩
      have lx4 : (x4 : Int) < 4294967296 := by have := nAt_lt b (a + 12) 4; omega
      have lw4 : IntKind.u32.wrap (x4 : Int) = (x4 : Int) := by rw [wrap_u32]; omega
      have HX_4 := Lib.hid hx4
      obtain ⟨x5, hx5⟩ : ∃ x, nAt b (a + 16) 4 = x := ⟨_, rfl⟩
      have lx5 : (x5 : Int) < 4294967296 := by have := nAt_lt b (a + 16) 4; omega
      have lw5 : IntKind.u32.wrap (x5 : Int) = (x5 : Int) := by rw [wrap_u32]; omega
      have HX_5 := Lib.hid hx5
      obtain ⟨x6, hx6⟩ : ∃ x, nAt b (a + 20) 4 = x := ⟨_, rfl⟩
      have lx6 : (x6 : Int) < 4294967296 := by have := nAt_lt b (a + 20) 4; omega
      have lw6 : IntKind.u32.wrap (x6 : Int) = (x6 : Int) := by rw [wrap_u32]; omega
      have HX_6 := Lib.hid hx6
      have HU : Hid (w.cell? ⟨ga, oa + (a + 4), none⟩ = some (.int .u8 (x1 : Int))) := by
        show _ = _
        rw [hcu, ← HX1.out, hx1]
      have HTK : Hid ((rowC ks7 ((List.range (i + 1)).map (fun j => blkAt b (24 + 24 * j)))) = (rowC ks7 ((List.range i).map (fun j => blkAt b (24 + 24 * j)))) ++ [numV .u32 x0, numV .u8 x1, numV .u32 x2, numV .u32 x3, numV .u32 x4, numV .u32 x5, numV .u32 x6]) := by
        show _ = _
        rw [range_snoc, rowC_append, rowC_one, show 24 + 24 * i = a from HAL.out.symm]
        unfold blkAt
        rw [hx0, hx1, hx2, hx3, hx4, hx5, hx6]
        rfl
      clear hcu hx0 hx1 hx2 hx3 hx4 hx5 hx6 HX1 hb1
      have hw4 : IntKind.i64.wrap ((a : Int) + 4) = ((a + 4 : Nat) : Int) := by rw [IntKind.wrap_i64]; omega
      have ho4 : 0 ≤ (a : Int) + 4 := by omega
      have hw5 : IntKind.i64.wrap ((a : Int) + 5) = ((a + 5 : Nat) : Int) := by rw [IntKind.wrap_i64]; omega
      have ho5 : 0 ≤ (a : Int) + 5 := by omega
      have hw8 : IntKind.i64.wrap ((a : Int) + 8) = ((a + 8 : Nat) : Int) := by rw [IntKind.wrap_i64]; omega
      have ho8 : 0 ≤ (a : Int) + 8 := by omega
      have hw12 : IntKind.i64.wrap ((a : Int) + 12) = ((a + 12 : Nat) : Int) := by rw [IntKind.wrap_i64]; omega
      have ho12 : 0 ≤ (a : Int) + 12 := by omega
      have hw16 : IntKind.i64.wrap ((a : Int) + 16) = ((a + 16 : Nat) : Int) := by rw [IntKind.wrap_i64]; omega
      have ho16 : 0 ≤ (a : Int) + 16 := by omega
      have hw20 : IntKind.i64.wrap ((a : Int) + 20) = ((a + 20 : Nat) : Int) := by rw [IntKind.wrap_i64]; omega
      have ho20 : 0 ≤ (a : Int) + 20 := by omega
      have hw24 : IntKind.i64.wrap ((a : Int) + 24) = ((a + 24 : Nat) : Int) := by rw [IntKind.wrap_i64]; omega
      have ho24 : 0 ≤ (a : Int) + 24 := by omega
      have hi4 : (a : Int) + 4 < (n : Int) := by omega
      have ht4 : ((a : Int) + 4).toNat = a + 4 := by omega
      subst hA
      go_upto_region 12 with fail
      have HB_0 : Hid (Below B0 w (World.drew wr)) := HB.out.drew
      have HX_00x : Hid (Blk (World.drew wr) gx 40 #[.int .i64 1, .int .u32 (fr : Int), .int .u32 0, .int .u64 (ntp : Int), .int .u32 (ts : Int), .int .u32 (pk : Int), .int .u32 (oc : Int), .slice Ao i co, .slice none 0 0, .slice none 0 0, .int .i64 0, .int .u32 0, .slice none 0 0, .int .i64 0, .int .i64 0, .slice none 0 0]) := HX.out
      have HZ_0 : Hid (Blk (World.drew wr) gr 40 #[.int .i64 0, .int .u32 0, .int .u32 0, .int .u64 0, .int .u32 0, .int .u32 0, .int .u32 0, .slice none 0 0, .slice none 0 0, .slice none 0 0, .int .i64 0, .int .u32 0, .slice none 0 0, .int .i64 0, .int .i64 0, .slice none 0 0]) := HZ.out
      have HO_0 : Hid (World.ownsRow (World.drew wr) B0 77 7 (.slice Ao i co) i (rowC ks7 ((List.range i).map (fun j => blkAt b (24 + 24 * j))))) := HO.out
      refine wp_region_held_drew (S := (fun w2 => Below B0 w w2)) (by kernel_rfl) (HB_0.out) (fun hHeld => ?_)
      refine wpAnyH_takeAt (i := 0) (v := (.pointer (some ⟨gx, 7, none⟩))) rfl (by kernel_rfl) (by kernel_rfl) (by kernel_rfl) (fun _ _ _ h => h) rfl (Or.inl ⟨by rfl, fun w' hS => ?_⟩) hHeld ?_
      · go_simp
      simp only [List.set_cons_zero, List.set_cons_succ]
      refine wpAnyH_takeAt (i := 2) (v := (.slice (some ⟨ga, oa, none⟩) n cap)) rfl (by kernel_rfl) (by kernel_rfl) (by kernel_rfl) (fun _ _ _ h => h) rfl (Or.inl ⟨by rfl, fun w' hS => ?_⟩) hHeld ?_
      · go_simp
      simp only [List.set_cons_zero, List.set_cons_succ]
      refine wpAnyH_takeAt (i := 3) (v := (.int .i64 ((a : Nat) : Int))) rfl (by kernel_rfl) (by kernel_rfl) (by kernel_rfl) (fun _ _ _ h => h) rfl (Or.inl ⟨by rfl, fun w' hS => ?_⟩) hHeld ?_
      · go_simp
      simp only [List.set_cons_zero, List.set_cons_succ]
      refine wpAnyH_takeAt (i := 6) (v := (.slice (some ⟨ga, oa, none⟩) n cap)) rfl (by kernel_rfl) (by kernel_rfl) (by kernel_rfl) (fun _ _ _ h => h) rfl (Or.inl ⟨by rfl, fun w' hS => ?_⟩) hHeld ?_
      · go_simp
      simp only [List.set_cons_zero, List.set_cons_succ]
      refine wpAnyH_takeAt (i := 7) (v := (.int .i64 ((a : Nat) : Int))) rfl (by kernel_rfl) (by kernel_rfl) (by kernel_rfl) (fun _ _ _ h => h) rfl (Or.inl ⟨by rfl, fun w' hS => ?_⟩) hHeld ?_
      · go_simp
      simp only [List.set_cons_zero, List.set_cons_succ]
      refine wpAnyH_takeAt (i := 8) (v := (.int .i64 ((a + 4 : Nat) : Int))) rfl (by kernel_rfl) (by kernel_rfl) (by kernel_rfl) (fun _ _ _ h => h) rfl (Or.inl ⟨by rfl, fun w' hS => ?_⟩) hHeld ?_
      · go_simp
      simp only [List.set_cons_zero, List.set_cons_succ]
      refine wpAnyH_takeAt (i := 9) (v := (.pointer (some ⟨ga, oa + (a + 4), none⟩))) rfl (by kernel_rfl) (by kernel_rfl) (by kernel_rfl) (fun _ _ _ h => h) rfl (Or.inl ⟨by rfl, fun w' hS => ?_⟩) hHeld ?_
      · go_simp
      simp only [List.set_cons_zero, List.set_cons_succ]
      refine wpAnyH_takeAt (i := 10) (v := (.int .u8 (x1 : Int))) rfl (by kernel_rfl) (by kernel_rfl) (by kernel_rfl) (fun _ _ _ h => h) rfl (Or.inl ⟨by rfl, fun w' hS => ?_⟩) hHeld ?_
      · have hc1 := (hS.cell (p := ⟨ga, oa + (a + 4), none⟩) HGA.out).trans HU.out
        go_simp
      simp only [List.set_cons_zero, List.set_cons_succ]
      refine wpAnyH_takeAt (i := 11) (v := (.slice (some ⟨ga, oa, none⟩) n cap)) rfl (by kernel_rfl) (by kernel_rfl) (by kernel_rfl) (fun _ _ _ h => h) rfl (Or.inl ⟨by rfl, fun w' hS => ?_⟩) hHeld ?_
      · go_simp
      simp only [List.set_cons_zero, List.set_cons_succ]
      refine wpAnyH_takeAt (i := 12) (v := (.int .i64 ((a : Nat) : Int))) rfl (by kernel_rfl) (by kernel_rfl) (by kernel_rfl) (fun _ _ _ h => h) rfl (Or.inl ⟨by rfl, fun w' hS => ?_⟩) hHeld ?_
      · go_simp
      simp only [List.set_cons_zero, List.set_cons_succ]
      refine wpAnyH_takeAt (i := 13) (v := (.int .i64 ((a + 5 : Nat) : Int))) rfl (by kernel_rfl) (by kernel_rfl) (by kernel_rfl) (fun _ _ _ h => h) rfl (Or.inl ⟨by rfl, fun w' hS => ?_⟩) hHeld ?_
      · go_simp
      simp only [List.set_cons_zero, List.set_cons_succ]
      refine wpAnyH_takeAt (i := 16) (v := (.slice (some ⟨ga, oa, none⟩) n cap)) rfl (by kernel_rfl) (by kernel_rfl) (by kernel_rfl) (fun _ _ _ h => h) rfl (Or.inl ⟨by rfl, fun w' hS => ?_⟩) hHeld ?_
      · go_simp
      simp only [List.set_cons_zero, List.set_cons_succ]
      refine wpAnyH_takeAt (i := 17) (v := (.int .i64 ((a : Nat) : Int))) rfl (by kernel_rfl) (by kernel_rfl) (by kernel_rfl) (fun _ _ _ h => h) rfl (Or.inl ⟨by rfl, fun w' hS => ?_⟩) hHeld ?_
      · go_simp
      simp only [List.set_cons_zero, List.set_cons_succ]
      refine wpAnyH_takeAt (i := 18) (v := (.int .i64 ((a + 8 : Nat) : Int))) rfl (by kernel_rfl) (by kernel_rfl) (by kernel_rfl) (fun _ _ _ h => h) rfl (Or.inl ⟨by rfl, fun w' hS => ?_⟩) hHeld ?_
      · go_simp
      simp only [List.set_cons_zero, List.set_cons_succ]
      refine wpAnyH_takeAt (i := 21) (v := (.slice (some ⟨ga, oa, none⟩) n cap)) rfl (by kernel_rfl) (by kernel_rfl) (by kernel_rfl) (fun _ _ _ h => h) rfl (Or.inl ⟨by rfl, fun w' hS => ?_⟩) hHeld ?_
      · go_simp
      simp only [List.set_cons_zero, List.set_cons_succ]
      refine wpAnyH_takeAt (i := 22) (v := (.int .i64 ((a : Nat) : Int))) rfl (by kernel_rfl) (by kernel_rfl) (by kernel_rfl) (fun _ _ _ h => h) rfl (Or.inl ⟨by rfl, fun w' hS => ?_⟩) hHeld ?_
      · go_simp
      simp only [List.set_cons_zero, List.set_cons_succ]
      refine wpAnyH_takeAt (i := 23) (v := (.int .i64 ((a + 12 : Nat) : Int))) rfl (by kernel_rfl) (by kernel_rfl) (by kernel_rfl) (fun _ _ _ h => h) rfl (Or.inl ⟨by rfl, fun w' hS => ?_⟩) hHeld ?_
      · go_simp
      simp only [List.set_cons_zero, List.set_cons_succ]
      refine wpAnyH_takeAt (i := 26) (v := (.slice (some ⟨ga, oa, none⟩) n cap)) rfl (by kernel_rfl) (by kernel_rfl) (by kernel_rfl) (fun _ _ _ h => h) rfl (Or.inl ⟨by rfl, fun w' hS => ?_⟩) hHeld ?_
      · go_simp
      simp only [List.set_cons_zero, List.set_cons_succ]
      refine wpAnyH_takeAt (i := 27) (v := (.int .i64 ((a : Nat) : Int))) rfl (by kernel_rfl) (by kernel_rfl) (by kernel_rfl) (fun _ _ _ h => h) rfl (Or.inl ⟨by rfl, fun w' hS => ?_⟩) hHeld ?_
      · go_simp
      simp only [List.set_cons_zero, List.set_cons_succ]
      refine wpAnyH_takeAt (i := 28) (v := (.int .i64 ((a + 16 : Nat) : Int))) rfl (by kernel_rfl) (by kernel_rfl) (by kernel_rfl) (fun _ _ _ h => h) rfl (Or.inl ⟨by rfl, fun w' hS => ?_⟩) hHeld ?_
      · go_simp
      simp only [List.set_cons_zero, List.set_cons_succ]
      refine wpAnyH_takeAt (i := 31) (v := (.slice (some ⟨ga, oa, none⟩) n cap)) rfl (by kernel_rfl) (by kernel_rfl) (by kernel_rfl) (fun _ _ _ h => h) rfl (Or.inl ⟨by rfl, fun w' hS => ?_⟩) hHeld ?_
      · go_simp
      simp only [List.set_cons_zero, List.set_cons_succ]
      refine wpAnyH_takeAt (i := 32) (v := (.int .i64 ((a : Nat) : Int))) rfl (by kernel_rfl) (by kernel_rfl) (by kernel_rfl) (fun _ _ _ h => h) rfl (Or.inl ⟨by rfl, fun w' hS => ?_⟩) hHeld ?_
      · go_simp
      simp only [List.set_cons_zero, List.set_cons_succ]
      refine wpAnyH_takeAt (i := 33) (v := (.int .i64 ((a + 20 : Nat) : Int))) rfl (by kernel_rfl) (by kernel_rfl) (by kernel_rfl) (fun _ _ _ h => h) rfl (Or.inl ⟨by rfl, fun w' hS => ?_⟩) hHeld ?_
      · go_simp
      simp only [List.set_cons_zero, List.set_cons_succ]
      refine wpAnyH_ready (rs := [1, 4]) (by kernel_rfl) (by simp) (AllReadyH.cons rfl (fun K' hK => ?_) (AllReadyH.cons rfl (fun K' hK => ?_) AllReadyH.nil))
      · have hcell : (World.drew wr).cell? ⟨gx, 7, none⟩ = some (.slice Ao i co) := HX_00x.out.cell 7
        go_simp
        clear hcell
        refine hK.out _ _ HB_0.out (fun hHeld' => ?_)
        clear hK hHeld
        have hHeld := hHeld'
        clear hHeld'
        refine wpAnyH_ready (rs := [4]) (by kernel_rfl) (by simp) (AllReadyH.cons rfl (fun K' hK => ?_) AllReadyH.nil)
        go_simp
        go_at_call 32
        refine (N_z (p := a) (k := 4) (HS.out.below (HBE.out ▸ HB_0.out)) rfl rfl HX_0.out (by omega) (by decide) (by omega)).mono ?_
        rintro e0 _ ⟨rfl, rfl⟩
        go_wp2_with fail
        refine hK.out _ _ HB_0.out (fun hHeld' => ?_)
        clear hK hHeld
        have hHeld := hHeld'
        clear hHeld'
        refine wpAnyH_takeAt (i := 5) (v := (.int .u32 (x0 : Int))) rfl (by kernel_rfl) (by kernel_rfl) (by kernel_rfl) (fun _ _ _ h => h) rfl (Or.inl ⟨by rfl, fun w' hS => ?_⟩) hHeld ?_
        · go_simp
        simp only [List.set_cons_zero, List.set_cons_succ]
        refine wpAnyH_ready (rs := [14]) (by kernel_rfl) (by simp) (AllReadyH.cons rfl (fun K' hK => ?_) AllReadyH.nil)
        go_simp
        go_at_call 32
        refine (N_z (p := a + 5) (k := 3) (HS.out.below (HBE.out ▸ HB_0.out)) rfl rfl HX_2.out (by omega) (by decide) (by omega)).mono ?_
        rintro e0 _ ⟨rfl, rfl⟩
        go_wp2_with fail
        refine hK.out _ _ HB_0.out (fun hHeld' => ?_)
        clear hK hHeld
        have hHeld := hHeld'
        clear hHeld'
        refine wpAnyH_takeAt (i := 15) (v := (.int .u32 (x2 : Int))) rfl (by kernel_rfl) (by kernel_rfl) (by kernel_rfl) (fun _ _ _ h => h) rfl (Or.inl ⟨by rfl, fun w' hS => ?_⟩) hHeld ?_
        · go_simp
        simp only [List.set_cons_zero, List.set_cons_succ]
        refine wpAnyH_ready (rs := [19]) (by kernel_rfl) (by simp) (AllReadyH.cons rfl (fun K' hK => ?_) AllReadyH.nil)
        go_simp
        go_at_call 32
        refine (N_z (p := a + 8) (k := 4) (HS.out.below (HBE.out ▸ HB_0.out)) rfl rfl HX_3.out (by omega) (by decide) (by omega)).mono ?_
        rintro e0 _ ⟨rfl, rfl⟩
        go_wp2_with fail
        refine hK.out _ _ HB_0.out (fun hHeld' => ?_)
        clear hK hHeld
        have hHeld := hHeld'
        clear hHeld'
        refine wpAnyH_takeAt (i := 20) (v := (.int .u32 (x3 : Int))) rfl (by kernel_rfl) (by kernel_rfl) (by kernel_rfl) (fun _ _ _ h => h) rfl (Or.inl ⟨by rfl, fun w' hS => ?_⟩) hHeld ?_
        · go_simp
        simp only [List.set_cons_zero, List.set_cons_succ]
        refine wpAnyH_ready (rs := [24]) (by kernel_rfl) (by simp) (AllReadyH.cons rfl (fun K' hK => ?_) AllReadyH.nil)
        go_simp
        go_at_call 32
        refine (N_z (p := a + 12) (k := 4) (HS.out.below (HBE.out ▸ HB_0.out)) rfl rfl HX_4.out (by omega) (by decide) (by omega)).mono ?_
        rintro e0 _ ⟨rfl, rfl⟩
        go_wp2_with fail
        refine hK.out _ _ HB_0.out (fun hHeld' => ?_)
        clear hK hHeld
        have hHeld := hHeld'
        clear hHeld'
        refine wpAnyH_takeAt (i := 25) (v := (.int .u32 (x4 : Int))) rfl (by kernel_rfl) (by kernel_rfl) (by kernel_rfl) (fun _ _ _ h => h) rfl (Or.inl ⟨by rfl, fun w' hS => ?_⟩) hHeld ?_
        · go_simp
        simp only [List.set_cons_zero, List.set_cons_succ]
        refine wpAnyH_ready (rs := [29]) (by kernel_rfl) (by simp) (AllReadyH.cons rfl (fun K' hK => ?_) AllReadyH.nil)
        go_simp
        go_at_call 32
        refine (N_z (p := a + 16) (k := 4) (HS.out.below (HBE.out ▸ HB_0.out)) rfl rfl HX_5.out (by omega) (by decide) (by omega)).mono ?_
        rintro e0 _ ⟨rfl, rfl⟩
        go_wp2_with fail
        refine hK.out _ _ HB_0.out (fun hHeld' => ?_)
        clear hK hHeld
        have hHeld := hHeld'
        clear hHeld'
        refine wpAnyH_takeAt (i := 30) (v := (.int .u32 (x5 : Int))) rfl (by kernel_rfl) (by kernel_rfl) (by kernel_rfl) (fun _ _ _ h => h) rfl (Or.inl ⟨by rfl, fun w' hS => ?_⟩) hHeld ?_
        · go_simp
        simp only [List.set_cons_zero, List.set_cons_succ]
        refine wpAnyH_ready (rs := [34]) (by kernel_rfl) (by simp) (AllReadyH.cons rfl (fun K' hK => ?_) AllReadyH.nil)
        go_simp
        go_at_call 32
        refine (N_z (p := a + 20) (k := 4) (HS.out.below (HBE.out ▸ HB_0.out)) rfl rfl HX_6.out (by omega) (by decide) (by omega)).mono ?_
        rintro e0 _ ⟨rfl, rfl⟩
        go_wp2_with fail
        refine hK.out _ _ HB_0.out (fun hHeld' => ?_)
        clear hK hHeld
        have hHeld := hHeld'
        clear hHeld'
        refine wpAnyH_takeAt (i := 35) (v := (.int .u32 (x6 : Int))) rfl (by kernel_rfl) (by kernel_rfl) (by kernel_rfl) (fun _ _ _ h => h) rfl (Or.inl ⟨by rfl, fun w' hS => ?_⟩) hHeld ?_
        · go_simp
        simp only [List.set_cons_zero, List.set_cons_succ]
        refine wpAnyH_takeAt (i := 36) (v := (.agg #[.int .u32 (x0 : Int), .int .u8 (x1 : Int), .int .u32 (x2 : Int), .int .u32 (x3 : Int), .int .u32 (x4 : Int), .int .u32 (x5 : Int), .int .u32 (x6 : Int)])) rfl (by kernel_rfl) (by kernel_rfl) (by kernel_rfl) (fun _ _ _ h => h) rfl (Or.inl ⟨by rfl, fun w' hS => ?_⟩) hHeld ?_
        · go_simp
        simp only [List.set_cons_zero, List.set_cons_succ]
        refine wpAnyH_ready (rs := [37]) (by kernel_rfl) (by simp) (AllReadyH.cons rfl (fun K' hK => ?_) AllReadyH.nil)
        go_simp
        have HB_1 : Hid (Below B0 w (World.drew (World.alloc wr (.cells #[.int .u32 (x0 : Int), .int .u8 (x1 : Int), .int .u32 (x2 : Int), .int .u32 (x3 : Int), .int .u32 (x4 : Int), .int .u32 (x5 : Int), .int .u32 (x6 : Int)] 77)))) := ballocB HB_0.out (Nat.le_trans HLO.out.1 HB_0.out.size) _
        have HX_1x : Hid (Blk (World.drew (World.alloc wr (.cells #[.int .u32 (x0 : Int), .int .u8 (x1 : Int), .int .u32 (x2 : Int), .int .u32 (x3 : Int), .int .u32 (x4 : Int), .int .u32 (x5 : Int), .int .u32 (x6 : Int)] 77))) gx 40 #[.int .i64 1, .int .u32 (fr : Int), .int .u32 0, .int .u64 (ntp : Int), .int .u32 (ts : Int), .int .u32 (pk : Int), .int .u32 (oc : Int), .slice Ao i co, .slice none 0 0, .slice none 0 0, .int .i64 0, .int .u32 0, .slice none 0 0, .int .i64 0, .int .i64 0, .slice none 0 0]) := Blk.alloc HX_00x.out _
        have HZ_1 : Hid (Blk (World.drew (World.alloc wr (.cells #[.int .u32 (x0 : Int), .int .u8 (x1 : Int), .int .u32 (x2 : Int), .int .u32 (x3 : Int), .int .u32 (x4 : Int), .int .u32 (x5 : Int), .int .u32 (x6 : Int)] 77))) gr 40 #[.int .i64 0, .int .u32 0, .int .u32 0, .int .u64 0, .int .u32 0, .int .u32 0, .int .u32 0, .slice none 0 0, .slice none 0 0, .slice none 0 0, .int .i64 0, .int .u32 0, .slice none 0 0, .int .i64 0, .int .i64 0, .slice none 0 0]) := Blk.alloc HZ_0.out _
        have HO_1 : Hid (World.ownsRow (World.drew (World.alloc wr (.cells #[.int .u32 (x0 : Int), .int .u8 (x1 : Int), .int .u32 (x2 : Int), .int .u32 (x3 : Int), .int .u32 (x4 : Int), .int .u32 (x5 : Int), .int .u32 (x6 : Int)] 77))) B0 77 7 (.slice Ao i co) i (rowC ks7 ((List.range i).map (fun j => blkAt b (24 + 24 * j))))) := HO_0.out.alloc _
        have HN_1 : Hid (Reads (World.drew (World.alloc wr (.cells #[.int .u32 (x0 : Int), .int .u8 (x1 : Int), .int .u32 (x2 : Int), .int .u32 (x3 : Int), .int .u32 (x4 : Int), .int .u32 (x5 : Int), .int .u32 (x6 : Int)] 77))) (World.heap (World.drew (World.alloc wr (.cells #[.int .u32 (x0 : Int), .int .u8 (x1 : Int), .int .u32 (x2 : Int), .int .u32 (x3 : Int), .int .u32 (x4 : Int), .int .u32 (x5 : Int), .int .u32 (x6 : Int)] 77)))).size 7 (some ⟨(World.heap (World.drew wr)).size, 0, none⟩) 1 [numV .u32 x0, numV .u8 x1, numV .u32 x2, numV .u32 x3, numV .u32 x4, numV .u32 x5, numV .u32 x6]) := reads_blk (Blk.newAt rfl _ _) rfl
        have HS_1 : Hid (B0 ≤ (World.heap (World.drew (World.alloc wr (.cells #[.int .u32 (x0 : Int), .int .u8 (x1 : Int), .int .u32 (x2 : Int), .int .u32 (x3 : Int), .int .u32 (x4 : Int), .int .u32 (x5 : Int), .int .u32 (x6 : Int)] 77)))).size) := by show _ ≤ _; have := HLO.out; exact Nat.le_of_lt (Nat.lt_of_le_of_lt (by omega) HX_1x.out.lt)
        refine hK.out _ _ HB_1.out (fun hHeld' => ?_)
        clear hK hHeld
        have hHeld := hHeld'
        clear hHeld'
        refine wpAnyH_ready (rs := [38]) (by kernel_rfl) (by simp) (AllReadyH.cons rfl (fun K' hK => ?_) AllReadyH.nil)
        refine step_append_any _ (by rfl) (.tmp 51) (.tmp 87) _ (by rfl) B0 77 iB _ 7 28 Try.underlying35 hiB hzaB hzbB hzcB rfl (by omega) (.slice Ao i co) i (rowC ks7 ((List.range i).map (fun j => blkAt b (24 + 24 * j)))) (by rfl) HO_1.out
          _ (some ⟨(World.heap (World.drew wr)).size, 0, none⟩) 1 1 [numV .u32 x0, numV .u8 x1, numV .u32 x2, numV .u32 x3, numV .u32 x4, numV .u32 x5, numV .u32 x6] (by rfl) HN_1.out (by simp [numV, Value.oneCell']) (by simp only [maxLen]; omega) (by omega) HS_1.out ?_
        intro v_2 w_2 hown_2 hg_2 hv_2
        obtain ⟨A_2, c_2, rfl⟩ := own_slice hown_2
        have hsv_2 : Sv (fun j => (Value.slice Ao i co).ownBlock = some j) (World.drew (World.alloc wr (.cells #[.int .u32 (x0 : Int), .int .u8 (x1 : Int), .int .u32 (x2 : Int), .int .u32 (x3 : Int), .int .u32 (x4 : Int), .int .u32 (x5 : Int), .int .u32 (x6 : Int)] 77))) w_2 := (Sv.refl _ _).grown hg_2 (fun g e => .inl e)
        have HB_2 : Hid (Below B0 w w_2) := HB_1.out.trans (hsv_2.toBelow (fun j e => (HO_1.out.lt j e).1) (Nat.le_trans HLO.out.1 HB_1.out.size))
        have HX_2x : Hid (Blk w_2 gx 40 #[.int .i64 1, .int .u32 (fr : Int), .int .u32 0, .int .u64 (ntp : Int), .int .u32 (ts : Int), .int .u32 (pk : Int), .int .u32 (oc : Int), .slice Ao i co, .slice none 0 0, .slice none 0 0, .int .i64 0, .int .u32 0, .slice none 0 0, .int .i64 0, .int .i64 0, .slice none 0 0]) := Blk.grown HX_1x.out hg_2 (Ne.symm (own_blk_ne HO_1.out HX_1x.out (by decide)))
        have HZ_2 : Hid (Blk w_2 gr 40 #[.int .i64 0, .int .u32 0, .int .u32 0, .int .u64 0, .int .u32 0, .int .u32 0, .int .u32 0, .slice none 0 0, .slice none 0 0, .slice none 0 0, .int .i64 0, .int .u32 0, .slice none 0 0, .int .i64 0, .int .i64 0, .slice none 0 0]) := Blk.grown HZ_1.out hg_2 (Ne.symm (own_blk_ne HO_1.out HZ_1.out (by decide)))
        have HO_2 := Lib.hid hown_2
        clear hown_2 hg_2 hv_2 hsv_2
        refine hK.out _ _ HB_2.out (fun hHeld' => ?_)
        clear hK hHeld
        have hHeld := hHeld'
        clear hHeld'
        refine wpAnyH_putAt rfl ?_
        simp only [List.set_cons_zero, List.set_cons_succ]
        refine wpAnyH_takeAt (i := 39) (v := (.pointer (some ⟨gx, 7, none⟩))) rfl (by kernel_rfl) (by kernel_rfl) (by kernel_rfl) (fun _ _ _ h => h) rfl (Or.inl ⟨by rfl, fun w' hS => ?_⟩) hHeld ?_
        · go_simp
        simp only [List.set_cons_zero, List.set_cons_succ]
        refine wpAnyH_ready (rs := [40]) (by kernel_rfl) (by simp) (AllReadyH.cons rfl (fun K' hK => ?_) AllReadyH.nil)
        have hcell : w_2.cell? ⟨gx, 7, none⟩ = some (.slice Ao i co) := HX_2x.out.cell 7
        have hfree : w_2.frozen? ⟨gx, 7, none⟩ = false := HX_2x.out.frozen 7
        go_simp
        clear hcell hfree
        have HB_3 : Hid (Below B0 w (World.setCell w_2 ⟨gx, 7, none⟩ (.slice A_2 (i + 1) c_2))) := HB_2.out.setCell (p := ⟨gx, 7, none⟩) (by have := HLO.out; show _ ≤ gx; omega) _
        have HX_3x : Hid (Blk (World.setCell w_2 ⟨gx, 7, none⟩ (.slice A_2 (i + 1) c_2)) gx 40 #[.int .i64 1, .int .u32 (fr : Int), .int .u32 0, .int .u64 (ntp : Int), .int .u32 (ts : Int), .int .u32 (pk : Int), .int .u32 (oc : Int), .slice A_2 (i + 1) c_2, .slice none 0 0, .slice none 0 0, .int .i64 0, .int .u32 0, .slice none 0 0, .int .i64 0, .int .i64 0, .slice none 0 0]) := HX_2x.out.set_ 7 _
        have HZ_3 : Hid (Blk (World.setCell w_2 ⟨gx, 7, none⟩ (.slice A_2 (i + 1) c_2)) gr 40 #[.int .i64 0, .int .u32 0, .int .u32 0, .int .u64 0, .int .u32 0, .int .u32 0, .int .u32 0, .slice none 0 0, .slice none 0 0, .slice none 0 0, .int .i64 0, .int .u32 0, .slice none 0 0, .int .i64 0, .int .i64 0, .slice none 0 0]) := HZ_2.out.far (p := ⟨gx, 7, none⟩) (by have := HLO.out; show gr ≠ gx; omega) _
        have HO_3 : Hid (World.ownsRow (World.setCell w_2 ⟨gx, 7, none⟩ (.slice A_2 (i + 1) c_2)) B0 77 7 (.slice A_2 (i + 1) c_2) (i + 1) (rowC ks7 ((List.range (i + 1)).map (fun j => blkAt b (24 + 24 * j))))) := by
          show World.ownsRow _ _ _ _ _ _ _
          rw [HTK.out]
          exact own_set HO_2.out (own_blk_ne HO_2.out HX_2x.out (by decide)) 7 _
        refine hK.out _ _ HB_3.out (fun hHeld' => ?_)
        clear hK hHeld
        have hHeld := hHeld'
        clear hHeld'
        refine wpAnyH_done (by kernel_rfl) ?_ _
        generalize (World.setCell w_2 ⟨gx, 7, none⟩ (.slice A_2 (i + 1) c_2)) = wf at *
        go_wp2_with fail
        go_roundg (c - (i + 1))
        case measure => have := HLT2.out; have := HGG.out; omega
        case rel =>
          have hlt := HLT2.out
          have hal := HAL.out
          exact ⟨i + 1, a + 24, A_2, c_2, rfl, by omega, by omega, by first | rfl | go_num, HB_3.out, HZ_3.out, HX_3x.out, HO_3.out⟩
      · go_simp
        go_at_call 32
        refine (N_z (p := a) (k := 4) (HS.out.below (HBE.out ▸ HB_0.out)) rfl rfl HX_0.out (by omega) (by decide) (by omega)).mono ?_
        rintro e0 _ ⟨rfl, rfl⟩
        go_wp2_with fail
        refine hK.out _ _ HB_0.out (fun hHeld' => ?_)
        clear hK hHeld
        have hHeld := hHeld'
        clear hHeld'
        refine wpAnyH_takeAt (i := 5) (v := (.int .u32 (x0 : Int))) rfl (by kernel_rfl) (by kernel_rfl) (by kernel_rfl) (fun _ _ _ h => h) rfl (Or.inl ⟨by rfl, fun w' hS => ?_⟩) hHeld ?_
        · go_simp
        simp only [List.set_cons_zero, List.set_cons_succ]
        refine wpAnyH_ready (rs := [1, 14]) (by kernel_rfl) (by simp) (AllReadyH.cons rfl (fun K' hK => ?_) (AllReadyH.cons rfl (fun K' hK => ?_) AllReadyH.nil))
        · have hcell : (World.drew wr).cell? ⟨gx, 7, none⟩ = some (.slice Ao i co) := HX_00x.out.cell 7
          go_simp
          clear hcell
          refine hK.out _ _ HB_0.out (fun hHeld' => ?_)
          clear hK hHeld
          have hHeld := hHeld'
          clear hHeld'
          refine wpAnyH_ready (rs := [14]) (by kernel_rfl) (by simp) (AllReadyH.cons rfl (fun K' hK => ?_) AllReadyH.nil)
          go_simp
          go_at_call 32
          refine (N_z (p := a + 5) (k := 3) (HS.out.below (HBE.out ▸ HB_0.out)) rfl rfl HX_2.out (by omega) (by decide) (by omega)).mono ?_
          rintro e0 _ ⟨rfl, rfl⟩
          go_wp2_with fail
          refine hK.out _ _ HB_0.out (fun hHeld' => ?_)
          clear hK hHeld
          have hHeld := hHeld'
          clear hHeld'
          refine wpAnyH_takeAt (i := 15) (v := (.int .u32 (x2 : Int))) rfl (by kernel_rfl) (by kernel_rfl) (by kernel_rfl) (fun _ _ _ h => h) rfl (Or.inl ⟨by rfl, fun w' hS => ?_⟩) hHeld ?_
          · go_simp
          simp only [List.set_cons_zero, List.set_cons_succ]
          refine wpAnyH_ready (rs := [19]) (by kernel_rfl) (by simp) (AllReadyH.cons rfl (fun K' hK => ?_) AllReadyH.nil)
          go_simp
          go_at_call 32
          refine (N_z (p := a + 8) (k := 4) (HS.out.below (HBE.out ▸ HB_0.out)) rfl rfl HX_3.out (by omega) (by decide) (by omega)).mono ?_
          rintro e0 _ ⟨rfl, rfl⟩
          go_wp2_with fail
          refine hK.out _ _ HB_0.out (fun hHeld' => ?_)
          clear hK hHeld
          have hHeld := hHeld'
          clear hHeld'
          refine wpAnyH_takeAt (i := 20) (v := (.int .u32 (x3 : Int))) rfl (by kernel_rfl) (by kernel_rfl) (by kernel_rfl) (fun _ _ _ h => h) rfl (Or.inl ⟨by rfl, fun w' hS => ?_⟩) hHeld ?_
          · go_simp
          simp only [List.set_cons_zero, List.set_cons_succ]
          refine wpAnyH_ready (rs := [24]) (by kernel_rfl) (by simp) (AllReadyH.cons rfl (fun K' hK => ?_) AllReadyH.nil)
          go_simp
          go_at_call 32
          refine (N_z (p := a + 12) (k := 4) (HS.out.below (HBE.out ▸ HB_0.out)) rfl rfl HX_4.out (by omega) (by decide) (by omega)).mono ?_
          rintro e0 _ ⟨rfl, rfl⟩
          go_wp2_with fail
          refine hK.out _ _ HB_0.out (fun hHeld' => ?_)
          clear hK hHeld
          have hHeld := hHeld'
          clear hHeld'
          refine wpAnyH_takeAt (i := 25) (v := (.int .u32 (x4 : Int))) rfl (by kernel_rfl) (by kernel_rfl) (by kernel_rfl) (fun _ _ _ h => h) rfl (Or.inl ⟨by rfl, fun w' hS => ?_⟩) hHeld ?_
          · go_simp
          simp only [List.set_cons_zero, List.set_cons_succ]
          refine wpAnyH_ready (rs := [29]) (by kernel_rfl) (by simp) (AllReadyH.cons rfl (fun K' hK => ?_) AllReadyH.nil)
          go_simp
          go_at_call 32
          refine (N_z (p := a + 16) (k := 4) (HS.out.below (HBE.out ▸ HB_0.out)) rfl rfl HX_5.out (by omega) (by decide) (by omega)).mono ?_
          rintro e0 _ ⟨rfl, rfl⟩
          go_wp2_with fail
          refine hK.out _ _ HB_0.out (fun hHeld' => ?_)
          clear hK hHeld
          have hHeld := hHeld'
          clear hHeld'
          refine wpAnyH_takeAt (i := 30) (v := (.int .u32 (x5 : Int))) rfl (by kernel_rfl) (by kernel_rfl) (by kernel_rfl) (fun _ _ _ h => h) rfl (Or.inl ⟨by rfl, fun w' hS => ?_⟩) hHeld ?_
          · go_simp
          simp only [List.set_cons_zero, List.set_cons_succ]
          refine wpAnyH_ready (rs := [34]) (by kernel_rfl) (by simp) (AllReadyH.cons rfl (fun K' hK => ?_) AllReadyH.nil)
          go_simp
          go_at_call 32
          refine (N_z (p := a + 20) (k := 4) (HS.out.below (HBE.out ▸ HB_0.out)) rfl rfl HX_6.out (by omega) (by decide) (by omega)).mono ?_
          rintro e0 _ ⟨rfl, rfl⟩
          go_wp2_with fail
          refine hK.out _ _ HB_0.out (fun hHeld' => ?_)
          clear hK hHeld
          have hHeld := hHeld'
          clear hHeld'
          refine wpAnyH_takeAt (i := 35) (v := (.int .u32 (x6 : Int))) rfl (by kernel_rfl) (by kernel_rfl) (by kernel_rfl) (fun _ _ _ h => h) rfl (Or.inl ⟨by rfl, fun w' hS => ?_⟩) hHeld ?_
          · go_simp
          simp only [List.set_cons_zero, List.set_cons_succ]
          refine wpAnyH_takeAt (i := 36) (v := (.agg #[.int .u32 (x0 : Int), .int .u8 (x1 : Int), .int .u32 (x2 : Int), .int .u32 (x3 : Int), .int .u32 (x4 : Int), .int .u32 (x5 : Int), .int .u32 (x6 : Int)])) rfl (by kernel_rfl) (by kernel_rfl) (by kernel_rfl) (fun _ _ _ h => h) rfl (Or.inl ⟨by rfl, fun w' hS => ?_⟩) hHeld ?_
          · go_simp
          simp only [List.set_cons_zero, List.set_cons_succ]
          refine wpAnyH_ready (rs := [37]) (by kernel_rfl) (by simp) (AllReadyH.cons rfl (fun K' hK => ?_) AllReadyH.nil)
          go_simp
          have HB_4 : Hid (Below B0 w (World.drew (World.alloc wr (.cells #[.int .u32 (x0 : Int), .int .u8 (x1 : Int), .int .u32 (x2 : Int), .int .u32 (x3 : Int), .int .u32 (x4 : Int), .int .u32 (x5 : Int), .int .u32 (x6 : Int)] 77)))) := ballocB HB_0.out (Nat.le_trans HLO.out.1 HB_0.out.size) _
          have HX_4x : Hid (Blk (World.drew (World.alloc wr (.cells #[.int .u32 (x0 : Int), .int .u8 (x1 : Int), .int .u32 (x2 : Int), .int .u32 (x3 : Int), .int .u32 (x4 : Int), .int .u32 (x5 : Int), .int .u32 (x6 : Int)] 77))) gx 40 #[.int .i64 1, .int .u32 (fr : Int), .int .u32 0, .int .u64 (ntp : Int), .int .u32 (ts : Int), .int .u32 (pk : Int), .int .u32 (oc : Int), .slice Ao i co, .slice none 0 0, .slice none 0 0, .int .i64 0, .int .u32 0, .slice none 0 0, .int .i64 0, .int .i64 0, .slice none 0 0]) := Blk.alloc HX_00x.out _
          have HZ_4 : Hid (Blk (World.drew (World.alloc wr (.cells #[.int .u32 (x0 : Int), .int .u8 (x1 : Int), .int .u32 (x2 : Int), .int .u32 (x3 : Int), .int .u32 (x4 : Int), .int .u32 (x5 : Int), .int .u32 (x6 : Int)] 77))) gr 40 #[.int .i64 0, .int .u32 0, .int .u32 0, .int .u64 0, .int .u32 0, .int .u32 0, .int .u32 0, .slice none 0 0, .slice none 0 0, .slice none 0 0, .int .i64 0, .int .u32 0, .slice none 0 0, .int .i64 0, .int .i64 0, .slice none 0 0]) := Blk.alloc HZ_0.out _
          have HO_4 : Hid (World.ownsRow (World.drew (World.alloc wr (.cells #[.int .u32 (x0 : Int), .int .u8 (x1 : Int), .int .u32 (x2 : Int), .int .u32 (x3 : Int), .int .u32 (x4 : Int), .int .u32 (x5 : Int), .int .u32 (x6 : Int)] 77))) B0 77 7 (.slice Ao i co) i (rowC ks7 ((List.range i).map (fun j => blkAt b (24 + 24 * j))))) := HO_0.out.alloc _
          have HN_4 : Hid (Reads (World.drew (World.alloc wr (.cells #[.int .u32 (x0 : Int), .int .u8 (x1 : Int), .int .u32 (x2 : Int), .int .u32 (x3 : Int), .int .u32 (x4 : Int), .int .u32 (x5 : Int), .int .u32 (x6 : Int)] 77))) (World.heap (World.drew (World.alloc wr (.cells #[.int .u32 (x0 : Int), .int .u8 (x1 : Int), .int .u32 (x2 : Int), .int .u32 (x3 : Int), .int .u32 (x4 : Int), .int .u32 (x5 : Int), .int .u32 (x6 : Int)] 77)))).size 7 (some ⟨(World.heap (World.drew wr)).size, 0, none⟩) 1 [numV .u32 x0, numV .u8 x1, numV .u32 x2, numV .u32 x3, numV .u32 x4, numV .u32 x5, numV .u32 x6]) := reads_blk (Blk.newAt rfl _ _) rfl
          have HS_4 : Hid (B0 ≤ (World.heap (World.drew (World.alloc wr (.cells #[.int .u32 (x0 : Int), .int .u8 (x1 : Int), .int .u32 (x2 : Int), .int .u32 (x3 : Int), .int .u32 (x4 : Int), .int .u32 (x5 : Int), .int .u32 (x6 : Int)] 77)))).size) := by show _ ≤ _; have := HLO.out; exact Nat.le_of_lt (Nat.lt_of_le_of_lt (by omega) HX_4x.out.lt)
          refine hK.out _ _ HB_4.out (fun hHeld' => ?_)
          clear hK hHeld
          have hHeld := hHeld'
          clear hHeld'
          refine wpAnyH_ready (rs := [38]) (by kernel_rfl) (by simp) (AllReadyH.cons rfl (fun K' hK => ?_) AllReadyH.nil)
          refine step_append_any _ (by rfl) (.tmp 51) (.tmp 87) _ (by rfl) B0 77 iB _ 7 28 Try.underlying35 hiB hzaB hzbB hzcB rfl (by omega) (.slice Ao i co) i (rowC ks7 ((List.range i).map (fun j => blkAt b (24 + 24 * j)))) (by rfl) HO_4.out
            _ (some ⟨(World.heap (World.drew wr)).size, 0, none⟩) 1 1 [numV .u32 x0, numV .u8 x1, numV .u32 x2, numV .u32 x3, numV .u32 x4, numV .u32 x5, numV .u32 x6] (by rfl) HN_4.out (by simp [numV, Value.oneCell']) (by simp only [maxLen]; omega) (by omega) HS_4.out ?_
          intro v_5 w_5 hown_5 hg_5 hv_5
          obtain ⟨A_5, c_5, rfl⟩ := own_slice hown_5
          have hsv_5 : Sv (fun j => (Value.slice Ao i co).ownBlock = some j) (World.drew (World.alloc wr (.cells #[.int .u32 (x0 : Int), .int .u8 (x1 : Int), .int .u32 (x2 : Int), .int .u32 (x3 : Int), .int .u32 (x4 : Int), .int .u32 (x5 : Int), .int .u32 (x6 : Int)] 77))) w_5 := (Sv.refl _ _).grown hg_5 (fun g e => .inl e)
          have HB_5 : Hid (Below B0 w w_5) := HB_4.out.trans (hsv_5.toBelow (fun j e => (HO_4.out.lt j e).1) (Nat.le_trans HLO.out.1 HB_4.out.size))
          have HX_5x : Hid (Blk w_5 gx 40 #[.int .i64 1, .int .u32 (fr : Int), .int .u32 0, .int .u64 (ntp : Int), .int .u32 (ts : Int), .int .u32 (pk : Int), .int .u32 (oc : Int), .slice Ao i co, .slice none 0 0, .slice none 0 0, .int .i64 0, .int .u32 0, .slice none 0 0, .int .i64 0, .int .i64 0, .slice none 0 0]) := Blk.grown HX_4x.out hg_5 (Ne.symm (own_blk_ne HO_4.out HX_4x.out (by decide)))
          have HZ_5 : Hid (Blk w_5 gr 40 #[.int .i64 0, .int .u32 0, .int .u32 0, .int .u64 0, .int .u32 0, .int .u32 0, .int .u32 0, .slice none 0 0, .slice none 0 0, .slice none 0 0, .int .i64 0, .int .u32 0, .slice none 0 0, .int .i64 0, .int .i64 0, .slice none 0 0]) := Blk.grown HZ_4.out hg_5 (Ne.symm (own_blk_ne HO_4.out HZ_4.out (by decide)))
          have HO_5 := Lib.hid hown_5
          clear hown_5 hg_5 hv_5 hsv_5
          refine hK.out _ _ HB_5.out (fun hHeld' => ?_)
          clear hK hHeld
          have hHeld := hHeld'
          clear hHeld'
          refine wpAnyH_putAt rfl ?_
          simp only [List.set_cons_zero, List.set_cons_succ]
          refine wpAnyH_takeAt (i := 39) (v := (.pointer (some ⟨gx, 7, none⟩))) rfl (by kernel_rfl) (by kernel_rfl) (by kernel_rfl) (fun _ _ _ h => h) rfl (Or.inl ⟨by rfl, fun w' hS => ?_⟩) hHeld ?_
          · go_simp
          simp only [List.set_cons_zero, List.set_cons_succ]
          refine wpAnyH_ready (rs := [40]) (by kernel_rfl) (by simp) (AllReadyH.cons rfl (fun K' hK => ?_) AllReadyH.nil)
          have hcell : w_5.cell? ⟨gx, 7, none⟩ = some (.slice Ao i co) := HX_5x.out.cell 7
          have hfree : w_5.frozen? ⟨gx, 7, none⟩ = false := HX_5x.out.frozen 7
          go_simp
          clear hcell hfree
          have HB_6 : Hid (Below B0 w (World.setCell w_5 ⟨gx, 7, none⟩ (.slice A_5 (i + 1) c_5))) := HB_5.out.setCell (p := ⟨gx, 7, none⟩) (by have := HLO.out; show _ ≤ gx; omega) _
          have HX_6x : Hid (Blk (World.setCell w_5 ⟨gx, 7, none⟩ (.slice A_5 (i + 1) c_5)) gx 40 #[.int .i64 1, .int .u32 (fr : Int), .int .u32 0, .int .u64 (ntp : Int), .int .u32 (ts : Int), .int .u32 (pk : Int), .int .u32 (oc : Int), .slice A_5 (i + 1) c_5, .slice none 0 0, .slice none 0 0, .int .i64 0, .int .u32 0, .slice none 0 0, .int .i64 0, .int .i64 0, .slice none 0 0]) := HX_5x.out.set_ 7 _
          have HZ_6 : Hid (Blk (World.setCell w_5 ⟨gx, 7, none⟩ (.slice A_5 (i + 1) c_5)) gr 40 #[.int .i64 0, .int .u32 0, .int .u32 0, .int .u64 0, .int .u32 0, .int .u32 0, .int .u32 0, .slice none 0 0, .slice none 0 0, .slice none 0 0, .int .i64 0, .int .u32 0, .slice none 0 0, .int .i64 0, .int .i64 0, .slice none 0 0]) := HZ_5.out.far (p := ⟨gx, 7, none⟩) (by have := HLO.out; show gr ≠ gx; omega) _
          have HO_6 : Hid (World.ownsRow (World.setCell w_5 ⟨gx, 7, none⟩ (.slice A_5 (i + 1) c_5)) B0 77 7 (.slice A_5 (i + 1) c_5) (i + 1) (rowC ks7 ((List.range (i + 1)).map (fun j => blkAt b (24 + 24 * j))))) := by
            show World.ownsRow _ _ _ _ _ _ _
            rw [HTK.out]
            exact own_set HO_5.out (own_blk_ne HO_5.out HX_5x.out (by decide)) 7 _
          refine hK.out _ _ HB_6.out (fun hHeld' => ?_)
          clear hK hHeld
          have hHeld := hHeld'
          clear hHeld'
          refine wpAnyH_done (by kernel_rfl) ?_ _
          generalize (World.setCell w_5 ⟨gx, 7, none⟩ (.slice A_5 (i + 1) c_5)) = wf at *
          go_wp2_with fail
          go_roundg (c - (i + 1))
          case measure => have := HLT2.out; have := HGG.out; omega
          case rel =>
            have hlt := HLT2.out
            have hal := HAL.out
            exact ⟨i + 1, a + 24, A_5, c_5, rfl, by omega, by omega, by first | rfl | go_num, HB_6.out, HZ_6.out, HX_6x.out, HO_6.out⟩
        · go_simp
          go_at_call 32
          refine (N_z (p := a + 5) (k := 3) (HS.out.below (HBE.out ▸ HB_0.out)) rfl rfl HX_2.out (by omega) (by decide) (by omega)).mono ?_
          rintro e0 _ ⟨rfl, rfl⟩
          go_wp2_with fail
          refine hK.out _ _ HB_0.out (fun hHeld' => ?_)
          clear hK hHeld
          have hHeld := hHeld'
          clear hHeld'
          refine wpAnyH_takeAt (i := 15) (v := (.int .u32 (x2 : Int))) rfl (by kernel_rfl) (by kernel_rfl) (by kernel_rfl) (fun _ _ _ h => h) rfl (Or.inl ⟨by rfl, fun w' hS => ?_⟩) hHeld ?_
          · go_simp
          simp only [List.set_cons_zero, List.set_cons_succ]
          refine wpAnyH_ready (rs := [1, 19]) (by kernel_rfl) (by simp) (AllReadyH.cons rfl (fun K' hK => ?_) (AllReadyH.cons rfl (fun K' hK => ?_) AllReadyH.nil))
          · have hcell : (World.drew wr).cell? ⟨gx, 7, none⟩ = some (.slice Ao i co) := HX_00x.out.cell 7
            go_simp
            clear hcell
            refine hK.out _ _ HB_0.out (fun hHeld' => ?_)
            clear hK hHeld
            have hHeld := hHeld'
            clear hHeld'
            refine wpAnyH_ready (rs := [19]) (by kernel_rfl) (by simp) (AllReadyH.cons rfl (fun K' hK => ?_) AllReadyH.nil)
            go_simp
            go_at_call 32
            refine (N_z (p := a + 8) (k := 4) (HS.out.below (HBE.out ▸ HB_0.out)) rfl rfl HX_3.out (by omega) (by decide) (by omega)).mono ?_
            rintro e0 _ ⟨rfl, rfl⟩
            go_wp2_with fail
            refine hK.out _ _ HB_0.out (fun hHeld' => ?_)
            clear hK hHeld
            have hHeld := hHeld'
            clear hHeld'
            refine wpAnyH_takeAt (i := 20) (v := (.int .u32 (x3 : Int))) rfl (by kernel_rfl) (by kernel_rfl) (by kernel_rfl) (fun _ _ _ h => h) rfl (Or.inl ⟨by rfl, fun w' hS => ?_⟩) hHeld ?_
            · go_simp
            simp only [List.set_cons_zero, List.set_cons_succ]
            refine wpAnyH_ready (rs := [24]) (by kernel_rfl) (by simp) (AllReadyH.cons rfl (fun K' hK => ?_) AllReadyH.nil)
            go_simp
            go_at_call 32
            refine (N_z (p := a + 12) (k := 4) (HS.out.below (HBE.out ▸ HB_0.out)) rfl rfl HX_4.out (by omega) (by decide) (by omega)).mono ?_
            rintro e0 _ ⟨rfl, rfl⟩
            go_wp2_with fail
            refine hK.out _ _ HB_0.out (fun hHeld' => ?_)
            clear hK hHeld
            have hHeld := hHeld'
            clear hHeld'
            refine wpAnyH_takeAt (i := 25) (v := (.int .u32 (x4 : Int))) rfl (by kernel_rfl) (by kernel_rfl) (by kernel_rfl) (fun _ _ _ h => h) rfl (Or.inl ⟨by rfl, fun w' hS => ?_⟩) hHeld ?_
            · go_simp
            simp only [List.set_cons_zero, List.set_cons_succ]
            refine wpAnyH_ready (rs := [29]) (by kernel_rfl) (by simp) (AllReadyH.cons rfl (fun K' hK => ?_) AllReadyH.nil)
            go_simp
            go_at_call 32
            refine (N_z (p := a + 16) (k := 4) (HS.out.below (HBE.out ▸ HB_0.out)) rfl rfl HX_5.out (by omega) (by decide) (by omega)).mono ?_
            rintro e0 _ ⟨rfl, rfl⟩
            go_wp2_with fail
            refine hK.out _ _ HB_0.out (fun hHeld' => ?_)
            clear hK hHeld
            have hHeld := hHeld'
            clear hHeld'
            refine wpAnyH_takeAt (i := 30) (v := (.int .u32 (x5 : Int))) rfl (by kernel_rfl) (by kernel_rfl) (by kernel_rfl) (fun _ _ _ h => h) rfl (Or.inl ⟨by rfl, fun w' hS => ?_⟩) hHeld ?_
            · go_simp
            simp only [List.set_cons_zero, List.set_cons_succ]
            refine wpAnyH_ready (rs := [34]) (by kernel_rfl) (by simp) (AllReadyH.cons rfl (fun K' hK => ?_) AllReadyH.nil)
            go_simp
            go_at_call 32
            refine (N_z (p := a + 20) (k := 4) (HS.out.below (HBE.out ▸ HB_0.out)) rfl rfl HX_6.out (by omega) (by decide) (by omega)).mono ?_
            rintro e0 _ ⟨rfl, rfl⟩
            go_wp2_with fail
            refine hK.out _ _ HB_0.out (fun hHeld' => ?_)
            clear hK hHeld
            have hHeld := hHeld'
            clear hHeld'
            refine wpAnyH_takeAt (i := 35) (v := (.int .u32 (x6 : Int))) rfl (by kernel_rfl) (by kernel_rfl) (by kernel_rfl) (fun _ _ _ h => h) rfl (Or.inl ⟨by rfl, fun w' hS => ?_⟩) hHeld ?_
            · go_simp
            simp only [List.set_cons_zero, List.set_cons_succ]
            refine wpAnyH_takeAt (i := 36) (v := (.agg #[.int .u32 (x0 : Int), .int .u8 (x1 : Int), .int .u32 (x2 : Int), .int .u32 (x3 : Int), .int .u32 (x4 : Int), .int .u32 (x5 : Int), .int .u32 (x6 : Int)])) rfl (by kernel_rfl) (by kernel_rfl) (by kernel_rfl) (fun _ _ _ h => h) rfl (Or.inl ⟨by rfl, fun w' hS => ?_⟩) hHeld ?_
            · go_simp
            simp only [List.set_cons_zero, List.set_cons_succ]
            refine wpAnyH_ready (rs := [37]) (by kernel_rfl) (by simp) (AllReadyH.cons rfl (fun K' hK => ?_) AllReadyH.nil)
            go_simp
            have HB_7 : Hid (Below B0 w (World.drew (World.alloc wr (.cells #[.int .u32 (x0 : Int), .int .u8 (x1 : Int), .int .u32 (x2 : Int), .int .u32 (x3 : Int), .int .u32 (x4 : Int), .int .u32 (x5 : Int), .int .u32 (x6 : Int)] 77)))) := ballocB HB_0.out (Nat.le_trans HLO.out.1 HB_0.out.size) _
            have HX_7x : Hid (Blk (World.drew (World.alloc wr (.cells #[.int .u32 (x0 : Int), .int .u8 (x1 : Int), .int .u32 (x2 : Int), .int .u32 (x3 : Int), .int .u32 (x4 : Int), .int .u32 (x5 : Int), .int .u32 (x6 : Int)] 77))) gx 40 #[.int .i64 1, .int .u32 (fr : Int), .int .u32 0, .int .u64 (ntp : Int), .int .u32 (ts : Int), .int .u32 (pk : Int), .int .u32 (oc : Int), .slice Ao i co, .slice none 0 0, .slice none 0 0, .int .i64 0, .int .u32 0, .slice none 0 0, .int .i64 0, .int .i64 0, .slice none 0 0]) := Blk.alloc HX_00x.out _
            have HZ_7 : Hid (Blk (World.drew (World.alloc wr (.cells #[.int .u32 (x0 : Int), .int .u8 (x1 : Int), .int .u32 (x2 : Int), .int .u32 (x3 : Int), .int .u32 (x4 : Int), .int .u32 (x5 : Int), .int .u32 (x6 : Int)] 77))) gr 40 #[.int .i64 0, .int .u32 0, .int .u32 0, .int .u64 0, .int .u32 0, .int .u32 0, .int .u32 0, .slice none 0 0, .slice none 0 0, .slice none 0 0, .int .i64 0, .int .u32 0, .slice none 0 0, .int .i64 0, .int .i64 0, .slice none 0 0]) := Blk.alloc HZ_0.out _
            have HO_7 : Hid (World.ownsRow (World.drew (World.alloc wr (.cells #[.int .u32 (x0 : Int), .int .u8 (x1 : Int), .int .u32 (x2 : Int), .int .u32 (x3 : Int), .int .u32 (x4 : Int), .int .u32 (x5 : Int), .int .u32 (x6 : Int)] 77))) B0 77 7 (.slice Ao i co) i (rowC ks7 ((List.range i).map (fun j => blkAt b (24 + 24 * j))))) := HO_0.out.alloc _
            have HN_7 : Hid (Reads (World.drew (World.alloc wr (.cells #[.int .u32 (x0 : Int), .int .u8 (x1 : Int), .int .u32 (x2 : Int), .int .u32 (x3 : Int), .int .u32 (x4 : Int), .int .u32 (x5 : Int), .int .u32 (x6 : Int)] 77))) (World.heap (World.drew (World.alloc wr (.cells #[.int .u32 (x0 : Int), .int .u8 (x1 : Int), .int .u32 (x2 : Int), .int .u32 (x3 : Int), .int .u32 (x4 : Int), .int .u32 (x5 : Int), .int .u32 (x6 : Int)] 77)))).size 7 (some ⟨(World.heap (World.drew wr)).size, 0, none⟩) 1 [numV .u32 x0, numV .u8 x1, numV .u32 x2, numV .u32 x3, numV .u32 x4, numV .u32 x5, numV .u32 x6]) := reads_blk (Blk.newAt rfl _ _) rfl
            have HS_7 : Hid (B0 ≤ (World.heap (World.drew (World.alloc wr (.cells #[.int .u32 (x0 : Int), .int .u8 (x1 : Int), .int .u32 (x2 : Int), .int .u32 (x3 : Int), .int .u32 (x4 : Int), .int .u32 (x5 : Int), .int .u32 (x6 : Int)] 77)))).size) := by show _ ≤ _; have := HLO.out; exact Nat.le_of_lt (Nat.lt_of_le_of_lt (by omega) HX_7x.out.lt)
            refine hK.out _ _ HB_7.out (fun hHeld' => ?_)
            clear hK hHeld
            have hHeld := hHeld'
            clear hHeld'
            refine wpAnyH_ready (rs := [38]) (by kernel_rfl) (by simp) (AllReadyH.cons rfl (fun K' hK => ?_) AllReadyH.nil)
            refine step_append_any _ (by rfl) (.tmp 51) (.tmp 87) _ (by rfl) B0 77 iB _ 7 28 Try.underlying35 hiB hzaB hzbB hzcB rfl (by omega) (.slice Ao i co) i (rowC ks7 ((List.range i).map (fun j => blkAt b (24 + 24 * j)))) (by rfl) HO_7.out
              _ (some ⟨(World.heap (World.drew wr)).size, 0, none⟩) 1 1 [numV .u32 x0, numV .u8 x1, numV .u32 x2, numV .u32 x3, numV .u32 x4, numV .u32 x5, numV .u32 x6] (by rfl) HN_7.out (by simp [numV, Value.oneCell']) (by simp only [maxLen]; omega) (by omega) HS_7.out ?_
            intro v_8 w_8 hown_8 hg_8 hv_8
            obtain ⟨A_8, c_8, rfl⟩ := own_slice hown_8
            have hsv_8 : Sv (fun j => (Value.slice Ao i co).ownBlock = some j) (World.drew (World.alloc wr (.cells #[.int .u32 (x0 : Int), .int .u8 (x1 : Int), .int .u32 (x2 : Int), .int .u32 (x3 : Int), .int .u32 (x4 : Int), .int .u32 (x5 : Int), .int .u32 (x6 : Int)] 77))) w_8 := (Sv.refl _ _).grown hg_8 (fun g e => .inl e)
            have HB_8 : Hid (Below B0 w w_8) := HB_7.out.trans (hsv_8.toBelow (fun j e => (HO_7.out.lt j e).1) (Nat.le_trans HLO.out.1 HB_7.out.size))
            have HX_8x : Hid (Blk w_8 gx 40 #[.int .i64 1, .int .u32 (fr : Int), .int .u32 0, .int .u64 (ntp : Int), .int .u32 (ts : Int), .int .u32 (pk : Int), .int .u32 (oc : Int), .slice Ao i co, .slice none 0 0, .slice none 0 0, .int .i64 0, .int .u32 0, .slice none 0 0, .int .i64 0, .int .i64 0, .slice none 0 0]) := Blk.grown HX_7x.out hg_8 (Ne.symm (own_blk_ne HO_7.out HX_7x.out (by decide)))
            have HZ_8 : Hid (Blk w_8 gr 40 #[.int .i64 0, .int .u32 0, .int .u32 0, .int .u64 0, .int .u32 0, .int .u32 0, .int .u32 0, .slice none 0 0, .slice none 0 0, .slice none 0 0, .int .i64 0, .int .u32 0, .slice none 0 0, .int .i64 0, .int .i64 0, .slice none 0 0]) := Blk.grown HZ_7.out hg_8 (Ne.symm (own_blk_ne HO_7.out HZ_7.out (by decide)))
            have HO_8 := Lib.hid hown_8
            clear hown_8 hg_8 hv_8 hsv_8
            refine hK.out _ _ HB_8.out (fun hHeld' => ?_)
            clear hK hHeld
            have hHeld := hHeld'
            clear hHeld'
            refine wpAnyH_putAt rfl ?_
            simp only [List.set_cons_zero, List.set_cons_succ]
            refine wpAnyH_takeAt (i := 39) (v := (.pointer (some ⟨gx, 7, none⟩))) rfl (by kernel_rfl) (by kernel_rfl) (by kernel_rfl) (fun _ _ _ h => h) rfl (Or.inl ⟨by rfl, fun w' hS => ?_⟩) hHeld ?_
            · go_simp
            simp only [List.set_cons_zero, List.set_cons_succ]
            refine wpAnyH_ready (rs := [40]) (by kernel_rfl) (by simp) (AllReadyH.cons rfl (fun K' hK => ?_) AllReadyH.nil)
            have hcell : w_8.cell? ⟨gx, 7, none⟩ = some (.slice Ao i co) := HX_8x.out.cell 7
            have hfree : w_8.frozen? ⟨gx, 7, none⟩ = false := HX_8x.out.frozen 7
            go_simp
            clear hcell hfree
            have HB_9 : Hid (Below B0 w (World.setCell w_8 ⟨gx, 7, none⟩ (.slice A_8 (i + 1) c_8))) := HB_8.out.setCell (p := ⟨gx, 7, none⟩) (by have := HLO.out; show _ ≤ gx; omega) _
            have HX_9x : Hid (Blk (World.setCell w_8 ⟨gx, 7, none⟩ (.slice A_8 (i + 1) c_8)) gx 40 #[.int .i64 1, .int .u32 (fr : Int), .int .u32 0, .int .u64 (ntp : Int), .int .u32 (ts : Int), .int .u32 (pk : Int), .int .u32 (oc : Int), .slice A_8 (i + 1) c_8, .slice none 0 0, .slice none 0 0, .int .i64 0, .int .u32 0, .slice none 0 0, .int .i64 0, .int .i64 0, .slice none 0 0]) := HX_8x.out.set_ 7 _
            have HZ_9 : Hid (Blk (World.setCell w_8 ⟨gx, 7, none⟩ (.slice A_8 (i + 1) c_8)) gr 40 #[.int .i64 0, .int .u32 0, .int .u32 0, .int .u64 0, .int .u32 0, .int .u32 0, .int .u32 0, .slice none 0 0, .slice none 0 0, .slice none 0 0, .int .i64 0, .int .u32 0, .slice none 0 0, .int .i64 0, .int .i64 0, .slice none 0 0]) := HZ_8.out.far (p := ⟨gx, 7, none⟩) (by have := HLO.out; show gr ≠ gx; omega) _
            have HO_9 : Hid (World.ownsRow (World.setCell w_8 ⟨gx, 7, none⟩ (.slice A_8 (i + 1) c_8)) B0 77 7 (.slice A_8 (i + 1) c_8) (i + 1) (rowC ks7 ((List.range (i + 1)).map (fun j => blkAt b (24 + 24 * j))))) := by
              show World.ownsRow _ _ _ _ _ _ _
              rw [HTK.out]
              exact own_set HO_8.out (own_blk_ne HO_8.out HX_8x.out (by decide)) 7 _
            refine hK.out _ _ HB_9.out (fun hHeld' => ?_)
            clear hK hHeld
            have hHeld := hHeld'
            clear hHeld'
            refine wpAnyH_done (by kernel_rfl) ?_ _
            generalize (World.setCell w_8 ⟨gx, 7, none⟩ (.slice A_8 (i + 1) c_8)) = wf at *
            go_wp2_with fail
            go_roundg (c - (i + 1))
            case measure => have := HLT2.out; have := HGG.out; omega
            case rel =>
              have hlt := HLT2.out
              have hal := HAL.out
              exact ⟨i + 1, a + 24, A_8, c_8, rfl, by omega, by omega, by first | rfl | go_num, HB_9.out, HZ_9.out, HX_9x.out, HO_9.out⟩
          · go_simp
            go_at_call 32
            refine (N_z (p := a + 8) (k := 4) (HS.out.below (HBE.out ▸ HB_0.out)) rfl rfl HX_3.out (by omega) (by decide) (by omega)).mono ?_
            rintro e0 _ ⟨rfl, rfl⟩
            go_wp2_with fail
            refine hK.out _ _ HB_0.out (fun hHeld' => ?_)
            clear hK hHeld
            have hHeld := hHeld'
            clear hHeld'
            refine wpAnyH_takeAt (i := 20) (v := (.int .u32 (x3 : Int))) rfl (by kernel_rfl) (by kernel_rfl) (by kernel_rfl) (fun _ _ _ h => h) rfl (Or.inl ⟨by rfl, fun w' hS => ?_⟩) hHeld ?_
            · go_simp
            simp only [List.set_cons_zero, List.set_cons_succ]
            refine wpAnyH_ready (rs := [1, 24]) (by kernel_rfl) (by simp) (AllReadyH.cons rfl (fun K' hK => ?_) (AllReadyH.cons rfl (fun K' hK => ?_) AllReadyH.nil))
            · have hcell : (World.drew wr).cell? ⟨gx, 7, none⟩ = some (.slice Ao i co) := HX_00x.out.cell 7
              go_simp
              clear hcell
              refine hK.out _ _ HB_0.out (fun hHeld' => ?_)
              clear hK hHeld
              have hHeld := hHeld'
              clear hHeld'
              refine wpAnyH_ready (rs := [24]) (by kernel_rfl) (by simp) (AllReadyH.cons rfl (fun K' hK => ?_) AllReadyH.nil)
              go_simp
              go_at_call 32
              refine (N_z (p := a + 12) (k := 4) (HS.out.below (HBE.out ▸ HB_0.out)) rfl rfl HX_4.out (by omega) (by decide) (by omega)).mono ?_
              rintro e0 _ ⟨rfl, rfl⟩
              go_wp2_with fail
              refine hK.out _ _ HB_0.out (fun hHeld' => ?_)
              clear hK hHeld
              have hHeld := hHeld'
              clear hHeld'
              refine wpAnyH_takeAt (i := 25) (v := (.int .u32 (x4 : Int))) rfl (by kernel_rfl) (by kernel_rfl) (by kernel_rfl) (fun _ _ _ h => h) rfl (Or.inl ⟨by rfl, fun w' hS => ?_⟩) hHeld ?_
              · go_simp
              simp only [List.set_cons_zero, List.set_cons_succ]
              refine wpAnyH_ready (rs := [29]) (by kernel_rfl) (by simp) (AllReadyH.cons rfl (fun K' hK => ?_) AllReadyH.nil)
              go_simp
              go_at_call 32
              refine (N_z (p := a + 16) (k := 4) (HS.out.below (HBE.out ▸ HB_0.out)) rfl rfl HX_5.out (by omega) (by decide) (by omega)).mono ?_
              rintro e0 _ ⟨rfl, rfl⟩
              go_wp2_with fail
              refine hK.out _ _ HB_0.out (fun hHeld' => ?_)
              clear hK hHeld
              have hHeld := hHeld'
              clear hHeld'
              refine wpAnyH_takeAt (i := 30) (v := (.int .u32 (x5 : Int))) rfl (by kernel_rfl) (by kernel_rfl) (by kernel_rfl) (fun _ _ _ h => h) rfl (Or.inl ⟨by rfl, fun w' hS => ?_⟩) hHeld ?_
              · go_simp
              simp only [List.set_cons_zero, List.set_cons_succ]
              refine wpAnyH_ready (rs := [34]) (by kernel_rfl) (by simp) (AllReadyH.cons rfl (fun K' hK => ?_) AllReadyH.nil)
              go_simp
              go_at_call 32
              refine (N_z (p := a + 20) (k := 4) (HS.out.below (HBE.out ▸ HB_0.out)) rfl rfl HX_6.out (by omega) (by decide) (by omega)).mono ?_
              rintro e0 _ ⟨rfl, rfl⟩
              go_wp2_with fail
              refine hK.out _ _ HB_0.out (fun hHeld' => ?_)
              clear hK hHeld
              have hHeld := hHeld'
              clear hHeld'
              refine wpAnyH_takeAt (i := 35) (v := (.int .u32 (x6 : Int))) rfl (by kernel_rfl) (by kernel_rfl) (by kernel_rfl) (fun _ _ _ h => h) rfl (Or.inl ⟨by rfl, fun w' hS => ?_⟩) hHeld ?_
              · go_simp
              simp only [List.set_cons_zero, List.set_cons_succ]
              refine wpAnyH_takeAt (i := 36) (v := (.agg #[.int .u32 (x0 : Int), .int .u8 (x1 : Int), .int .u32 (x2 : Int), .int .u32 (x3 : Int), .int .u32 (x4 : Int), .int .u32 (x5 : Int), .int .u32 (x6 : Int)])) rfl (by kernel_rfl) (by kernel_rfl) (by kernel_rfl) (fun _ _ _ h => h) rfl (Or.inl ⟨by rfl, fun w' hS => ?_⟩) hHeld ?_
              · go_simp
              simp only [List.set_cons_zero, List.set_cons_succ]
              refine wpAnyH_ready (rs := [37]) (by kernel_rfl) (by simp) (AllReadyH.cons rfl (fun K' hK => ?_) AllReadyH.nil)
              go_simp
              have HB_10 : Hid (Below B0 w (World.drew (World.alloc wr (.cells #[.int .u32 (x0 : Int), .int .u8 (x1 : Int), .int .u32 (x2 : Int), .int .u32 (x3 : Int), .int .u32 (x4 : Int), .int .u32 (x5 : Int), .int .u32 (x6 : Int)] 77)))) := ballocB HB_0.out (Nat.le_trans HLO.out.1 HB_0.out.size) _
              have HX_10x : Hid (Blk (World.drew (World.alloc wr (.cells #[.int .u32 (x0 : Int), .int .u8 (x1 : Int), .int .u32 (x2 : Int), .int .u32 (x3 : Int), .int .u32 (x4 : Int), .int .u32 (x5 : Int), .int .u32 (x6 : Int)] 77))) gx 40 #[.int .i64 1, .int .u32 (fr : Int), .int .u32 0, .int .u64 (ntp : Int), .int .u32 (ts : Int), .int .u32 (pk : Int), .int .u32 (oc : Int), .slice Ao i co, .slice none 0 0, .slice none 0 0, .int .i64 0, .int .u32 0, .slice none 0 0, .int .i64 0, .int .i64 0, .slice none 0 0]) := Blk.alloc HX_00x.out _
              have HZ_10 : Hid (Blk (World.drew (World.alloc wr (.cells #[.int .u32 (x0 : Int), .int .u8 (x1 : Int), .int .u32 (x2 : Int), .int .u32 (x3 : Int), .int .u32 (x4 : Int), .int .u32 (x5 : Int), .int .u32 (x6 : Int)] 77))) gr 40 #[.int .i64 0, .int .u32 0, .int .u32 0, .int .u64 0, .int .u32 0, .int .u32 0, .int .u32 0, .slice none 0 0, .slice none 0 0, .slice none 0 0, .int .i64 0, .int .u32 0, .slice none 0 0, .int .i64 0, .int .i64 0, .slice none 0 0]) := Blk.alloc HZ_0.out _
              have HO_10 : Hid (World.ownsRow (World.drew (World.alloc wr (.cells #[.int .u32 (x0 : Int), .int .u8 (x1 : Int), .int .u32 (x2 : Int), .int .u32 (x3 : Int), .int .u32 (x4 : Int), .int .u32 (x5 : Int), .int .u32 (x6 : Int)] 77))) B0 77 7 (.slice Ao i co) i (rowC ks7 ((List.range i).map (fun j => blkAt b (24 + 24 * j))))) := HO_0.out.alloc _
              have HN_10 : Hid (Reads (World.drew (World.alloc wr (.cells #[.int .u32 (x0 : Int), .int .u8 (x1 : Int), .int .u32 (x2 : Int), .int .u32 (x3 : Int), .int .u32 (x4 : Int), .int .u32 (x5 : Int), .int .u32 (x6 : Int)] 77))) (World.heap (World.drew (World.alloc wr (.cells #[.int .u32 (x0 : Int), .int .u8 (x1 : Int), .int .u32 (x2 : Int), .int .u32 (x3 : Int), .int .u32 (x4 : Int), .int .u32 (x5 : Int), .int .u32 (x6 : Int)] 77)))).size 7 (some ⟨(World.heap (World.drew wr)).size, 0, none⟩) 1 [numV .u32 x0, numV .u8 x1, numV .u32 x2, numV .u32 x3, numV .u32 x4, numV .u32 x5, numV .u32 x6]) := reads_blk (Blk.newAt rfl _ _) rfl
              have HS_10 : Hid (B0 ≤ (World.heap (World.drew (World.alloc wr (.cells #[.int .u32 (x0 : Int), .int .u8 (x1 : Int), .int .u32 (x2 : Int), .int .u32 (x3 : Int), .int .u32 (x4 : Int), .int .u32 (x5 : Int), .int .u32 (x6 : Int)] 77)))).size) := by show _ ≤ _; have := HLO.out; exact Nat.le_of_lt (Nat.lt_of_le_of_lt (by omega) HX_10x.out.lt)
              refine hK.out _ _ HB_10.out (fun hHeld' => ?_)
              clear hK hHeld
              have hHeld := hHeld'
              clear hHeld'
              refine wpAnyH_ready (rs := [38]) (by kernel_rfl) (by simp) (AllReadyH.cons rfl (fun K' hK => ?_) AllReadyH.nil)
              refine step_append_any _ (by rfl) (.tmp 51) (.tmp 87) _ (by rfl) B0 77 iB _ 7 28 Try.underlying35 hiB hzaB hzbB hzcB rfl (by omega) (.slice Ao i co) i (rowC ks7 ((List.range i).map (fun j => blkAt b (24 + 24 * j)))) (by rfl) HO_10.out
                _ (some ⟨(World.heap (World.drew wr)).size, 0, none⟩) 1 1 [numV .u32 x0, numV .u8 x1, numV .u32 x2, numV .u32 x3, numV .u32 x4, numV .u32 x5, numV .u32 x6] (by rfl) HN_10.out (by simp [numV, Value.oneCell']) (by simp only [maxLen]; omega) (by omega) HS_10.out ?_
              intro v_11 w_11 hown_11 hg_11 hv_11
              obtain ⟨A_11, c_11, rfl⟩ := own_slice hown_11
              have hsv_11 : Sv (fun j => (Value.slice Ao i co).ownBlock = some j) (World.drew (World.alloc wr (.cells #[.int .u32 (x0 : Int), .int .u8 (x1 : Int), .int .u32 (x2 : Int), .int .u32 (x3 : Int), .int .u32 (x4 : Int), .int .u32 (x5 : Int), .int .u32 (x6 : Int)] 77))) w_11 := (Sv.refl _ _).grown hg_11 (fun g e => .inl e)
              have HB_11 : Hid (Below B0 w w_11) := HB_10.out.trans (hsv_11.toBelow (fun j e => (HO_10.out.lt j e).1) (Nat.le_trans HLO.out.1 HB_10.out.size))
              have HX_11x : Hid (Blk w_11 gx 40 #[.int .i64 1, .int .u32 (fr : Int), .int .u32 0, .int .u64 (ntp : Int), .int .u32 (ts : Int), .int .u32 (pk : Int), .int .u32 (oc : Int), .slice Ao i co, .slice none 0 0, .slice none 0 0, .int .i64 0, .int .u32 0, .slice none 0 0, .int .i64 0, .int .i64 0, .slice none 0 0]) := Blk.grown HX_10x.out hg_11 (Ne.symm (own_blk_ne HO_10.out HX_10x.out (by decide)))
              have HZ_11 : Hid (Blk w_11 gr 40 #[.int .i64 0, .int .u32 0, .int .u32 0, .int .u64 0, .int .u32 0, .int .u32 0, .int .u32 0, .slice none 0 0, .slice none 0 0, .slice none 0 0, .int .i64 0, .int .u32 0, .slice none 0 0, .int .i64 0, .int .i64 0, .slice none 0 0]) := Blk.grown HZ_10.out hg_11 (Ne.symm (own_blk_ne HO_10.out HZ_10.out (by decide)))
              have HO_11 := Lib.hid hown_11
              clear hown_11 hg_11 hv_11 hsv_11
              refine hK.out _ _ HB_11.out (fun hHeld' => ?_)
              clear hK hHeld
              have hHeld := hHeld'
              clear hHeld'
              refine wpAnyH_putAt rfl ?_
              simp only [List.set_cons_zero, List.set_cons_succ]
              refine wpAnyH_takeAt (i := 39) (v := (.pointer (some ⟨gx, 7, none⟩))) rfl (by kernel_rfl) (by kernel_rfl) (by kernel_rfl) (fun _ _ _ h => h) rfl (Or.inl ⟨by rfl, fun w' hS => ?_⟩) hHeld ?_
              · go_simp
              simp only [List.set_cons_zero, List.set_cons_succ]
              refine wpAnyH_ready (rs := [40]) (by kernel_rfl) (by simp) (AllReadyH.cons rfl (fun K' hK => ?_) AllReadyH.nil)
              have hcell : w_11.cell? ⟨gx, 7, none⟩ = some (.slice Ao i co) := HX_11x.out.cell 7
              have hfree : w_11.frozen? ⟨gx, 7, none⟩ = false := HX_11x.out.frozen 7
              go_simp
              clear hcell hfree
              have HB_12 : Hid (Below B0 w (World.setCell w_11 ⟨gx, 7, none⟩ (.slice A_11 (i + 1) c_11))) := HB_11.out.setCell (p := ⟨gx, 7, none⟩) (by have := HLO.out; show _ ≤ gx; omega) _
              have HX_12x : Hid (Blk (World.setCell w_11 ⟨gx, 7, none⟩ (.slice A_11 (i + 1) c_11)) gx 40 #[.int .i64 1, .int .u32 (fr : Int), .int .u32 0, .int .u64 (ntp : Int), .int .u32 (ts : Int), .int .u32 (pk : Int), .int .u32 (oc : Int), .slice A_11 (i + 1) c_11, .slice none 0 0, .slice none 0 0, .int .i64 0, .int .u32 0, .slice none 0 0, .int .i64 0, .int .i64 0, .slice none 0 0]) := HX_11x.out.set_ 7 _
              have HZ_12 : Hid (Blk (World.setCell w_11 ⟨gx, 7, none⟩ (.slice A_11 (i + 1) c_11)) gr 40 #[.int .i64 0, .int .u32 0, .int .u32 0, .int .u64 0, .int .u32 0, .int .u32 0, .int .u32 0, .slice none 0 0, .slice none 0 0, .slice none 0 0, .int .i64 0, .int .u32 0, .slice none 0 0, .int .i64 0, .int .i64 0, .slice none 0 0]) := HZ_11.out.far (p := ⟨gx, 7, none⟩) (by have := HLO.out; show gr ≠ gx; omega) _
              have HO_12 : Hid (World.ownsRow (World.setCell w_11 ⟨gx, 7, none⟩ (.slice A_11 (i + 1) c_11)) B0 77 7 (.slice A_11 (i + 1) c_11) (i + 1) (rowC ks7 ((List.range (i + 1)).map (fun j => blkAt b (24 + 24 * j))))) := by
                show World.ownsRow _ _ _ _ _ _ _
                rw [HTK.out]
                exact own_set HO_11.out (own_blk_ne HO_11.out HX_11x.out (by decide)) 7 _
              refine hK.out _ _ HB_12.out (fun hHeld' => ?_)
              clear hK hHeld
              have hHeld := hHeld'
              clear hHeld'
              refine wpAnyH_done (by kernel_rfl) ?_ _
              generalize (World.setCell w_11 ⟨gx, 7, none⟩ (.slice A_11 (i + 1) c_11)) = wf at *
              go_wp2_with fail
              go_roundg (c - (i + 1))
              case measure => have := HLT2.out; have := HGG.out; omega
              case rel =>
                have hlt := HLT2.out
                have hal := HAL.out
                exact ⟨i + 1, a + 24, A_11, c_11, rfl, by omega, by omega, by first | rfl | go_num, HB_12.out, HZ_12.out, HX_12x.out, HO_12.out⟩
            · go_simp
              go_at_call 32
              refine (N_z (p := a + 12) (k := 4) (HS.out.below (HBE.out ▸ HB_0.out)) rfl rfl HX_4.out (by omega) (by decide) (by omega)).mono ?_
              rintro e0 _ ⟨rfl, rfl⟩
              go_wp2_with fail
              refine hK.out _ _ HB_0.out (fun hHeld' => ?_)
              clear hK hHeld
              have hHeld := hHeld'
              clear hHeld'
              refine wpAnyH_takeAt (i := 25) (v := (.int .u32 (x4 : Int))) rfl (by kernel_rfl) (by kernel_rfl) (by kernel_rfl) (fun _ _ _ h => h) rfl (Or.inl ⟨by rfl, fun w' hS => ?_⟩) hHeld ?_
              · go_simp
              simp only [List.set_cons_zero, List.set_cons_succ]
              refine wpAnyH_ready (rs := [1, 29]) (by kernel_rfl) (by simp) (AllReadyH.cons rfl (fun K' hK => ?_) (AllReadyH.cons rfl (fun K' hK => ?_) AllReadyH.nil))
              · have hcell : (World.drew wr).cell? ⟨gx, 7, none⟩ = some (.slice Ao i co) := HX_00x.out.cell 7
                go_simp
                clear hcell
                refine hK.out _ _ HB_0.out (fun hHeld' => ?_)
                clear hK hHeld
                have hHeld := hHeld'
                clear hHeld'
                refine wpAnyH_ready (rs := [29]) (by kernel_rfl) (by simp) (AllReadyH.cons rfl (fun K' hK => ?_) AllReadyH.nil)
                go_simp
                go_at_call 32
                refine (N_z (p := a + 16) (k := 4) (HS.out.below (HBE.out ▸ HB_0.out)) rfl rfl HX_5.out (by omega) (by decide) (by omega)).mono ?_
                rintro e0 _ ⟨rfl, rfl⟩
                go_wp2_with fail
                refine hK.out _ _ HB_0.out (fun hHeld' => ?_)
                clear hK hHeld
                have hHeld := hHeld'
                clear hHeld'
                refine wpAnyH_takeAt (i := 30) (v := (.int .u32 (x5 : Int))) rfl (by kernel_rfl) (by kernel_rfl) (by kernel_rfl) (fun _ _ _ h => h) rfl (Or.inl ⟨by rfl, fun w' hS => ?_⟩) hHeld ?_
                · go_simp
                simp only [List.set_cons_zero, List.set_cons_succ]
                refine wpAnyH_ready (rs := [34]) (by kernel_rfl) (by simp) (AllReadyH.cons rfl (fun K' hK => ?_) AllReadyH.nil)
                go_simp
                go_at_call 32
                refine (N_z (p := a + 20) (k := 4) (HS.out.below (HBE.out ▸ HB_0.out)) rfl rfl HX_6.out (by omega) (by decide) (by omega)).mono ?_
                rintro e0 _ ⟨rfl, rfl⟩
                go_wp2_with fail
                refine hK.out _ _ HB_0.out (fun hHeld' => ?_)
                clear hK hHeld
                have hHeld := hHeld'
                clear hHeld'
                refine wpAnyH_takeAt (i := 35) (v := (.int .u32 (x6 : Int))) rfl (by kernel_rfl) (by kernel_rfl) (by kernel_rfl) (fun _ _ _ h => h) rfl (Or.inl ⟨by rfl, fun w' hS => ?_⟩) hHeld ?_
                · go_simp
                simp only [List.set_cons_zero, List.set_cons_succ]
                refine wpAnyH_takeAt (i := 36) (v := (.agg #[.int .u32 (x0 : Int), .int .u8 (x1 : Int), .int .u32 (x2 : Int), .int .u32 (x3 : Int), .int .u32 (x4 : Int), .int .u32 (x5 : Int), .int .u32 (x6 : Int)])) rfl (by kernel_rfl) (by kernel_rfl) (by kernel_rfl) (fun _ _ _ h => h) rfl (Or.inl ⟨by rfl, fun w' hS => ?_⟩) hHeld ?_
                · go_simp
                simp only [List.set_cons_zero, List.set_cons_succ]
                refine wpAnyH_ready (rs := [37]) (by kernel_rfl) (by simp) (AllReadyH.cons rfl (fun K' hK => ?_) AllReadyH.nil)
                go_simp
                have HB_13 : Hid (Below B0 w (World.drew (World.alloc wr (.cells #[.int .u32 (x0 : Int), .int .u8 (x1 : Int), .int .u32 (x2 : Int), .int .u32 (x3 : Int), .int .u32 (x4 : Int), .int .u32 (x5 : Int), .int .u32 (x6 : Int)] 77)))) := ballocB HB_0.out (Nat.le_trans HLO.out.1 HB_0.out.size) _
                have HX_13x : Hid (Blk (World.drew (World.alloc wr (.cells #[.int .u32 (x0 : Int), .int .u8 (x1 : Int), .int .u32 (x2 : Int), .int .u32 (x3 : Int), .int .u32 (x4 : Int), .int .u32 (x5 : Int), .int .u32 (x6 : Int)] 77))) gx 40 #[.int .i64 1, .int .u32 (fr : Int), .int .u32 0, .int .u64 (ntp : Int), .int .u32 (ts : Int), .int .u32 (pk : Int), .int .u32 (oc : Int), .slice Ao i co, .slice none 0 0, .slice none 0 0, .int .i64 0, .int .u32 0, .slice none 0 0, .int .i64 0, .int .i64 0, .slice none 0 0]) := Blk.alloc HX_00x.out _
                have HZ_13 : Hid (Blk (World.drew (World.alloc wr (.cells #[.int .u32 (x0 : Int), .int .u8 (x1 : Int), .int .u32 (x2 : Int), .int .u32 (x3 : Int), .int .u32 (x4 : Int), .int .u32 (x5 : Int), .int .u32 (x6 : Int)] 77))) gr 40 #[.int .i64 0, .int .u32 0, .int .u32 0, .int .u64 0, .int .u32 0, .int .u32 0, .int .u32 0, .slice none 0 0, .slice none 0 0, .slice none 0 0, .int .i64 0, .int .u32 0, .slice none 0 0, .int .i64 0, .int .i64 0, .slice none 0 0]) := Blk.alloc HZ_0.out _
                have HO_13 : Hid (World.ownsRow (World.drew (World.alloc wr (.cells #[.int .u32 (x0 : Int), .int .u8 (x1 : Int), .int .u32 (x2 : Int), .int .u32 (x3 : Int), .int .u32 (x4 : Int), .int .u32 (x5 : Int), .int .u32 (x6 : Int)] 77))) B0 77 7 (.slice Ao i co) i (rowC ks7 ((List.range i).map (fun j => blkAt b (24 + 24 * j))))) := HO_0.out.alloc _
                have HN_13 : Hid (Reads (World.drew (World.alloc wr (.cells #[.int .u32 (x0 : Int), .int .u8 (x1 : Int), .int .u32 (x2 : Int), .int .u32 (x3 : Int), .int .u32 (x4 : Int), .int .u32 (x5 : Int), .int .u32 (x6 : Int)] 77))) (World.heap (World.drew (World.alloc wr (.cells #[.int .u32 (x0 : Int), .int .u8 (x1 : Int), .int .u32 (x2 : Int), .int .u32 (x3 : Int), .int .u32 (x4 : Int), .int .u32 (x5 : Int), .int .u32 (x6 : Int)] 77)))).size 7 (some ⟨(World.heap (World.drew wr)).size, 0, none⟩) 1 [numV .u32 x0, numV .u8 x1, numV .u32 x2, numV .u32 x3, numV .u32 x4, numV .u32 x5, numV .u32 x6]) := reads_blk (Blk.newAt rfl _ _) rfl
                have HS_13 : Hid (B0 ≤ (World.heap (World.drew (World.alloc wr (.cells #[.int .u32 (x0 : Int), .int .u8 (x1 : Int), .int .u32 (x2 : Int), .int .u32 (x3 : Int), .int .u32 (x4 : Int), .int .u32 (x5 : Int), .int .u32 (x6 : Int)] 77)))).size) := by show _ ≤ _; have := HLO.out; exact Nat.le_of_lt (Nat.lt_of_le_of_lt (by omega) HX_13x.out.lt)
                refine hK.out _ _ HB_13.out (fun hHeld' => ?_)
                clear hK hHeld
                have hHeld := hHeld'
                clear hHeld'
                refine wpAnyH_ready (rs := [38]) (by kernel_rfl) (by simp) (AllReadyH.cons rfl (fun K' hK => ?_) AllReadyH.nil)
                refine step_append_any _ (by rfl) (.tmp 51) (.tmp 87) _ (by rfl) B0 77 iB _ 7 28 Try.underlying35 hiB hzaB hzbB hzcB rfl (by omega) (.slice Ao i co) i (rowC ks7 ((List.range i).map (fun j => blkAt b (24 + 24 * j)))) (by rfl) HO_13.out
                  _ (some ⟨(World.heap (World.drew wr)).size, 0, none⟩) 1 1 [numV .u32 x0, numV .u8 x1, numV .u32 x2, numV .u32 x3, numV .u32 x4, numV .u32 x5, numV .u32 x6] (by rfl) HN_13.out (by simp [numV, Value.oneCell']) (by simp only [maxLen]; omega) (by omega) HS_13.out ?_
                intro v_14 w_14 hown_14 hg_14 hv_14
                obtain ⟨A_14, c_14, rfl⟩ := own_slice hown_14
                have hsv_14 : Sv (fun j => (Value.slice Ao i co).ownBlock = some j) (World.drew (World.alloc wr (.cells #[.int .u32 (x0 : Int), .int .u8 (x1 : Int), .int .u32 (x2 : Int), .int .u32 (x3 : Int), .int .u32 (x4 : Int), .int .u32 (x5 : Int), .int .u32 (x6 : Int)] 77))) w_14 := (Sv.refl _ _).grown hg_14 (fun g e => .inl e)
                have HB_14 : Hid (Below B0 w w_14) := HB_13.out.trans (hsv_14.toBelow (fun j e => (HO_13.out.lt j e).1) (Nat.le_trans HLO.out.1 HB_13.out.size))
                have HX_14x : Hid (Blk w_14 gx 40 #[.int .i64 1, .int .u32 (fr : Int), .int .u32 0, .int .u64 (ntp : Int), .int .u32 (ts : Int), .int .u32 (pk : Int), .int .u32 (oc : Int), .slice Ao i co, .slice none 0 0, .slice none 0 0, .int .i64 0, .int .u32 0, .slice none 0 0, .int .i64 0, .int .i64 0, .slice none 0 0]) := Blk.grown HX_13x.out hg_14 (Ne.symm (own_blk_ne HO_13.out HX_13x.out (by decide)))
                have HZ_14 : Hid (Blk w_14 gr 40 #[.int .i64 0, .int .u32 0, .int .u32 0, .int .u64 0, .int .u32 0, .int .u32 0, .int .u32 0, .slice none 0 0, .slice none 0 0, .slice none 0 0, .int .i64 0, .int .u32 0, .slice none 0 0, .int .i64 0, .int .i64 0, .slice none 0 0]) := Blk.grown HZ_13.out hg_14 (Ne.symm (own_blk_ne HO_13.out HZ_13.out (by decide)))
                have HO_14 := Lib.hid hown_14
                clear hown_14 hg_14 hv_14 hsv_14
                refine hK.out _ _ HB_14.out (fun hHeld' => ?_)
                clear hK hHeld
                have hHeld := hHeld'
                clear hHeld'
                refine wpAnyH_putAt rfl ?_
                simp only [List.set_cons_zero, List.set_cons_succ]
                refine wpAnyH_takeAt (i := 39) (v := (.pointer (some ⟨gx, 7, none⟩))) rfl (by kernel_rfl) (by kernel_rfl) (by kernel_rfl) (fun _ _ _ h => h) rfl (Or.inl ⟨by rfl, fun w' hS => ?_⟩) hHeld ?_
                · go_simp
                simp only [List.set_cons_zero, List.set_cons_succ]
                refine wpAnyH_ready (rs := [40]) (by kernel_rfl) (by simp) (AllReadyH.cons rfl (fun K' hK => ?_) AllReadyH.nil)
                have hcell : w_14.cell? ⟨gx, 7, none⟩ = some (.slice Ao i co) := HX_14x.out.cell 7
                have hfree : w_14.frozen? ⟨gx, 7, none⟩ = false := HX_14x.out.frozen 7
                go_simp
                clear hcell hfree
                have HB_15 : Hid (Below B0 w (World.setCell w_14 ⟨gx, 7, none⟩ (.slice A_14 (i + 1) c_14))) := HB_14.out.setCell (p := ⟨gx, 7, none⟩) (by have := HLO.out; show _ ≤ gx; omega) _
                have HX_15x : Hid (Blk (World.setCell w_14 ⟨gx, 7, none⟩ (.slice A_14 (i + 1) c_14)) gx 40 #[.int .i64 1, .int .u32 (fr : Int), .int .u32 0, .int .u64 (ntp : Int), .int .u32 (ts : Int), .int .u32 (pk : Int), .int .u32 (oc : Int), .slice A_14 (i + 1) c_14, .slice none 0 0, .slice none 0 0, .int .i64 0, .int .u32 0, .slice none 0 0, .int .i64 0, .int .i64 0, .slice none 0 0]) := HX_14x.out.set_ 7 _
                have HZ_15 : Hid (Blk (World.setCell w_14 ⟨gx, 7, none⟩ (.slice A_14 (i + 1) c_14)) gr 40 #[.int .i64 0, .int .u32 0, .int .u32 0, .int .u64 0, .int .u32 0, .int .u32 0, .int .u32 0, .slice none 0 0, .slice none 0 0, .slice none 0 0, .int .i64 0, .int .u32 0, .slice none 0 0, .int .i64 0, .int .i64 0, .slice none 0 0]) := HZ_14.out.far (p := ⟨gx, 7, none⟩) (by have := HLO.out; show gr ≠ gx; omega) _
                have HO_15 : Hid (World.ownsRow (World.setCell w_14 ⟨gx, 7, none⟩ (.slice A_14 (i + 1) c_14)) B0 77 7 (.slice A_14 (i + 1) c_14) (i + 1) (rowC ks7 ((List.range (i + 1)).map (fun j => blkAt b (24 + 24 * j))))) := by
                  show World.ownsRow _ _ _ _ _ _ _
                  rw [HTK.out]
                  exact own_set HO_14.out (own_blk_ne HO_14.out HX_14x.out (by decide)) 7 _
                refine hK.out _ _ HB_15.out (fun hHeld' => ?_)
                clear hK hHeld
                have hHeld := hHeld'
                clear hHeld'
                refine wpAnyH_done (by kernel_rfl) ?_ _
                generalize (World.setCell w_14 ⟨gx, 7, none⟩ (.slice A_14 (i + 1) c_14)) = wf at *
                go_wp2_with fail
                go_roundg (c - (i + 1))
                case measure => have := HLT2.out; have := HGG.out; omega
                case rel =>
                  have hlt := HLT2.out
                  have hal := HAL.out
                  exact ⟨i + 1, a + 24, A_14, c_14, rfl, by omega, by omega, by first | rfl | go_num, HB_15.out, HZ_15.out, HX_15x.out, HO_15.out⟩
              · go_simp
                go_at_call 32
                refine (N_z (p := a + 16) (k := 4) (HS.out.below (HBE.out ▸ HB_0.out)) rfl rfl HX_5.out (by omega) (by decide) (by omega)).mono ?_
                rintro e0 _ ⟨rfl, rfl⟩
                go_wp2_with fail
                refine hK.out _ _ HB_0.out (fun hHeld' => ?_)
                clear hK hHeld
                have hHeld := hHeld'
                clear hHeld'
                refine wpAnyH_takeAt (i := 30) (v := (.int .u32 (x5 : Int))) rfl (by kernel_rfl) (by kernel_rfl) (by kernel_rfl) (fun _ _ _ h => h) rfl (Or.inl ⟨by rfl, fun w' hS => ?_⟩) hHeld ?_
                · go_simp
                simp only [List.set_cons_zero, List.set_cons_succ]
                refine wpAnyH_ready (rs := [1, 34]) (by kernel_rfl) (by simp) (AllReadyH.cons rfl (fun K' hK => ?_) (AllReadyH.cons rfl (fun K' hK => ?_) AllReadyH.nil))
                · have hcell : (World.drew wr).cell? ⟨gx, 7, none⟩ = some (.slice Ao i co) := HX_00x.out.cell 7
                  go_simp
                  clear hcell
                  refine hK.out _ _ HB_0.out (fun hHeld' => ?_)
                  clear hK hHeld
                  have hHeld := hHeld'
                  clear hHeld'
                  refine wpAnyH_ready (rs := [34]) (by kernel_rfl) (by simp) (AllReadyH.cons rfl (fun K' hK => ?_) AllReadyH.nil)
                  go_simp
                  go_at_call 32
                  refine (N_z (p := a + 20) (k := 4) (HS.out.below (HBE.out ▸ HB_0.out)) rfl rfl HX_6.out (by omega) (by decide) (by omega)).mono ?_
                  rintro e0 _ ⟨rfl, rfl⟩
                  go_wp2_with fail
                  refine hK.out _ _ HB_0.out (fun hHeld' => ?_)
                  clear hK hHeld
                  have hHeld := hHeld'
                  clear hHeld'
                  refine wpAnyH_takeAt (i := 35) (v := (.int .u32 (x6 : Int))) rfl (by kernel_rfl) (by kernel_rfl) (by kernel_rfl) (fun _ _ _ h => h) rfl (Or.inl ⟨by rfl, fun w' hS => ?_⟩) hHeld ?_
                  · go_simp
                  simp only [List.set_cons_zero, List.set_cons_succ]
                  refine wpAnyH_takeAt (i := 36) (v := (.agg #[.int .u32 (x0 : Int), .int .u8 (x1 : Int), .int .u32 (x2 : Int), .int .u32 (x3 : Int), .int .u32 (x4 : Int), .int .u32 (x5 : Int), .int .u32 (x6 : Int)])) rfl (by kernel_rfl) (by kernel_rfl) (by kernel_rfl) (fun _ _ _ h => h) rfl (Or.inl ⟨by rfl, fun w' hS => ?_⟩) hHeld ?_
                  · go_simp
                  simp only [List.set_cons_zero, List.set_cons_succ]
                  refine wpAnyH_ready (rs := [37]) (by kernel_rfl) (by simp) (AllReadyH.cons rfl (fun K' hK => ?_) AllReadyH.nil)
                  go_simp
                  have HB_16 : Hid (Below B0 w (World.drew (World.alloc wr (.cells #[.int .u32 (x0 : Int), .int .u8 (x1 : Int), .int .u32 (x2 : Int), .int .u32 (x3 : Int), .int .u32 (x4 : Int), .int .u32 (x5 : Int), .int .u32 (x6 : Int)] 77)))) := ballocB HB_0.out (Nat.le_trans HLO.out.1 HB_0.out.size) _
                  have HX_16x : Hid (Blk (World.drew (World.alloc wr (.cells #[.int .u32 (x0 : Int), .int .u8 (x1 : Int), .int .u32 (x2 : Int), .int .u32 (x3 : Int), .int .u32 (x4 : Int), .int .u32 (x5 : Int), .int .u32 (x6 : Int)] 77))) gx 40 #[.int .i64 1, .int .u32 (fr : Int), .int .u32 0, .int .u64 (ntp : Int), .int .u32 (ts : Int), .int .u32 (pk : Int), .int .u32 (oc : Int), .slice Ao i co, .slice none 0 0, .slice none 0 0, .int .i64 0, .int .u32 0, .slice none 0 0, .int .i64 0, .int .i64 0, .slice none 0 0]) := Blk.alloc HX_00x.out _
                  have HZ_16 : Hid (Blk (World.drew (World.alloc wr (.cells #[.int .u32 (x0 : Int), .int .u8 (x1 : Int), .int .u32 (x2 : Int), .int .u32 (x3 : Int), .int .u32 (x4 : Int), .int .u32 (x5 : Int), .int .u32 (x6 : Int)] 77))) gr 40 #[.int .i64 0, .int .u32 0, .int .u32 0, .int .u64 0, .int .u32 0, .int .u32 0, .int .u32 0, .slice none 0 0, .slice none 0 0, .slice none 0 0, .int .i64 0, .int .u32 0, .slice none 0 0, .int .i64 0, .int .i64 0, .slice none 0 0]) := Blk.alloc HZ_0.out _
                  have HO_16 : Hid (World.ownsRow (World.drew (World.alloc wr (.cells #[.int .u32 (x0 : Int), .int .u8 (x1 : Int), .int .u32 (x2 : Int), .int .u32 (x3 : Int), .int .u32 (x4 : Int), .int .u32 (x5 : Int), .int .u32 (x6 : Int)] 77))) B0 77 7 (.slice Ao i co) i (rowC ks7 ((List.range i).map (fun j => blkAt b (24 + 24 * j))))) := HO_0.out.alloc _
                  have HN_16 : Hid (Reads (World.drew (World.alloc wr (.cells #[.int .u32 (x0 : Int), .int .u8 (x1 : Int), .int .u32 (x2 : Int), .int .u32 (x3 : Int), .int .u32 (x4 : Int), .int .u32 (x5 : Int), .int .u32 (x6 : Int)] 77))) (World.heap (World.drew (World.alloc wr (.cells #[.int .u32 (x0 : Int), .int .u8 (x1 : Int), .int .u32 (x2 : Int), .int .u32 (x3 : Int), .int .u32 (x4 : Int), .int .u32 (x5 : Int), .int .u32 (x6 : Int)] 77)))).size 7 (some ⟨(World.heap (World.drew wr)).size, 0, none⟩) 1 [numV .u32 x0, numV .u8 x1, numV .u32 x2, numV .u32 x3, numV .u32 x4, numV .u32 x5, numV .u32 x6]) := reads_blk (Blk.newAt rfl _ _) rfl
                  have HS_16 : Hid (B0 ≤ (World.heap (World.drew (World.alloc wr (.cells #[.int .u32 (x0 : Int), .int .u8 (x1 : Int), .int .u32 (x2 : Int), .int .u32 (x3 : Int), .int .u32 (x4 : Int), .int .u32 (x5 : Int), .int .u32 (x6 : Int)] 77)))).size) := by show _ ≤ _; have := HLO.out; exact Nat.le_of_lt (Nat.lt_of_le_of_lt (by omega) HX_16x.out.lt)
                  refine hK.out _ _ HB_16.out (fun hHeld' => ?_)
                  clear hK hHeld
                  have hHeld := hHeld'
                  clear hHeld'
                  refine wpAnyH_ready (rs := [38]) (by kernel_rfl) (by simp) (AllReadyH.cons rfl (fun K' hK => ?_) AllReadyH.nil)
                  refine step_append_any _ (by rfl) (.tmp 51) (.tmp 87) _ (by rfl) B0 77 iB _ 7 28 Try.underlying35 hiB hzaB hzbB hzcB rfl (by omega) (.slice Ao i co) i (rowC ks7 ((List.range i).map (fun j => blkAt b (24 + 24 * j)))) (by rfl) HO_16.out
                    _ (some ⟨(World.heap (World.drew wr)).size, 0, none⟩) 1 1 [numV .u32 x0, numV .u8 x1, numV .u32 x2, numV .u32 x3, numV .u32 x4, numV .u32 x5, numV .u32 x6] (by rfl) HN_16.out (by simp [numV, Value.oneCell']) (by simp only [maxLen]; omega) (by omega) HS_16.out ?_
                  intro v_17 w_17 hown_17 hg_17 hv_17
                  obtain ⟨A_17, c_17, rfl⟩ := own_slice hown_17
                  have hsv_17 : Sv (fun j => (Value.slice Ao i co).ownBlock = some j) (World.drew (World.alloc wr (.cells #[.int .u32 (x0 : Int), .int .u8 (x1 : Int), .int .u32 (x2 : Int), .int .u32 (x3 : Int), .int .u32 (x4 : Int), .int .u32 (x5 : Int), .int .u32 (x6 : Int)] 77))) w_17 := (Sv.refl _ _).grown hg_17 (fun g e => .inl e)
                  have HB_17 : Hid (Below B0 w w_17) := HB_16.out.trans (hsv_17.toBelow (fun j e => (HO_16.out.lt j e).1) (Nat.le_trans HLO.out.1 HB_16.out.size))
                  have HX_17x : Hid (Blk w_17 gx 40 #[.int .i64 1, .int .u32 (fr : Int), .int .u32 0, .int .u64 (ntp : Int), .int .u32 (ts : Int), .int .u32 (pk : Int), .int .u32 (oc : Int), .slice Ao i co, .slice none 0 0, .slice none 0 0, .int .i64 0, .int .u32 0, .slice none 0 0, .int .i64 0, .int .i64 0, .slice none 0 0]) := Blk.grown HX_16x.out hg_17 (Ne.symm (own_blk_ne HO_16.out HX_16x.out (by decide)))
                  have HZ_17 : Hid (Blk w_17 gr 40 #[.int .i64 0, .int .u32 0, .int .u32 0, .int .u64 0, .int .u32 0, .int .u32 0, .int .u32 0, .slice none 0 0, .slice none 0 0, .slice none 0 0, .int .i64 0, .int .u32 0, .slice none 0 0, .int .i64 0, .int .i64 0, .slice none 0 0]) := Blk.grown HZ_16.out hg_17 (Ne.symm (own_blk_ne HO_16.out HZ_16.out (by decide)))
                  have HO_17 := Lib.hid hown_17
                  clear hown_17 hg_17 hv_17 hsv_17
                  refine hK.out _ _ HB_17.out (fun hHeld' => ?_)
                  clear hK hHeld
                  have hHeld := hHeld'
                  clear hHeld'
                  refine wpAnyH_putAt rfl ?_
                  simp only [List.set_cons_zero, List.set_cons_succ]
                  refine wpAnyH_takeAt (i := 39) (v := (.pointer (some ⟨gx, 7, none⟩))) rfl (by kernel_rfl) (by kernel_rfl) (by kernel_rfl) (fun _ _ _ h => h) rfl (Or.inl ⟨by rfl, fun w' hS => ?_⟩) hHeld ?_
                  · go_simp
                  simp only [List.set_cons_zero, List.set_cons_succ]
                  refine wpAnyH_ready (rs := [40]) (by kernel_rfl) (by simp) (AllReadyH.cons rfl (fun K' hK => ?_) AllReadyH.nil)
                  have hcell : w_17.cell? ⟨gx, 7, none⟩ = some (.slice Ao i co) := HX_17x.out.cell 7
                  have hfree : w_17.frozen? ⟨gx, 7, none⟩ = false := HX_17x.out.frozen 7
                  go_simp
                  clear hcell hfree
                  have HB_18 : Hid (Below B0 w (World.setCell w_17 ⟨gx, 7, none⟩ (.slice A_17 (i + 1) c_17))) := HB_17.out.setCell (p := ⟨gx, 7, none⟩) (by have := HLO.out; show _ ≤ gx; omega) _
                  have HX_18x : Hid (Blk (World.setCell w_17 ⟨gx, 7, none⟩ (.slice A_17 (i + 1) c_17)) gx 40 #[.int .i64 1, .int .u32 (fr : Int), .int .u32 0, .int .u64 (ntp : Int), .int .u32 (ts : Int), .int .u32 (pk : Int), .int .u32 (oc : Int), .slice A_17 (i + 1) c_17, .slice none 0 0, .slice none 0 0, .int .i64 0, .int .u32 0, .slice none 0 0, .int .i64 0, .int .i64 0, .slice none 0 0]) := HX_17x.out.set_ 7 _
                  have HZ_18 : Hid (Blk (World.setCell w_17 ⟨gx, 7, none⟩ (.slice A_17 (i + 1) c_17)) gr 40 #[.int .i64 0, .int .u32 0, .int .u32 0, .int .u64 0, .int .u32 0, .int .u32 0, .int .u32 0, .slice none 0 0, .slice none 0 0, .slice none 0 0, .int .i64 0, .int .u32 0, .slice none 0 0, .int .i64 0, .int .i64 0, .slice none 0 0]) := HZ_17.out.far (p := ⟨gx, 7, none⟩) (by have := HLO.out; show gr ≠ gx; omega) _
                  have HO_18 : Hid (World.ownsRow (World.setCell w_17 ⟨gx, 7, none⟩ (.slice A_17 (i + 1) c_17)) B0 77 7 (.slice A_17 (i + 1) c_17) (i + 1) (rowC ks7 ((List.range (i + 1)).map (fun j => blkAt b (24 + 24 * j))))) := by
                    show World.ownsRow _ _ _ _ _ _ _
                    rw [HTK.out]
                    exact own_set HO_17.out (own_blk_ne HO_17.out HX_17x.out (by decide)) 7 _
                  refine hK.out _ _ HB_18.out (fun hHeld' => ?_)
                  clear hK hHeld
                  have hHeld := hHeld'
                  clear hHeld'
                  refine wpAnyH_done (by kernel_rfl) ?_ _
                  generalize (World.setCell w_17 ⟨gx, 7, none⟩ (.slice A_17 (i + 1) c_17)) = wf at *
                  go_wp2_with fail
                  go_roundg (c - (i + 1))
                  case measure => have := HLT2.out; have := HGG.out; omega
                  case rel =>
                    have hlt := HLT2.out
                    have hal := HAL.out
                    exact ⟨i + 1, a + 24, A_17, c_17, rfl, by omega, by omega, by first | rfl | go_num, HB_18.out, HZ_18.out, HX_18x.out, HO_18.out⟩
                · go_simp
                  go_at_call 32
                  refine (N_z (p := a + 20) (k := 4) (HS.out.below (HBE.out ▸ HB_0.out)) rfl rfl HX_6.out (by omega) (by decide) (by omega)).mono ?_
                  rintro e0 _ ⟨rfl, rfl⟩
                  go_wp2_with fail
                  refine hK.out _ _ HB_0.out (fun hHeld' => ?_)
                  clear hK hHeld
                  have hHeld := hHeld'
                  clear hHeld'
                  refine wpAnyH_takeAt (i := 35) (v := (.int .u32 (x6 : Int))) rfl (by kernel_rfl) (by kernel_rfl) (by kernel_rfl) (fun _ _ _ h => h) rfl (Or.inl ⟨by rfl, fun w' hS => ?_⟩) hHeld ?_
                  · go_simp
                  simp only [List.set_cons_zero, List.set_cons_succ]
                  refine wpAnyH_takeAt (i := 36) (v := (.agg #[.int .u32 (x0 : Int), .int .u8 (x1 : Int), .int .u32 (x2 : Int), .int .u32 (x3 : Int), .int .u32 (x4 : Int), .int .u32 (x5 : Int), .int .u32 (x6 : Int)])) rfl (by kernel_rfl) (by kernel_rfl) (by kernel_rfl) (fun _ _ _ h => h) rfl (Or.inl ⟨by rfl, fun w' hS => ?_⟩) hHeld ?_
                  · go_simp
                  simp only [List.set_cons_zero, List.set_cons_succ]
                  refine wpAnyH_ready (rs := [1, 37]) (by kernel_rfl) (by simp) (AllReadyH.cons rfl (fun K' hK => ?_) (AllReadyH.cons rfl (fun K' hK => ?_) AllReadyH.nil))
                  · have hcell : (World.drew wr).cell? ⟨gx, 7, none⟩ = some (.slice Ao i co) := HX_00x.out.cell 7
                    go_simp
                    clear hcell
                    refine hK.out _ _ HB_0.out (fun hHeld' => ?_)
                    clear hK hHeld
                    have hHeld := hHeld'
                    clear hHeld'
                    refine wpAnyH_ready (rs := [37]) (by kernel_rfl) (by simp) (AllReadyH.cons rfl (fun K' hK => ?_) AllReadyH.nil)
                    go_simp
                    have HB_19 : Hid (Below B0 w (World.drew (World.alloc wr (.cells #[.int .u32 (x0 : Int), .int .u8 (x1 : Int), .int .u32 (x2 : Int), .int .u32 (x3 : Int), .int .u32 (x4 : Int), .int .u32 (x5 : Int), .int .u32 (x6 : Int)] 77)))) := ballocB HB_0.out (Nat.le_trans HLO.out.1 HB_0.out.size) _
                    have HX_19x : Hid (Blk (World.drew (World.alloc wr (.cells #[.int .u32 (x0 : Int), .int .u8 (x1 : Int), .int .u32 (x2 : Int), .int .u32 (x3 : Int), .int .u32 (x4 : Int), .int .u32 (x5 : Int), .int .u32 (x6 : Int)] 77))) gx 40 #[.int .i64 1, .int .u32 (fr : Int), .int .u32 0, .int .u64 (ntp : Int), .int .u32 (ts : Int), .int .u32 (pk : Int), .int .u32 (oc : Int), .slice Ao i co, .slice none 0 0, .slice none 0 0, .int .i64 0, .int .u32 0, .slice none 0 0, .int .i64 0, .int .i64 0, .slice none 0 0]) := Blk.alloc HX_00x.out _
                    have HZ_19 : Hid (Blk (World.drew (World.alloc wr (.cells #[.int .u32 (x0 : Int), .int .u8 (x1 : Int), .int .u32 (x2 : Int), .int .u32 (x3 : Int), .int .u32 (x4 : Int), .int .u32 (x5 : Int), .int .u32 (x6 : Int)] 77))) gr 40 #[.int .i64 0, .int .u32 0, .int .u32 0, .int .u64 0, .int .u32 0, .int .u32 0, .int .u32 0, .slice none 0 0, .slice none 0 0, .slice none 0 0, .int .i64 0, .int .u32 0, .slice none 0 0, .int .i64 0, .int .i64 0, .slice none 0 0]) := Blk.alloc HZ_0.out _
                    have HO_19 : Hid (World.ownsRow (World.drew (World.alloc wr (.cells #[.int .u32 (x0 : Int), .int .u8 (x1 : Int), .int .u32 (x2 : Int), .int .u32 (x3 : Int), .int .u32 (x4 : Int), .int .u32 (x5 : Int), .int .u32 (x6 : Int)] 77))) B0 77 7 (.slice Ao i co) i (rowC ks7 ((List.range i).map (fun j => blkAt b (24 + 24 * j))))) := HO_0.out.alloc _
                    have HN_19 : Hid (Reads (World.drew (World.alloc wr (.cells #[.int .u32 (x0 : Int), .int .u8 (x1 : Int), .int .u32 (x2 : Int), .int .u32 (x3 : Int), .int .u32 (x4 : Int), .int .u32 (x5 : Int), .int .u32 (x6 : Int)] 77))) (World.heap (World.drew (World.alloc wr (.cells #[.int .u32 (x0 : Int), .int .u8 (x1 : Int), .int .u32 (x2 : Int), .int .u32 (x3 : Int), .int .u32 (x4 : Int), .int .u32 (x5 : Int), .int .u32 (x6 : Int)] 77)))).size 7 (some ⟨(World.heap (World.drew wr)).size, 0, none⟩) 1 [numV .u32 x0, numV .u8 x1, numV .u32 x2, numV .u32 x3, numV .u32 x4, numV .u32 x5, numV .u32 x6]) := reads_blk (Blk.newAt rfl _ _) rfl
                    have HS_19 : Hid (B0 ≤ (World.heap (World.drew (World.alloc wr (.cells #[.int .u32 (x0 : Int), .int .u8 (x1 : Int), .int .u32 (x2 : Int), .int .u32 (x3 : Int), .int .u32 (x4 : Int), .int .u32 (x5 : Int), .int .u32 (x6 : Int)] 77)))).size) := by show _ ≤ _; have := HLO.out; exact Nat.le_of_lt (Nat.lt_of_le_of_lt (by omega) HX_19x.out.lt)
                    refine hK.out _ _ HB_19.out (fun hHeld' => ?_)
                    clear hK hHeld
                    have hHeld := hHeld'
                    clear hHeld'
                    refine wpAnyH_ready (rs := [38]) (by kernel_rfl) (by simp) (AllReadyH.cons rfl (fun K' hK => ?_) AllReadyH.nil)
                    refine step_append_any _ (by rfl) (.tmp 51) (.tmp 87) _ (by rfl) B0 77 iB _ 7 28 Try.underlying35 hiB hzaB hzbB hzcB rfl (by omega) (.slice Ao i co) i (rowC ks7 ((List.range i).map (fun j => blkAt b (24 + 24 * j)))) (by rfl) HO_19.out
                      _ (some ⟨(World.heap (World.drew wr)).size, 0, none⟩) 1 1 [numV .u32 x0, numV .u8 x1, numV .u32 x2, numV .u32 x3, numV .u32 x4, numV .u32 x5, numV .u32 x6] (by rfl) HN_19.out (by simp [numV, Value.oneCell']) (by simp only [maxLen]; omega) (by omega) HS_19.out ?_
                    intro v_20 w_20 hown_20 hg_20 hv_20
                    obtain ⟨A_20, c_20, rfl⟩ := own_slice hown_20
                    have hsv_20 : Sv (fun j => (Value.slice Ao i co).ownBlock = some j) (World.drew (World.alloc wr (.cells #[.int .u32 (x0 : Int), .int .u8 (x1 : Int), .int .u32 (x2 : Int), .int .u32 (x3 : Int), .int .u32 (x4 : Int), .int .u32 (x5 : Int), .int .u32 (x6 : Int)] 77))) w_20 := (Sv.refl _ _).grown hg_20 (fun g e => .inl e)
                    have HB_20 : Hid (Below B0 w w_20) := HB_19.out.trans (hsv_20.toBelow (fun j e => (HO_19.out.lt j e).1) (Nat.le_trans HLO.out.1 HB_19.out.size))
                    have HX_20x : Hid (Blk w_20 gx 40 #[.int .i64 1, .int .u32 (fr : Int), .int .u32 0, .int .u64 (ntp : Int), .int .u32 (ts : Int), .int .u32 (pk : Int), .int .u32 (oc : Int), .slice Ao i co, .slice none 0 0, .slice none 0 0, .int .i64 0, .int .u32 0, .slice none 0 0, .int .i64 0, .int .i64 0, .slice none 0 0]) := Blk.grown HX_19x.out hg_20 (Ne.symm (own_blk_ne HO_19.out HX_19x.out (by decide)))
                    have HZ_20 : Hid (Blk w_20 gr 40 #[.int .i64 0, .int .u32 0, .int .u32 0, .int .u64 0, .int .u32 0, .int .u32 0, .int .u32 0, .slice none 0 0, .slice none 0 0, .slice none 0 0, .int .i64 0, .int .u32 0, .slice none 0 0, .int .i64 0, .int .i64 0, .slice none 0 0]) := Blk.grown HZ_19.out hg_20 (Ne.symm (own_blk_ne HO_19.out HZ_19.out (by decide)))
                    have HO_20 := Lib.hid hown_20
                    clear hown_20 hg_20 hv_20 hsv_20
                    refine hK.out _ _ HB_20.out (fun hHeld' => ?_)
                    clear hK hHeld
                    have hHeld := hHeld'
                    clear hHeld'
                    refine wpAnyH_putAt rfl ?_
                    simp only [List.set_cons_zero, List.set_cons_succ]
                    refine wpAnyH_takeAt (i := 39) (v := (.pointer (some ⟨gx, 7, none⟩))) rfl (by kernel_rfl) (by kernel_rfl) (by kernel_rfl) (fun _ _ _ h => h) rfl (Or.inl ⟨by rfl, fun w' hS => ?_⟩) hHeld ?_
                    · go_simp
                    simp only [List.set_cons_zero, List.set_cons_succ]
                    refine wpAnyH_ready (rs := [40]) (by kernel_rfl) (by simp) (AllReadyH.cons rfl (fun K' hK => ?_) AllReadyH.nil)
                    have hcell : w_20.cell? ⟨gx, 7, none⟩ = some (.slice Ao i co) := HX_20x.out.cell 7
                    have hfree : w_20.frozen? ⟨gx, 7, none⟩ = false := HX_20x.out.frozen 7
                    go_simp
                    clear hcell hfree
                    have HB_21 : Hid (Below B0 w (World.setCell w_20 ⟨gx, 7, none⟩ (.slice A_20 (i + 1) c_20))) := HB_20.out.setCell (p := ⟨gx, 7, none⟩) (by have := HLO.out; show _ ≤ gx; omega) _
                    have HX_21x : Hid (Blk (World.setCell w_20 ⟨gx, 7, none⟩ (.slice A_20 (i + 1) c_20)) gx 40 #[.int .i64 1, .int .u32 (fr : Int), .int .u32 0, .int .u64 (ntp : Int), .int .u32 (ts : Int), .int .u32 (pk : Int), .int .u32 (oc : Int), .slice A_20 (i + 1) c_20, .slice none 0 0, .slice none 0 0, .int .i64 0, .int .u32 0, .slice none 0 0, .int .i64 0, .int .i64 0, .slice none 0 0]) := HX_20x.out.set_ 7 _
                    have HZ_21 : Hid (Blk (World.setCell w_20 ⟨gx, 7, none⟩ (.slice A_20 (i + 1) c_20)) gr 40 #[.int .i64 0, .int .u32 0, .int .u32 0, .int .u64 0, .int .u32 0, .int .u32 0, .int .u32 0, .slice none 0 0, .slice none 0 0, .slice none 0 0, .int .i64 0, .int .u32 0, .slice none 0 0, .int .i64 0, .int .i64 0, .slice none 0 0]) := HZ_20.out.far (p := ⟨gx, 7, none⟩) (by have := HLO.out; show gr ≠ gx; omega) _
                    have HO_21 : Hid (World.ownsRow (World.setCell w_20 ⟨gx, 7, none⟩ (.slice A_20 (i + 1) c_20)) B0 77 7 (.slice A_20 (i + 1) c_20) (i + 1) (rowC ks7 ((List.range (i + 1)).map (fun j => blkAt b (24 + 24 * j))))) := by
                      show World.ownsRow _ _ _ _ _ _ _
                      rw [HTK.out]
                      exact own_set HO_20.out (own_blk_ne HO_20.out HX_20x.out (by decide)) 7 _
                    refine hK.out _ _ HB_21.out (fun hHeld' => ?_)
                    clear hK hHeld
                    have hHeld := hHeld'
                    clear hHeld'
                    refine wpAnyH_done (by kernel_rfl) ?_ _
                    generalize (World.setCell w_20 ⟨gx, 7, none⟩ (.slice A_20 (i + 1) c_20)) = wf at *
                    go_wp2_with fail
                    go_roundg (c - (i + 1))
                    case measure => have := HLT2.out; have := HGG.out; omega
                    case rel =>
                      have hlt := HLT2.out
                      have hal := HAL.out
                      exact ⟨i + 1, a + 24, A_20, c_20, rfl, by omega, by omega, by first | rfl | go_num, HB_21.out, HZ_21.out, HX_21x.out, HO_21.out⟩
                  · go_simp
                    have HB_22 : Hid (Below B0 w (World.drew (World.alloc wr (.cells #[.int .u32 (x0 : Int), .int .u8 (x1 : Int), .int .u32 (x2 : Int), .int .u32 (x3 : Int), .int .u32 (x4 : Int), .int .u32 (x5 : Int), .int .u32 (x6 : Int)] 77)))) := ballocB HB_0.out (Nat.le_trans HLO.out.1 HB_0.out.size) _
                    have HX_22x : Hid (Blk (World.drew (World.alloc wr (.cells #[.int .u32 (x0 : Int), .int .u8 (x1 : Int), .int .u32 (x2 : Int), .int .u32 (x3 : Int), .int .u32 (x4 : Int), .int .u32 (x5 : Int), .int .u32 (x6 : Int)] 77))) gx 40 #[.int .i64 1, .int .u32 (fr : Int), .int .u32 0, .int .u64 (ntp : Int), .int .u32 (ts : Int), .int .u32 (pk : Int), .int .u32 (oc : Int), .slice Ao i co, .slice none 0 0, .slice none 0 0, .int .i64 0, .int .u32 0, .slice none 0 0, .int .i64 0, .int .i64 0, .slice none 0 0]) := Blk.alloc HX_00x.out _
                    have HZ_22 : Hid (Blk (World.drew (World.alloc wr (.cells #[.int .u32 (x0 : Int), .int .u8 (x1 : Int), .int .u32 (x2 : Int), .int .u32 (x3 : Int), .int .u32 (x4 : Int), .int .u32 (x5 : Int), .int .u32 (x6 : Int)] 77))) gr 40 #[.int .i64 0, .int .u32 0, .int .u32 0, .int .u64 0, .int .u32 0, .int .u32 0, .int .u32 0, .slice none 0 0, .slice none 0 0, .slice none 0 0, .int .i64 0, .int .u32 0, .slice none 0 0, .int .i64 0, .int .i64 0, .slice none 0 0]) := Blk.alloc HZ_0.out _
                    have HO_22 : Hid (World.ownsRow (World.drew (World.alloc wr (.cells #[.int .u32 (x0 : Int), .int .u8 (x1 : Int), .int .u32 (x2 : Int), .int .u32 (x3 : Int), .int .u32 (x4 : Int), .int .u32 (x5 : Int), .int .u32 (x6 : Int)] 77))) B0 77 7 (.slice Ao i co) i (rowC ks7 ((List.range i).map (fun j => blkAt b (24 + 24 * j))))) := HO_0.out.alloc _
                    have HN_22 : Hid (Reads (World.drew (World.alloc wr (.cells #[.int .u32 (x0 : Int), .int .u8 (x1 : Int), .int .u32 (x2 : Int), .int .u32 (x3 : Int), .int .u32 (x4 : Int), .int .u32 (x5 : Int), .int .u32 (x6 : Int)] 77))) (World.heap (World.drew (World.alloc wr (.cells #[.int .u32 (x0 : Int), .int .u8 (x1 : Int), .int .u32 (x2 : Int), .int .u32 (x3 : Int), .int .u32 (x4 : Int), .int .u32 (x5 : Int), .int .u32 (x6 : Int)] 77)))).size 7 (some ⟨(World.heap (World.drew wr)).size, 0, none⟩) 1 [numV .u32 x0, numV .u8 x1, numV .u32 x2, numV .u32 x3, numV .u32 x4, numV .u32 x5, numV .u32 x6]) := reads_blk (Blk.newAt rfl _ _) rfl
                    have HS_22 : Hid (B0 ≤ (World.heap (World.drew (World.alloc wr (.cells #[.int .u32 (x0 : Int), .int .u8 (x1 : Int), .int .u32 (x2 : Int), .int .u32 (x3 : Int), .int .u32 (x4 : Int), .int .u32 (x5 : Int), .int .u32 (x6 : Int)] 77)))).size) := by show _ ≤ _; have := HLO.out; exact Nat.le_of_lt (Nat.lt_of_le_of_lt (by omega) HX_22x.out.lt)
                    refine hK.out _ _ HB_22.out (fun hHeld' => ?_)
                    clear hK hHeld
                    have hHeld := hHeld'
                    clear hHeld'
                    refine wpAnyH_ready (rs := [1]) (by kernel_rfl) (by simp) (AllReadyH.cons rfl (fun K' hK => ?_) AllReadyH.nil)
                    have hcell : (World.drew (World.alloc wr (.cells #[.int .u32 (x0 : Int), .int .u8 (x1 : Int), .int .u32 (x2 : Int), .int .u32 (x3 : Int), .int .u32 (x4 : Int), .int .u32 (x5 : Int), .int .u32 (x6 : Int)] 77))).cell? ⟨gx, 7, none⟩ = some (.slice Ao i co) := HX_22x.out.cell 7
                    go_simp
                    clear hcell
                    refine hK.out _ _ HB_22.out (fun hHeld' => ?_)
                    clear hK hHeld
                    have hHeld := hHeld'
                    clear hHeld'
                    refine wpAnyH_ready (rs := [38]) (by kernel_rfl) (by simp) (AllReadyH.cons rfl (fun K' hK => ?_) AllReadyH.nil)
                    refine step_append_any _ (by rfl) (.tmp 51) (.tmp 87) _ (by rfl) B0 77 iB _ 7 28 Try.underlying35 hiB hzaB hzbB hzcB rfl (by omega) (.slice Ao i co) i (rowC ks7 ((List.range i).map (fun j => blkAt b (24 + 24 * j)))) (by rfl) HO_22.out
                      _ (some ⟨(World.heap (World.drew wr)).size, 0, none⟩) 1 1 [numV .u32 x0, numV .u8 x1, numV .u32 x2, numV .u32 x3, numV .u32 x4, numV .u32 x5, numV .u32 x6] (by rfl) HN_22.out (by simp [numV, Value.oneCell']) (by simp only [maxLen]; omega) (by omega) HS_22.out ?_
                    intro v_23 w_23 hown_23 hg_23 hv_23
                    obtain ⟨A_23, c_23, rfl⟩ := own_slice hown_23
                    have hsv_23 : Sv (fun j => (Value.slice Ao i co).ownBlock = some j) (World.drew (World.alloc wr (.cells #[.int .u32 (x0 : Int), .int .u8 (x1 : Int), .int .u32 (x2 : Int), .int .u32 (x3 : Int), .int .u32 (x4 : Int), .int .u32 (x5 : Int), .int .u32 (x6 : Int)] 77))) w_23 := (Sv.refl _ _).grown hg_23 (fun g e => .inl e)
                    have HB_23 : Hid (Below B0 w w_23) := HB_22.out.trans (hsv_23.toBelow (fun j e => (HO_22.out.lt j e).1) (Nat.le_trans HLO.out.1 HB_22.out.size))
                    have HX_23x : Hid (Blk w_23 gx 40 #[.int .i64 1, .int .u32 (fr : Int), .int .u32 0, .int .u64 (ntp : Int), .int .u32 (ts : Int), .int .u32 (pk : Int), .int .u32 (oc : Int), .slice Ao i co, .slice none 0 0, .slice none 0 0, .int .i64 0, .int .u32 0, .slice none 0 0, .int .i64 0, .int .i64 0, .slice none 0 0]) := Blk.grown HX_22x.out hg_23 (Ne.symm (own_blk_ne HO_22.out HX_22x.out (by decide)))
                    have HZ_23 : Hid (Blk w_23 gr 40 #[.int .i64 0, .int .u32 0, .int .u32 0, .int .u64 0, .int .u32 0, .int .u32 0, .int .u32 0, .slice none 0 0, .slice none 0 0, .slice none 0 0, .int .i64 0, .int .u32 0, .slice none 0 0, .int .i64 0, .int .i64 0, .slice none 0 0]) := Blk.grown HZ_22.out hg_23 (Ne.symm (own_blk_ne HO_22.out HZ_22.out (by decide)))
                    have HO_23 := Lib.hid hown_23
                    clear hown_23 hg_23 hv_23 hsv_23
                    refine hK.out _ _ HB_23.out (fun hHeld' => ?_)
                    clear hK hHeld
                    have hHeld := hHeld'
                    clear hHeld'
                    refine wpAnyH_putAt rfl ?_
                    simp only [List.set_cons_zero, List.set_cons_succ]
                    refine wpAnyH_takeAt (i := 39) (v := (.pointer (some ⟨gx, 7, none⟩))) rfl (by kernel_rfl) (by kernel_rfl) (by kernel_rfl) (fun _ _ _ h => h) rfl (Or.inl ⟨by rfl, fun w' hS => ?_⟩) hHeld ?_
                    · go_simp
                    simp only [List.set_cons_zero, List.set_cons_succ]
                    refine wpAnyH_ready (rs := [40]) (by kernel_rfl) (by simp) (AllReadyH.cons rfl (fun K' hK => ?_) AllReadyH.nil)
                    have hcell : w_23.cell? ⟨gx, 7, none⟩ = some (.slice Ao i co) := HX_23x.out.cell 7
                    have hfree : w_23.frozen? ⟨gx, 7, none⟩ = false := HX_23x.out.frozen 7
                    go_simp
                    clear hcell hfree
                    have HB_24 : Hid (Below B0 w (World.setCell w_23 ⟨gx, 7, none⟩ (.slice A_23 (i + 1) c_23))) := HB_23.out.setCell (p := ⟨gx, 7, none⟩) (by have := HLO.out; show _ ≤ gx; omega) _
                    have HX_24x : Hid (Blk (World.setCell w_23 ⟨gx, 7, none⟩ (.slice A_23 (i + 1) c_23)) gx 40 #[.int .i64 1, .int .u32 (fr : Int), .int .u32 0, .int .u64 (ntp : Int), .int .u32 (ts : Int), .int .u32 (pk : Int), .int .u32 (oc : Int), .slice A_23 (i + 1) c_23, .slice none 0 0, .slice none 0 0, .int .i64 0, .int .u32 0, .slice none 0 0, .int .i64 0, .int .i64 0, .slice none 0 0]) := HX_23x.out.set_ 7 _
                    have HZ_24 : Hid (Blk (World.setCell w_23 ⟨gx, 7, none⟩ (.slice A_23 (i + 1) c_23)) gr 40 #[.int .i64 0, .int .u32 0, .int .u32 0, .int .u64 0, .int .u32 0, .int .u32 0, .int .u32 0, .slice none 0 0, .slice none 0 0, .slice none 0 0, .int .i64 0, .int .u32 0, .slice none 0 0, .int .i64 0, .int .i64 0, .slice none 0 0]) := HZ_23.out.far (p := ⟨gx, 7, none⟩) (by have := HLO.out; show gr ≠ gx; omega) _
                    have HO_24 : Hid (World.ownsRow (World.setCell w_23 ⟨gx, 7, none⟩ (.slice A_23 (i + 1) c_23)) B0 77 7 (.slice A_23 (i + 1) c_23) (i + 1) (rowC ks7 ((List.range (i + 1)).map (fun j => blkAt b (24 + 24 * j))))) := by
                      show World.ownsRow _ _ _ _ _ _ _
                      rw [HTK.out]
                      exact own_set HO_23.out (own_blk_ne HO_23.out HX_23x.out (by decide)) 7 _
                    refine hK.out _ _ HB_24.out (fun hHeld' => ?_)
                    clear hK hHeld
                    have hHeld := hHeld'
                    clear hHeld'
                    refine wpAnyH_done (by kernel_rfl) ?_ _
                    generalize (World.setCell w_23 ⟨gx, 7, none⟩ (.slice A_23 (i + 1) c_23)) = wf at *
                    go_wp2_with fail
                    go_roundg (c - (i + 1))
                    case measure => have := HLT2.out; have := HGG.out; omega
                    case rel =>
                      have hlt := HLT2.out
                      have hal := HAL.out
                      exact ⟨i + 1, a + 24, A_23, c_23, rfl, by omega, by omega, by first | rfl | go_num, HB_24.out, HZ_24.out, HX_24x.out, HO_24.out⟩
    · have hie : c = i := by omega
      subst hie
      have hani : ¬ (a : Int) < (n : Int) := by have := HLN.out; omega
      clear hin hi ha
      obtain ⟨R, hR⟩ : ∃ R, R = (#[.int .i64 1, .int .u32 (fr : Int), .int .u32 0, .int .u64 (ntp : Int), .int .u32 (ts : Int), .int .u32 (pk : Int), .int .u32 (oc : Int), .slice Ao c co, .slice none 0 0, .slice none 0 0, .int .i64 0, .int .u32 0, .slice none 0 0, .int .i64 0, .int .i64 0, .slice none 0 0] : Array Value).toList := ⟨_, rfl⟩
      have HRA : Hid (R.toArray = #[.int .i64 1, .int .u32 (fr : Int), .int .u32 0, .int .u64 (ntp : Int), .int .u32 (ts : Int), .int .u32 (pk : Int), .int .u32 (oc : Int), .slice Ao c co, .slice none 0 0, .slice none 0 0, .int .i64 0, .int .u32 0, .slice none 0 0, .int .i64 0, .int .i64 0, .slice none 0 0]) := by show _ = _; rw [hR]
      have HRL : Hid (R.length = 16) := by show _ = _; rw [hR]; rfl
      have HR1 : Hid (R.toArray.all (·.oneCell') = true) := by show _ = _; rw [hR]; simp [Value.oneCell']
      clear hR
      have HI : Hid ((Try.prog.info? 40).map (·.size) = some R.length) := by show _ = _; rw [HRL.out]; exact infoRef40
      have HJ : Hid ((Try.prog.info? 40).map (·.size) = some R.toArray.size) := by show _ = _; rw [List.size_toArray, HRL.out]; exact infoRef40
      have HXR : Hid (Blk wr gx 40 R.toArray) := by show Blk _ _ _ _; rw [HRA.out]; exact HX.out
      have HRG : Hid (wr.rangeAt gx 0 R) := blk_range HXR.out
      have HTH : Hid (wr.there gr 0 R.toArray.size) := by show World.there _ _ _ R.toArray.size; rw [List.size_toArray, HRL.out]; exact blk_there (l := (#[.int .i64 0, .int .u32 0, .int .u32 0, .int .u64 0, .int .u32 0, .int .u32 0, .int .u32 0, .slice none 0 0, .slice none 0 0, .slice none 0 0, .int .i64 0, .int .u32 0, .slice none 0 0, .int .i64 0, .int .i64 0, .slice none 0 0] : Array Value).toList) HZ.out rfl
      go_wp2_with (first
        | ((with_reducible show wpList _ _ _ (⟨some 90, .load 40 (.tmp 9), _, _, _, _⟩ :: _) _ _); refine wpList_load_mid rfl 40 (.tmp 9) rfl gx 0 rfl R _ HRG.out Try.underlying40 rfl HI.out ?_)
        | ((with_reducible show wpList _ _ _ (⟨none, .store 40 (.tmp 6) (.tmp 90), _, _, _, _⟩ :: _) _ _); refine wpList_store_mid rfl 40 (.tmp 6) (.tmp 90) rfl gr 0 R.toArray rfl rfl HTH.out HJ.out HR1.out ?_))
      have hst : Blk (wr.setCells gr 0 R) gr 40 R.toArray := blk_setAll (l := (#[.int .i64 0, .int .u32 0, .int .u32 0, .int .u64 0, .int .u32 0, .int .u32 0, .int .u32 0, .slice none 0 0, .slice none 0 0, .slice none 0 0, .int .i64 0, .int .u32 0, .slice none 0 0, .int .i64 0, .int .i64 0, .slice none 0 0] : Array Value).toList) HZ.out (by rw [HRL.out]; rfl)
      have hload := run_loadVar_mid (P := Try.prog) (wr.setCells gr 0 R) gr 0 40 R _ (blk_range hst) Try.underlying40 rfl HI.out
      have hbf : Below w.heap.size w (wr.setCells gr 0 R) := below_setCells (by rw [← HBE.out]; exact HB.out) (by have := HLT.out; omega) _ _
      refine bodyPost_ret (results_ct rfl _ _ gr _ _ rfl rfl hload) rfl ⟨R, by rw [HRY.out]; rfl, HRL.out, HR1.out, fun _ => ?_, hbf⟩
      rw [HRA.out, HRY.out]
      simp only [Hfr.out, Hntp.out, Hts.out, Hpk.out, Hoc.out]
      exact ⟨.slice Ao c co, nilV, nilV, nilV, nilV, rfl, rowR (own_setAll (own_blk_ne HO.out HZ.out (by decide)) _ _ _ HO.out) HBE.out (by simp), World.ownsRow_nil _ _ _ _, World.ownsRow_nil _ _ _ _, World.ownsRow_nil _ _ _ _, World.ownsRow_nil _ _ _ _⟩
end Go.Proofs.Ytkfimncbfbbopaa
