/- What report does (contract). Conditions: the bytes lie in memory. -/
import Derived.Test.YtkfimncbfbbopaaRep
import Derived.Test.YtkfimncbfbbopaaClone
import Derived.StillTailTactics
import Derived.Deep.MidRow
import Derived.Deep.CutBlock
set_option linter.unusedVariables false
set_option linter.unusedSimpArgs false
namespace Go.Proofs.Ytkfimncbfbbopaa
open Go.RowKit
attribute [local go_sem ↓] Go.wp_at_zero Go.wp_at_succ

theorem kindS_rng (t c : Int) (b : List UInt8) : 1 ≤ kindS t c b ∧ kindS t c b ≤ 7 := by
  unfold kindS
  split <;> (try split) <;> (try split) <;> (try split) <;> (try split) <;> (try split) <;> omega
set_option maxRecDepth 100000 in
set_option maxHeartbeats 12800000 in
theorem report_c (t c : Nat) (b : List UInt8) (A : Option Addr) (n cap : Nat) (w : World) (h : SlV w (.slice A n cap) b) (hn : n ≤ 1200) (hc : c ≤ 31) (ht : t ≤ 255) :
    Calls Try.prog 31 #[.int .i64 (t : Int), .int .i64 (c : Int), .slice A n cap] w fun e w' => ∃ cs, e = .returned (.tuple #[.agg cs, .bool (reportS t c b).2]) ∧ RepO w' w.heap.size cs (reportS t c b).1 ∧ Below w.heap.size w w' := by
  have HN := Lib.hid h.num
  have H := Lib.hid h
  obtain ⟨K, hK⟩ : ∃ K, K = kindS t c b := ⟨_, rfl⟩
  have hK7 : 1 ≤ K ∧ K ≤ 7 := by rw [hK]; exact kindS_rng _ _ _
  have HK := Lib.hid hK
  clear h hK
  go_enter Try.func31, Try.ntmps31
  go_upto_region 3 with (first
    | (go_at_call 43
       refine (kind_c t c b A n cap _ (H.out.below (balloc (Below.refl _ _) _))).mono ?_
       rintro e0 w1 ⟨he, rfl⟩
       rw [← HK.out] at he
       subst he))
  obtain ⟨w1, hw1⟩ : ∃ w1, w1 = ((w.alloc (.cells (repA 0 0 0 0 0 0 0 nilV nilV nilV 0 0 nilV 0 0 nilV) 46)).alloc (.cells (repA K 0 0 0 0 0 0 nilV nilV nilV 0 0 nilV 0 0 nilV) 46)).alloc (.cells #[.slice A n cap, .bool false] 98) := ⟨_, rfl⟩
  change Code.wp _ _ _ _ (((w.alloc (.cells (repA 0 0 0 0 0 0 0 nilV nilV nilV 0 0 nilV 0 0 nilV) 46)).alloc (.cells (repA K 0 0 0 0 0 0 nilV nilV nilV 0 0 nilV 0 0 nilV) 46)).alloc (.cells #[.slice A n cap, .bool false] 98))
  obtain ⟨gr, hgr⟩ : ∃ gr, gr = w.heap.size := ⟨_, rfl⟩
  obtain ⟨gx, hgx⟩ : ∃ gx, gx = w.heap.size + 1 := ⟨_, rfl⟩
  obtain ⟨g, hg⟩ : ∃ g, g = w.heap.size + 1 + 1 := ⟨_, rfl⟩
  have HZ1 : Hid (Blk w1 gr 46 (repA 0 0 0 0 0 0 0 nilV nilV nilV 0 0 nilV 0 0 nilV)) := by show Blk _ _ _ _; rw [hw1]; exact ((Blk.newAt hgr _ _).alloc _).alloc _
  have HX1 : Hid (Blk w1 gx 46 (repA K 0 0 0 0 0 0 nilV nilV nilV 0 0 nilV 0 0 nilV)) := by show Blk _ _ _ _; rw [hw1]; exact (Blk.newAt (by simp; exact hgx) _ _).alloc _
  have HB1 : Hid (Below w.heap.size w w1) := by show Below _ _ _; rw [hw1]; exact balloc (balloc (balloc (Below.refl _ _) _) _) _
  have HR1 : Hid (RdSt w1 w.heap.size g (b, false)) := by
    refine ⟨by omega, by show b.length ≤ _; have := HN.out; omega, A, cap, ?_, ?_⟩
    · show Blk _ _ _ #[.slice A b.length cap, .bool false]
      rw [← HN.out, hw1]
      exact Blk.newAt (by simp; exact hg) _ _
    · show SlB _ _ (.slice A b.length cap) b
      rw [← HN.out]
      exact SlB.belowB (H.out.toB (Nat.le_refl _)) HB1.out
  have HLT : Hid (w.heap.size ≤ gr ∧ gr < gx ∧ gx < g) := ⟨by omega, by omega, by omega⟩
  rw [← hw1, ← hgr]
  rw [hgr, ← hg, ← hgx, ← hgr]
  clear hw1 hgr hgx hg
  by_cases hk7 : K = 7
  · subst hk7
    have k0 : w1.cell? ⟨gx, 0, none⟩ = some (.int .i64 7) := HX1.out.cell 0
    have HRS : Hid (reportS t c b = ({ rep0 with kind := 7, ty := t, ct := c, body := b }, true)) := by show _ = _; rw [reportS, ← HK.out]; simp
    go_upto_region 4 with fail
    clear k0
    go_upto_region 5 with (first
      | (go_at_call 49
         refine (clone_o b A n cap w1 (H.out.below HB1.out) (by omega)).mono ?_
         rintro e0 w2 ⟨A2, c2, rfl, hs2, hb2⟩
         have hx2 := HX1.out.below hb2
         have HZ2 := Lib.hid (HZ1.out.below hb2)
         have k13 : w2.cell? ⟨gx, 13, none⟩ = some (.int .i64 0) := hx2.cell 13
         have k14 : w2.cell? ⟨gx, 14, none⟩ = some (.int .i64 0) := hx2.cell 14
         have k15 : w2.cell? ⟨gx, 15, none⟩ = some (.slice none 0 0) := hx2.cell 15
         have f13 := hx2.frozen 13
         have f14 := hx2.frozen 14
         have f15 := hx2.frozen 15
         have HX2 := Lib.hid hx2
         have HS2 := Lib.hid hs2
         have HB2 : Hid (Below w.heap.size w w2) := bcall HB1.out hb2
         have HBS : Hid (w1.heap.size ≤ w2.heap.size) := hb2.size
         clear hs2 hb2 hx2))
    clear k13 k14 k15 f13 f14 f15
    obtain ⟨w3, hw3⟩ : ∃ w3, w3 = ((w2.setCell ⟨gx, 13, none⟩ (.int .i64 (t : Int))).setCell ⟨gx, 14, none⟩ (.int .i64 (c : Int))).setCell ⟨gx, 15, none⟩ (.slice A2 n c2) := ⟨_, rfl⟩
    rw [← hw3]
    obtain ⟨R, hR⟩ : ∃ R, R = (repA 7 0 0 0 0 0 0 nilV nilV nilV 0 0 nilV (t : Int) (c : Int) (.slice A2 n c2)).toList := ⟨_, rfl⟩
    have HX3 : Hid (Blk w3 gx 46 R.toArray) := by show Blk _ _ _ _; rw [hR, hw3]; exact ((HX2.out.set_ 13 _).set_ 14 _).set_ 15 _
    have hxz : gx ≠ gr := by have := HLT.out; omega
    have HZ3 : Hid (Blk w3 gr 46 (repA 0 0 0 0 0 0 0 nilV nilV nilV 0 0 nilV 0 0 nilV)) := by show Blk _ _ _ _; rw [hw3]; exact ((HZ2.out.far (p := ⟨gx, 13, none⟩) (Ne.symm hxz) _).far (p := ⟨gx, 14, none⟩) (Ne.symm hxz) _).far (p := ⟨gx, 15, none⟩) (Ne.symm hxz) _
    have hwx : w.heap.size ≤ gx := by have := HLT.out; omega
    have HB3 : Hid (Below w.heap.size w w3) := by show Below _ _ _; rw [hw3]; exact bset (bset (bset HB2.out (p := ⟨gx, 13, none⟩) hwx _) (p := ⟨gx, 14, none⟩) hwx _) (p := ⟨gx, 15, none⟩) hwx _
    have HS3 : Hid (RepO w3 w.heap.size (repA 7 0 0 0 0 0 0 nilV nilV nilV 0 0 nilV (t : Int) (c : Int) (.slice A2 n c2)) { rep0 with kind := 7, ty := t, ct := c, body := b }) := by
      have h2 : RepO w2 w.heap.size (repA 7 0 0 0 0 0 0 nilV nilV nilV 0 0 nilV (t : Int) (c : Int) (.slice A2 n c2)) { rep0 with kind := 7, ty := t, ct := c, body := b } :=
        ⟨nilV, nilV, nilV, nilV, .slice A2 n c2, rfl, World.ownsRow_nil _ _ _ _, World.ownsRow_nil _ _ _ _, World.ownsRow_nil _ _ _ _, World.ownsRow_nil _ _ _ _, own_lower HS2.out HB1.out.size⟩
      show RepO _ _ _ _
      rw [hw3]
      exact ((h2.set HX2.out 13 _).set (HX2.out.set_ 13 _) 14 _).set ((HX2.out.set_ 13 _).set_ 14 _) 15 _
    have HRL : Hid (R.length = 16) := by show _ = _; rw [hR]; rfl
    have HR1 : Hid (R.toArray.all (·.oneCell') = true) := by show _ = _; rw [hR]; simp [repA, Value.oneCell', nilV]
    have HRA : Hid (R.toArray = repA 7 0 0 0 0 0 0 nilV nilV nilV 0 0 nilV (t : Int) (c : Int) (.slice A2 n c2)) := by show _ = _; rw [hR]
    clear hw3 hR
    have HI : Hid ((Try.prog.info? 46).map (·.size) = some R.length) := by show _ = _; rw [HRL.out]; exact infoRep
    have HJ : Hid ((Try.prog.info? 46).map (·.size) = some R.toArray.size) := by show _ = _; rw [List.size_toArray, HRL.out]; exact infoRep
    have HRG : Hid (w3.rangeAt gx 0 R) := blk_range HX3.out
    have HTH : Hid (w3.there gr 0 R.toArray.size) := by show World.there _ _ _ R.toArray.size; rw [List.size_toArray, HRL.out]; exact blk_there (l := (repA 0 0 0 0 0 0 0 nilV nilV nilV 0 0 nilV 0 0 nilV).toList) HZ3.out rfl
    go_wp2_with (first
      | ((with_reducible show wpList _ _ _ (⟨some 28, .load 46 (.tmp 8), _, _, _, _⟩ :: _) _ _); refine wpList_load_mid rfl 46 (.tmp 8) rfl gx 0 rfl R _ HRG.out Try.underlying46 rfl HI.out ?_)
      | ((with_reducible show wpList _ _ _ (⟨none, .store 46 (.tmp 6) (.tmp 28), _, _, _, _⟩ :: _) _ _); refine wpList_store_mid rfl 46 (.tmp 6) (.tmp 28) rfl gr 0 R.toArray rfl rfl HTH.out HJ.out HR1.out ?_))
    have hst : Blk (w3.setCells gr 0 R) gr 46 R.toArray := blk_setAll (l := (repA 0 0 0 0 0 0 0 nilV nilV nilV 0 0 nilV 0 0 nilV).toList) HZ3.out (by rw [HRL.out]; rfl)
    have hload := run_loadVar_mid (P := Try.prog) (w3.setCells gr 0 R) gr 0 46 R _ (blk_range hst) Try.underlying46 rfl HI.out
    refine bodyPost_ret (results_ct rfl _ _ gr _ _ rfl rfl hload) rfl ⟨R.toArray, by rw [HRS.out]; rfl, ?_, ?_⟩
    · rw [HRS.out, HRA.out]
      exact HS3.out.setAll HZ3.out R
    · exact below_setCells HB3.out (by have := HLT.out; omega) _ _
  · have k0 : w1.cell? ⟨gx, 0, none⟩ = some (.int .i64 K) := HX1.out.cell 0
    have q7 := beq_no hk7
    go_upto_region 6 with fail
    clear k0 q7
    obtain ⟨fr, sF, eF, bF⟩ := numS_x 4 (b, false) (by decide)
    have HEF := Lib.hid eF
    clear eF bF
    go_upto_region 7 with (first
      | (go_at_call 50
         refine (word_z HR1.out HEF.out).mono ?_
         rintro e0 w2 ⟨rfl, hr2, hs2⟩
         have hx2 := hs2.blk HX1.out (fun e => by have := HLT.out; omega)
         have k1 : w2.cell? ⟨gx, 1, none⟩ = some (.int .u32 0) := hx2.cell 1
         have f1 := hx2.frozen 1
         have HZ2 := Lib.hid (hs2.blk HZ1.out (fun e => by have := HLT.out; omega))
         have HR2 := Lib.hid hr2
         have HS2 := Lib.hid hs2
         have HX2 := Lib.hid hx2
         clear hr2 hs2 hx2))
    clear k1 f1
    obtain ⟨w3, hw3⟩ : ∃ w3, w3 = w2.setCell ⟨gx, 1, none⟩ (.int .u32 (fr : Int)) := ⟨_, rfl⟩
    rw [← hw3]
    have HX3 : Hid (Blk w3 gx 46 (repA K fr 0 0 0 0 0 nilV nilV nilV 0 0 nilV 0 0 nilV)) := by show Blk _ _ _ _; rw [hw3]; exact HX2.out.set_ 1 _
    have HZ3 : Hid (Blk w3 gr 46 (repA 0 0 0 0 0 0 0 nilV nilV nilV 0 0 nilV 0 0 nilV)) := by show Blk _ _ _ _; rw [hw3]; exact HZ2.out.far (p := ⟨gx, 1, none⟩) (by have := HLT.out; show gr ≠ gx; omega) _
    have HR3 : Hid (RdSt w3 w.heap.size g sF) := by show RdSt _ _ _ _; rw [hw3]; exact HR2.out.far (p := ⟨gx, 1, none⟩) (by have := HLT.out; show _ ≤ gx; omega) (by have := HLT.out; show gx ≠ g; omega) _
    have HB3 : Hid (Below w.heap.size w w3) := by
      show Below _ _ _
      rw [hw3]
      exact bset (HB1.out.trans (HS2.out.toBelow (fun k hk => by have := HLT.out; omega) HB1.out.size)) (p := ⟨gx, 1, none⟩) (by have := HLT.out; show _ ≤ gx; omega) _
    clear hw3 HX2 HZ2 HR2 HS2 HX1 HZ1 HR1 HB1
    have k0 : w3.cell? ⟨gx, 0, none⟩ = some (.int .i64 K) := HX3.out.cell 0
    go_upto_block 0 with fail
    clear k0
    go_cut [] (fun wx => ∃ cs r s', Blk wx gx 46 cs ∧ RepO wx w.heap.size cs r ∧ RdSt wx w.heap.size g s' ∧ Blk wx gr 46 (repA 0 0 0 0 0 0 0 nilV nilV nilV 0 0 nilV 0 0 nilV) ∧ Below w.heap.size w wx ∧ reportS t c b = (r, !s'.2 && s'.1.isEmpty))
    case first =>
      have hsl : sF.1.length ≤ 1200 := by
        have h1 : sF.1.length ≤ b.length := by have := numS_len 4 (b, false); rw [HEF.out] at this; exact this
        have := HN.out
        omega
      have HSL := Lib.hid hsl
      clear hsl
      have HNE : Hid (g ≠ gx) := by have := HLT.out; show _ ≠ _; omega
      have HWG : Hid (w.heap.size ≤ gx ∧ w.heap.size ≤ g) := by have := HLT.out; exact ⟨by omega, by omega⟩
      rcases (show K = 1 ∨ K = 2 ∨ K = 3 ∨ K = 4 ∨ K = 5 ∨ K = 6 by omega) with rfl | rfl | rfl | rfl | rfl | rfl
      · obtain ⟨ntp, s1, e1, b1⟩ := numS_x 8 sF (by decide)
        obtain ⟨ts, s2, e2, b2⟩ := numS_x 4 s1 (by decide)
        obtain ⟨pk, s3, e3, b3⟩ := numS_x 4 s2 (by decide)
        obtain ⟨oc, s4, e4, b4⟩ := numS_x 4 s3 (by decide)
        have HRS : Hid (reportS t c b = ({ rep0 with kind := 1, fr := fr, ntp := ntp, ts := ts, pk := pk, oc := oc, blocks := (blksS c s4).1 }, !(blksS c s4).2.2 && (blksS c s4).2.1.isEmpty)) := by
          show _ = _
          rw [reportS, ← HK.out, HEF.out]
          simp only [e1, e2, e3, e4]
          rfl
        have HE1 := Lib.hid e1
        have HE2 := Lib.hid e2
        have HE3 := Lib.hid e3
        have HE4 := Lib.hid e4
        clear e1 e2 e3 e4 b1 b2 b3 b4
        have hng : gx ≠ g := fun e => HNE.out e.symm
        have hzx : gr ≠ gx := by have := HLT.out; omega
        have HNG := Lib.hid hng
        have HZX := Lib.hid hzx
        clear hng hzx
        go_upto_region 11 with (first
          | (go_at_call 51
             refine (num_z HR3.out (k := 8) rfl (by decide) (by decide) HE1.out).mono ?_
             rintro e0 w4 ⟨rfl, hr4, hs4⟩
             have hx4 := hs4.blk HX3.out (fun e => HNG.out e)
             have k3 : w4.cell? ⟨gx, 3, none⟩ = some (.int .u64 0) := hx4.cell 3
             have f3 := hx4.frozen 3
             have HR4 := Lib.hid hr4
             have HS4 := Lib.hid hs4
             have HX4 := Lib.hid hx4
             have HZ4 := Lib.hid (hs4.blk HZ3.out (fun e => by have := HLT.out; omega))
             clear hr4 hs4 hx4))
        clear k3 f3
        obtain ⟨w5, hw5⟩ : ∃ w5, w5 = w4.setCell ⟨gx, 3, none⟩ (.int .u64 (ntp : Int)) := ⟨_, rfl⟩
        rw [← hw5]
        have HX5 : Hid (Blk w5 gx 46 (repA 1 fr 0 ntp 0 0 0 nilV nilV nilV 0 0 nilV 0 0 nilV)) := by show Blk _ _ _ _; rw [hw5]; exact HX4.out.set_ 3 _
        have HZ5 : Hid (Blk w5 gr 46 (repA 0 0 0 0 0 0 0 nilV nilV nilV 0 0 nilV 0 0 nilV)) := by show Blk _ _ _ _; rw [hw5]; exact HZ4.out.far (p := ⟨gx, 3, none⟩) HZX.out _
        have HR5 : Hid (RdSt w5 w.heap.size g s1) := by show RdSt _ _ _ _; rw [hw5]; exact HR4.out.far (p := ⟨gx, 3, none⟩) HWG.out.1 HNG.out _
        have HB5 : Hid (Below w.heap.size w w5) := by
          show Below _ _ _
          rw [hw5]
          exact bset (HB3.out.trans (HS4.out.toBelow (fun k hk => by have := HWG.out; omega) HB3.out.size)) (p := ⟨gx, 3, none⟩) HWG.out.1 _
        clear hw5 HX4 HZ4 HR4 HS4
        go_upto_region 12 with (first
          | (go_at_call 50
             first
               | ((with_reducible show Calls _ _ _ w5 _)
                  refine (word_z HR5.out HE2.out).mono ?_
                  rintro e0 w6 ⟨rfl, hr6, hs6⟩
                  have HR6 := Lib.hid hr6
                  have HS6 := Lib.hid hs6
                  clear hr6 hs6)
               | ((with_reducible show Calls _ _ _ w6 _)
                  refine (word_z HR6.out HE3.out).mono ?_
                  rintro e0 w7 ⟨rfl, hr7, hs7⟩
                  have HR7 := Lib.hid hr7
                  have HS7 := Lib.hid (HS6.out.trans_ hs7)
                  clear hr7 hs7)
               | ((with_reducible show Calls _ _ _ w7 _)
                  refine (word_z HR7.out HE4.out).mono ?_
                  rintro e0 w8 ⟨rfl, hr8, hs8⟩
                  have HR8 := Lib.hid hr8
                  have HS8 := Lib.hid (HS7.out.trans_ hs8)
                  have hx8 := HS8.out.blk HX5.out (fun e => HNG.out e)
                  have k4 : w8.cell? ⟨gx, 4, none⟩ = some (.int .u32 0) := hx8.cell 4
                  have k5 : w8.cell? ⟨gx, 5, none⟩ = some (.int .u32 0) := hx8.cell 5
                  have k6 : w8.cell? ⟨gx, 6, none⟩ = some (.int .u32 0) := hx8.cell 6
                  have f4 := hx8.frozen 4
                  have f5 := hx8.frozen 5
                  have f6 := hx8.frozen 6
                  have HX8 := Lib.hid hx8
                  have HZ8 := Lib.hid (HS8.out.blk HZ5.out (fun e => by have := HLT.out; omega))
                  clear hr8 hs8 hx8)))
        clear k4 k5 k6 f4 f5 f6
        obtain ⟨w9, hw9⟩ : ∃ w9, w9 = ((w8.setCell ⟨gx, 4, none⟩ (.int .u32 (ts : Int))).setCell ⟨gx, 5, none⟩ (.int .u32 (pk : Int))).setCell ⟨gx, 6, none⟩ (.int .u32 (oc : Int)) := ⟨_, rfl⟩
        rw [← hw9]
        have HX9 : Hid (Blk w9 gx 46 (repA 1 fr 0 ntp ts pk oc nilV nilV nilV 0 0 nilV 0 0 nilV)) := by show Blk _ _ _ _; rw [hw9]; exact ((HX8.out.set_ 4 _).set_ 5 _).set_ 6 _
        have HZ9 : Hid (Blk w9 gr 46 (repA 0 0 0 0 0 0 0 nilV nilV nilV 0 0 nilV 0 0 nilV)) := by show Blk _ _ _ _; rw [hw9]; exact ((HZ8.out.far (p := ⟨gx, 4, none⟩) HZX.out _).far (p := ⟨gx, 5, none⟩) HZX.out _).far (p := ⟨gx, 6, none⟩) HZX.out _
        have HR9 : Hid (RdSt w9 w.heap.size g s4) := by show RdSt _ _ _ _; rw [hw9]; exact ((HR8.out.far (p := ⟨gx, 4, none⟩) HWG.out.1 HNG.out _).far (p := ⟨gx, 5, none⟩) HWG.out.1 HNG.out _).far (p := ⟨gx, 6, none⟩) HWG.out.1 HNG.out _
        have HB9 : Hid (Below w.heap.size w w9) := by
          show Below _ _ _
          rw [hw9]
          exact bset (bset (bset (HB5.out.trans (HS8.out.toBelow (fun k hk => by have := HWG.out; omega) HB5.out.size)) (p := ⟨gx, 4, none⟩) HWG.out.1 _) (p := ⟨gx, 5, none⟩) HWG.out.1 _) (p := ⟨gx, 6, none⟩) HWG.out.1 _
        clear hw9 HX8 HZ8 HR8 HS8 HR6 HS6 HR7 HS7
        have HBC := Lib.hid (blocks_c w.heap.size g c s4 w9 HR9.out hc)
        go_wp2_with (first
          | (go_at_call 52
             refine HBC.out.mono ?_
             rintro e0 wA ⟨vA, rfl, ho, hrA, hsA⟩
             obtain ⟨Av, cv, rfl⟩ := own_slice ho
             have hxA := hsA.blk HX9.out (fun e => HNG.out e)
             have k7 : wA.cell? ⟨gx, 7, none⟩ = some (.slice none 0 0) := hxA.cell 7
             have f7 := hxA.frozen 7
             have HXA := Lib.hid hxA
             have HZA := Lib.hid (hsA.blk HZ9.out (fun e => by have := HLT.out; omega))
             have HOA := Lib.hid ho
             have HRA := Lib.hid hrA
             have HSA := Lib.hid hsA
             clear ho hrA hsA hxA))
        go_meet
        refine ⟨_, _, _, HXA.out.set_ 7 (.slice Av c cv), ?_, HRA.out.far (p := ⟨gx, 7, none⟩) HWG.out.1 HNG.out _, HZA.out.far (p := ⟨gx, 7, none⟩) HZX.out _, bset (HB9.out.trans (HSA.out.toBelow (fun k hk => by have := HWG.out; omega) HB9.out.size)) (p := ⟨gx, 7, none⟩) HWG.out.1 _, HRS.out⟩
        refine RepO.set (cs := repA 1 fr 0 ntp ts pk oc (.slice Av c cv) nilV nilV 0 0 nilV 0 0 nilV) (cs0 := repA 1 fr 0 ntp ts pk oc nilV nilV nilV 0 0 nilV 0 0 nilV) ?_ HXA.out 7 (.slice Av c cv)
        exact ⟨.slice Av c cv, nilV, nilV, nilV, nilV, rfl, by rw [blksS_len]; exact own_lower HOA.out HB9.out.size, World.ownsRow_nil _ _ _ _, World.ownsRow_nil _ _ _ _, World.ownsRow_nil _ _ _ _, World.ownsRow_nil _ _ _ _⟩
      · have HRS : Hid (reportS t c b = ({ rep0 with kind := 2, fr := fr, blocks := (blksS c sF).1 }, !(blksS c sF).2.2 && (blksS c sF).2.1.isEmpty)) := by
          show _ = _
          rw [reportS, ← HK.out, HEF.out]
          rfl
        have HBC := Lib.hid (blocks_c w.heap.size g c sF w3 HR3.out hc)
        go_wp2_with (first
          | (go_at_call 52
             refine HBC.out.mono ?_
             rintro e0 wA ⟨vA, rfl, ho, hrA, hsA⟩
             obtain ⟨Av, cv, rfl⟩ := own_slice ho
             have hxA := hsA.blk HX3.out (fun e => HNE.out e.symm)
             have k7 : wA.cell? ⟨gx, 7, none⟩ = some (.slice none 0 0) := hxA.cell 7
             have f7 := hxA.frozen 7
             have HXA := Lib.hid hxA
             have HZA := Lib.hid (hsA.blk HZ3.out (fun e => by have := HLT.out; omega))
             have HOA := Lib.hid ho
             have HRA := Lib.hid hrA
             have HSA := Lib.hid hsA
             clear ho hrA hsA hxA))
        go_meet
        refine ⟨_, _, _, HXA.out.set_ 7 (.slice Av c cv), ?_, HRA.out.far (p := ⟨gx, 7, none⟩) HWG.out.1 (fun e => HNE.out e.symm) _, HZA.out.far (p := ⟨gx, 7, none⟩) (by have := HLT.out; show gr ≠ gx; omega) _, bset (HB3.out.trans (HSA.out.toBelow (fun k hk => by have := HWG.out; omega) HB3.out.size)) (p := ⟨gx, 7, none⟩) HWG.out.1 _, HRS.out⟩
        refine RepO.set (cs := repA 2 fr 0 0 0 0 0 (.slice Av c cv) nilV nilV 0 0 nilV 0 0 nilV) (cs0 := repA 2 fr 0 0 0 0 0 nilV nilV nilV 0 0 nilV 0 0 nilV) ?_ HXA.out 7 (.slice Av c cv)
        exact ⟨.slice Av c cv, nilV, nilV, nilV, nilV, rfl, by rw [blksS_len]; exact own_lower HOA.out HB3.out.size, World.ownsRow_nil _ _ _ _, World.ownsRow_nil _ _ _ _, World.ownsRow_nil _ _ _ _, World.ownsRow_nil _ _ _ _⟩
      · go_wp2_with (first
          | (go_at_call 53
             refine (about3_c w.heap.size g gx fr sF w3 HR3.out HX3.out HWG.out.1 HNE.out HSL.out).mono ?_
             rintro e0 w4 ⟨rfl, hh4, hr4, hs4⟩
             have HH4 := Lib.hid hh4
             have HR4 := Lib.hid hr4
             have HS4 := Lib.hid hs4
             clear hh4 hr4 hs4))
        go_meet
        have hb4 : Below w.heap.size w w4 := HB3.out.trans (HS4.out.toBelow (fun k hk => by have := HWG.out; omega) HB3.out.size)
        have hz4 := HS4.out.blk HZ3.out (fun e => by have := HLT.out; omega)
        have hrs : reportS t c b = reportS t c b := rfl
        obtain ⟨v, hv, ho⟩ := HH4.out
        refine ⟨_, { rep0 with kind := 3, fr := fr, ab := (numS 4 sF).1, pairs := (doS pairS (sF.1.length + 1) (numS 4 sF).2).1 }, _, hv, ⟨nilV, v, nilV, nilV, nilV, rfl, World.ownsRow_nil _ _ _ _, own_lower ho HB3.out.size, World.ownsRow_nil _ _ _ _, World.ownsRow_nil _ _ _ _, World.ownsRow_nil _ _ _ _⟩, HR4.out, hz4, hb4, ?_⟩
        rw [reportS, ← HK.out, HEF.out]
        rfl
      · go_wp2_with (first
          | (go_at_call 53
             refine (about4_c w.heap.size g gx fr sF w3 HR3.out HX3.out HWG.out.1 HNE.out).mono ?_
             rintro e0 w4 ⟨rfl, hh4, hr4, hs4⟩
             have HH4 := Lib.hid hh4
             have HR4 := Lib.hid hr4
             have HS4 := Lib.hid hs4
             clear hh4 hr4 hs4))
        go_meet
        have hb4 : Below w.heap.size w w4 := HB3.out.trans (HS4.out.toBelow (fun k hk => by have := HWG.out; omega) HB3.out.size)
        have hz4 := HS4.out.blk HZ3.out (fun e => by have := HLT.out; omega)
        have hrs : reportS t c b = reportS t c b := rfl
        refine ⟨_, { rep0 with kind := 4, fr := fr, ab := (numS 4 sF).1 }, _, HH4.out, ⟨nilV, nilV, nilV, nilV, nilV, rfl, World.ownsRow_nil _ _ _ _, World.ownsRow_nil _ _ _ _, World.ownsRow_nil _ _ _ _, World.ownsRow_nil _ _ _ _, World.ownsRow_nil _ _ _ _⟩, HR4.out, hz4, hb4, ?_⟩
        rw [reportS, ← HK.out, HEF.out]
        rfl
      · go_wp2_with (first
          | (go_at_call 53
             refine (about5_c w.heap.size g gx fr sF w3 HR3.out HX3.out HWG.out.1 HNE.out HSL.out).mono ?_
             rintro e0 w4 ⟨rfl, hh4, hr4, hs4⟩
             have HH4 := Lib.hid hh4
             have HR4 := Lib.hid hr4
             have HS4 := Lib.hid hs4
             clear hh4 hr4 hs4))
        go_meet
        have hb4 : Below w.heap.size w w4 := HB3.out.trans (HS4.out.toBelow (fun k hk => by have := HWG.out; omega) HB3.out.size)
        have hz4 := HS4.out.blk HZ3.out (fun e => by have := HLT.out; omega)
        have hrs : reportS t c b = reportS t c b := rfl
        obtain ⟨v, hv, ho⟩ := HH4.out
        refine ⟨_, { rep0 with kind := 5, fr := fr, ab := (numS 4 sF).1, firs := (doS firS (sF.1.length + 1) (numS 4 sF).2).1 }, _, hv, ⟨nilV, nilV, v, nilV, nilV, rfl, World.ownsRow_nil _ _ _ _, World.ownsRow_nil _ _ _ _, own_lower ho HB3.out.size, World.ownsRow_nil _ _ _ _, World.ownsRow_nil _ _ _ _⟩, HR4.out, hz4, hb4, ?_⟩
        rw [reportS, ← HK.out, HEF.out]
        rfl
      · go_wp2_with (first
          | (go_at_call 53
             refine (about6_c w.heap.size g gx fr sF w3 HR3.out HX3.out HWG.out.1 HNE.out).mono ?_
             rintro e0 w4 ⟨rfl, hh4, hr4, hs4⟩
             have HH4 := Lib.hid hh4
             have HR4 := Lib.hid hr4
             have HS4 := Lib.hid hs4
             clear hh4 hr4 hs4))
        go_meet
        have hb4 : Below w.heap.size w w4 := HB3.out.trans (HS4.out.toBelow (fun k hk => by have := HWG.out; omega) HB3.out.size)
        have hz4 := HS4.out.blk HZ3.out (fun e => by have := HLT.out; omega)
        have hrs : reportS t c b = reportS t c b := rfl
        obtain ⟨v, hv, ho⟩ := HH4.out
        refine ⟨_, { rep0 with kind := 6, fr := fr, ab := (numS 4 sF).1, ex := ((rembS (numS 4 sF).2).1.1 : Int), mt := (rembS (numS 4 sF).2).1.2, ssrcs := (rembS (numS 4 sF).2).2.1 }, _, hv, ⟨nilV, nilV, nilV, v, nilV, rfl, World.ownsRow_nil _ _ _ _, World.ownsRow_nil _ _ _ _, World.ownsRow_nil _ _ _ _, own_lower ho HB3.out.size, World.ownsRow_nil _ _ _ _⟩, HR4.out, hz4, hb4, ?_⟩
        rw [reportS, ← HK.out, HEF.out]
        rfl
    case rest =>
      obtain ⟨cs, r, s', hx, hro, hr, hz, hb, hrs⟩ := hcut
      obtain ⟨R, hR⟩ : ∃ R, R = cs.toList := ⟨_, rfl⟩
      have hRa : R.toArray = cs := by rw [hR]
      have hsz : R.length = 16 := by
        obtain ⟨_, _, _, _, _, e, _⟩ := hro
        rw [hR, e]
        rfl
      have HONE : Hid (R.toArray.all (·.oneCell') = true) := by show _ = _; rw [hRa]; exact hro.one
      rw [← hRa] at hx hro
      obtain ⟨b', bad⟩ := s'
      obtain ⟨hq1, hq2, Aq, cq, hq3, hq4⟩ := hr
      have kb : wc.cell? ⟨g, 1, none⟩ = some (.bool bad) := hq3.cell 1
      obtain ⟨q, hq⟩ : ∃ q, q = b'.length := ⟨_, rfl⟩
      have kg : wc.cell? ⟨g, 0, none⟩ = some (.slice Aq q cq) := by have := hq3.cell 0; rw [hq]; exact this
      have HQ := Lib.hid hq
      have HBG : Hid (Blk wc g 98 #[.slice Aq q cq, .bool bad]) := by show Blk _ _ _ _; rw [hq]; exact hq3
      have HX := Lib.hid hx
      have HRO := Lib.hid hro
      have HZ := Lib.hid hz
      have HB := Lib.hid hb
      have HRS := Lib.hid hrs
      clear hq hx hro hz hb hrs hq1 hq2 hq3 hq4 hR hRa
      have HI : Hid ((Try.prog.info? 46).map (·.size) = some R.length) := by show _ = _; rw [hsz]; exact infoRep
      have HJ : Hid ((Try.prog.info? 46).map (·.size) = some R.toArray.size) := by show _ = _; rw [List.size_toArray, hsz]; exact infoRep
      have HRG : Hid (wc.rangeAt gx 0 R) := blk_range HX.out
      have HTH : Hid (wc.there gr 0 R.toArray.size) := by show World.there _ _ _ R.toArray.size; rw [List.size_toArray, hsz]; exact blk_there (l := (repA 0 0 0 0 0 0 0 nilV nilV nilV 0 0 nilV 0 0 nilV).toList) HZ.out rfl
      have HSZ := Lib.hid hsz
      clear hsz
      go_upto_region 15 with fail
      have HSS : Hid (((World.setCells (World.drew wc) gr 0 R).cell? ⟨g, 0, none⟩ = some (.slice Aq q cq) ∧ (World.setCells (World.drew wc) gr 0 R).cell? ⟨g, 1, none⟩ = some (.bool bad)) ∧ (World.setCells (World.drew wc) gr 0 R).rangeAt gx 0 R) := by
        have h1 : Blk (World.setCells (World.drew wc) gr 0 R) g _ _ := Blk.farAll (by have := HLT.out; omega) _ _ _ (show Blk (World.drew wc) _ _ _ from HBG.out)
        have h2 : Blk (World.setCells (World.drew wc) gr 0 R) gx _ _ := Blk.farAll (by have := HLT.out; omega) _ _ _ (show Blk (World.drew wc) _ _ _ from HX.out)
        exact ⟨⟨h1.cell 0, h1.cell 1⟩, blk_range h2⟩
      have hst : Blk (World.setCells (World.drew wc) gr 0 R) gr 46 R.toArray := blk_setAll (l := (repA 0 0 0 0 0 0 0 nilV nilV nilV 0 0 nilV 0 0 nilV).toList) (show Blk (World.drew wc) _ _ _ from HZ.out) (by rw [HSZ.out]; rfl)
      have HLOAD := Lib.hid (run_loadVar_mid (P := Try.prog) (World.setCells (World.drew wc) gr 0 R) gr 0 46 R _ (blk_range hst) Try.underlying46 rfl HI.out)
      have HBF : Hid (Below w.heap.size w (World.setCells (World.drew wc) gr 0 R)) := below_setCells (bdrew HB.out) (by have := HLT.out; omega) _ _
      have HROF : Hid (RepO (World.setCells (World.drew wc) gr 0 R) w.heap.size R.toArray r) := RepO.setAll (show RepO (World.drew wc) _ _ _ from HRO.out.below (bdrew (Below.refl _ _))) (show Blk (World.drew wc) _ _ _ from HZ.out) R
      have HKG := Lib.hid kg
      have HKB := Lib.hid kb
      clear hst kg kb
      cases bad with
      | true =>
        refine wp_region_held_drew (S := (fun w' => (w'.cell? ⟨g, 0, none⟩ = some (.slice Aq q cq) ∧ w'.cell? ⟨g, 1, none⟩ = some (.bool true)) ∧ w'.rangeAt gx 0 R)) (by kernel_rfl) (⟨⟨HKG.out, HKB.out⟩, HRG.out⟩) (fun hHeld => ?_)
        refine wpAnyH_takeAt (i := 0) (v := (.agg R.toArray)) rfl (by kernel_rfl) (by kernel_rfl) (by kernel_rfl) (fun _ _ _ h => h) rfl (yieldsIf_load_mid (by rfl) 46 _ rfl gx 0 rfl R _ (fun w' hS => hS.2) Try.underlying46 rfl HI.out) hHeld ?_
        simp only [List.set_cons_zero, List.set_cons_succ]
        refine wpAnyH_takeAt (i := 1) (v := (.pointer (some ⟨g, 0, none⟩))) rfl (by kernel_rfl) (by kernel_rfl) (by kernel_rfl) (fun _ _ _ h => h) rfl (Or.inl ⟨by rfl, fun w' hS => ?_⟩) hHeld ?_
        · go_simp
        simp only [List.set_cons_zero, List.set_cons_succ]
        refine wpAnyH_takeAt (i := 2) (v := (.pointer (some ⟨g, 0, none⟩))) rfl (by kernel_rfl) (by kernel_rfl) (by kernel_rfl) (fun _ _ _ h => h) rfl (Or.inl ⟨by rfl, fun w' hS => ?_⟩) hHeld ?_
        · go_simp
        simp only [List.set_cons_zero, List.set_cons_succ]
        refine wpAnyH_takeAt (i := 3) (v := (.pointer (some ⟨g, 1, none⟩))) rfl (by kernel_rfl) (by kernel_rfl) (by kernel_rfl) (fun _ _ _ h => h) rfl (Or.inl ⟨by rfl, fun w' hS => ?_⟩) hHeld ?_
        · go_simp
        simp only [List.set_cons_zero, List.set_cons_succ]
        refine wpAnyH_takeAt (i := 4) (v := (.bool true)) rfl (by kernel_rfl) (by kernel_rfl) (by kernel_rfl) (fun _ _ _ h => h) rfl (Or.inl ⟨by rfl, fun w' hS => ?_⟩) hHeld ?_
        · have hc := hS.1.2
          go_simp
        simp only [List.set_cons_zero, List.set_cons_succ]
        refine wpAnyH_takeAt (i := 5) (v := (.bool false)) rfl (by kernel_rfl) (by kernel_rfl) (by kernel_rfl) (fun _ _ _ h => h) rfl (Or.inl ⟨by rfl, fun w' hS => ?_⟩) hHeld ?_
        · go_simp
        simp only [List.set_cons_zero, List.set_cons_succ]
        refine wpAnyH_takeAt (i := 6) (v := (.bool false)) rfl (by kernel_rfl) (by kernel_rfl) (by kernel_rfl) (fun _ _ _ h => h) rfl (Or.inl ⟨by rfl, fun w' hS => ?_⟩) hHeld ?_
        · go_simp
        simp only [List.set_cons_zero, List.set_cons_succ]
        refine wpAnyH_takeAt (i := 7) (v := undef) rfl (by kernel_rfl) (by kernel_rfl) (by kernel_rfl) (fun _ _ _ h => h) rfl (Or.inr ⟨by rfl, rfl⟩) hHeld ?_
        simp only [List.set_cons_zero, List.set_cons_succ]
        refine wpAnyH_takeAt (i := 8) (v := undef) rfl (by kernel_rfl) (by kernel_rfl) (by kernel_rfl) (fun _ _ _ h => h) rfl (Or.inr ⟨by rfl, rfl⟩) hHeld ?_
        simp only [List.set_cons_zero, List.set_cons_succ]
        refine wpAnyH_takeAt (i := 9) (v := undef) rfl (by kernel_rfl) (by kernel_rfl) (by kernel_rfl) (fun _ _ _ h => h) rfl (Or.inr ⟨by rfl, rfl⟩) hHeld ?_
        simp only [List.set_cons_zero, List.set_cons_succ]
        refine wpAnyH_takeAt (i := 10) (v := undef) rfl (by kernel_rfl) (by kernel_rfl) (by kernel_rfl) (fun _ _ _ h => h) rfl (Or.inr ⟨by rfl, rfl⟩) hHeld ?_
        simp only [List.set_cons_zero, List.set_cons_succ]
        refine wpAnyH_takeAt (i := 11) (v := undef) rfl (by kernel_rfl) (by kernel_rfl) (by kernel_rfl) (fun _ _ _ h => h) rfl (Or.inr ⟨by rfl, rfl⟩) hHeld ?_
        simp only [List.set_cons_zero, List.set_cons_succ]
        refine wpAnyH_takeAt (i := 12) (v := undef) rfl (by kernel_rfl) (by kernel_rfl) (by kernel_rfl) (fun _ _ _ h => h) rfl (Or.inr ⟨by rfl, rfl⟩) hHeld ?_
        simp only [List.set_cons_zero, List.set_cons_succ]
        refine wpAnyH_takeAt (i := 13) (v := (.bool false)) rfl (by kernel_rfl) (by kernel_rfl) (by kernel_rfl) (fun _ _ _ h => h) rfl (Or.inl ⟨by rfl, fun w' hS => ?_⟩) hHeld ?_
        · go_simp
        simp only [List.set_cons_zero, List.set_cons_succ]
        refine wpAnyH_ready (rs := [14]) (by kernel_rfl) (by simp) (AllReadyH.cons rfl (fun K' hK => ?_) AllReadyH.nil)
        rw [if_pos (by rfl)]
        refine wp_store_mid 46 (.tmp 6) (.tmp 60) (by rfl) gr 0 R.toArray (by rfl) (by rfl) (show World.there (World.drew wc) _ _ _ from HTH.out) HJ.out HONE.out ?_
        refine hK.out _ _ HSS.out (fun hHeld' => ?_)
        clear hK hHeld
        have hHeld := hHeld'
        clear hHeld'
        refine wpAnyH_putNone rfl ?_
        refine wpAnyH_takeAt (i := 15) (v := (.bool false)) rfl (by kernel_rfl) (by kernel_rfl) (by kernel_rfl) (fun _ _ _ h => h) rfl (Or.inl ⟨by rfl, fun w' hS => ?_⟩) hHeld ?_
        · go_simp
        simp only [List.set_cons_zero, List.set_cons_succ]
        refine wpAnyH_done (by kernel_rfl) ?_ _
        go_wp2_with fail
        refine bodyPost_ret (results_ct rfl _ _ gr _ _ rfl rfl HLOAD.out) rfl ⟨R.toArray, by rw [HRS.out]; simp, ?_, HBF.out⟩
        rw [HRS.out]
        exact HROF.out
      | false =>
        by_cases hq0 : q = 0
        · have HQE : Hid (b' = []) := List.eq_nil_of_length_eq_zero (by rw [← HQ.out]; exact hq0)
          subst hq0
          refine wp_region_held_drew (S := (fun w' => (w'.cell? ⟨g, 0, none⟩ = some (.slice Aq 0 cq) ∧ w'.cell? ⟨g, 1, none⟩ = some (.bool false)) ∧ w'.rangeAt gx 0 R)) (by kernel_rfl) (⟨⟨HKG.out, HKB.out⟩, HRG.out⟩) (fun hHeld => ?_)
          refine wpAnyH_takeAt (i := 0) (v := (.agg R.toArray)) rfl (by kernel_rfl) (by kernel_rfl) (by kernel_rfl) (fun _ _ _ h => h) rfl (yieldsIf_load_mid (by rfl) 46 _ rfl gx 0 rfl R _ (fun w' hS => hS.2) Try.underlying46 rfl HI.out) hHeld ?_
          simp only [List.set_cons_zero, List.set_cons_succ]
          refine wpAnyH_takeAt (i := 1) (v := (.pointer (some ⟨g, 0, none⟩))) rfl (by kernel_rfl) (by kernel_rfl) (by kernel_rfl) (fun _ _ _ h => h) rfl (Or.inl ⟨by rfl, fun w' hS => ?_⟩) hHeld ?_
          · go_simp
          simp only [List.set_cons_zero, List.set_cons_succ]
          refine wpAnyH_takeAt (i := 2) (v := (.pointer (some ⟨g, 0, none⟩))) rfl (by kernel_rfl) (by kernel_rfl) (by kernel_rfl) (fun _ _ _ h => h) rfl (Or.inl ⟨by rfl, fun w' hS => ?_⟩) hHeld ?_
          · go_simp
          simp only [List.set_cons_zero, List.set_cons_succ]
          refine wpAnyH_takeAt (i := 3) (v := (.pointer (some ⟨g, 1, none⟩))) rfl (by kernel_rfl) (by kernel_rfl) (by kernel_rfl) (fun _ _ _ h => h) rfl (Or.inl ⟨by rfl, fun w' hS => ?_⟩) hHeld ?_
          · go_simp
          simp only [List.set_cons_zero, List.set_cons_succ]
          refine wpAnyH_takeAt (i := 4) (v := (.bool false)) rfl (by kernel_rfl) (by kernel_rfl) (by kernel_rfl) (fun _ _ _ h => h) rfl (Or.inl ⟨by rfl, fun w' hS => ?_⟩) hHeld ?_
          · have hc := hS.1.2
            go_simp
          simp only [List.set_cons_zero, List.set_cons_succ]
          refine wpAnyH_takeAt (i := 5) (v := (.bool true)) rfl (by kernel_rfl) (by kernel_rfl) (by kernel_rfl) (fun _ _ _ h => h) rfl (Or.inl ⟨by rfl, fun w' hS => ?_⟩) hHeld ?_
          · go_simp
          simp only [List.set_cons_zero, List.set_cons_succ]
          refine wpAnyH_takeAt (i := 6) (v := (.bool true)) rfl (by kernel_rfl) (by kernel_rfl) (by kernel_rfl) (fun _ _ _ h => h) rfl (Or.inl ⟨by rfl, fun w' hS => ?_⟩) hHeld ?_
          · go_simp
          simp only [List.set_cons_zero, List.set_cons_succ]
          refine wpAnyH_takeAt (i := 7) (v := (.pointer (some ⟨g, 0, none⟩))) rfl (by kernel_rfl) (by kernel_rfl) (by kernel_rfl) (fun _ _ _ h => h) rfl (Or.inl ⟨by rfl, fun w' hS => ?_⟩) hHeld ?_
          · go_simp
          simp only [List.set_cons_zero, List.set_cons_succ]
          refine wpAnyH_takeAt (i := 8) (v := (.pointer (some ⟨g, 0, none⟩))) rfl (by kernel_rfl) (by kernel_rfl) (by kernel_rfl) (fun _ _ _ h => h) rfl (Or.inl ⟨by rfl, fun w' hS => ?_⟩) hHeld ?_
          · go_simp
          simp only [List.set_cons_zero, List.set_cons_succ]
          refine wpAnyH_takeAt (i := 9) (v := (.pointer (some ⟨g, 0, none⟩))) rfl (by kernel_rfl) (by kernel_rfl) (by kernel_rfl) (fun _ _ _ h => h) rfl (Or.inl ⟨by rfl, fun w' hS => ?_⟩) hHeld ?_
          · go_simp
          simp only [List.set_cons_zero, List.set_cons_succ]
          refine wpAnyH_takeAt (i := 10) (v := (.slice Aq 0 cq)) rfl (by kernel_rfl) (by kernel_rfl) (by kernel_rfl) (fun _ _ _ h => h) rfl (Or.inl ⟨by rfl, fun w' hS => ?_⟩) hHeld ?_
          · have hc := hS.1.1
            go_simp
          simp only [List.set_cons_zero, List.set_cons_succ]
          refine wpAnyH_takeAt (i := 11) (v := (.int .i64 0)) rfl (by kernel_rfl) (by kernel_rfl) (by kernel_rfl) (fun _ _ _ h => h) rfl (Or.inl ⟨by rfl, fun w' hS => ?_⟩) hHeld ?_
          · go_simp
          simp only [List.set_cons_zero, List.set_cons_succ]
          refine wpAnyH_takeAt (i := 12) (v := (.bool true)) rfl (by kernel_rfl) (by kernel_rfl) (by kernel_rfl) (fun _ _ _ h => h) rfl (Or.inl ⟨by rfl, fun w' hS => ?_⟩) hHeld ?_
          · go_simp
          simp only [List.set_cons_zero, List.set_cons_succ]
          refine wpAnyH_takeAt (i := 13) (v := (.bool true)) rfl (by kernel_rfl) (by kernel_rfl) (by kernel_rfl) (fun _ _ _ h => h) rfl (Or.inl ⟨by rfl, fun w' hS => ?_⟩) hHeld ?_
          · go_simp
          simp only [List.set_cons_zero, List.set_cons_succ]
          refine wpAnyH_ready (rs := [14]) (by kernel_rfl) (by simp) (AllReadyH.cons rfl (fun K' hK => ?_) AllReadyH.nil)
          rw [if_pos (by rfl)]
          refine wp_store_mid 46 (.tmp 6) (.tmp 60) (by rfl) gr 0 R.toArray (by rfl) (by rfl) (show World.there (World.drew wc) _ _ _ from HTH.out) HJ.out HONE.out ?_
          refine hK.out _ _ HSS.out (fun hHeld' => ?_)
          clear hK hHeld
          have hHeld := hHeld'
          clear hHeld'
          refine wpAnyH_putNone rfl ?_
          refine wpAnyH_takeAt (i := 15) (v := (.bool true)) rfl (by kernel_rfl) (by kernel_rfl) (by kernel_rfl) (fun _ _ _ h => h) rfl (Or.inl ⟨by rfl, fun w' hS => ?_⟩) hHeld ?_
          · go_simp
          simp only [List.set_cons_zero, List.set_cons_succ]
          refine wpAnyH_done (by kernel_rfl) ?_ _
          go_wp2_with fail
          refine bodyPost_ret (results_ct rfl _ _ gr _ _ rfl rfl HLOAD.out) rfl ⟨R.toArray, by rw [HRS.out]; simp [HQE.out], ?_, HBF.out⟩
          rw [HRS.out]
          exact HROF.out
        · have HQE : Hid (b'.isEmpty = false) := by show _ = _; cases b' with | nil => exact absurd HQ.out hq0 | cons _ _ => rfl
          have hq1 : ¬ (q : Int) = 0 := by omega
          have hq2 : ((q : Int) == 0) = false := by simpa using hq1
          clear hq0 hq1
          refine wp_region_held_drew (S := (fun w' => (w'.cell? ⟨g, 0, none⟩ = some (.slice Aq q cq) ∧ w'.cell? ⟨g, 1, none⟩ = some (.bool false)) ∧ w'.rangeAt gx 0 R)) (by kernel_rfl) (⟨⟨HKG.out, HKB.out⟩, HRG.out⟩) (fun hHeld => ?_)
          refine wpAnyH_takeAt (i := 0) (v := (.agg R.toArray)) rfl (by kernel_rfl) (by kernel_rfl) (by kernel_rfl) (fun _ _ _ h => h) rfl (yieldsIf_load_mid (by rfl) 46 _ rfl gx 0 rfl R _ (fun w' hS => hS.2) Try.underlying46 rfl HI.out) hHeld ?_
          simp only [List.set_cons_zero, List.set_cons_succ]
          refine wpAnyH_takeAt (i := 1) (v := (.pointer (some ⟨g, 0, none⟩))) rfl (by kernel_rfl) (by kernel_rfl) (by kernel_rfl) (fun _ _ _ h => h) rfl (Or.inl ⟨by rfl, fun w' hS => ?_⟩) hHeld ?_
          · go_simp
          simp only [List.set_cons_zero, List.set_cons_succ]
          refine wpAnyH_takeAt (i := 2) (v := (.pointer (some ⟨g, 0, none⟩))) rfl (by kernel_rfl) (by kernel_rfl) (by kernel_rfl) (fun _ _ _ h => h) rfl (Or.inl ⟨by rfl, fun w' hS => ?_⟩) hHeld ?_
          · go_simp
          simp only [List.set_cons_zero, List.set_cons_succ]
          refine wpAnyH_takeAt (i := 3) (v := (.pointer (some ⟨g, 1, none⟩))) rfl (by kernel_rfl) (by kernel_rfl) (by kernel_rfl) (fun _ _ _ h => h) rfl (Or.inl ⟨by rfl, fun w' hS => ?_⟩) hHeld ?_
          · go_simp
          simp only [List.set_cons_zero, List.set_cons_succ]
          refine wpAnyH_takeAt (i := 4) (v := (.bool false)) rfl (by kernel_rfl) (by kernel_rfl) (by kernel_rfl) (fun _ _ _ h => h) rfl (Or.inl ⟨by rfl, fun w' hS => ?_⟩) hHeld ?_
          · have hc := hS.1.2
            go_simp
          simp only [List.set_cons_zero, List.set_cons_succ]
          refine wpAnyH_takeAt (i := 5) (v := (.bool true)) rfl (by kernel_rfl) (by kernel_rfl) (by kernel_rfl) (fun _ _ _ h => h) rfl (Or.inl ⟨by rfl, fun w' hS => ?_⟩) hHeld ?_
          · go_simp
          simp only [List.set_cons_zero, List.set_cons_succ]
          refine wpAnyH_takeAt (i := 6) (v := (.bool true)) rfl (by kernel_rfl) (by kernel_rfl) (by kernel_rfl) (fun _ _ _ h => h) rfl (Or.inl ⟨by rfl, fun w' hS => ?_⟩) hHeld ?_
          · go_simp
          simp only [List.set_cons_zero, List.set_cons_succ]
          refine wpAnyH_takeAt (i := 7) (v := (.pointer (some ⟨g, 0, none⟩))) rfl (by kernel_rfl) (by kernel_rfl) (by kernel_rfl) (fun _ _ _ h => h) rfl (Or.inl ⟨by rfl, fun w' hS => ?_⟩) hHeld ?_
          · go_simp
          simp only [List.set_cons_zero, List.set_cons_succ]
          refine wpAnyH_takeAt (i := 8) (v := (.pointer (some ⟨g, 0, none⟩))) rfl (by kernel_rfl) (by kernel_rfl) (by kernel_rfl) (fun _ _ _ h => h) rfl (Or.inl ⟨by rfl, fun w' hS => ?_⟩) hHeld ?_
          · go_simp
          simp only [List.set_cons_zero, List.set_cons_succ]
          refine wpAnyH_takeAt (i := 9) (v := (.pointer (some ⟨g, 0, none⟩))) rfl (by kernel_rfl) (by kernel_rfl) (by kernel_rfl) (fun _ _ _ h => h) rfl (Or.inl ⟨by rfl, fun w' hS => ?_⟩) hHeld ?_
          · go_simp
          simp only [List.set_cons_zero, List.set_cons_succ]
          refine wpAnyH_takeAt (i := 10) (v := (.slice Aq q cq)) rfl (by kernel_rfl) (by kernel_rfl) (by kernel_rfl) (fun _ _ _ h => h) rfl (Or.inl ⟨by rfl, fun w' hS => ?_⟩) hHeld ?_
          · have hc := hS.1.1
            go_simp
          simp only [List.set_cons_zero, List.set_cons_succ]
          refine wpAnyH_takeAt (i := 11) (v := (.int .i64 (q : Int))) rfl (by kernel_rfl) (by kernel_rfl) (by kernel_rfl) (fun _ _ _ h => h) rfl (Or.inl ⟨by rfl, fun w' hS => ?_⟩) hHeld ?_
          · go_simp
          simp only [List.set_cons_zero, List.set_cons_succ]
          refine wpAnyH_takeAt (i := 12) (v := (.bool false)) rfl (by kernel_rfl) (by kernel_rfl) (by kernel_rfl) (fun _ _ _ h => h) rfl (Or.inl ⟨by rfl, fun w' hS => ?_⟩) hHeld ?_
          · go_simp
          simp only [List.set_cons_zero, List.set_cons_succ]
          refine wpAnyH_takeAt (i := 13) (v := (.bool false)) rfl (by kernel_rfl) (by kernel_rfl) (by kernel_rfl) (fun _ _ _ h => h) rfl (Or.inl ⟨by rfl, fun w' hS => ?_⟩) hHeld ?_
          · go_simp
          simp only [List.set_cons_zero, List.set_cons_succ]
          refine wpAnyH_ready (rs := [14]) (by kernel_rfl) (by simp) (AllReadyH.cons rfl (fun K' hK => ?_) AllReadyH.nil)
          rw [if_pos (by rfl)]
          refine wp_store_mid 46 (.tmp 6) (.tmp 60) (by rfl) gr 0 R.toArray (by rfl) (by rfl) (show World.there (World.drew wc) _ _ _ from HTH.out) HJ.out HONE.out ?_
          refine hK.out _ _ HSS.out (fun hHeld' => ?_)
          clear hK hHeld
          have hHeld := hHeld'
          clear hHeld'
          refine wpAnyH_putNone rfl ?_
          refine wpAnyH_takeAt (i := 15) (v := (.bool false)) rfl (by kernel_rfl) (by kernel_rfl) (by kernel_rfl) (fun _ _ _ h => h) rfl (Or.inl ⟨by rfl, fun w' hS => ?_⟩) hHeld ?_
          · go_simp
          simp only [List.set_cons_zero, List.set_cons_succ]
          refine wpAnyH_done (by kernel_rfl) ?_ _
          go_wp2_with fail
          refine bodyPost_ret (results_ct rfl _ _ gr _ _ rfl rfl HLOAD.out) rfl ⟨R.toArray, by rw [HRS.out]; simp [HQE.out], ?_, HBF.out⟩
          rw [HRS.out]
          exact HROF.out
end Go.Proofs.Ytkfimncbfbbopaa
