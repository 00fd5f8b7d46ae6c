/- Texts of this claim, one behind the other: HelpR, JoinS, ParsB, Tells. Each says ahead of itself what it proves, and its conditions. -/
import Derived.Test.YtkfimncbfbbopaaGf
import Derived.Test.YtkfimncbfbbopaaGc
/- help.Report: a report in the reference's form (contract). Conditions: the report lies in memory. -/
set_option linter.unusedVariables false
set_option linter.unusedSimpArgs false
namespace Go.Proofs.Ytkfimncbfbbopaa
open Go.RowKit
attribute [local go_sem ↓] Go.wp_at_zero Go.wp_at_succ

theorem infoRef40 : (Try.prog.info? 40).map (·.size) = some 16 := by kernel_rfl
theorem infoBlkQ : (Try.prog.info? 77).map (fun i => (i.zero, i.size, i.bytes)) = some (some (.agg #[.int .u32 0, .int .u8 0, .int .u32 0, .int .u32 0, .int .u32 0, .int .u32 0, .int .u32 0]), 7, 28) := by kernel_rfl
theorem infoFirQ : (Try.prog.info? 79).map (fun i => (i.zero, i.size, i.bytes)) = some (some (.agg #[.int .u32 0, .int .u8 0]), 2, 8) := by kernel_rfl
theorem ballocB {B : Nat} {w W : World} (h : Below B w W) (hB : B ≤ W.heap.size) (o : Obj) : Below B w (W.alloc o) := h.alloc hB o
set_option maxRecDepth 100000 in
set_option maxHeartbeats 12800000 in
theorem repC_c (cells : Array Value) (r : Rep) (w : World) (h1 : RepV w cells r) (hbl : r.blocks.length < 100000) (hpl : r.pairs.length < 100000) (hfl : r.firs.length < 100000) :
    Calls Try.prog 15 #[.agg cells] w fun e w' => ∃ cells', e = .returned (.agg cells') ∧ RepV w' cells' r ∧ Below w.heap.size w w' := by
  obtain ⟨vb, vp, vf, vs, vd, e1, hb, hp, hf, hs, hd⟩ := h1
  subst e1
  obtain ⟨Ab, cb, eb, _, _⟩ := id hb
  subst eb
  obtain ⟨Ap, cp, ep, _, _⟩ := id hp
  subst ep
  obtain ⟨Af, cf, ef, _, _⟩ := id hf
  subst ef
  obtain ⟨As, cs, es, _, _⟩ := id hs
  subst es
  obtain ⟨Ad, cd, ed, _, _⟩ := id hd
  subst ed
  obtain ⟨kind, fr, ab, ntp, ts, pk, oc, blocks, pairs, firs, ex, mt, ssrcs, ty, ct, body⟩ := r
  obtain ⟨nb, hnb⟩ : ∃ nb, nb = blocks.length := ⟨_, rfl⟩
  obtain ⟨np, hnp⟩ : ∃ np, np = pairs.length := ⟨_, rfl⟩
  obtain ⟨nf, hnf⟩ : ∃ nf, nf = firs.length := ⟨_, rfl⟩
  obtain ⟨ns, hns⟩ : ∃ ns, ns = ssrcs.length := ⟨_, rfl⟩
  obtain ⟨nd, hnd⟩ : ∃ nd, nd = body.length := ⟨_, rfl⟩
  simp only at *
  rw [← hnb] at hb hbl
  rw [← hnp] at hp hpl
  rw [← hnf] at hf hfl
  rw [← hns] at hs
  rw [← hnd] at hd
  simp only [repA, ← hnb, ← hnp, ← hnf, ← hns, ← hnd]
  have Hb := Lib.hid hb
  have HPL := Lib.hid hpl
  have HNb := Lib.hid hnb
  have Hp := Lib.hid hp
  have HNp := Lib.hid hnp
  have Hf := Lib.hid hf
  have HNf := Lib.hid hnf
  have Hs := Lib.hid hs
  have HNs := Lib.hid hns
  have Hd := Lib.hid hd
  have HNd := Lib.hid hnd
  clear hb hp hf hs hd hnb hnp hnf hns hnd
  go_enter Try.func15, Try.ntmps15
  go_upto_region 1 with fail
  obtain ⟨w1, hw1⟩ : ∃ w1, w1 = ((w.alloc (.cells #[.int .i64 kind, .int .u32 (fr : Int), .int .u32 (ab : Int), .int .u64 (ntp : Int), .int .u32 (ts : Int), .int .u32 (pk : Int), .int .u32 (oc : Int), .slice Ab nb cb, .slice Ap np cp, .slice Af nf cf, .int .i64 ex, .int .u32 (mt : Int), .slice As ns cs, .int .i64 ty, .int .i64 ct, .slice Ad nd cd] 46)).alloc (.cells #[.int .i64 0, .int .u32 0, .int .u32 0, .int .u64 0, .int .u32 0, .int .u32 0, .int .u32 0, .slice none 0 0, .slice none 0 0, .slice none 0 0, .int .i64 0, .int .u32 0, .slice none 0 0, .int .i64 0, .int .i64 0, .slice none 0 0] 40)) := ⟨_, rfl⟩
  obtain ⟨g1, hg1⟩ : ∃ g1, g1 = w.heap.size := ⟨_, rfl⟩
  obtain ⟨g2, hg2⟩ : ∃ g2, g2 = w.heap.size + 1 := ⟨_, rfl⟩
  have HX1 : Hid (Blk w1 g1 46 #[.int .i64 kind, .int .u32 (fr : Int), .int .u32 (ab : Int), .int .u64 (ntp : Int), .int .u32 (ts : Int), .int .u32 (pk : Int), .int .u32 (oc : Int), .slice Ab nb cb, .slice Ap np cp, .slice Af nf cf, .int .i64 ex, .int .u32 (mt : Int), .slice As ns cs, .int .i64 ty, .int .i64 ct, .slice Ad nd cd]) := by rw [hw1]; exact Blk.alloc (Blk.newAt hg1 _ _) _
  have HX2 : Hid (Blk w1 g2 40 #[.int .i64 0, .int .u32 0, .int .u32 0, .int .u64 0, .int .u32 0, .int .u32 0, .int .u32 0, .slice none 0 0, .slice none 0 0, .slice none 0 0, .int .i64 0, .int .u32 0, .slice none 0 0, .int .i64 0, .int .i64 0, .slice none 0 0]) := by rw [hw1]; exact Blk.newAt (by simp; exact hg2) _ _
  have HB1 : Hid (Below w.heap.size w w1) := by rw [hw1]; exact balloc (balloc (Below.refl _ _) _) _
  have HLT : Hid (w.heap.size ≤ g1 ∧ g1 < g2 ∧ g2 < w1.heap.size) := ⟨by omega, by omega, HX2.out.lt⟩
  change Code.wp _ _ _ _ ((w.alloc (.cells #[.int .i64 kind, .int .u32 (fr : Int), .int .u32 (ab : Int), .int .u64 (ntp : Int), .int .u32 (ts : Int), .int .u32 (pk : Int), .int .u32 (oc : Int), .slice Ab nb cb, .slice Ap np cp, .slice Af nf cf, .int .i64 ex, .int .u32 (mt : Int), .slice As ns cs, .int .i64 ty, .int .i64 ct, .slice Ad nd cd] 46)).alloc (.cells #[.int .i64 0, .int .u32 0, .int .u32 0, .int .u64 0, .int .u32 0, .int .u32 0, .int .u32 0, .slice none 0 0, .slice none 0 0, .slice none 0 0, .int .i64 0, .int .u32 0, .slice none 0 0, .int .i64 0, .int .i64 0, .slice none 0 0] 40))
  rw [← hw1, ← hg2, ← hg1]
  clear hw1 hg1 hg2
  go_cut [3] (fun v3 wx => ∃ gx Aq cq, v3 = .pointer (some ⟨gx, 0, none⟩) ∧ w1.heap.size ≤ gx ∧ Blk wx gx 40 #[.int .i64 kind, .int .u32 (fr : Int), .int .u32 (ab : Int), .int .u64 (ntp : Int), .int .u32 (ts : Int), .int .u32 (pk : Int), .int .u32 (oc : Int), nilV, .slice Aq np cq, nilV, .int .i64 ex, .int .u32 (mt : Int), .slice As ns cs, .int .i64 ty, .int .i64 ct, .slice Ad nd cd] ∧ World.ownsRow wx w1.heap.size 58 2 (.slice Aq np cq) np (rowC ksP pairs) ∧ Below w1.heap.size w1 wx)
  case first =>
    obtain ⟨Bq, hBq⟩ : ∃ Bq, Bq = w1.heap.size := ⟨_, rfl⟩
    have HBQ := Lib.hid hBq
    clear hBq
    have HBD : Hid (Below w1.heap.size w1 (World.drew w1)) := bdrew (Below.refl _ _)
    refine wp_region_held_drew (S := (fun w2 => Below Bq w1 w2)) (by kernel_rfl) (HBQ.out.symm ▸ HBD.out) (fun hHeld => ?_)
    refine wpAnyH_takeAt (i := 0) (v := (.pointer (some ⟨g1, 0, none⟩))) rfl (by kernel_rfl) (by kernel_rfl) (by kernel_rfl) (fun _ _ _ h => h) rfl (Or.inl ⟨by rfl, fun w' hS => ?_⟩) hHeld ?_
    · go_simp
    simp only [List.set_cons_zero, List.set_cons_succ]
    refine wpAnyH_takeAt (i := 1) (v := (Value.int .i64 kind)) rfl (by kernel_rfl) (by kernel_rfl) (by kernel_rfl) (fun _ _ _ h => h) rfl (Or.inl ⟨by rfl, fun w' hS => ?_⟩) hHeld ?_
    · have hc := (Below.cell hS (p := ⟨g1, 0, none⟩) (HBQ.out.symm ▸ HX1.out.lt)).trans (HX1.out.cell 0)
      go_simp
    simp only [List.set_cons_zero, List.set_cons_succ]
    refine wpAnyH_takeAt (i := 2) (v := (.pointer (some ⟨g1, 1, none⟩))) rfl (by kernel_rfl) (by kernel_rfl) (by kernel_rfl) (fun _ _ _ h => h) rfl (Or.inl ⟨by rfl, fun w' hS => ?_⟩) hHeld ?_
    · go_simp
    simp only [List.set_cons_zero, List.set_cons_succ]
    refine wpAnyH_takeAt (i := 3) (v := (Value.int .u32 (fr : Int))) rfl (by kernel_rfl) (by kernel_rfl) (by kernel_rfl) (fun _ _ _ h => h) rfl (Or.inl ⟨by rfl, fun w' hS => ?_⟩) hHeld ?_
    · have hc := (Below.cell hS (p := ⟨g1, 1, none⟩) (HBQ.out.symm ▸ HX1.out.lt)).trans (HX1.out.cell 1)
      go_simp
    simp only [List.set_cons_zero, List.set_cons_succ]
    refine wpAnyH_takeAt (i := 4) (v := (.pointer (some ⟨g1, 2, none⟩))) rfl (by kernel_rfl) (by kernel_rfl) (by kernel_rfl) (fun _ _ _ h => h) rfl (Or.inl ⟨by rfl, fun w' hS => ?_⟩) hHeld ?_
    · go_simp
    simp only [List.set_cons_zero, List.set_cons_succ]
    refine wpAnyH_takeAt (i := 5) (v := (Value.int .u32 (ab : Int))) rfl (by kernel_rfl) (by kernel_rfl) (by kernel_rfl) (fun _ _ _ h => h) rfl (Or.inl ⟨by rfl, fun w' hS => ?_⟩) hHeld ?_
    · have hc := (Below.cell hS (p := ⟨g1, 2, none⟩) (HBQ.out.symm ▸ HX1.out.lt)).trans (HX1.out.cell 2)
      go_simp
    simp only [List.set_cons_zero, List.set_cons_succ]
    refine wpAnyH_takeAt (i := 6) (v := (.pointer (some ⟨g1, 3, none⟩))) rfl (by kernel_rfl) (by kernel_rfl) (by kernel_rfl) (fun _ _ _ h => h) rfl (Or.inl ⟨by rfl, fun w' hS => ?_⟩) hHeld ?_
    · go_simp
    simp only [List.set_cons_zero, List.set_cons_succ]
    refine wpAnyH_takeAt (i := 7) (v := (Value.int .u64 (ntp : Int))) rfl (by kernel_rfl) (by kernel_rfl) (by kernel_rfl) (fun _ _ _ h => h) rfl (Or.inl ⟨by rfl, fun w' hS => ?_⟩) hHeld ?_
    · have hc := (Below.cell hS (p := ⟨g1, 3, none⟩) (HBQ.out.symm ▸ HX1.out.lt)).trans (HX1.out.cell 3)
      go_simp
    simp only [List.set_cons_zero, List.set_cons_succ]
    refine wpAnyH_takeAt (i := 8) (v := (.pointer (some ⟨g1, 4, none⟩))) rfl (by kernel_rfl) (by kernel_rfl) (by kernel_rfl) (fun _ _ _ h => h) rfl (Or.inl ⟨by rfl, fun w' hS => ?_⟩) hHeld ?_
    · go_simp
    simp only [List.set_cons_zero, List.set_cons_succ]
    refine wpAnyH_takeAt (i := 9) (v := (Value.int .u32 (ts : Int))) rfl (by kernel_rfl) (by kernel_rfl) (by kernel_rfl) (fun _ _ _ h => h) rfl (Or.inl ⟨by rfl, fun w' hS => ?_⟩) hHeld ?_
    · have hc := (Below.cell hS (p := ⟨g1, 4, none⟩) (HBQ.out.symm ▸ HX1.out.lt)).trans (HX1.out.cell 4)
      go_simp
    simp only [List.set_cons_zero, List.set_cons_succ]
    refine wpAnyH_takeAt (i := 10) (v := (.pointer (some ⟨g1, 5, none⟩))) rfl (by kernel_rfl) (by kernel_rfl) (by kernel_rfl) (fun _ _ _ h => h) rfl (Or.inl ⟨by rfl, fun w' hS => ?_⟩) hHeld ?_
    · go_simp
    simp only [List.set_cons_zero, List.set_cons_succ]
    refine wpAnyH_takeAt (i := 11) (v := (Value.int .u32 (pk : Int))) rfl (by kernel_rfl) (by kernel_rfl) (by kernel_rfl) (fun _ _ _ h => h) rfl (Or.inl ⟨by rfl, fun w' hS => ?_⟩) hHeld ?_
    · have hc := (Below.cell hS (p := ⟨g1, 5, none⟩) (HBQ.out.symm ▸ HX1.out.lt)).trans (HX1.out.cell 5)
      go_simp
    simp only [List.set_cons_zero, List.set_cons_succ]
    refine wpAnyH_takeAt (i := 12) (v := (.pointer (some ⟨g1, 6, none⟩))) rfl (by kernel_rfl) (by kernel_rfl) (by kernel_rfl) (fun _ _ _ h => h) rfl (Or.inl ⟨by rfl, fun w' hS => ?_⟩) hHeld ?_
    · go_simp
    simp only [List.set_cons_zero, List.set_cons_succ]
    refine wpAnyH_takeAt (i := 13) (v := (Value.int .u32 (oc : Int))) rfl (by kernel_rfl) (by kernel_rfl) (by kernel_rfl) (fun _ _ _ h => h) rfl (Or.inl ⟨by rfl, fun w' hS => ?_⟩) hHeld ?_
    · have hc := (Below.cell hS (p := ⟨g1, 6, none⟩) (HBQ.out.symm ▸ HX1.out.lt)).trans (HX1.out.cell 6)
      go_simp
    simp only [List.set_cons_zero, List.set_cons_succ]
    refine wpAnyH_takeAt (i := 14) (v := (.pointer (some ⟨g1, 8, none⟩))) rfl (by kernel_rfl) (by kernel_rfl) (by kernel_rfl) (fun _ _ _ h => h) rfl (Or.inl ⟨by rfl, fun w' hS => ?_⟩) hHeld ?_
    · go_simp
    simp only [List.set_cons_zero, List.set_cons_succ]
    refine wpAnyH_takeAt (i := 15) (v := (.slice Ap np cp)) rfl (by kernel_rfl) (by kernel_rfl) (by kernel_rfl) (fun _ _ _ h => h) rfl (Or.inl ⟨by rfl, fun w' hS => ?_⟩) hHeld ?_
    · have hc := (Below.cell hS (p := ⟨g1, 8, none⟩) (HBQ.out.symm ▸ HX1.out.lt)).trans (HX1.out.cell 8)
      go_simp
    simp only [List.set_cons_zero, List.set_cons_succ]
    refine wpAnyH_takeAt (i := 17) (v := (.pointer (some ⟨g1, 10, none⟩))) rfl (by kernel_rfl) (by kernel_rfl) (by kernel_rfl) (fun _ _ _ h => h) rfl (Or.inl ⟨by rfl, fun w' hS => ?_⟩) hHeld ?_
    · go_simp
    simp only [List.set_cons_zero, List.set_cons_succ]
    refine wpAnyH_takeAt (i := 18) (v := (Value.int .i64 ex)) rfl (by kernel_rfl) (by kernel_rfl) (by kernel_rfl) (fun _ _ _ h => h) rfl (Or.inl ⟨by rfl, fun w' hS => ?_⟩) hHeld ?_
    · have hc := (Below.cell hS (p := ⟨g1, 10, none⟩) (HBQ.out.symm ▸ HX1.out.lt)).trans (HX1.out.cell 10)
      go_simp
    simp only [List.set_cons_zero, List.set_cons_succ]
    refine wpAnyH_takeAt (i := 19) (v := (.pointer (some ⟨g1, 11, none⟩))) rfl (by kernel_rfl) (by kernel_rfl) (by kernel_rfl) (fun _ _ _ h => h) rfl (Or.inl ⟨by rfl, fun w' hS => ?_⟩) hHeld ?_
    · go_simp
    simp only [List.set_cons_zero, List.set_cons_succ]
    refine wpAnyH_takeAt (i := 20) (v := (Value.int .u32 (mt : Int))) rfl (by kernel_rfl) (by kernel_rfl) (by kernel_rfl) (fun _ _ _ h => h) rfl (Or.inl ⟨by rfl, fun w' hS => ?_⟩) hHeld ?_
    · have hc := (Below.cell hS (p := ⟨g1, 11, none⟩) (HBQ.out.symm ▸ HX1.out.lt)).trans (HX1.out.cell 11)
      go_simp
    simp only [List.set_cons_zero, List.set_cons_succ]
    refine wpAnyH_takeAt (i := 21) (v := (.pointer (some ⟨g1, 12, none⟩))) rfl (by kernel_rfl) (by kernel_rfl) (by kernel_rfl) (fun _ _ _ h => h) rfl (Or.inl ⟨by rfl, fun w' hS => ?_⟩) hHeld ?_
    · go_simp
    simp only [List.set_cons_zero, List.set_cons_succ]
    refine wpAnyH_takeAt (i := 22) (v := (.slice As ns cs)) rfl (by kernel_rfl) (by kernel_rfl) (by kernel_rfl) (fun _ _ _ h => h) rfl (Or.inl ⟨by rfl, fun w' hS => ?_⟩) hHeld ?_
    · have hc := (Below.cell hS (p := ⟨g1, 12, none⟩) (HBQ.out.symm ▸ HX1.out.lt)).trans (HX1.out.cell 12)
      go_simp
    simp only [List.set_cons_zero, List.set_cons_succ]
    refine wpAnyH_takeAt (i := 23) (v := (.pointer (some ⟨g1, 13, none⟩))) rfl (by kernel_rfl) (by kernel_rfl) (by kernel_rfl) (fun _ _ _ h => h) rfl (Or.inl ⟨by rfl, fun w' hS => ?_⟩) hHeld ?_
    · go_simp
    simp only [List.set_cons_zero, List.set_cons_succ]
    refine wpAnyH_takeAt (i := 24) (v := (Value.int .i64 ty)) rfl (by kernel_rfl) (by kernel_rfl) (by kernel_rfl) (fun _ _ _ h => h) rfl (Or.inl ⟨by rfl, fun w' hS => ?_⟩) hHeld ?_
    · have hc := (Below.cell hS (p := ⟨g1, 13, none⟩) (HBQ.out.symm ▸ HX1.out.lt)).trans (HX1.out.cell 13)
      go_simp
    simp only [List.set_cons_zero, List.set_cons_succ]
    refine wpAnyH_takeAt (i := 25) (v := (.pointer (some ⟨g1, 14, none⟩))) rfl (by kernel_rfl) (by kernel_rfl) (by kernel_rfl) (fun _ _ _ h => h) rfl (Or.inl ⟨by rfl, fun w' hS => ?_⟩) hHeld ?_
    · go_simp
    simp only [List.set_cons_zero, List.set_cons_succ]
    refine wpAnyH_takeAt (i := 26) (v := (Value.int .i64 ct)) rfl (by kernel_rfl) (by kernel_rfl) (by kernel_rfl) (fun _ _ _ h => h) rfl (Or.inl ⟨by rfl, fun w' hS => ?_⟩) hHeld ?_
    · have hc := (Below.cell hS (p := ⟨g1, 14, none⟩) (HBQ.out.symm ▸ HX1.out.lt)).trans (HX1.out.cell 14)
      go_simp
    simp only [List.set_cons_zero, List.set_cons_succ]
    refine wpAnyH_takeAt (i := 27) (v := (.pointer (some ⟨g1, 15, none⟩))) rfl (by kernel_rfl) (by kernel_rfl) (by kernel_rfl) (fun _ _ _ h => h) rfl (Or.inl ⟨by rfl, fun w' hS => ?_⟩) hHeld ?_
    · go_simp
    simp only [List.set_cons_zero, List.set_cons_succ]
    refine wpAnyH_takeAt (i := 28) (v := (.slice Ad nd cd)) rfl (by kernel_rfl) (by kernel_rfl) (by kernel_rfl) (fun _ _ _ h => h) rfl (Or.inl ⟨by rfl, fun w' hS => ?_⟩) hHeld ?_
    · have hc := (Below.cell hS (p := ⟨g1, 15, none⟩) (HBQ.out.symm ▸ HX1.out.lt)).trans (HX1.out.cell 15)
      go_simp
    simp only [List.set_cons_zero, List.set_cons_succ]
    refine wpAnyH_ready (rs := [16, 30]) (by kernel_rfl) (by simp) (AllReadyH.cons rfl (fun K' hK => ?_) (AllReadyH.cons rfl (fun K' hK => ?_) AllReadyH.nil))
    · go_simp
      go_at_call 34
      refine (pairs_c pairs Ap np cp _ ((Hp.out.below HB1.out).below (Below.mono HBD.out (Nat.le_refl _))) (by have := HPL.out; omega)).mono ?_
      rintro e0 w_1 ⟨v2, rfl, ho, hb⟩
      obtain ⟨Aq, cq, rfl⟩ := own_slice ho
      go_wp2_with fail
      have HP_1 : Hid (World.ownsRow w_1 w1.heap.size 58 2 (.slice Aq np cq) np (rowC ksP pairs)) := own_lower ho HBD.out.size
      have HB_1 : Hid (Below w1.heap.size w1 w_1) := bcall HBD.out hb
      clear ho hb
      refine hK.out _ _ (HBQ.out.symm ▸ HB_1.out) (fun hHeld' => ?_)
      clear hK hHeld
      have hHeld := hHeld'
      clear hHeld'
      refine wpAnyH_takeAt (i := 29) (v := (.agg #[.int .i64 kind, .int .u32 (fr : Int), .int .u32 (ab : Int), .int .u64 (ntp : Int), .int .u32 (ts : Int), .int .u32 (pk : Int), .int .u32 (oc : Int), .slice none 0 0, .slice Aq np cq, .slice none 0 0, .int .i64 ex, .int .u32 (mt : Int), .slice As ns cs, .int .i64 ty, .int .i64 ct, .slice Ad nd cd])) rfl (by kernel_rfl) (by kernel_rfl) (by kernel_rfl) (fun _ _ _ h => h) rfl (Or.inl ⟨by rfl, fun w' hS => ?_⟩) hHeld ?_
      · go_simp
      simp only [List.set_cons_zero, List.set_cons_succ]
      refine wpAnyH_ready (rs := [30]) (by kernel_rfl) (by simp) (AllReadyH.cons rfl (fun K' hK => ?_) AllReadyH.nil)
      go_simp
      have HB_2 : Hid (Below w1.heap.size w1 (World.alloc w_1 (.cells #[.int .i64 0, .int .u32 0, .int .u32 0, .int .u64 0, .int .u32 0, .int .u32 0, .int .u32 0, .slice none 0 0, .slice none 0 0, .slice none 0 0, .int .i64 0, .int .u32 0, .slice none 0 0, .int .i64 0, .int .i64 0, .slice none 0 0] 40))) := balloc HB_1.out _
      obtain ⟨gx_, hgx_⟩ : ∃ gx_, gx_ = (World.heap w_1).size := ⟨_, rfl⟩
      have HX_2 : Hid (Blk (World.alloc w_1 (.cells #[.int .i64 0, .int .u32 0, .int .u32 0, .int .u64 0, .int .u32 0, .int .u32 0, .int .u32 0, .slice none 0 0, .slice none 0 0, .slice none 0 0, .int .i64 0, .int .u32 0, .slice none 0 0, .int .i64 0, .int .i64 0, .slice none 0 0] 40)) gx_ 40 #[.int .i64 0, .int .u32 0, .int .u32 0, .int .u64 0, .int .u32 0, .int .u32 0, .int .u32 0, .slice none 0 0, .slice none 0 0, .slice none 0 0, .int .i64 0, .int .u32 0, .slice none 0 0, .int .i64 0, .int .i64 0, .slice none 0 0]) := Blk.newAt hgx_ _ _
      have HGX : Hid (w1.heap.size ≤ gx_) := by show _ ≤ _; rw [hgx_]; exact HB_1.out.size
      have HGE : Hid ((w_1).heap.size = gx_) := hgx_.symm
      have HP_2 : Hid (World.ownsRow (World.alloc w_1 (.cells #[.int .i64 0, .int .u32 0, .int .u32 0, .int .u64 0, .int .u32 0, .int .u32 0, .int .u32 0, .slice none 0 0, .slice none 0 0, .slice none 0 0, .int .i64 0, .int .u32 0, .slice none 0 0, .int .i64 0, .int .i64 0, .slice none 0 0] 40)) w1.heap.size 58 2 (.slice Aq np cq) np (rowC ksP pairs)) := HP_1.out.alloc _
      refine hK.out _ _ (HBQ.out.symm ▸ HB_2.out) (fun hHeld' => ?_)
      clear hK hHeld
      have hHeld := hHeld'
      clear hHeld'
      rw [HGE.out]
      clear hgx_
      refine wpAnyH_ready (rs := [31]) (by kernel_rfl) (by simp) (AllReadyH.cons rfl (fun K' hK => ?_) AllReadyH.nil)
      obtain ⟨R, hR⟩ : ∃ R, R = (#[.int .i64 kind, .int .u32 (fr : Int), .int .u32 (ab : Int), .int .u64 (ntp : Int), .int .u32 (ts : Int), .int .u32 (pk : Int), .int .u32 (oc : Int), .slice none 0 0, .slice Aq np cq, .slice none 0 0, .int .i64 ex, .int .u32 (mt : Int), .slice As ns cs, .int .i64 ty, .int .i64 ct, .slice Ad nd cd] : Array Value).toList := ⟨_, rfl⟩
      have hRa : R.toArray = #[.int .i64 kind, .int .u32 (fr : Int), .int .u32 (ab : Int), .int .u64 (ntp : Int), .int .u32 (ts : Int), .int .u32 (pk : Int), .int .u32 (oc : Int), .slice none 0 0, .slice Aq np cq, .slice none 0 0, .int .i64 ex, .int .u32 (mt : Int), .slice As ns cs, .int .i64 ty, .int .i64 ct, .slice Ad nd cd] := by rw [hR]
      have hsz : R.length = 16 := by rw [hR]; rfl
      have HONE2 : Hid (R.toArray.all (·.oneCell') = true) := by show _ = _; rw [hRa]; simp [Value.oneCell']
      have HI : Hid ((Try.prog.info? 40).map (·.size) = some R.toArray.size) := by show _ = _; rw [List.size_toArray, hsz]; exact infoRef40
      have HTH : Hid (World.there (World.alloc w_1 (.cells #[.int .i64 0, .int .u32 0, .int .u32 0, .int .u64 0, .int .u32 0, .int .u32 0, .int .u32 0, .slice none 0 0, .slice none 0 0, .slice none 0 0, .int .i64 0, .int .u32 0, .slice none 0 0, .int .i64 0, .int .i64 0, .slice none 0 0] 40)) gx_ 0 R.toArray.size) := by show World.there _ _ _ R.toArray.size; rw [List.size_toArray, hsz]; exact blk_there (l := (#[.int .i64 0, .int .u32 0, .int .u32 0, .int .u64 0, .int .u32 0, .int .u32 0, .int .u32 0, .slice none 0 0, .slice none 0 0, .slice none 0 0, .int .i64 0, .int .u32 0, .slice none 0 0, .int .i64 0, .int .i64 0, .slice none 0 0] : Array Value).toList) HX_2.out rfl
      have HST : Hid (Blk (World.setCells (World.alloc w_1 (.cells #[.int .i64 0, .int .u32 0, .int .u32 0, .int .u64 0, .int .u32 0, .int .u32 0, .int .u32 0, .slice none 0 0, .slice none 0 0, .slice none 0 0, .int .i64 0, .int .u32 0, .slice none 0 0, .int .i64 0, .int .i64 0, .slice none 0 0] 40)) gx_ 0 R) gx_ 40 #[.int .i64 kind, .int .u32 (fr : Int), .int .u32 (ab : Int), .int .u64 (ntp : Int), .int .u32 (ts : Int), .int .u32 (pk : Int), .int .u32 (oc : Int), .slice none 0 0, .slice Aq np cq, .slice none 0 0, .int .i64 ex, .int .u32 (mt : Int), .slice As ns cs, .int .i64 ty, .int .i64 ct, .slice Ad nd cd]) := by
        have := blk_setAll (l := (#[.int .i64 0, .int .u32 0, .int .u32 0, .int .u64 0, .int .u32 0, .int .u32 0, .int .u32 0, .slice none 0 0, .slice none 0 0, .slice none 0 0, .int .i64 0, .int .u32 0, .slice none 0 0, .int .i64 0, .int .i64 0, .slice none 0 0] : Array Value).toList) (l' := R) HX_2.out (by rw [hsz]; rfl)
        rw [hRa] at this
        exact this
      have HBF : Hid (Below w1.heap.size w1 (World.setCells (World.alloc w_1 (.cells #[.int .i64 0, .int .u32 0, .int .u32 0, .int .u64 0, .int .u32 0, .int .u32 0, .int .u32 0, .slice none 0 0, .slice none 0 0, .slice none 0 0, .int .i64 0, .int .u32 0, .slice none 0 0, .int .i64 0, .int .i64 0, .slice none 0 0] 40)) gx_ 0 R)) := below_setCells HB_2.out HGX.out _ _
      have HPF : Hid (World.ownsRow (World.setCells (World.alloc w_1 (.cells #[.int .i64 0, .int .u32 0, .int .u32 0, .int .u64 0, .int .u32 0, .int .u32 0, .int .u32 0, .slice none 0 0, .slice none 0 0, .slice none 0 0, .int .i64 0, .int .u32 0, .slice none 0 0, .int .i64 0, .int .i64 0, .slice none 0 0] 40)) gx_ 0 R) w1.heap.size 58 2 (.slice Aq np cq) np (rowC ksP pairs)) := own_setAll (own_blk_ne HP_2.out HX_2.out (by decide)) _ _ _ HP_2.out
      rw [← hRa]
      clear hR hRa hsz
      rw [if_pos (by rfl)]
      refine wp_store_mid 40 (.tmp 3) (.tmp 35) (by rfl) gx_ 0 R.toArray (by rfl) (by rfl) HTH.out HI.out HONE2.out ?_
      refine hK.out _ _ (HBQ.out.symm ▸ HBF.out) (fun hHeld' => ?_)
      clear hK hHeld
      have hHeld := hHeld'
      clear hHeld'
      refine wpAnyH_putNone rfl ?_
      refine wpAnyH_done (by kernel_rfl) ?_ _
      go_wp2_with fail
      go_meet
      exact ⟨gx_, Aq, cq, rfl, HGX.out, HST.out, HPF.out, HBF.out⟩
    · go_simp
      have HB_3 : Hid (Below w1.heap.size w1 (World.drew (World.alloc w1 (.cells #[.int .i64 0, .int .u32 0, .int .u32 0, .int .u64 0, .int .u32 0, .int .u32 0, .int .u32 0, .slice none 0 0, .slice none 0 0, .slice none 0 0, .int .i64 0, .int .u32 0, .slice none 0 0, .int .i64 0, .int .i64 0, .slice none 0 0] 40)))) := balloc HBD.out _
      obtain ⟨gx_, hgx_⟩ : ∃ gx_, gx_ = (World.heap (World.drew w1)).size := ⟨_, rfl⟩
      have HX_3 : Hid (Blk (World.drew (World.alloc w1 (.cells #[.int .i64 0, .int .u32 0, .int .u32 0, .int .u64 0, .int .u32 0, .int .u32 0, .int .u32 0, .slice none 0 0, .slice none 0 0, .slice none 0 0, .int .i64 0, .int .u32 0, .slice none 0 0, .int .i64 0, .int .i64 0, .slice none 0 0] 40))) gx_ 40 #[.int .i64 0, .int .u32 0, .int .u32 0, .int .u64 0, .int .u32 0, .int .u32 0, .int .u32 0, .slice none 0 0, .slice none 0 0, .slice none 0 0, .int .i64 0, .int .u32 0, .slice none 0 0, .int .i64 0, .int .i64 0, .slice none 0 0]) := Blk.newAt hgx_ _ _
      have HGX : Hid (w1.heap.size ≤ gx_) := by show _ ≤ _; rw [hgx_]; exact HBD.out.size
      have HGE : Hid ((w1).heap.size = gx_) := hgx_.symm
      refine hK.out _ _ (HBQ.out.symm ▸ HB_3.out) (fun hHeld' => ?_)
      clear hK hHeld
      have hHeld := hHeld'
      clear hHeld'
      rw [HGE.out]
      clear hgx_
      refine wpAnyH_ready (rs := [16]) (by kernel_rfl) (by simp) (AllReadyH.cons rfl (fun K' hK => ?_) AllReadyH.nil)
      go_simp
      go_at_call 34
      refine (pairs_c pairs Ap np cp _ ((Hp.out.below HB1.out).below (Below.mono HB_3.out (Nat.le_refl _))) (by have := HPL.out; omega)).mono ?_
      rintro e0 w_4 ⟨v2, rfl, ho, hb⟩
      obtain ⟨Aq, cq, rfl⟩ := own_slice ho
      go_wp2_with fail
      have HP_4 : Hid (World.ownsRow w_4 w1.heap.size 58 2 (.slice Aq np cq) np (rowC ksP pairs)) := own_lower ho HB_3.out.size
      have HB_4 : Hid (Below w1.heap.size w1 w_4) := bcall HB_3.out hb
      have HX_4 : Hid (Blk w_4 gx_ 40 #[.int .i64 0, .int .u32 0, .int .u32 0, .int .u64 0, .int .u32 0, .int .u32 0, .int .u32 0, .slice none 0 0, .slice none 0 0, .slice none 0 0, .int .i64 0, .int .u32 0, .slice none 0 0, .int .i64 0, .int .i64 0, .slice none 0 0]) := HX_3.out.below hb
      clear ho hb
      refine hK.out _ _ (HBQ.out.symm ▸ HB_4.out) (fun hHeld' => ?_)
      clear hK hHeld
      have hHeld := hHeld'
      clear hHeld'
      refine wpAnyH_takeAt (i := 29) (v := (.agg #[.int .i64 kind, .int .u32 (fr : Int), .int .u32 (ab : Int), .int .u64 (ntp : Int), .int .u32 (ts : Int), .int .u32 (pk : Int), .int .u32 (oc : Int), .slice none 0 0, .slice Aq np cq, .slice none 0 0, .int .i64 ex, .int .u32 (mt : Int), .slice As ns cs, .int .i64 ty, .int .i64 ct, .slice Ad nd cd])) rfl (by kernel_rfl) (by kernel_rfl) (by kernel_rfl) (fun _ _ _ h => h) rfl (Or.inl ⟨by rfl, fun w' hS => ?_⟩) hHeld ?_
      · go_simp
      simp only [List.set_cons_zero, List.set_cons_succ]
      refine wpAnyH_ready (rs := [31]) (by kernel_rfl) (by simp) (AllReadyH.cons rfl (fun K' hK => ?_) AllReadyH.nil)
      obtain ⟨R, hR⟩ : ∃ R, R = (#[.int .i64 kind, .int .u32 (fr : Int), .int .u32 (ab : Int), .int .u64 (ntp : Int), .int .u32 (ts : Int), .int .u32 (pk : Int), .int .u32 (oc : Int), .slice none 0 0, .slice Aq np cq, .slice none 0 0, .int .i64 ex, .int .u32 (mt : Int), .slice As ns cs, .int .i64 ty, .int .i64 ct, .slice Ad nd cd] : Array Value).toList := ⟨_, rfl⟩
      have hRa : R.toArray = #[.int .i64 kind, .int .u32 (fr : Int), .int .u32 (ab : Int), .int .u64 (ntp : Int), .int .u32 (ts : Int), .int .u32 (pk : Int), .int .u32 (oc : Int), .slice none 0 0, .slice Aq np cq, .slice none 0 0, .int .i64 ex, .int .u32 (mt : Int), .slice As ns cs, .int .i64 ty, .int .i64 ct, .slice Ad nd cd] := by rw [hR]
      have hsz : R.length = 16 := by rw [hR]; rfl
      have HONE2 : Hid (R.toArray.all (·.oneCell') = true) := by show _ = _; rw [hRa]; simp [Value.oneCell']
      have HI : Hid ((Try.prog.info? 40).map (·.size) = some R.toArray.size) := by show _ = _; rw [List.size_toArray, hsz]; exact infoRef40
      have HTH : Hid (World.there w_4 gx_ 0 R.toArray.size) := by show World.there _ _ _ R.toArray.size; rw [List.size_toArray, hsz]; exact blk_there (l := (#[.int .i64 0, .int .u32 0, .int .u32 0, .int .u64 0, .int .u32 0, .int .u32 0, .int .u32 0, .slice none 0 0, .slice none 0 0, .slice none 0 0, .int .i64 0, .int .u32 0, .slice none 0 0, .int .i64 0, .int .i64 0, .slice none 0 0] : Array Value).toList) HX_4.out rfl
      have HST : Hid (Blk (World.setCells w_4 gx_ 0 R) gx_ 40 #[.int .i64 kind, .int .u32 (fr : Int), .int .u32 (ab : Int), .int .u64 (ntp : Int), .int .u32 (ts : Int), .int .u32 (pk : Int), .int .u32 (oc : Int), .slice none 0 0, .slice Aq np cq, .slice none 0 0, .int .i64 ex, .int .u32 (mt : Int), .slice As ns cs, .int .i64 ty, .int .i64 ct, .slice Ad nd cd]) := by
        have := blk_setAll (l := (#[.int .i64 0, .int .u32 0, .int .u32 0, .int .u64 0, .int .u32 0, .int .u32 0, .int .u32 0, .slice none 0 0, .slice none 0 0, .slice none 0 0, .int .i64 0, .int .u32 0, .slice none 0 0, .int .i64 0, .int .i64 0, .slice none 0 0] : Array Value).toList) (l' := R) HX_4.out (by rw [hsz]; rfl)
        rw [hRa] at this
        exact this
      have HBF : Hid (Below w1.heap.size w1 (World.setCells w_4 gx_ 0 R)) := below_setCells HB_4.out HGX.out _ _
      have HPF : Hid (World.ownsRow (World.setCells w_4 gx_ 0 R) w1.heap.size 58 2 (.slice Aq np cq) np (rowC ksP pairs)) := own_setAll (own_blk_ne HP_4.out HX_4.out (by decide)) _ _ _ HP_4.out
      rw [← hRa]
      clear hR hRa hsz
      rw [if_pos (by rfl)]
      refine wp_store_mid 40 (.tmp 3) (.tmp 35) (by rfl) gx_ 0 R.toArray (by rfl) (by rfl) HTH.out HI.out HONE2.out ?_
      refine hK.out _ _ (HBQ.out.symm ▸ HBF.out) (fun hHeld' => ?_)
      clear hK hHeld
      have hHeld := hHeld'
      clear hHeld'
      refine wpAnyH_putNone rfl ?_
      refine wpAnyH_done (by kernel_rfl) ?_ _
      go_wp2_with fail
      go_meet
      exact ⟨gx_, Aq, cq, rfl, HGX.out, HST.out, HPF.out, HBF.out⟩
  case rest =>
    obtain ⟨gx, Aq, cq, rfl, hgx, hx, hp, hb⟩ := hcut
    obtain ⟨iB, hiB, hzaB, hzbB, hzcB⟩ := info_parts infoBlkQ
    obtain ⟨iF, hiF, hzaF, hzbF, hzcF⟩ := info_parts infoFirQ
    obtain ⟨B0, hB0⟩ : ∃ B0, B0 = w.heap.size := ⟨_, rfl⟩
    obtain ⟨B1, hB1⟩ : ∃ B1, B1 = w1.heap.size := ⟨_, rfl⟩
    have HBE := Lib.hid hB0
    have HLO : Hid (B0 ≤ w.heap.size ∧ B0 ≤ B1 ∧ B0 ≤ g1 ∧ g1 < g2 ∧ g2 < B1 ∧ B1 ≤ gx) := by have := HLT.out; have := HB1.out.size; exact ⟨by omega, by omega, by omega, by omega, by omega, by omega⟩
    have HBc : Hid (Below B0 w wc) := by show Below _ _ _; rw [hB0]; exact bcall HB1.out hb
    have HGc : Hid (Blk wc g1 46 #[.int .i64 kind, .int .u32 (fr : Int), .int .u32 (ab : Int), .int .u64 (ntp : Int), .int .u32 (ts : Int), .int .u32 (pk : Int), .int .u32 (oc : Int), .slice Ab nb cb, .slice Ap np cp, .slice Af nf cf, .int .i64 ex, .int .u32 (mt : Int), .slice As ns cs, .int .i64 ty, .int .i64 ct, .slice Ad nd cd]) := HX1.out.below hb
    have HZc : Hid (Blk wc g2 40 #[.int .i64 0, .int .u32 0, .int .u32 0, .int .u64 0, .int .u32 0, .int .u32 0, .int .u32 0, .slice none 0 0, .slice none 0 0, .slice none 0 0, .int .i64 0, .int .u32 0, .slice none 0 0, .int .i64 0, .int .i64 0, .slice none 0 0]) := HX2.out.below hb
    have HXc : Hid (Blk wc gx 40 #[.int .i64 kind, .int .u32 (fr : Int), .int .u32 (ab : Int), .int .u64 (ntp : Int), .int .u32 (ts : Int), .int .u32 (pk : Int), .int .u32 (oc : Int), .slice none 0 0, .slice Aq np cq, .slice none 0 0, .int .i64 ex, .int .u32 (mt : Int), .slice As ns cs, .int .i64 ty, .int .i64 ct, .slice Ad nd cd]) := hx
    have HPc : Hid (World.ownsRow wc B1 58 2 (.slice Aq np cq) np (rowC ksP pairs)) := by show World.ownsRow _ _ _ _ _ _ _; rw [hB1]; exact hp
    have HbL := Lib.hid hbl
    have HfL := Lib.hid hfl
    clear hx hp hb hgx HX1 HX2 HB1 HLT hB0 hB1
    go_upto_region 3 with fail
    go_loopg [4] nb (fun gg v4 wx => ∃ (i : Nat) (Bq : Option Addr) (dq : Nat), gg = nb - i ∧ i ≤ nb ∧ v4 = .int .i64 (i : Int) ∧ Below B0 w wx ∧ Blk wx g1 46 #[.int .i64 kind, .int .u32 (fr : Int), .int .u32 (ab : Int), .int .u64 (ntp : Int), .int .u32 (ts : Int), .int .u32 (pk : Int), .int .u32 (oc : Int), .slice Ab nb cb, .slice Ap np cp, .slice Af nf cf, .int .i64 ex, .int .u32 (mt : Int), .slice As ns cs, .int .i64 ty, .int .i64 ct, .slice Ad nd cd] ∧ Blk wx g2 40 #[.int .i64 0, .int .u32 0, .int .u32 0, .int .u64 0, .int .u32 0, .int .u32 0, .int .u32 0, .slice none 0 0, .slice none 0 0, .slice none 0 0, .int .i64 0, .int .u32 0, .slice none 0 0, .int .i64 0, .int .i64 0, .slice none 0 0] ∧ Blk wx gx 40 #[.int .i64 kind, .int .u32 (fr : Int), .int .u32 (ab : Int), .int .u64 (ntp : Int), .int .u32 (ts : Int), .int .u32 (pk : Int), .int .u32 (oc : Int), .slice Bq i dq, .slice Aq np cq, .slice none 0 0, .int .i64 ex, .int .u32 (mt : Int), .slice As ns cs, .int .i64 ty, .int .i64 ct, .slice Ad nd cd] ∧ World.ownsRow wx B1 58 2 (.slice Aq np cq) np (rowC ksP pairs) ∧ World.ownsRow wx B1 77 7 (.slice Bq i dq) i (rowC ks7 (blocks.take i)))
    case atStart => exact ⟨0, none, 0, by omega, by omega, rfl, HBc.out, HGc.out, HZc.out, HXc.out, HPc.out, by simpa [rowC] using World.ownsRow_nil _ _ _ _⟩
    case round =>
      obtain ⟨i, Bq, dq, hgg, hi, rfl, hb, hg, hz, hx, hp, ho⟩ := hrel
      clear HBc HGc HZc HXc HPc
      have HB := Lib.hid hb
      have HG := Lib.hid hg
      have HZ := Lib.hid hz
      have HX := Lib.hid hx
      have HP := Lib.hid hp
      have HO := Lib.hid ho
      have HGG := Lib.hid hgg
      have HI0 := Lib.hid hi
      clear hb hg hz hx hp ho hgg
      have k7 : wr.cell? ⟨g1, 7, none⟩ = some (.slice Ab nb cb) := HG.out.cell 7
      by_cases hin : i < nb
      · have hini : (i : Int) < (nb : Int) := by omega
        have hw1 : IntKind.i64.wrap ((i : Int) + 1) = ((i + 1 : Nat) : Int) := by rw [IntKind.wrap_i64]; have := HbL.out; omega
        obtain ⟨e, hei⟩ : ∃ e, blocks[i]? = some e := ⟨blocks[i]'(by have := HNb.out; omega), List.getElem?_eq_getElem _⟩
        obtain ⟨hz0, ga, oa, hA, hga, hc⟩ := SlR.cells Hb.out (by omega) (by decide)
        have HEA := Lib.hid hA
        obtain ⟨hel, hcc⟩ := hc i e hei
        obtain ⟨a0, a1, a2, a3, a4, a5, a6, rr, he⟩ := of7 (ks := ks7) rfl hel
        have HTK : Hid (rowC ks7 (blocks.take (i + 1)) = rowC ks7 (blocks.take i) ++ [numV .u32 a0, numV .u8 a1, numV .u32 a2, numV .u32 a3, numV .u32 a4, numV .u32 a5, numV .u32 a6]) := by
          show _ = _
          rw [takeN_snoc hei, rowC_append, rowC_one, he]
          rfl
        have HU0 : Hid (w.cell? ⟨ga, oa + i * 7, none⟩ = some (.int .u32 (a0 : Int))) := hcc 0 _ (by rw [he]; rfl)
        have HU1 : Hid (w.cell? ⟨ga, oa + i * 7 + 1, none⟩ = some (.int .u8 (a1 : Int))) := hcc 1 _ (by rw [he]; rfl)
        have HU2 : Hid (w.cell? ⟨ga, oa + i * 7 + 2, none⟩ = some (.int .u32 (a2 : Int))) := hcc 2 _ (by rw [he]; rfl)
        have HU3 : Hid (w.cell? ⟨ga, oa + i * 7 + 3, none⟩ = some (.int .u32 (a3 : Int))) := hcc 3 _ (by rw [he]; rfl)
        have HU4 : Hid (w.cell? ⟨ga, oa + i * 7 + 4, none⟩ = some (.int .u32 (a4 : Int))) := hcc 4 _ (by rw [he]; rfl)
        have HU5 : Hid (w.cell? ⟨ga, oa + i * 7 + 5, none⟩ = some (.int .u32 (a5 : Int))) := hcc 5 _ (by rw [he]; rfl)
        have HU6 : Hid (w.cell? ⟨ga, oa + i * 7 + 6, none⟩ = some (.int .u32 (a6 : Int))) := hcc 6 _ (by rw [he]; rfl)
        have HGA : Hid (ga < B0) := by show _ < _; rw [HBE.out]; exact hga
        have HLT2 := Lib.hid hin
        rw [hA] at k7
        clear hc hcc hei hin he hel hz0 hga hA
        go_upto_region 5 with fail
        clear k7
        have HB_0 : Hid (Below B0 w (World.drew wr)) := HB.out.drew
        have HG_0 : Hid (Blk (World.drew wr) g1 46 #[.int .i64 kind, .int .u32 (fr : Int), .int .u32 (ab : Int), .int .u64 (ntp : Int), .int .u32 (ts : Int), .int .u32 (pk : Int), .int .u32 (oc : Int), .slice Ab nb cb, .slice Ap np cp, .slice Af nf cf, .int .i64 ex, .int .u32 (mt : Int), .slice As ns cs, .int .i64 ty, .int .i64 ct, .slice Ad nd cd]) := HG.out
        have HX_0 : Hid (Blk (World.drew wr) gx 40 #[.int .i64 kind, .int .u32 (fr : Int), .int .u32 (ab : Int), .int .u64 (ntp : Int), .int .u32 (ts : Int), .int .u32 (pk : Int), .int .u32 (oc : Int), .slice Bq i dq, .slice Aq np cq, .slice none 0 0, .int .i64 ex, .int .u32 (mt : Int), .slice As ns cs, .int .i64 ty, .int .i64 ct, .slice Ad nd cd]) := HX.out
        have HZ_0 : Hid (Blk (World.drew wr) g2 40 #[.int .i64 0, .int .u32 0, .int .u32 0, .int .u64 0, .int .u32 0, .int .u32 0, .int .u32 0, .slice none 0 0, .slice none 0 0, .slice none 0 0, .int .i64 0, .int .u32 0, .slice none 0 0, .int .i64 0, .int .i64 0, .slice none 0 0]) := HZ.out
        have HP_0 : Hid (World.ownsRow (World.drew wr) B1 58 2 (.slice Aq np cq) np (rowC ksP pairs)) := HP.out
        have HO_0 : Hid (World.ownsRow (World.drew wr) B1 77 7 (.slice Bq i dq) i (rowC ks7 (blocks.take i))) := HO.out
        refine wp_region_held_drew (S := (fun w2 => Below B0 w w2 ∧ Blk w2 g1 46 #[.int .i64 kind, .int .u32 (fr : Int), .int .u32 (ab : Int), .int .u64 (ntp : Int), .int .u32 (ts : Int), .int .u32 (pk : Int), .int .u32 (oc : Int), .slice Ab nb cb, .slice Ap np cp, .slice Af nf cf, .int .i64 ex, .int .u32 (mt : Int), .slice As ns cs, .int .i64 ty, .int .i64 ct, .slice Ad nd cd])) (by kernel_rfl) (⟨HB_0.out, HG_0.out⟩) (fun hHeld => ?_)
        refine wpAnyH_takeAt (i := 0) (v := (.pointer (some ⟨gx, 7, none⟩))) rfl (by kernel_rfl) (by kernel_rfl) (by kernel_rfl) (fun _ _ _ h => h) rfl (Or.inl ⟨by rfl, fun w' hS => ?_⟩) hHeld ?_
        · go_simp
        simp only [List.set_cons_zero, List.set_cons_succ]
        refine wpAnyH_takeAt (i := 2) (v := (.pointer (some ⟨g1, 7, none⟩))) rfl (by kernel_rfl) (by kernel_rfl) (by kernel_rfl) (fun _ _ _ h => h) rfl (Or.inl ⟨by rfl, fun w' hS => ?_⟩) hHeld ?_
        · go_simp
        simp only [List.set_cons_zero, List.set_cons_succ]
        refine wpAnyH_takeAt (i := 3) (v := (.slice (some ⟨ga, oa, none⟩) nb cb)) rfl (by kernel_rfl) (by kernel_rfl) (by kernel_rfl) (fun _ _ _ h => h) rfl (Or.inl ⟨by rfl, fun w' hS => ?_⟩) hHeld ?_
        · have hc : w'.cell? ⟨g1, 7, none⟩ = some (.slice Ab nb cb) := hS.2.cell 7
          rw [HEA.out] at hc
          go_simp
        simp only [List.set_cons_zero, List.set_cons_succ]
        refine wpAnyH_takeAt (i := 4) (v := (.int .i64 (i : Int))) rfl (by kernel_rfl) (by kernel_rfl) (by kernel_rfl) (fun _ _ _ h => h) rfl (Or.inl ⟨by rfl, fun w' hS => ?_⟩) hHeld ?_
        · go_simp
        simp only [List.set_cons_zero, List.set_cons_succ]
        refine wpAnyH_takeAt (i := 5) (v := (.pointer (some ⟨ga, oa + i * 7, none⟩))) rfl (by kernel_rfl) (by kernel_rfl) (by kernel_rfl) (fun _ _ _ h => h) rfl (Or.inl ⟨by rfl, fun w' hS => ?_⟩) hHeld ?_
        · go_simp
        simp only [List.set_cons_zero, List.set_cons_succ]
        refine wpAnyH_takeAt (i := 6) (v := (.agg #[.int .u32 (a0 : Int), .int .u8 (a1 : Int), .int .u32 (a2 : Int), .int .u32 (a3 : Int), .int .u32 (a4 : Int), .int .u32 (a5 : Int), .int .u32 (a6 : Int)])) rfl (by kernel_rfl) (by kernel_rfl) (by kernel_rfl) (fun _ _ _ h => h) rfl (Or.inl ⟨by rfl, fun w' hS => ?_⟩) hHeld ?_
        · have hn0 := Nat.lt_of_lt_of_le HGA.out HLO.out.1
          have hc0 := (hS.1.cell (p := ⟨ga, oa + i * 7, none⟩) HGA.out).trans HU0.out
          have hc1 := (hS.1.cell (p := ⟨ga, oa + i * 7 + 1, none⟩) HGA.out).trans HU1.out
          have hc2 := (hS.1.cell (p := ⟨ga, oa + i * 7 + 2, none⟩) HGA.out).trans HU2.out
          have hc3 := (hS.1.cell (p := ⟨ga, oa + i * 7 + 3, none⟩) HGA.out).trans HU3.out
          have hc4 := (hS.1.cell (p := ⟨ga, oa + i * 7 + 4, none⟩) HGA.out).trans HU4.out
          have hc5 := (hS.1.cell (p := ⟨ga, oa + i * 7 + 5, none⟩) HGA.out).trans HU5.out
          have hc6 := (hS.1.cell (p := ⟨ga, oa + i * 7 + 6, none⟩) HGA.out).trans HU6.out
          go_simp
        simp only [List.set_cons_zero, List.set_cons_succ]
        refine wpAnyH_ready (rs := [1, 7]) (by kernel_rfl) (by simp) (AllReadyH.cons rfl (fun K' hK => ?_) (AllReadyH.cons rfl (fun K' hK => ?_) AllReadyH.nil))
        · have hcell : (World.drew wr).cell? ⟨gx, 7, none⟩ = some (.slice Bq i dq) := HX_0.out.cell 7
          go_simp
          clear hcell
          refine hK.out _ _ ⟨HB_0.out, HG_0.out⟩ (fun hHeld' => ?_)
          clear hK hHeld
          have hHeld := hHeld'
          clear hHeld'
          refine wpAnyH_ready (rs := [7]) (by kernel_rfl) (by simp) (AllReadyH.cons rfl (fun K' hK => ?_) AllReadyH.nil)
          go_simp
          have HB_101 : Hid (Below B0 w (World.drew (World.alloc wr (.cells #[.int .u32 (a0 : Int), .int .u8 (a1 : Int), .int .u32 (a2 : Int), .int .u32 (a3 : Int), .int .u32 (a4 : Int), .int .u32 (a5 : Int), .int .u32 (a6 : Int)] 77)))) := ballocB HB_0.out (Nat.le_trans HLO.out.1 HB_0.out.size) _
          have HG_101 : Hid (Blk (World.drew (World.alloc wr (.cells #[.int .u32 (a0 : Int), .int .u8 (a1 : Int), .int .u32 (a2 : Int), .int .u32 (a3 : Int), .int .u32 (a4 : Int), .int .u32 (a5 : Int), .int .u32 (a6 : Int)] 77))) g1 46 #[.int .i64 kind, .int .u32 (fr : Int), .int .u32 (ab : Int), .int .u64 (ntp : Int), .int .u32 (ts : Int), .int .u32 (pk : Int), .int .u32 (oc : Int), .slice Ab nb cb, .slice Ap np cp, .slice Af nf cf, .int .i64 ex, .int .u32 (mt : Int), .slice As ns cs, .int .i64 ty, .int .i64 ct, .slice Ad nd cd]) := Blk.alloc HG_0.out _
          have HX_101 : Hid (Blk (World.drew (World.alloc wr (.cells #[.int .u32 (a0 : Int), .int .u8 (a1 : Int), .int .u32 (a2 : Int), .int .u32 (a3 : Int), .int .u32 (a4 : Int), .int .u32 (a5 : Int), .int .u32 (a6 : Int)] 77))) gx 40 #[.int .i64 kind, .int .u32 (fr : Int), .int .u32 (ab : Int), .int .u64 (ntp : Int), .int .u32 (ts : Int), .int .u32 (pk : Int), .int .u32 (oc : Int), .slice Bq i dq, .slice Aq np cq, .slice none 0 0, .int .i64 ex, .int .u32 (mt : Int), .slice As ns cs, .int .i64 ty, .int .i64 ct, .slice Ad nd cd]) := Blk.alloc HX_0.out _
          have HZ_101 : Hid (Blk (World.drew (World.alloc wr (.cells #[.int .u32 (a0 : Int), .int .u8 (a1 : Int), .int .u32 (a2 : Int), .int .u32 (a3 : Int), .int .u32 (a4 : Int), .int .u32 (a5 : Int), .int .u32 (a6 : Int)] 77))) g2 40 #[.int .i64 0, .int .u32 0, .int .u32 0, .int .u64 0, .int .u32 0, .int .u32 0, .int .u32 0, .slice none 0 0, .slice none 0 0, .slice none 0 0, .int .i64 0, .int .u32 0, .slice none 0 0, .int .i64 0, .int .i64 0, .slice none 0 0]) := Blk.alloc HZ_0.out _
          have HP_101 : Hid (World.ownsRow (World.drew (World.alloc wr (.cells #[.int .u32 (a0 : Int), .int .u8 (a1 : Int), .int .u32 (a2 : Int), .int .u32 (a3 : Int), .int .u32 (a4 : Int), .int .u32 (a5 : Int), .int .u32 (a6 : Int)] 77))) B1 58 2 (.slice Aq np cq) np (rowC ksP pairs)) := HP_0.out.alloc _
          have HO_101 : Hid (World.ownsRow (World.drew (World.alloc wr (.cells #[.int .u32 (a0 : Int), .int .u8 (a1 : Int), .int .u32 (a2 : Int), .int .u32 (a3 : Int), .int .u32 (a4 : Int), .int .u32 (a5 : Int), .int .u32 (a6 : Int)] 77))) B1 77 7 (.slice Bq i dq) i (rowC ks7 (blocks.take i))) := HO_0.out.alloc _
          have HN_101 : Hid (Reads (World.drew (World.alloc wr (.cells #[.int .u32 (a0 : Int), .int .u8 (a1 : Int), .int .u32 (a2 : Int), .int .u32 (a3 : Int), .int .u32 (a4 : Int), .int .u32 (a5 : Int), .int .u32 (a6 : Int)] 77))) (World.heap (World.drew (World.alloc wr (.cells #[.int .u32 (a0 : Int), .int .u8 (a1 : Int), .int .u32 (a2 : Int), .int .u32 (a3 : Int), .int .u32 (a4 : Int), .int .u32 (a5 : Int), .int .u32 (a6 : Int)] 77)))).size 7 (some ⟨(World.heap (World.drew wr)).size, 0, none⟩) 1 [numV .u32 a0, numV .u8 a1, numV .u32 a2, numV .u32 a3, numV .u32 a4, numV .u32 a5, numV .u32 a6]) := reads_blk (Blk.newAt rfl _ _) rfl
          have HS_101 : Hid (B1 ≤ (World.heap (World.drew (World.alloc wr (.cells #[.int .u32 (a0 : Int), .int .u8 (a1 : Int), .int .u32 (a2 : Int), .int .u32 (a3 : Int), .int .u32 (a4 : Int), .int .u32 (a5 : Int), .int .u32 (a6 : Int)] 77)))).size) := by have := HLO.out; have := HX_0.out.lt; have := (Blk.alloc HX_0.out (.cells #[.int .u32 (a0 : Int), .int .u8 (a1 : Int), .int .u32 (a2 : Int), .int .u32 (a3 : Int), .int .u32 (a4 : Int), .int .u32 (a5 : Int), .int .u32 (a6 : Int)] 77)).lt; show _ ≤ _; exact Nat.le_of_lt (Nat.lt_of_le_of_lt (by omega) HX_101.out.lt)
          refine hK.out _ _ ⟨HB_101.out, HG_101.out⟩ (fun hHeld' => ?_)
          clear hK hHeld
          have hHeld := hHeld'
          clear hHeld'
          refine wpAnyH_ready (rs := [8]) (by kernel_rfl) (by simp) (AllReadyH.cons rfl (fun K' hK => ?_) AllReadyH.nil)
          refine step_append_any _ (by rfl) (.tmp 44) (.tmp 50) _ (by rfl) B1 77 iB _ 7 28 Try.underlying35 hiB hzaB hzbB hzcB rfl (by omega) (.slice Bq i dq) i (rowC ks7 (blocks.take i)) (by rfl) HO_101.out
            _ (some ⟨(World.heap (World.drew wr)).size, 0, none⟩) 1 1 [numV .u32 a0, numV .u8 a1, numV .u32 a2, numV .u32 a3, numV .u32 a4, numV .u32 a5, numV .u32 a6] (by rfl) HN_101.out (by simp [numV, Value.oneCell']) (by simp only [maxLen]; omega) (by omega) HS_101.out ?_
          intro v_102 w_102 hown_102 hg_102 hv_102
          obtain ⟨A_102, c_102, rfl⟩ := own_slice hown_102
          have hsv_102 : Sv (fun j => (Value.slice Bq i dq).ownBlock = some j) (World.drew (World.alloc wr (.cells #[.int .u32 (a0 : Int), .int .u8 (a1 : Int), .int .u32 (a2 : Int), .int .u32 (a3 : Int), .int .u32 (a4 : Int), .int .u32 (a5 : Int), .int .u32 (a6 : Int)] 77))) w_102 := (Sv.refl _ _).grown hg_102 (fun g e => .inl e)
          have HB_102 : Hid (Below B0 w w_102) := HB_101.out.trans (hsv_102.toBelow (fun j e => by have := (HO_101.out.lt j e).1; have := HLO.out; omega) (Nat.le_trans HLO.out.1 HB_101.out.size))
          have HG_102 : Hid (Blk w_102 g1 46 #[.int .i64 kind, .int .u32 (fr : Int), .int .u32 (ab : Int), .int .u64 (ntp : Int), .int .u32 (ts : Int), .int .u32 (pk : Int), .int .u32 (oc : Int), .slice Ab nb cb, .slice Ap np cp, .slice Af nf cf, .int .i64 ex, .int .u32 (mt : Int), .slice As ns cs, .int .i64 ty, .int .i64 ct, .slice Ad nd cd]) := Blk.grown HG_101.out hg_102 (Ne.symm (own_blk_ne HO_101.out HG_101.out (by decide)))
          have HX_102 : Hid (Blk w_102 gx 40 #[.int .i64 kind, .int .u32 (fr : Int), .int .u32 (ab : Int), .int .u64 (ntp : Int), .int .u32 (ts : Int), .int .u32 (pk : Int), .int .u32 (oc : Int), .slice Bq i dq, .slice Aq np cq, .slice none 0 0, .int .i64 ex, .int .u32 (mt : Int), .slice As ns cs, .int .i64 ty, .int .i64 ct, .slice Ad nd cd]) := Blk.grown HX_101.out hg_102 (Ne.symm (own_blk_ne HO_101.out HX_101.out (by decide)))
          have HZ_102 : Hid (Blk w_102 g2 40 #[.int .i64 0, .int .u32 0, .int .u32 0, .int .u64 0, .int .u32 0, .int .u32 0, .int .u32 0, .slice none 0 0, .slice none 0 0, .slice none 0 0, .int .i64 0, .int .u32 0, .slice none 0 0, .int .i64 0, .int .i64 0, .slice none 0 0]) := Blk.grown HZ_101.out hg_102 (Ne.symm (own_blk_ne HO_101.out HZ_101.out (by decide)))
          have HP_102 : Hid (World.ownsRow w_102 B1 58 2 (.slice Aq np cq) np (rowC ksP pairs)) := own_grown_far HP_101.out HO_101.out (by decide) hg_102
          have HO_102 := Lib.hid hown_102
          clear hown_102 hg_102 hv_102 hsv_102
          refine hK.out _ _ ⟨HB_102.out, HG_102.out⟩ (fun hHeld' => ?_)
          clear hK hHeld
          have hHeld := hHeld'
          clear hHeld'
          refine wpAnyH_putAt rfl ?_
          simp only [List.set_cons_zero, List.set_cons_succ]
          refine wpAnyH_takeAt (i := 9) (v := (.pointer (some ⟨gx, 7, none⟩))) rfl (by kernel_rfl) (by kernel_rfl) (by kernel_rfl) (fun _ _ _ h => h) rfl (Or.inl ⟨by rfl, fun w' hS => ?_⟩) hHeld ?_
          · go_simp
          simp only [List.set_cons_zero, List.set_cons_succ]
          refine wpAnyH_ready (rs := [10]) (by kernel_rfl) (by simp) (AllReadyH.cons rfl (fun K' hK => ?_) AllReadyH.nil)
          have hcell : w_102.cell? ⟨gx, 7, none⟩ = some (.slice Bq i dq) := HX_102.out.cell 7
          have hfree : w_102.frozen? ⟨gx, 7, none⟩ = false := HX_102.out.frozen 7
          go_simp
          clear hcell hfree
          have HB_103 : Hid (Below B0 w (World.setCell w_102 ⟨gx, 7, none⟩ (.slice A_102 (i + 1) c_102))) := HB_102.out.setCell (p := ⟨gx, 7, none⟩) (by have := HLO.out; show _ ≤ gx; omega) _
          have HG_103 : Hid (Blk (World.setCell w_102 ⟨gx, 7, none⟩ (.slice A_102 (i + 1) c_102)) g1 46 #[.int .i64 kind, .int .u32 (fr : Int), .int .u32 (ab : Int), .int .u64 (ntp : Int), .int .u32 (ts : Int), .int .u32 (pk : Int), .int .u32 (oc : Int), .slice Ab nb cb, .slice Ap np cp, .slice Af nf cf, .int .i64 ex, .int .u32 (mt : Int), .slice As ns cs, .int .i64 ty, .int .i64 ct, .slice Ad nd cd]) := HG_102.out.far (p := ⟨gx, 7, none⟩) (by have := HLO.out; show g1 ≠ gx; omega) _
          have HX_103 : Hid (Blk (World.setCell w_102 ⟨gx, 7, none⟩ (.slice A_102 (i + 1) c_102)) gx 40 #[.int .i64 kind, .int .u32 (fr : Int), .int .u32 (ab : Int), .int .u64 (ntp : Int), .int .u32 (ts : Int), .int .u32 (pk : Int), .int .u32 (oc : Int), .slice A_102 (i + 1) c_102, .slice Aq np cq, .slice none 0 0, .int .i64 ex, .int .u32 (mt : Int), .slice As ns cs, .int .i64 ty, .int .i64 ct, .slice Ad nd cd]) := HX_102.out.set_ 7 _
          have HZ_103 : Hid (Blk (World.setCell w_102 ⟨gx, 7, none⟩ (.slice A_102 (i + 1) c_102)) g2 40 #[.int .i64 0, .int .u32 0, .int .u32 0, .int .u64 0, .int .u32 0, .int .u32 0, .int .u32 0, .slice none 0 0, .slice none 0 0, .slice none 0 0, .int .i64 0, .int .u32 0, .slice none 0 0, .int .i64 0, .int .i64 0, .slice none 0 0]) := HZ_102.out.far (p := ⟨gx, 7, none⟩) (by have := HLO.out; show g2 ≠ gx; omega) _
          have HP_103 : Hid (World.ownsRow (World.setCell w_102 ⟨gx, 7, none⟩ (.slice A_102 (i + 1) c_102)) B1 58 2 (.slice Aq np cq) np (rowC ksP pairs)) := own_set HP_102.out (own_blk_ne HP_102.out HX_102.out (by decide)) 7 _
          have HO_103 : Hid (World.ownsRow (World.setCell w_102 ⟨gx, 7, none⟩ (.slice A_102 (i + 1) c_102)) B1 77 7 (.slice A_102 (i + 1) c_102) (i + 1) (rowC ks7 (blocks.take (i + 1)))) := by
            show World.ownsRow _ _ _ _ _ _ _
            rw [HTK.out]
            exact own_set HO_102.out (own_blk_ne HO_102.out HX_102.out (by decide)) 7 _
          refine hK.out _ _ ⟨HB_103.out, HG_103.out⟩ (fun hHeld' => ?_)
          clear hK hHeld
          have hHeld := hHeld'
          clear hHeld'
          refine wpAnyH_done (by kernel_rfl) ?_ _
          generalize (World.setCell w_102 ⟨gx, 7, none⟩ (.slice A_102 (i + 1) c_102)) = wf at *
          go_wp2_with fail
          go_roundg (nb - (i + 1))
          case measure => have := HLT2.out; have := HGG.out; omega
          case rel =>
            have hlt := HLT2.out
            exact ⟨i + 1, A_102, c_102, rfl, by omega, by first | rfl | go_num, HB_103.out, HG_103.out, HZ_103.out, HX_103.out, HP_103.out, HO_103.out⟩
        · go_simp
          have HB_104 : Hid (Below B0 w (World.drew (World.alloc wr (.cells #[.int .u32 (a0 : Int), .int .u8 (a1 : Int), .int .u32 (a2 : Int), .int .u32 (a3 : Int), .int .u32 (a4 : Int), .int .u32 (a5 : Int), .int .u32 (a6 : Int)] 77)))) := ballocB HB_0.out (Nat.le_trans HLO.out.1 HB_0.out.size) _
          have HG_104 : Hid (Blk (World.drew (World.alloc wr (.cells #[.int .u32 (a0 : Int), .int .u8 (a1 : Int), .int .u32 (a2 : Int), .int .u32 (a3 : Int), .int .u32 (a4 : Int), .int .u32 (a5 : Int), .int .u32 (a6 : Int)] 77))) g1 46 #[.int .i64 kind, .int .u32 (fr : Int), .int .u32 (ab : Int), .int .u64 (ntp : Int), .int .u32 (ts : Int), .int .u32 (pk : Int), .int .u32 (oc : Int), .slice Ab nb cb, .slice Ap np cp, .slice Af nf cf, .int .i64 ex, .int .u32 (mt : Int), .slice As ns cs, .int .i64 ty, .int .i64 ct, .slice Ad nd cd]) := Blk.alloc HG_0.out _
          have HX_104 : Hid (Blk (World.drew (World.alloc wr (.cells #[.int .u32 (a0 : Int), .int .u8 (a1 : Int), .int .u32 (a2 : Int), .int .u32 (a3 : Int), .int .u32 (a4 : Int), .int .u32 (a5 : Int), .int .u32 (a6 : Int)] 77))) gx 40 #[.int .i64 kind, .int .u32 (fr : Int), .int .u32 (ab : Int), .int .u64 (ntp : Int), .int .u32 (ts : Int), .int .u32 (pk : Int), .int .u32 (oc : Int), .slice Bq i dq, .slice Aq np cq, .slice none 0 0, .int .i64 ex, .int .u32 (mt : Int), .slice As ns cs, .int .i64 ty, .int .i64 ct, .slice Ad nd cd]) := Blk.alloc HX_0.out _
          have HZ_104 : Hid (Blk (World.drew (World.alloc wr (.cells #[.int .u32 (a0 : Int), .int .u8 (a1 : Int), .int .u32 (a2 : Int), .int .u32 (a3 : Int), .int .u32 (a4 : Int), .int .u32 (a5 : Int), .int .u32 (a6 : Int)] 77))) g2 40 #[.int .i64 0, .int .u32 0, .int .u32 0, .int .u64 0, .int .u32 0, .int .u32 0, .int .u32 0, .slice none 0 0, .slice none 0 0, .slice none 0 0, .int .i64 0, .int .u32 0, .slice none 0 0, .int .i64 0, .int .i64 0, .slice none 0 0]) := Blk.alloc HZ_0.out _
          have HP_104 : Hid (World.ownsRow (World.drew (World.alloc wr (.cells #[.int .u32 (a0 : Int), .int .u8 (a1 : Int), .int .u32 (a2 : Int), .int .u32 (a3 : Int), .int .u32 (a4 : Int), .int .u32 (a5 : Int), .int .u32 (a6 : Int)] 77))) B1 58 2 (.slice Aq np cq) np (rowC ksP pairs)) := HP_0.out.alloc _
          have HO_104 : Hid (World.ownsRow (World.drew (World.alloc wr (.cells #[.int .u32 (a0 : Int), .int .u8 (a1 : Int), .int .u32 (a2 : Int), .int .u32 (a3 : Int), .int .u32 (a4 : Int), .int .u32 (a5 : Int), .int .u32 (a6 : Int)] 77))) B1 77 7 (.slice Bq i dq) i (rowC ks7 (blocks.take i))) := HO_0.out.alloc _
          have HN_104 : Hid (Reads (World.drew (World.alloc wr (.cells #[.int .u32 (a0 : Int), .int .u8 (a1 : Int), .int .u32 (a2 : Int), .int .u32 (a3 : Int), .int .u32 (a4 : Int), .int .u32 (a5 : Int), .int .u32 (a6 : Int)] 77))) (World.heap (World.drew (World.alloc wr (.cells #[.int .u32 (a0 : Int), .int .u8 (a1 : Int), .int .u32 (a2 : Int), .int .u32 (a3 : Int), .int .u32 (a4 : Int), .int .u32 (a5 : Int), .int .u32 (a6 : Int)] 77)))).size 7 (some ⟨(World.heap (World.drew wr)).size, 0, none⟩) 1 [numV .u32 a0, numV .u8 a1, numV .u32 a2, numV .u32 a3, numV .u32 a4, numV .u32 a5, numV .u32 a6]) := reads_blk (Blk.newAt rfl _ _) rfl
          have HS_104 : Hid (B1 ≤ (World.heap (World.drew (World.alloc wr (.cells #[.int .u32 (a0 : Int), .int .u8 (a1 : Int), .int .u32 (a2 : Int), .int .u32 (a3 : Int), .int .u32 (a4 : Int), .int .u32 (a5 : Int), .int .u32 (a6 : Int)] 77)))).size) := by have := HLO.out; have := HX_0.out.lt; have := (Blk.alloc HX_0.out (.cells #[.int .u32 (a0 : Int), .int .u8 (a1 : Int), .int .u32 (a2 : Int), .int .u32 (a3 : Int), .int .u32 (a4 : Int), .int .u32 (a5 : Int), .int .u32 (a6 : Int)] 77)).lt; show _ ≤ _; exact Nat.le_of_lt (Nat.lt_of_le_of_lt (by omega) HX_104.out.lt)
          refine hK.out _ _ ⟨HB_104.out, HG_104.out⟩ (fun hHeld' => ?_)
          clear hK hHeld
          have hHeld := hHeld'
          clear hHeld'
          refine wpAnyH_ready (rs := [1]) (by kernel_rfl) (by simp) (AllReadyH.cons rfl (fun K' hK => ?_) AllReadyH.nil)
          have hcell : (World.drew (World.alloc wr (.cells #[.int .u32 (a0 : Int), .int .u8 (a1 : Int), .int .u32 (a2 : Int), .int .u32 (a3 : Int), .int .u32 (a4 : Int), .int .u32 (a5 : Int), .int .u32 (a6 : Int)] 77))).cell? ⟨gx, 7, none⟩ = some (.slice Bq i dq) := HX_104.out.cell 7
          go_simp
          clear hcell
          refine hK.out _ _ ⟨HB_104.out, HG_104.out⟩ (fun hHeld' => ?_)
          clear hK hHeld
          have hHeld := hHeld'
          clear hHeld'
          refine wpAnyH_ready (rs := [8]) (by kernel_rfl) (by simp) (AllReadyH.cons rfl (fun K' hK => ?_) AllReadyH.nil)
          refine step_append_any _ (by rfl) (.tmp 44) (.tmp 50) _ (by rfl) B1 77 iB _ 7 28 Try.underlying35 hiB hzaB hzbB hzcB rfl (by omega) (.slice Bq i dq) i (rowC ks7 (blocks.take i)) (by rfl) HO_104.out
            _ (some ⟨(World.heap (World.drew wr)).size, 0, none⟩) 1 1 [numV .u32 a0, numV .u8 a1, numV .u32 a2, numV .u32 a3, numV .u32 a4, numV .u32 a5, numV .u32 a6] (by rfl) HN_104.out (by simp [numV, Value.oneCell']) (by simp only [maxLen]; omega) (by omega) HS_104.out ?_
          intro v_105 w_105 hown_105 hg_105 hv_105
          obtain ⟨A_105, c_105, rfl⟩ := own_slice hown_105
          have hsv_105 : Sv (fun j => (Value.slice Bq i dq).ownBlock = some j) (World.drew (World.alloc wr (.cells #[.int .u32 (a0 : Int), .int .u8 (a1 : Int), .int .u32 (a2 : Int), .int .u32 (a3 : Int), .int .u32 (a4 : Int), .int .u32 (a5 : Int), .int .u32 (a6 : Int)] 77))) w_105 := (Sv.refl _ _).grown hg_105 (fun g e => .inl e)
          have HB_105 : Hid (Below B0 w w_105) := HB_104.out.trans (hsv_105.toBelow (fun j e => by have := (HO_104.out.lt j e).1; have := HLO.out; omega) (Nat.le_trans HLO.out.1 HB_104.out.size))
          have HG_105 : Hid (Blk w_105 g1 46 #[.int .i64 kind, .int .u32 (fr : Int), .int .u32 (ab : Int), .int .u64 (ntp : Int), .int .u32 (ts : Int), .int .u32 (pk : Int), .int .u32 (oc : Int), .slice Ab nb cb, .slice Ap np cp, .slice Af nf cf, .int .i64 ex, .int .u32 (mt : Int), .slice As ns cs, .int .i64 ty, .int .i64 ct, .slice Ad nd cd]) := Blk.grown HG_104.out hg_105 (Ne.symm (own_blk_ne HO_104.out HG_104.out (by decide)))
          have HX_105 : Hid (Blk w_105 gx 40 #[.int .i64 kind, .int .u32 (fr : Int), .int .u32 (ab : Int), .int .u64 (ntp : Int), .int .u32 (ts : Int), .int .u32 (pk : Int), .int .u32 (oc : Int), .slice Bq i dq, .slice Aq np cq, .slice none 0 0, .int .i64 ex, .int .u32 (mt : Int), .slice As ns cs, .int .i64 ty, .int .i64 ct, .slice Ad nd cd]) := Blk.grown HX_104.out hg_105 (Ne.symm (own_blk_ne HO_104.out HX_104.out (by decide)))
          have HZ_105 : Hid (Blk w_105 g2 40 #[.int .i64 0, .int .u32 0, .int .u32 0, .int .u64 0, .int .u32 0, .int .u32 0, .int .u32 0, .slice none 0 0, .slice none 0 0, .slice none 0 0, .int .i64 0, .int .u32 0, .slice none 0 0, .int .i64 0, .int .i64 0, .slice none 0 0]) := Blk.grown HZ_104.out hg_105 (Ne.symm (own_blk_ne HO_104.out HZ_104.out (by decide)))
          have HP_105 : Hid (World.ownsRow w_105 B1 58 2 (.slice Aq np cq) np (rowC ksP pairs)) := own_grown_far HP_104.out HO_104.out (by decide) hg_105
          have HO_105 := Lib.hid hown_105
          clear hown_105 hg_105 hv_105 hsv_105
          refine hK.out _ _ ⟨HB_105.out, HG_105.out⟩ (fun hHeld' => ?_)
          clear hK hHeld
          have hHeld := hHeld'
          clear hHeld'
          refine wpAnyH_putAt rfl ?_
          simp only [List.set_cons_zero, List.set_cons_succ]
          refine wpAnyH_takeAt (i := 9) (v := (.pointer (some ⟨gx, 7, none⟩))) rfl (by kernel_rfl) (by kernel_rfl) (by kernel_rfl) (fun _ _ _ h => h) rfl (Or.inl ⟨by rfl, fun w' hS => ?_⟩) hHeld ?_
          · go_simp
          simp only [List.set_cons_zero, List.set_cons_succ]
          refine wpAnyH_ready (rs := [10]) (by kernel_rfl) (by simp) (AllReadyH.cons rfl (fun K' hK => ?_) AllReadyH.nil)
          have hcell : w_105.cell? ⟨gx, 7, none⟩ = some (.slice Bq i dq) := HX_105.out.cell 7
          have hfree : w_105.frozen? ⟨gx, 7, none⟩ = false := HX_105.out.frozen 7
          go_simp
          clear hcell hfree
          have HB_106 : Hid (Below B0 w (World.setCell w_105 ⟨gx, 7, none⟩ (.slice A_105 (i + 1) c_105))) := HB_105.out.setCell (p := ⟨gx, 7, none⟩) (by have := HLO.out; show _ ≤ gx; omega) _
          have HG_106 : Hid (Blk (World.setCell w_105 ⟨gx, 7, none⟩ (.slice A_105 (i + 1) c_105)) g1 46 #[.int .i64 kind, .int .u32 (fr : Int), .int .u32 (ab : Int), .int .u64 (ntp : Int), .int .u32 (ts : Int), .int .u32 (pk : Int), .int .u32 (oc : Int), .slice Ab nb cb, .slice Ap np cp, .slice Af nf cf, .int .i64 ex, .int .u32 (mt : Int), .slice As ns cs, .int .i64 ty, .int .i64 ct, .slice Ad nd cd]) := HG_105.out.far (p := ⟨gx, 7, none⟩) (by have := HLO.out; show g1 ≠ gx; omega) _
          have HX_106 : Hid (Blk (World.setCell w_105 ⟨gx, 7, none⟩ (.slice A_105 (i + 1) c_105)) gx 40 #[.int .i64 kind, .int .u32 (fr : Int), .int .u32 (ab : Int), .int .u64 (ntp : Int), .int .u32 (ts : Int), .int .u32 (pk : Int), .int .u32 (oc : Int), .slice A_105 (i + 1) c_105, .slice Aq np cq, .slice none 0 0, .int .i64 ex, .int .u32 (mt : Int), .slice As ns cs, .int .i64 ty, .int .i64 ct, .slice Ad nd cd]) := HX_105.out.set_ 7 _
          have HZ_106 : Hid (Blk (World.setCell w_105 ⟨gx, 7, none⟩ (.slice A_105 (i + 1) c_105)) g2 40 #[.int .i64 0, .int .u32 0, .int .u32 0, .int .u64 0, .int .u32 0, .int .u32 0, .int .u32 0, .slice none 0 0, .slice none 0 0, .slice none 0 0, .int .i64 0, .int .u32 0, .slice none 0 0, .int .i64 0, .int .i64 0, .slice none 0 0]) := HZ_105.out.far (p := ⟨gx, 7, none⟩) (by have := HLO.out; show g2 ≠ gx; omega) _
          have HP_106 : Hid (World.ownsRow (World.setCell w_105 ⟨gx, 7, none⟩ (.slice A_105 (i + 1) c_105)) B1 58 2 (.slice Aq np cq) np (rowC ksP pairs)) := own_set HP_105.out (own_blk_ne HP_105.out HX_105.out (by decide)) 7 _
          have HO_106 : Hid (World.ownsRow (World.setCell w_105 ⟨gx, 7, none⟩ (.slice A_105 (i + 1) c_105)) B1 77 7 (.slice A_105 (i + 1) c_105) (i + 1) (rowC ks7 (blocks.take (i + 1)))) := by
            show World.ownsRow _ _ _ _ _ _ _
            rw [HTK.out]
            exact own_set HO_105.out (own_blk_ne HO_105.out HX_105.out (by decide)) 7 _
          refine hK.out _ _ ⟨HB_106.out, HG_106.out⟩ (fun hHeld' => ?_)
          clear hK hHeld
          have hHeld := hHeld'
          clear hHeld'
          refine wpAnyH_done (by kernel_rfl) ?_ _
          generalize (World.setCell w_105 ⟨gx, 7, none⟩ (.slice A_105 (i + 1) c_105)) = wf at *
          go_wp2_with fail
          go_roundg (nb - (i + 1))
          case measure => have := HLT2.out; have := HGG.out; omega
          case rel =>
            have hlt := HLT2.out
            exact ⟨i + 1, A_105, c_105, rfl, by omega, by first | rfl | go_num, HB_106.out, HG_106.out, HZ_106.out, HX_106.out, HP_106.out, HO_106.out⟩
      · have hini : ¬ (i : Int) < (nb : Int) := by omega
        have hie : nb = i := by omega
        subst hie
        have HT : Hid (blocks.take nb = blocks) := List.take_of_length_le (by have := HNb.out; omega)
        have HOE : Hid (World.ownsRow wr B1 77 7 (.slice Bq nb dq) nb (rowC ks7 blocks)) := by
          have := HO.out
          rw [HT.out] at this
          exact this
        clear hin hi HO HT
        go_upto_region 7 with fail
        clear k7
        have HBc := HB
        have HGc := HG
        have HZc := HZ
        have HXc := HX
        have HPc := HP
        have HQc := HOE
        clear HB HG HZ HX HP HOE HI0 HGG
        go_loopg [5] nf (fun gg v4 wx => ∃ (i : Nat) (Ao : Option Addr) (co : Nat), gg = nf - i ∧ i ≤ nf ∧ v4 = .int .i64 (i : Int) ∧ Below B0 w wx ∧ Blk wx g1 46 #[.int .i64 kind, .int .u32 (fr : Int), .int .u32 (ab : Int), .int .u64 (ntp : Int), .int .u32 (ts : Int), .int .u32 (pk : Int), .int .u32 (oc : Int), .slice Ab nb cb, .slice Ap np cp, .slice Af nf cf, .int .i64 ex, .int .u32 (mt : Int), .slice As ns cs, .int .i64 ty, .int .i64 ct, .slice Ad nd cd] ∧ Blk wx g2 40 #[.int .i64 0, .int .u32 0, .int .u32 0, .int .u64 0, .int .u32 0, .int .u32 0, .int .u32 0, .slice none 0 0, .slice none 0 0, .slice none 0 0, .int .i64 0, .int .u32 0, .slice none 0 0, .int .i64 0, .int .i64 0, .slice none 0 0] ∧ Blk wx gx 40 #[.int .i64 kind, .int .u32 (fr : Int), .int .u32 (ab : Int), .int .u64 (ntp : Int), .int .u32 (ts : Int), .int .u32 (pk : Int), .int .u32 (oc : Int), .slice Bq nb dq, .slice Aq np cq, .slice Ao i co, .int .i64 ex, .int .u32 (mt : Int), .slice As ns cs, .int .i64 ty, .int .i64 ct, .slice Ad nd cd] ∧ World.ownsRow wx B1 58 2 (.slice Aq np cq) np (rowC ksP pairs) ∧ World.ownsRow wx B1 77 7 (.slice Bq nb dq) nb (rowC ks7 blocks) ∧ World.ownsRow wx B1 79 2 (.slice Ao i co) i (rowC ksF (firs.take i)))
        case atStart => exact ⟨0, none, 0, by omega, by omega, rfl, HBc.out, HGc.out, HZc.out, HXc.out, HPc.out, HQc.out, by simpa [rowC] using World.ownsRow_nil _ _ _ _⟩
        case round =>
          obtain ⟨i, Ao, co, hgg, hi, rfl, hb, hg, hz, hx, hp, hq, ho⟩ := hrel
          clear HBc HGc HZc HXc HPc HQc
          have HB := Lib.hid hb
          have HG := Lib.hid hg
          have HZ := Lib.hid hz
          have HX := Lib.hid hx
          have HP := Lib.hid hp
          have HO := Lib.hid ho
          have HGG := Lib.hid hgg
          have HQ := Lib.hid hq
          clear hb hg hz hx hp ho hgg hq
          have k7 : wr.cell? ⟨g1, 9, none⟩ = some (.slice Af nf cf) := HG.out.cell 9
          by_cases hin : i < nf
          · have hini : (i : Int) < (nf : Int) := by omega
            have hw1 : IntKind.i64.wrap ((i : Int) + 1) = ((i + 1 : Nat) : Int) := by rw [IntKind.wrap_i64]; have := HfL.out; omega
            obtain ⟨e, hei⟩ : ∃ e, firs[i]? = some e := ⟨firs[i]'(by have := HNf.out; omega), List.getElem?_eq_getElem _⟩
            obtain ⟨hz0, ga, oa, hA, hga, hc⟩ := SlR.cells Hf.out (by omega) (by decide)
            have HEA := Lib.hid hA
            obtain ⟨hel, hcc⟩ := hc i e hei
            obtain ⟨a0, a1, rr, he⟩ := of2 (ks := ksF) rfl hel
            have HTK : Hid (rowC ksF (firs.take (i + 1)) = rowC ksF (firs.take i) ++ [numV .u32 a0, numV .u8 a1]) := by
              show _ = _
              rw [takeN_snoc hei, rowC_append, rowC_one, he]
              rfl
            have HU0 : Hid (w.cell? ⟨ga, oa + i * 2, none⟩ = some (.int .u32 (a0 : Int))) := hcc 0 _ (by rw [he]; rfl)
            have HU1 : Hid (w.cell? ⟨ga, oa + i * 2 + 1, none⟩ = some (.int .u8 (a1 : Int))) := hcc 1 _ (by rw [he]; rfl)
            have HGA : Hid (ga < B0) := by show _ < _; rw [HBE.out]; exact hga
            have HLT2 := Lib.hid hin
            rw [hA] at k7
            clear hc hcc hei hin he hel hz0 hga hA
            go_upto_region 9 with fail
            clear k7
            have HB_0 : Hid (Below B0 w (World.drew wr)) := HB.out.drew
            have HG_0 : Hid (Blk (World.drew wr) g1 46 #[.int .i64 kind, .int .u32 (fr : Int), .int .u32 (ab : Int), .int .u64 (ntp : Int), .int .u32 (ts : Int), .int .u32 (pk : Int), .int .u32 (oc : Int), .slice Ab nb cb, .slice Ap np cp, .slice Af nf cf, .int .i64 ex, .int .u32 (mt : Int), .slice As ns cs, .int .i64 ty, .int .i64 ct, .slice Ad nd cd]) := HG.out
            have HX_0 : Hid (Blk (World.drew wr) gx 40 #[.int .i64 kind, .int .u32 (fr : Int), .int .u32 (ab : Int), .int .u64 (ntp : Int), .int .u32 (ts : Int), .int .u32 (pk : Int), .int .u32 (oc : Int), .slice Bq nb dq, .slice Aq np cq, .slice Ao i co, .int .i64 ex, .int .u32 (mt : Int), .slice As ns cs, .int .i64 ty, .int .i64 ct, .slice Ad nd cd]) := HX.out
            have HZ_0 : Hid (Blk (World.drew wr) g2 40 #[.int .i64 0, .int .u32 0, .int .u32 0, .int .u64 0, .int .u32 0, .int .u32 0, .int .u32 0, .slice none 0 0, .slice none 0 0, .slice none 0 0, .int .i64 0, .int .u32 0, .slice none 0 0, .int .i64 0, .int .i64 0, .slice none 0 0]) := HZ.out
            have HP_0 : Hid (World.ownsRow (World.drew wr) B1 58 2 (.slice Aq np cq) np (rowC ksP pairs)) := HP.out
            have HO_0 : Hid (World.ownsRow (World.drew wr) B1 79 2 (.slice Ao i co) i (rowC ksF (firs.take i))) := HO.out
            have HQ_0 : Hid (World.ownsRow (World.drew wr) B1 77 7 (.slice Bq nb dq) nb (rowC ks7 blocks)) := HQ.out
            refine wp_region_held_drew (S := (fun w2 => Below B0 w w2 ∧ Blk w2 g1 46 #[.int .i64 kind, .int .u32 (fr : Int), .int .u32 (ab : Int), .int .u64 (ntp : Int), .int .u32 (ts : Int), .int .u32 (pk : Int), .int .u32 (oc : Int), .slice Ab nb cb, .slice Ap np cp, .slice Af nf cf, .int .i64 ex, .int .u32 (mt : Int), .slice As ns cs, .int .i64 ty, .int .i64 ct, .slice Ad nd cd])) (by kernel_rfl) (⟨HB_0.out, HG_0.out⟩) (fun hHeld => ?_)
            refine wpAnyH_takeAt (i := 0) (v := (.pointer (some ⟨gx, 9, none⟩))) rfl (by kernel_rfl) (by kernel_rfl) (by kernel_rfl) (fun _ _ _ h => h) rfl (Or.inl ⟨by rfl, fun w' hS => ?_⟩) hHeld ?_
            · go_simp
            simp only [List.set_cons_zero, List.set_cons_succ]
            refine wpAnyH_takeAt (i := 2) (v := (.pointer (some ⟨g1, 9, none⟩))) rfl (by kernel_rfl) (by kernel_rfl) (by kernel_rfl) (fun _ _ _ h => h) rfl (Or.inl ⟨by rfl, fun w' hS => ?_⟩) hHeld ?_
            · go_simp
            simp only [List.set_cons_zero, List.set_cons_succ]
            refine wpAnyH_takeAt (i := 3) (v := (.slice (some ⟨ga, oa, none⟩) nf cf)) rfl (by kernel_rfl) (by kernel_rfl) (by kernel_rfl) (fun _ _ _ h => h) rfl (Or.inl ⟨by rfl, fun w' hS => ?_⟩) hHeld ?_
            · have hc : w'.cell? ⟨g1, 9, none⟩ = some (.slice Af nf cf) := hS.2.cell 9
              rw [HEA.out] at hc
              go_simp
            simp only [List.set_cons_zero, List.set_cons_succ]
            refine wpAnyH_takeAt (i := 4) (v := (.int .i64 (i : Int))) rfl (by kernel_rfl) (by kernel_rfl) (by kernel_rfl) (fun _ _ _ h => h) rfl (Or.inl ⟨by rfl, fun w' hS => ?_⟩) hHeld ?_
            · go_simp
            simp only [List.set_cons_zero, List.set_cons_succ]
            refine wpAnyH_takeAt (i := 5) (v := (.pointer (some ⟨ga, oa + i * 2, none⟩))) rfl (by kernel_rfl) (by kernel_rfl) (by kernel_rfl) (fun _ _ _ h => h) rfl (Or.inl ⟨by rfl, fun w' hS => ?_⟩) hHeld ?_
            · go_simp
            simp only [List.set_cons_zero, List.set_cons_succ]
            refine wpAnyH_takeAt (i := 6) (v := (.agg #[.int .u32 (a0 : Int), .int .u8 (a1 : Int)])) rfl (by kernel_rfl) (by kernel_rfl) (by kernel_rfl) (fun _ _ _ h => h) rfl (Or.inl ⟨by rfl, fun w' hS => ?_⟩) hHeld ?_
            · have hn0 := Nat.lt_of_lt_of_le HGA.out HLO.out.1
              have hc0 := (hS.1.cell (p := ⟨ga, oa + i * 2, none⟩) HGA.out).trans HU0.out
              have hc1 := (hS.1.cell (p := ⟨ga, oa + i * 2 + 1, none⟩) HGA.out).trans HU1.out
              go_simp
            simp only [List.set_cons_zero, List.set_cons_succ]
            refine wpAnyH_ready (rs := [1, 7]) (by kernel_rfl) (by simp) (AllReadyH.cons rfl (fun K' hK => ?_) (AllReadyH.cons rfl (fun K' hK => ?_) AllReadyH.nil))
            · have hcell : (World.drew wr).cell? ⟨gx, 9, none⟩ = some (.slice Ao i co) := HX_0.out.cell 9
              go_simp
              clear hcell
              refine hK.out _ _ ⟨HB_0.out, HG_0.out⟩ (fun hHeld' => ?_)
              clear hK hHeld
              have hHeld := hHeld'
              clear hHeld'
              refine wpAnyH_ready (rs := [7]) (by kernel_rfl) (by simp) (AllReadyH.cons rfl (fun K' hK => ?_) AllReadyH.nil)
              go_simp
              have HB_201 : Hid (Below B0 w (World.drew (World.alloc wr (.cells #[.int .u32 (a0 : Int), .int .u8 (a1 : Int)] 79)))) := ballocB HB_0.out (Nat.le_trans HLO.out.1 HB_0.out.size) _
              have HG_201 : Hid (Blk (World.drew (World.alloc wr (.cells #[.int .u32 (a0 : Int), .int .u8 (a1 : Int)] 79))) g1 46 #[.int .i64 kind, .int .u32 (fr : Int), .int .u32 (ab : Int), .int .u64 (ntp : Int), .int .u32 (ts : Int), .int .u32 (pk : Int), .int .u32 (oc : Int), .slice Ab nb cb, .slice Ap np cp, .slice Af nf cf, .int .i64 ex, .int .u32 (mt : Int), .slice As ns cs, .int .i64 ty, .int .i64 ct, .slice Ad nd cd]) := Blk.alloc HG_0.out _
              have HX_201 : Hid (Blk (World.drew (World.alloc wr (.cells #[.int .u32 (a0 : Int), .int .u8 (a1 : Int)] 79))) gx 40 #[.int .i64 kind, .int .u32 (fr : Int), .int .u32 (ab : Int), .int .u64 (ntp : Int), .int .u32 (ts : Int), .int .u32 (pk : Int), .int .u32 (oc : Int), .slice Bq nb dq, .slice Aq np cq, .slice Ao i co, .int .i64 ex, .int .u32 (mt : Int), .slice As ns cs, .int .i64 ty, .int .i64 ct, .slice Ad nd cd]) := Blk.alloc HX_0.out _
              have HZ_201 : Hid (Blk (World.drew (World.alloc wr (.cells #[.int .u32 (a0 : Int), .int .u8 (a1 : Int)] 79))) g2 40 #[.int .i64 0, .int .u32 0, .int .u32 0, .int .u64 0, .int .u32 0, .int .u32 0, .int .u32 0, .slice none 0 0, .slice none 0 0, .slice none 0 0, .int .i64 0, .int .u32 0, .slice none 0 0, .int .i64 0, .int .i64 0, .slice none 0 0]) := Blk.alloc HZ_0.out _
              have HP_201 : Hid (World.ownsRow (World.drew (World.alloc wr (.cells #[.int .u32 (a0 : Int), .int .u8 (a1 : Int)] 79))) B1 58 2 (.slice Aq np cq) np (rowC ksP pairs)) := HP_0.out.alloc _
              have HO_201 : Hid (World.ownsRow (World.drew (World.alloc wr (.cells #[.int .u32 (a0 : Int), .int .u8 (a1 : Int)] 79))) B1 79 2 (.slice Ao i co) i (rowC ksF (firs.take i))) := HO_0.out.alloc _
              have HN_201 : Hid (Reads (World.drew (World.alloc wr (.cells #[.int .u32 (a0 : Int), .int .u8 (a1 : Int)] 79))) (World.heap (World.drew (World.alloc wr (.cells #[.int .u32 (a0 : Int), .int .u8 (a1 : Int)] 79)))).size 2 (some ⟨(World.heap (World.drew wr)).size, 0, none⟩) 1 [numV .u32 a0, numV .u8 a1]) := reads_blk (Blk.newAt rfl _ _) rfl
              have HS_201 : Hid (B1 ≤ (World.heap (World.drew (World.alloc wr (.cells #[.int .u32 (a0 : Int), .int .u8 (a1 : Int)] 79)))).size) := by have := HLO.out; have := HX_0.out.lt; have := (Blk.alloc HX_0.out (.cells #[.int .u32 (a0 : Int), .int .u8 (a1 : Int)] 79)).lt; show _ ≤ _; exact Nat.le_of_lt (Nat.lt_of_le_of_lt (by omega) HX_201.out.lt)
              have HQ_201 : Hid (World.ownsRow (World.drew (World.alloc wr (.cells #[.int .u32 (a0 : Int), .int .u8 (a1 : Int)] 79))) B1 77 7 (.slice Bq nb dq) nb (rowC ks7 blocks)) := HQ_0.out.alloc _
              refine hK.out _ _ ⟨HB_201.out, HG_201.out⟩ (fun hHeld' => ?_)
              clear hK hHeld
              have hHeld := hHeld'
              clear hHeld'
              refine wpAnyH_ready (rs := [8]) (by kernel_rfl) (by simp) (AllReadyH.cons rfl (fun K' hK => ?_) AllReadyH.nil)
              refine step_append_any _ (by rfl) (.tmp 61) (.tmp 67) _ (by rfl) B1 79 iF _ 2 8 Try.underlying37 hiF hzaF hzbF hzcF rfl (by omega) (.slice Ao i co) i (rowC ksF (firs.take i)) (by rfl) HO_201.out
                _ (some ⟨(World.heap (World.drew wr)).size, 0, none⟩) 1 1 [numV .u32 a0, numV .u8 a1] (by rfl) HN_201.out (by simp [numV, Value.oneCell']) (by simp only [maxLen]; omega) (by omega) HS_201.out ?_
              intro v_202 w_202 hown_202 hg_202 hv_202
              obtain ⟨A_202, c_202, rfl⟩ := own_slice hown_202
              have hsv_202 : Sv (fun j => (Value.slice Ao i co).ownBlock = some j) (World.drew (World.alloc wr (.cells #[.int .u32 (a0 : Int), .int .u8 (a1 : Int)] 79))) w_202 := (Sv.refl _ _).grown hg_202 (fun g e => .inl e)
              have HB_202 : Hid (Below B0 w w_202) := HB_201.out.trans (hsv_202.toBelow (fun j e => by have := (HO_201.out.lt j e).1; have := HLO.out; omega) (Nat.le_trans HLO.out.1 HB_201.out.size))
              have HG_202 : Hid (Blk w_202 g1 46 #[.int .i64 kind, .int .u32 (fr : Int), .int .u32 (ab : Int), .int .u64 (ntp : Int), .int .u32 (ts : Int), .int .u32 (pk : Int), .int .u32 (oc : Int), .slice Ab nb cb, .slice Ap np cp, .slice Af nf cf, .int .i64 ex, .int .u32 (mt : Int), .slice As ns cs, .int .i64 ty, .int .i64 ct, .slice Ad nd cd]) := Blk.grown HG_201.out hg_202 (Ne.symm (own_blk_ne HO_201.out HG_201.out (by decide)))
              have HX_202 : Hid (Blk w_202 gx 40 #[.int .i64 kind, .int .u32 (fr : Int), .int .u32 (ab : Int), .int .u64 (ntp : Int), .int .u32 (ts : Int), .int .u32 (pk : Int), .int .u32 (oc : Int), .slice Bq nb dq, .slice Aq np cq, .slice Ao i co, .int .i64 ex, .int .u32 (mt : Int), .slice As ns cs, .int .i64 ty, .int .i64 ct, .slice Ad nd cd]) := Blk.grown HX_201.out hg_202 (Ne.symm (own_blk_ne HO_201.out HX_201.out (by decide)))
              have HZ_202 : Hid (Blk w_202 g2 40 #[.int .i64 0, .int .u32 0, .int .u32 0, .int .u64 0, .int .u32 0, .int .u32 0, .int .u32 0, .slice none 0 0, .slice none 0 0, .slice none 0 0, .int .i64 0, .int .u32 0, .slice none 0 0, .int .i64 0, .int .i64 0, .slice none 0 0]) := Blk.grown HZ_201.out hg_202 (Ne.symm (own_blk_ne HO_201.out HZ_201.out (by decide)))
              have HP_202 : Hid (World.ownsRow w_202 B1 58 2 (.slice Aq np cq) np (rowC ksP pairs)) := own_grown_far HP_201.out HO_201.out (by decide) hg_202
              have HO_202 := Lib.hid hown_202
              have HQ_202 : Hid (World.ownsRow w_202 B1 77 7 (.slice Bq nb dq) nb (rowC ks7 blocks)) := own_grown_far HQ_201.out HO_201.out (by decide) hg_202
              clear hown_202 hg_202 hv_202 hsv_202
              refine hK.out _ _ ⟨HB_202.out, HG_202.out⟩ (fun hHeld' => ?_)
              clear hK hHeld
              have hHeld := hHeld'
              clear hHeld'
              refine wpAnyH_putAt rfl ?_
              simp only [List.set_cons_zero, List.set_cons_succ]
              refine wpAnyH_takeAt (i := 9) (v := (.pointer (some ⟨gx, 9, none⟩))) rfl (by kernel_rfl) (by kernel_rfl) (by kernel_rfl) (fun _ _ _ h => h) rfl (Or.inl ⟨by rfl, fun w' hS => ?_⟩) hHeld ?_
              · go_simp
              simp only [List.set_cons_zero, List.set_cons_succ]
              refine wpAnyH_ready (rs := [10]) (by kernel_rfl) (by simp) (AllReadyH.cons rfl (fun K' hK => ?_) AllReadyH.nil)
              have hcell : w_202.cell? ⟨gx, 9, none⟩ = some (.slice Ao i co) := HX_202.out.cell 9
              have hfree : w_202.frozen? ⟨gx, 9, none⟩ = false := HX_202.out.frozen 9
              go_simp
              clear hcell hfree
              have HB_203 : Hid (Below B0 w (World.setCell w_202 ⟨gx, 9, none⟩ (.slice A_202 (i + 1) c_202))) := HB_202.out.setCell (p := ⟨gx, 9, none⟩) (by have := HLO.out; show _ ≤ gx; omega) _
              have HG_203 : Hid (Blk (World.setCell w_202 ⟨gx, 9, none⟩ (.slice A_202 (i + 1) c_202)) g1 46 #[.int .i64 kind, .int .u32 (fr : Int), .int .u32 (ab : Int), .int .u64 (ntp : Int), .int .u32 (ts : Int), .int .u32 (pk : Int), .int .u32 (oc : Int), .slice Ab nb cb, .slice Ap np cp, .slice Af nf cf, .int .i64 ex, .int .u32 (mt : Int), .slice As ns cs, .int .i64 ty, .int .i64 ct, .slice Ad nd cd]) := HG_202.out.far (p := ⟨gx, 9, none⟩) (by have := HLO.out; show g1 ≠ gx; omega) _
              have HX_203 : Hid (Blk (World.setCell w_202 ⟨gx, 9, none⟩ (.slice A_202 (i + 1) c_202)) gx 40 #[.int .i64 kind, .int .u32 (fr : Int), .int .u32 (ab : Int), .int .u64 (ntp : Int), .int .u32 (ts : Int), .int .u32 (pk : Int), .int .u32 (oc : Int), .slice Bq nb dq, .slice Aq np cq, .slice A_202 (i + 1) c_202, .int .i64 ex, .int .u32 (mt : Int), .slice As ns cs, .int .i64 ty, .int .i64 ct, .slice Ad nd cd]) := HX_202.out.set_ 9 _
              have HZ_203 : Hid (Blk (World.setCell w_202 ⟨gx, 9, none⟩ (.slice A_202 (i + 1) c_202)) g2 40 #[.int .i64 0, .int .u32 0, .int .u32 0, .int .u64 0, .int .u32 0, .int .u32 0, .int .u32 0, .slice none 0 0, .slice none 0 0, .slice none 0 0, .int .i64 0, .int .u32 0, .slice none 0 0, .int .i64 0, .int .i64 0, .slice none 0 0]) := HZ_202.out.far (p := ⟨gx, 9, none⟩) (by have := HLO.out; show g2 ≠ gx; omega) _
              have HP_203 : Hid (World.ownsRow (World.setCell w_202 ⟨gx, 9, none⟩ (.slice A_202 (i + 1) c_202)) B1 58 2 (.slice Aq np cq) np (rowC ksP pairs)) := own_set HP_202.out (own_blk_ne HP_202.out HX_202.out (by decide)) 9 _
              have HO_203 : Hid (World.ownsRow (World.setCell w_202 ⟨gx, 9, none⟩ (.slice A_202 (i + 1) c_202)) B1 79 2 (.slice A_202 (i + 1) c_202) (i + 1) (rowC ksF (firs.take (i + 1)))) := by
                show World.ownsRow _ _ _ _ _ _ _
                rw [HTK.out]
                exact own_set HO_202.out (own_blk_ne HO_202.out HX_202.out (by decide)) 9 _
              have HQ_203 : Hid (World.ownsRow (World.setCell w_202 ⟨gx, 9, none⟩ (.slice A_202 (i + 1) c_202)) B1 77 7 (.slice Bq nb dq) nb (rowC ks7 blocks)) := own_set HQ_202.out (own_blk_ne HQ_202.out HX_202.out (by decide)) 9 _
              refine hK.out _ _ ⟨HB_203.out, HG_203.out⟩ (fun hHeld' => ?_)
              clear hK hHeld
              have hHeld := hHeld'
              clear hHeld'
              refine wpAnyH_done (by kernel_rfl) ?_ _
              generalize (World.setCell w_202 ⟨gx, 9, none⟩ (.slice A_202 (i + 1) c_202)) = wf at *
              go_wp2_with fail
              go_roundg (nf - (i + 1))
              case measure => have := HLT2.out; have := HGG.out; omega
              case rel =>
                have hlt := HLT2.out
                exact ⟨i + 1, A_202, c_202, rfl, by omega, by first | rfl | go_num, HB_203.out, HG_203.out, HZ_203.out, HX_203.out, HP_203.out, HQ_203.out, HO_203.out⟩
            · go_simp
              have HB_204 : Hid (Below B0 w (World.drew (World.alloc wr (.cells #[.int .u32 (a0 : Int), .int .u8 (a1 : Int)] 79)))) := ballocB HB_0.out (Nat.le_trans HLO.out.1 HB_0.out.size) _
              have HG_204 : Hid (Blk (World.drew (World.alloc wr (.cells #[.int .u32 (a0 : Int), .int .u8 (a1 : Int)] 79))) g1 46 #[.int .i64 kind, .int .u32 (fr : Int), .int .u32 (ab : Int), .int .u64 (ntp : Int), .int .u32 (ts : Int), .int .u32 (pk : Int), .int .u32 (oc : Int), .slice Ab nb cb, .slice Ap np cp, .slice Af nf cf, .int .i64 ex, .int .u32 (mt : Int), .slice As ns cs, .int .i64 ty, .int .i64 ct, .slice Ad nd cd]) := Blk.alloc HG_0.out _
              have HX_204 : Hid (Blk (World.drew (World.alloc wr (.cells #[.int .u32 (a0 : Int), .int .u8 (a1 : Int)] 79))) gx 40 #[.int .i64 kind, .int .u32 (fr : Int), .int .u32 (ab : Int), .int .u64 (ntp : Int), .int .u32 (ts : Int), .int .u32 (pk : Int), .int .u32 (oc : Int), .slice Bq nb dq, .slice Aq np cq, .slice Ao i co, .int .i64 ex, .int .u32 (mt : Int), .slice As ns cs, .int .i64 ty, .int .i64 ct, .slice Ad nd cd]) := Blk.alloc HX_0.out _
              have HZ_204 : Hid (Blk (World.drew (World.alloc wr (.cells #[.int .u32 (a0 : Int), .int .u8 (a1 : Int)] 79))) g2 40 #[.int .i64 0, .int .u32 0, .int .u32 0, .int .u64 0, .int .u32 0, .int .u32 0, .int .u32 0, .slice none 0 0, .slice none 0 0, .slice none 0 0, .int .i64 0, .int .u32 0, .slice none 0 0, .int .i64 0, .int .i64 0, .slice none 0 0]) := Blk.alloc HZ_0.out _
              have HP_204 : Hid (World.ownsRow (World.drew (World.alloc wr (.cells #[.int .u32 (a0 : Int), .int .u8 (a1 : Int)] 79))) B1 58 2 (.slice Aq np cq) np (rowC ksP pairs)) := HP_0.out.alloc _
              have HO_204 : Hid (World.ownsRow (World.drew (World.alloc wr (.cells #[.int .u32 (a0 : Int), .int .u8 (a1 : Int)] 79))) B1 79 2 (.slice Ao i co) i (rowC ksF (firs.take i))) := HO_0.out.alloc _
              have HN_204 : Hid (Reads (World.drew (World.alloc wr (.cells #[.int .u32 (a0 : Int), .int .u8 (a1 : Int)] 79))) (World.heap (World.drew (World.alloc wr (.cells #[.int .u32 (a0 : Int), .int .u8 (a1 : Int)] 79)))).size 2 (some ⟨(World.heap (World.drew wr)).size, 0, none⟩) 1 [numV .u32 a0, numV .u8 a1]) := reads_blk (Blk.newAt rfl _ _) rfl
              have HS_204 : Hid (B1 ≤ (World.heap (World.drew (World.alloc wr (.cells #[.int .u32 (a0 : Int), .int .u8 (a1 : Int)] 79)))).size) := by have := HLO.out; have := HX_0.out.lt; have := (Blk.alloc HX_0.out (.cells #[.int .u32 (a0 : Int), .int .u8 (a1 : Int)] 79)).lt; show _ ≤ _; exact Nat.le_of_lt (Nat.lt_of_le_of_lt (by omega) HX_204.out.lt)
              have HQ_204 : Hid (World.ownsRow (World.drew (World.alloc wr (.cells #[.int .u32 (a0 : Int), .int .u8 (a1 : Int)] 79))) B1 77 7 (.slice Bq nb dq) nb (rowC ks7 blocks)) := HQ_0.out.alloc _
              refine hK.out _ _ ⟨HB_204.out, HG_204.out⟩ (fun hHeld' => ?_)
              clear hK hHeld
              have hHeld := hHeld'
              clear hHeld'
              refine wpAnyH_ready (rs := [1]) (by kernel_rfl) (by simp) (AllReadyH.cons rfl (fun K' hK => ?_) AllReadyH.nil)
              have hcell : (World.drew (World.alloc wr (.cells #[.int .u32 (a0 : Int), .int .u8 (a1 : Int)] 79))).cell? ⟨gx, 9, none⟩ = some (.slice Ao i co) := HX_204.out.cell 9
              go_simp
              clear hcell
              refine hK.out _ _ ⟨HB_204.out, HG_204.out⟩ (fun hHeld' => ?_)
              clear hK hHeld
              have hHeld := hHeld'
              clear hHeld'
              refine wpAnyH_ready (rs := [8]) (by kernel_rfl) (by simp) (AllReadyH.cons rfl (fun K' hK => ?_) AllReadyH.nil)
              refine step_append_any _ (by rfl) (.tmp 61) (.tmp 67) _ (by rfl) B1 79 iF _ 2 8 Try.underlying37 hiF hzaF hzbF hzcF rfl (by omega) (.slice Ao i co) i (rowC ksF (firs.take i)) (by rfl) HO_204.out
                _ (some ⟨(World.heap (World.drew wr)).size, 0, none⟩) 1 1 [numV .u32 a0, numV .u8 a1] (by rfl) HN_204.out (by simp [numV, Value.oneCell']) (by simp only [maxLen]; omega) (by omega) HS_204.out ?_
              intro v_205 w_205 hown_205 hg_205 hv_205
              obtain ⟨A_205, c_205, rfl⟩ := own_slice hown_205
              have hsv_205 : Sv (fun j => (Value.slice Ao i co).ownBlock = some j) (World.drew (World.alloc wr (.cells #[.int .u32 (a0 : Int), .int .u8 (a1 : Int)] 79))) w_205 := (Sv.refl _ _).grown hg_205 (fun g e => .inl e)
              have HB_205 : Hid (Below B0 w w_205) := HB_204.out.trans (hsv_205.toBelow (fun j e => by have := (HO_204.out.lt j e).1; have := HLO.out; omega) (Nat.le_trans HLO.out.1 HB_204.out.size))
              have HG_205 : Hid (Blk w_205 g1 46 #[.int .i64 kind, .int .u32 (fr : Int), .int .u32 (ab : Int), .int .u64 (ntp : Int), .int .u32 (ts : Int), .int .u32 (pk : Int), .int .u32 (oc : Int), .slice Ab nb cb, .slice Ap np cp, .slice Af nf cf, .int .i64 ex, .int .u32 (mt : Int), .slice As ns cs, .int .i64 ty, .int .i64 ct, .slice Ad nd cd]) := Blk.grown HG_204.out hg_205 (Ne.symm (own_blk_ne HO_204.out HG_204.out (by decide)))
              have HX_205 : Hid (Blk w_205 gx 40 #[.int .i64 kind, .int .u32 (fr : Int), .int .u32 (ab : Int), .int .u64 (ntp : Int), .int .u32 (ts : Int), .int .u32 (pk : Int), .int .u32 (oc : Int), .slice Bq nb dq, .slice Aq np cq, .slice Ao i co, .int .i64 ex, .int .u32 (mt : Int), .slice As ns cs, .int .i64 ty, .int .i64 ct, .slice Ad nd cd]) := Blk.grown HX_204.out hg_205 (Ne.symm (own_blk_ne HO_204.out HX_204.out (by decide)))
              have HZ_205 : Hid (Blk w_205 g2 40 #[.int .i64 0, .int .u32 0, .int .u32 0, .int .u64 0, .int .u32 0, .int .u32 0, .int .u32 0, .slice none 0 0, .slice none 0 0, .slice none 0 0, .int .i64 0, .int .u32 0, .slice none 0 0, .int .i64 0, .int .i64 0, .slice none 0 0]) := Blk.grown HZ_204.out hg_205 (Ne.symm (own_blk_ne HO_204.out HZ_204.out (by decide)))
              have HP_205 : Hid (World.ownsRow w_205 B1 58 2 (.slice Aq np cq) np (rowC ksP pairs)) := own_grown_far HP_204.out HO_204.out (by decide) hg_205
              have HO_205 := Lib.hid hown_205
              have HQ_205 : Hid (World.ownsRow w_205 B1 77 7 (.slice Bq nb dq) nb (rowC ks7 blocks)) := own_grown_far HQ_204.out HO_204.out (by decide) hg_205
              clear hown_205 hg_205 hv_205 hsv_205
              refine hK.out _ _ ⟨HB_205.out, HG_205.out⟩ (fun hHeld' => ?_)
              clear hK hHeld
              have hHeld := hHeld'
              clear hHeld'
              refine wpAnyH_putAt rfl ?_
              simp only [List.set_cons_zero, List.set_cons_succ]
              refine wpAnyH_takeAt (i := 9) (v := (.pointer (some ⟨gx, 9, none⟩))) rfl (by kernel_rfl) (by kernel_rfl) (by kernel_rfl) (fun _ _ _ h => h) rfl (Or.inl ⟨by rfl, fun w' hS => ?_⟩) hHeld ?_
              · go_simp
              simp only [List.set_cons_zero, List.set_cons_succ]
              refine wpAnyH_ready (rs := [10]) (by kernel_rfl) (by simp) (AllReadyH.cons rfl (fun K' hK => ?_) AllReadyH.nil)
              have hcell : w_205.cell? ⟨gx, 9, none⟩ = some (.slice Ao i co) := HX_205.out.cell 9
              have hfree : w_205.frozen? ⟨gx, 9, none⟩ = false := HX_205.out.frozen 9
              go_simp
              clear hcell hfree
              have HB_206 : Hid (Below B0 w (World.setCell w_205 ⟨gx, 9, none⟩ (.slice A_205 (i + 1) c_205))) := HB_205.out.setCell (p := ⟨gx, 9, none⟩) (by have := HLO.out; show _ ≤ gx; omega) _
              have HG_206 : Hid (Blk (World.setCell w_205 ⟨gx, 9, none⟩ (.slice A_205 (i + 1) c_205)) g1 46 #[.int .i64 kind, .int .u32 (fr : Int), .int .u32 (ab : Int), .int .u64 (ntp : Int), .int .u32 (ts : Int), .int .u32 (pk : Int), .int .u32 (oc : Int), .slice Ab nb cb, .slice Ap np cp, .slice Af nf cf, .int .i64 ex, .int .u32 (mt : Int), .slice As ns cs, .int .i64 ty, .int .i64 ct, .slice Ad nd cd]) := HG_205.out.far (p := ⟨gx, 9, none⟩) (by have := HLO.out; show g1 ≠ gx; omega) _
              have HX_206 : Hid (Blk (World.setCell w_205 ⟨gx, 9, none⟩ (.slice A_205 (i + 1) c_205)) gx 40 #[.int .i64 kind, .int .u32 (fr : Int), .int .u32 (ab : Int), .int .u64 (ntp : Int), .int .u32 (ts : Int), .int .u32 (pk : Int), .int .u32 (oc : Int), .slice Bq nb dq, .slice Aq np cq, .slice A_205 (i + 1) c_205, .int .i64 ex, .int .u32 (mt : Int), .slice As ns cs, .int .i64 ty, .int .i64 ct, .slice Ad nd cd]) := HX_205.out.set_ 9 _
              have HZ_206 : Hid (Blk (World.setCell w_205 ⟨gx, 9, none⟩ (.slice A_205 (i + 1) c_205)) g2 40 #[.int .i64 0, .int .u32 0, .int .u32 0, .int .u64 0, .int .u32 0, .int .u32 0, .int .u32 0, .slice none 0 0, .slice none 0 0, .slice none 0 0, .int .i64 0, .int .u32 0, .slice none 0 0, .int .i64 0, .int .i64 0, .slice none 0 0]) := HZ_205.out.far (p := ⟨gx, 9, none⟩) (by have := HLO.out; show g2 ≠ gx; omega) _
              have HP_206 : Hid (World.ownsRow (World.setCell w_205 ⟨gx, 9, none⟩ (.slice A_205 (i + 1) c_205)) B1 58 2 (.slice Aq np cq) np (rowC ksP pairs)) := own_set HP_205.out (own_blk_ne HP_205.out HX_205.out (by decide)) 9 _
              have HO_206 : Hid (World.ownsRow (World.setCell w_205 ⟨gx, 9, none⟩ (.slice A_205 (i + 1) c_205)) B1 79 2 (.slice A_205 (i + 1) c_205) (i + 1) (rowC ksF (firs.take (i + 1)))) := by
                show World.ownsRow _ _ _ _ _ _ _
                rw [HTK.out]
                exact own_set HO_205.out (own_blk_ne HO_205.out HX_205.out (by decide)) 9 _
              have HQ_206 : Hid (World.ownsRow (World.setCell w_205 ⟨gx, 9, none⟩ (.slice A_205 (i + 1) c_205)) B1 77 7 (.slice Bq nb dq) nb (rowC ks7 blocks)) := own_set HQ_205.out (own_blk_ne HQ_205.out HX_205.out (by decide)) 9 _
              refine hK.out _ _ ⟨HB_206.out, HG_206.out⟩ (fun hHeld' => ?_)
              clear hK hHeld
              have hHeld := hHeld'
              clear hHeld'
              refine wpAnyH_done (by kernel_rfl) ?_ _
              generalize (World.setCell w_205 ⟨gx, 9, none⟩ (.slice A_205 (i + 1) c_205)) = wf at *
              go_wp2_with fail
              go_roundg (nf - (i + 1))
              case measure => have := HLT2.out; have := HGG.out; omega
              case rel =>
                have hlt := HLT2.out
                exact ⟨i + 1, A_205, c_205, rfl, by omega, by first | rfl | go_num, HB_206.out, HG_206.out, HZ_206.out, HX_206.out, HP_206.out, HQ_206.out, HO_206.out⟩
          · have hini : ¬ (i : Int) < (nf : Int) := by omega
            have hie : nf = i := by omega
            subst hie
            have HT : Hid (firs.take nf = firs) := List.take_of_length_le (by have := HNf.out; omega)
            have HOE : Hid (World.ownsRow wr B1 79 2 (.slice Ao nf co) nf (rowC ksF firs)) := by
              have := HO.out
              rw [HT.out] at this
              exact this
            clear hin hi HO HT
            skip
            obtain ⟨R, hR⟩ : ∃ R, R = (#[.int .i64 kind, .int .u32 (fr : Int), .int .u32 (ab : Int), .int .u64 (ntp : Int), .int .u32 (ts : Int), .int .u32 (pk : Int), .int .u32 (oc : Int), .slice Bq nb dq, .slice Aq np cq, .slice Ao nf co, .int .i64 ex, .int .u32 (mt : Int), .slice As ns cs, .int .i64 ty, .int .i64 ct, .slice Ad nd cd] : Array Value).toList := ⟨_, rfl⟩
            have HRA : Hid (R.toArray = #[.int .i64 kind, .int .u32 (fr : Int), .int .u32 (ab : Int), .int .u64 (ntp : Int), .int .u32 (ts : Int), .int .u32 (pk : Int), .int .u32 (oc : Int), .slice Bq nb dq, .slice Aq np cq, .slice Ao nf co, .int .i64 ex, .int .u32 (mt : Int), .slice As ns cs, .int .i64 ty, .int .i64 ct, .slice Ad nd cd]) := by show _ = _; rw [hR]
            have HRL : Hid (R.length = 16) := by show _ = _; rw [hR]; rfl
            have HR1 : Hid (R.toArray.all (·.oneCell') = true) := by show _ = _; rw [hR]; simp [Value.oneCell']
            clear hR
            have HI : Hid ((Try.prog.info? 40).map (·.size) = some R.length) := by show _ = _; rw [HRL.out]; exact infoRef40
            have HJ : Hid ((Try.prog.info? 40).map (·.size) = some R.toArray.size) := by show _ = _; rw [List.size_toArray, HRL.out]; exact infoRef40
            have HXR : Hid (Blk wr gx 40 R.toArray) := by show Blk _ _ _ _; rw [HRA.out]; exact HX.out
            have HRG : Hid (wr.rangeAt gx 0 R) := blk_range HXR.out
            have HTH : Hid (wr.there g2 0 R.toArray.size) := by show World.there _ _ _ R.toArray.size; rw [List.size_toArray, HRL.out]; exact blk_there (l := (#[.int .i64 0, .int .u32 0, .int .u32 0, .int .u64 0, .int .u32 0, .int .u32 0, .int .u32 0, .slice none 0 0, .slice none 0 0, .slice none 0 0, .int .i64 0, .int .u32 0, .slice none 0 0, .int .i64 0, .int .i64 0, .slice none 0 0] : Array Value).toList) HZ.out rfl
            go_wp2_with (first
              | ((with_reducible show wpList _ _ _ (⟨some 70, .load 40 (.tmp 3), _, _, _, _⟩ :: _) _ _); refine wpList_load_mid rfl 40 (.tmp 3) rfl gx 0 rfl R _ HRG.out Try.underlying40 rfl HI.out ?_)
              | ((with_reducible show wpList _ _ _ (⟨none, .store 40 (.tmp 2) (.tmp 70), _, _, _, _⟩ :: _) _ _); refine wpList_store_mid rfl 40 (.tmp 2) (.tmp 70) rfl g2 0 R.toArray rfl rfl HTH.out HJ.out HR1.out ?_))
            have hst : Blk (wr.setCells g2 0 R) g2 40 R.toArray := blk_setAll (l := (#[.int .i64 0, .int .u32 0, .int .u32 0, .int .u64 0, .int .u32 0, .int .u32 0, .int .u32 0, .slice none 0 0, .slice none 0 0, .slice none 0 0, .int .i64 0, .int .u32 0, .slice none 0 0, .int .i64 0, .int .i64 0, .slice none 0 0] : Array Value).toList) HZ.out (by rw [HRL.out]; rfl)
            have hload := run_loadVar_mid (P := Try.prog) (wr.setCells g2 0 R) g2 0 40 R _ (blk_range hst) Try.underlying40 rfl HI.out
            have hbf : Below w.heap.size w (wr.setCells g2 0 R) := below_setCells (by rw [← HBE.out]; exact HB.out) (by have := HLO.out; have := HBE.out; omega) _ _
            refine bodyPost_ret (results_one rfl _ _ g2 _ rfl hload) rfl ⟨R.toArray, rfl, ?_, hbf⟩
            rw [HRA.out]
            exact ⟨.slice Bq nb dq, .slice Aq np cq, .slice Ao nf co, .slice As ns cs, .slice Ad nd cd, rfl,
              SlR.own (ks := ks7) (own_setAll (own_blk_ne HQ.out HZ.out (by decide)) _ _ _ HQ.out) HNb.out,
              SlR.own (ks := ksP) (own_setAll (own_blk_ne HP.out HZ.out (by decide)) _ _ _ HP.out) HNp.out,
              SlR.own (ks := ksF) (own_setAll (own_blk_ne HOE.out HZ.out (by decide)) _ _ _ HOE.out) HNf.out,
              Hs.out.below hbf, Hd.out.below hbf⟩
end Go.Proofs.Ytkfimncbfbbopaa
/- Reports one behind the other, and cut (plain). No program in sight. -/
set_option linter.unusedVariables false
namespace Go.Proofs.Ytkfimncbfbbopaa

/-- b begins with a whole report. -/
def okS (b : List UInt8) : Bool := decide (4 ≤ b.length) && (headB b && isB b) && decide (lenS b ≤ b.length) && (oneS b).2
theorem lenS_ge (b : List UInt8) : 4 ≤ lenS b := by unfold lenS; omega
theorem parN_ok {f : Nat} {b : List UInt8} {acc : List Rep} (h : okS b = true) : parN (f + 1) b acc = parN f (b.drop (lenS b)) (acc ++ [(oneS b).1]) := by
  unfold okS at h
  simp only [Bool.and_eq_true, decide_eq_true_eq] at h
  obtain ⟨⟨⟨h1, h2⟩, h3⟩, h4⟩ := h
  rw [parN, if_neg (by omega), if_neg (by omega), if_neg (by simp [h2]), if_neg (by omega), if_neg (by simp [h4])]
theorem parN_bad {f : Nat} {b : List UInt8} {acc : List Rep} (h : okS b = false) (hb : b.length ≠ 0) : (parN (f + 1) b acc).2 ≠ 0 ∧ (parN (f + 1) b acc).1 = [] := by
  rw [parN, if_neg hb]
  by_cases h1 : b.length < 4
  · rw [if_pos h1]; exact ⟨by decide, rfl⟩
  rw [if_neg h1]
  by_cases h2 : (headB b && isB b) = false
  · rw [if_pos h2]; exact ⟨by decide, rfl⟩
  rw [if_neg h2]
  by_cases h3 : b.length < lenS b
  · rw [if_pos h3]; exact ⟨by decide, rfl⟩
  rw [if_neg h3]
  by_cases h4 : (oneS b).2 = false
  · rw [if_pos h4]; exact ⟨by decide, rfl⟩
  exfalso
  unfold okS at h
  rw [decide_eq_true (by omega), decide_eq_true (by omega)] at h
  simp only [Bool.not_eq_false] at h2 h4
  rw [h2, h4] at h
  exact absurd h (by decide)
theorem getD_take {b : List UInt8} {i k : Nat} (h : i < k) : (b.take k).getD i 0 = b.getD i 0 := by
  simp [List.getD_eq_getElem?_getD, h]
theorem getD_of_take {b c : List UInt8} {n i : Nat} (h : c.take n = b.take n) (hi : i < n) : c.getD i 0 = b.getD i 0 := by
  rw [← getD_take (b := c) hi, h, getD_take hi]
theorem ok_same {b c : List UInt8} (h : okS b = true) (hc : c.take (lenS b) = b.take (lenS b)) (hl : lenS b ≤ c.length) : okS c = true ∧ lenS c = lenS b ∧ oneS c = oneS b := by
  have hg := lenS_ge b
  have e0 := getD_of_take (i := 0) hc (by omega)
  have e1 := getD_of_take (i := 1) hc (by omega)
  have e2 := getD_of_take (i := 2) hc (by omega)
  have e3 := getD_of_take (i := 3) hc (by omega)
  have hlen : lenS c = lenS b := by unfold lenS; rw [e2, e3]
  have hone : oneS c = oneS b := by unfold oneS; rw [hlen, e0, e1, hc]
  refine ⟨?_, hlen, hone⟩
  unfold okS at h ⊢
  simp only [Bool.and_eq_true, decide_eq_true_eq] at h ⊢
  obtain ⟨⟨⟨h1, h2⟩, h3⟩, h4⟩ := h
  refine ⟨⟨⟨by omega, ?_, ?_⟩, by omega⟩, by rw [hone]; exact h4⟩
  · have := h2.1
    unfold headB at this ⊢
    rw [e0]; exact this
  · have := h2.2
    unfold isB at this ⊢
    simp only [Bool.and_eq_true, decide_eq_true_eq] at this ⊢
    rw [e1]
    exact ⟨⟨by omega, this.1.2⟩, this.2⟩
theorem parN_fuel : ∀ (f g : Nat) (b : List UInt8) (acc : List Rep), b.length < f → b.length < g → parN f b acc = parN g b acc
  | 0, _, _, _, h, _ => absurd h (by omega)
  | _, 0, _, _, _, h => absurd h (by omega)
  | f + 1, g + 1, b, acc, h1, h2 => by
    by_cases h0 : b.length = 0
    · rw [parN, if_pos h0, parN, if_pos h0]
    by_cases hk : okS b = true
    · rw [parN_ok hk, parN_ok hk]
      have := lenS_ge b
      exact parN_fuel f g _ _ (by rw [List.length_drop]; omega) (by rw [List.length_drop]; omega)
    · rw [parN, parN, if_neg h0, if_neg h0]
      by_cases h1 : b.length < 4
      · rw [if_pos h1, if_pos h1]
      rw [if_neg h1, if_neg h1]
      by_cases h2 : (headB b && isB b) = false
      · rw [if_pos h2, if_pos h2]
      rw [if_neg h2, if_neg h2]
      by_cases h3 : b.length < lenS b
      · rw [if_pos h3, if_pos h3]
      rw [if_neg h3, if_neg h3]
      by_cases h4 : (oneS b).2 = false
      · rw [if_pos h4, if_pos h4]
      exfalso
      apply hk
      unfold okS
      simp only [Bool.not_eq_false] at h2 h4
      rw [decide_eq_true (by omega), decide_eq_true (by omega), h2, h4]
      rfl
theorem ok_le {b : List UInt8} (h : okS b = true) : lenS b ≤ b.length := by
  unfold okS at h
  simp only [Bool.and_eq_true, decide_eq_true_eq] at h
  exact h.1.2
theorem parN_join : ∀ (f : Nat) (a b : List UInt8) (acc l : List Rep) (g : Nat), a.length < f → parN f a acc = (l, 0) → a.length + b.length < g → parN g (a ++ b) acc = parN (b.length + 1) b l
  | 0, _, _, _, _, _, h, _, _ => absurd h (by omega)
  | f + 1, a, b, acc, l, g, hf, hp, hg => by
    by_cases h0 : a.length = 0
    · have ha : a = [] := List.eq_nil_of_length_eq_zero h0
      subst ha
      rw [parN, if_pos h0] at hp
      injection hp with hp _
      subst hp
      rw [List.nil_append]
      exact parN_fuel _ _ _ _ (by simpa using hg) (by omega)
    by_cases hk : okS a = true
    · rw [parN_ok hk] at hp
      have hge := lenS_ge a
      have hle := ok_le hk
      have htk : (a ++ b).take (lenS a) = a.take (lenS a) := List.take_append_of_le_length hle
      obtain ⟨k1, k2, k3⟩ := ok_same (c := a ++ b) hk htk (by rw [List.length_append]; omega)
      match g, hg with
      | g + 1, hg =>
        rw [parN_ok k1, k2, k3, List.drop_append_of_le_length hle]
        exact parN_join f _ b _ l g (by rw [List.length_drop]; omega) hp (by rw [List.length_drop]; omega)
    · have := (parN_bad (f := f) (acc := acc) (by simpa using hk) h0).1
      rw [hp] at this
      exact absurd rfl this
theorem parN_acc : ∀ (f : Nat) (b : List UInt8) (acc l : List Rep), (parN f b acc).2 = 0 → parN f b (l ++ acc) = (l ++ (parN f b acc).1, 0)
  | 0, _, _, _, _ => rfl
  | f + 1, b, acc, l, h => by
    by_cases h0 : b.length = 0
    · rw [parN, if_pos h0, parN, if_pos h0]
    by_cases hk : okS b = true
    · rw [parN_ok hk] at h ⊢
      rw [parN_ok hk, List.append_assoc]
      exact parN_acc f _ _ l h
    · exact absurd h (parN_bad (by simpa using hk) h0).1
theorem parN_cut : ∀ (f : Nat) (b : List UInt8) (acc l : List Rep) (g : Nat), b.length < f → b.length ≠ 0 → parN f b acc = (l, 0) → b.length - 1 < g → (parN g (b.take (b.length - 1)) acc).2 ≠ 0
  | 0, _, _, _, _, h, _, _, _ => absurd h (by omega)
  | f + 1, b, acc, l, g, hf, h0, hp, hg => by
    by_cases hk : okS b = true
    · rw [parN_ok hk] at hp
      have hge := lenS_ge b
      have hle := ok_le hk
      match g, hg with
      | g + 1, hg =>
        by_cases hn : lenS b = b.length
        · refine (parN_bad ?_ ?_).1
          · refine Bool.eq_false_iff.2 fun hc => ?_
            have hc1 := ok_le hc
            have hc2 := lenS_ge (b.take (b.length - 1))
            rw [List.length_take, Nat.min_eq_left (by omega)] at hc1
            have e2 : (b.take (b.length - 1)).getD 2 0 = b.getD 2 0 := getD_take (by omega)
            have e3 : (b.take (b.length - 1)).getD 3 0 = b.getD 3 0 := getD_take (by omega)
            have : lenS (b.take (b.length - 1)) = lenS b := by unfold lenS; rw [e2, e3]
            omega
          · rw [List.length_take]; omega
        · have htk : (b.take (b.length - 1)).take (lenS b) = b.take (lenS b) := by rw [List.take_take, Nat.min_eq_left (by omega)]
          obtain ⟨k1, k2, k3⟩ := ok_same (c := b.take (b.length - 1)) hk htk (by rw [List.length_take]; omega)
          rw [parN_ok k1, k2, k3, List.drop_take]
          have hl : b.length - 1 - lenS b = (b.drop (lenS b)).length - 1 := by rw [List.length_drop]; omega
          rw [hl]
          exact parN_cut f _ _ l g (by rw [List.length_drop]; omega) (by rw [List.length_drop]; omega) hp (by rw [List.length_drop]; omega)
    · have := (parN_bad (f := f) (acc := acc) (by simpa using hk) h0).1
      rw [hp] at this
      exact absurd rfl this
/-- Two datagrams that are read, one behind the other. -/
theorem parse_join {a b : List UInt8} (ha : (parseS a).2 = 0) (hb : (parseS b).2 = 0) (hl : a.length + b.length ≤ 1200) : parseS (a ++ b) = ((parseS a).1 ++ (parseS b).1, 0) ∧ (parseS (a ++ b.take (b.length - 1))).2 ≠ 0 ∧ b.length ≠ 0 := by
  have na : a.length ≠ 0 := fun h => by rw [parseS, if_neg (by omega), if_pos h] at ha; exact absurd ha (by decide)
  have nb : b.length ≠ 0 := fun h => by rw [parseS, if_neg (by omega), if_pos h] at hb; exact absurd hb (by decide)
  have ea : parseS a = parN (a.length + 1) a [] := by rw [parseS, if_neg (by omega), if_neg na]
  have eb : parseS b = parN (b.length + 1) b [] := by rw [parseS, if_neg (by omega), if_neg nb]
  rw [ea] at ha
  rw [eb] at hb
  have pa : parN (a.length + 1) a [] = ((parN (a.length + 1) a []).1, 0) := by rw [← ha]
  have pb : parN (b.length + 1) b [] = ((parN (b.length + 1) b []).1, 0) := by rw [← hb]
  refine ⟨?_, ?_, nb⟩
  · rw [parseS, if_neg (by rw [List.length_append]; omega), if_neg (by rw [List.length_append]; omega)]
    rw [parN_join _ a b [] _ _ (by omega) pa (by rw [List.length_append]; omega), ea, eb]
    have := parN_acc (b.length + 1) b [] (parN (a.length + 1) a []).1 hb
    rw [List.append_nil] at this
    exact this
  · have hle : (b.take (b.length - 1)).length ≤ b.length := by rw [List.length_take]; omega
    rw [parseS, if_neg (by rw [List.length_append]; omega), if_neg (by rw [List.length_append]; omega)]
    rw [parN_join _ a (b.take (b.length - 1)) [] _ _ (by omega) pa (by rw [List.length_append]; omega)]
    have h1 := parN_acc (b.length + 1) b [] (parN (a.length + 1) a []).1 hb
    rw [List.append_nil] at h1
    refine parN_cut (b.length + 1) b _ _ _ (by omega) nb h1 ?_
    rw [List.length_take]
    omega
theorem parse_len {b : List UInt8} : ∀ (f : Nat) (b : List UInt8) (acc : List Rep), (parN f b acc).1.length ≤ acc.length + b.length
  | 0, b, acc => by show acc.length ≤ _; omega
  | f + 1, b, acc => by
    by_cases h0 : b.length = 0
    · rw [parN, if_pos h0]; show acc.length ≤ _; omega
    by_cases hk : okS b = true
    · rw [parN_ok hk]
      have := parse_len (b := b) f (b.drop (lenS b)) (acc ++ [(oneS b).1])
      have hge := lenS_ge b
      rw [List.length_append, List.length_drop, List.length_singleton] at this
      omega
    · rw [(parN_bad (f := f) (acc := acc) (by simpa using hk) h0).2]
      exact Nat.zero_le _
end Go.Proofs.Ytkfimncbfbbopaa
/- Lists of reports in memory, element by element; what is read is small; what Parse returns under names. Conditions: as each says. -/
set_option linter.unusedVariables false
namespace Go.Proofs.Ytkfimncbfbbopaa
open Go.RowKit

/-- A report whose lists are short. -/
def Small (r : Rep) : Prop := r.blocks.length ≤ 31 ∧ r.pairs.length ≤ 1201 ∧ r.firs.length ≤ 1201 ∧ r.ssrcs.length ≤ 255
theorem doS_len (f : RS → List Nat × RS) : ∀ (n : Nat) (s : RS), (doS f n s).1.length ≤ n
  | 0, s => Nat.le_refl _
  | n + 1, s => by
    unfold doS
    have := doS_len f n (f s).2
    split <;> simp <;> omega
theorem itS_len (f : RS → List Nat × RS) : ∀ (n : Nat) (s : RS), (itS f n s).1.length ≤ n
  | 0, s => Nat.le_refl _
  | n + 1, s => by
    have := itS_len f n s
    simp [itS]
    omega
theorem report_small (t c : Nat) (b : List UInt8) (hc : c ≤ 31) (hb : b.length ≤ 1200) : Small (reportS t c b).1 := by
  have h4 := numS_len 4 (b, false)
  simp only at h4
  have hz : (0 : Nat) ≤ 31 ∧ (0 : Nat) ≤ 1201 ∧ (0 : Nat) ≤ 255 := by omega
  unfold reportS
  by_cases h7 : kindS t c b = 7
  · simp only [if_pos h7]; exact ⟨hz.1, hz.2.1, hz.2.1, hz.2.2⟩
  by_cases h1 : kindS t c b = 1
  · simp only [if_neg h7, if_pos h1]
    exact ⟨by show (blksS c _).1.length ≤ _; rw [blksS_len]; exact hc, hz.2.1, hz.2.1, hz.2.2⟩
  by_cases h2 : kindS t c b = 2
  · simp only [if_neg h7, if_neg h1, if_pos h2]
    exact ⟨by show (blksS c _).1.length ≤ _; rw [blksS_len]; exact hc, hz.2.1, hz.2.1, hz.2.2⟩
  by_cases h3 : kindS t c b = 3
  · simp only [if_neg h7, if_neg h1, if_neg h2, if_pos h3]
    exact ⟨hz.1, Nat.le_trans (doS_len pairS _ _) (by omega), hz.2.1, hz.2.2⟩
  by_cases h4' : kindS t c b = 4
  · simp only [if_neg h7, if_neg h1, if_neg h2, if_neg h3, if_pos h4']; exact ⟨hz.1, hz.2.1, hz.2.1, hz.2.2⟩
  by_cases h5 : kindS t c b = 5
  · simp only [if_neg h7, if_neg h1, if_neg h2, if_neg h3, if_neg h4', if_pos h5]
    exact ⟨hz.1, hz.2.1, Nat.le_trans (doS_len firS _ _) (by omega), hz.2.2⟩
  · simp only [if_neg h7, if_neg h1, if_neg h2, if_neg h3, if_neg h4', if_neg h5]
    refine ⟨hz.1, hz.2.1, hz.2.1, ?_⟩
    show (rembS _).2.1.length ≤ _
    unfold rembS
    refine Nat.le_trans (itS_len ssrcS _ _) ?_
    have := numS_lt 1 (numS 4 (numS 4 (numS 4 (b, false)).2).2).2 (by decide)
    omega
theorem one_small (b : List UInt8) (hb : b.length ≤ 1200) : Small (oneS b).1 := by
  unfold oneS
  refine report_small _ _ _ Nat.and_le_right ?_
  rw [List.length_drop, List.length_take]
  omega
theorem parN_small : ∀ (f : Nat) (b : List UInt8) (acc : List Rep), b.length ≤ 1200 → (∀ r ∈ acc, Small r) → ∀ r ∈ (parN f b acc).1, Small r
  | 0, b, acc, hb, ha => ha
  | f + 1, b, acc, hb, ha => by
    by_cases h0 : b.length = 0
    · rw [parN, if_pos h0]; exact ha
    by_cases hk : okS b = true
    · rw [parN_ok hk]
      refine parN_small f _ _ (by rw [List.length_drop]; omega) ?_
      intro r hr
      rcases List.mem_append.1 hr with h | h
      · exact ha r h
      · rw [List.mem_singleton] at h
        subst h
        exact one_small b hb
    · rw [(parN_bad (f := f) (acc := acc) (by simpa using hk) h0).2]
      intro r hr
      exact absurd hr (by simp)
theorem parse_small {b : List UInt8} {i : Nat} {r : Rep} (h : (parseS b).1[i]? = some r) : Small r := by
  have hm := List.mem_of_getElem? h
  unfold parseS at hm
  split at hm
  · simp at hm
  · split at hm
    · simp at hm
    · exact parN_small _ _ _ (by omega) (fun _ h => absurd h (by simp)) _ hm
theorem parse_count (b : List UInt8) : (parseS b).1.length ≤ 1200 := by
  unfold parseS
  split
  · simp
  · split
    · simp
    · have := parse_len (b := b) (b.length + 1) b []
      simp only [List.length_nil] at this
      omega
theorem cellsL_at : ∀ (css : List (Array Value)), (∀ c ∈ css, c.size = 16) → ∀ (i : Nat) (c : Array Value), css[i]? = some c → ∀ (j : Nat) (u : Value), c[j]? = some u → (cellsL css)[i * 16 + j]? = some u
  | [], _, i, c, h, _, _, _ => by simp at h
  | c0 :: css, hs, 0, c, h, j, u, hu => by
    simp at h
    subst h
    have hj : j < c0.toList.length := by
      rcases Nat.lt_or_ge j c0.toList.length with h | h
      · exact h
      · rw [← Array.getElem?_toList, List.getElem?_eq_none h] at hu; cases hu
    rw [Nat.zero_mul, Nat.zero_add]
    show (c0.toList ++ cellsL css)[j]? = some u
    rw [List.getElem?_append_left hj, Array.getElem?_toList]
    exact hu
  | c0 :: css, hs, i + 1, c, h, j, u, hu => by
    have h16 : c0.toList.length = 16 := by rw [Array.length_toList]; exact hs c0 (by simp)
    show (c0.toList ++ cellsL css)[(i + 1) * 16 + j]? = some u
    rw [List.getElem?_append_right (by omega), show (i + 1) * 16 + j - c0.toList.length = i * 16 + j by omega]
    exact cellsL_at css (fun c hc => hs c (by simp [hc])) i c (by simpa using h) j u hu
theorem RepV.size {w : World} {cs : Array Value} {r : Rep} (h : RepV w cs r) : cs.size = 16 := by
  obtain ⟨_, _, _, _, _, e, _⟩ := h
  rw [e]
  rfl
/-- A slice of reports that read as rs. -/
def RepsAt (w : World) (A : Option Addr) (n : Nat) (rs : List Rep) : Prop := ∃ css, Reads w w.heap.size 16 A n (cellsL css) ∧ RepsV w css rs
theorem RepsAt.below {w w' : World} {A : Option Addr} {n : Nat} {rs : List Rep} (h : RepsAt w A n rs) (hb : Below w.heap.size w w') : RepsAt w' A n rs := by
  obtain ⟨css, h1, h2⟩ := h
  exact ⟨css, (h1.below hb).more hb.size, h2.below hb⟩
theorem RepsV.all16 {w : World} {css : List (Array Value)} {rs : List Rep} (h : RepsV w css rs) : ∀ c ∈ css, c.size = 16 := by
  intro c hc
  obtain ⟨i, hi⟩ := List.getElem?_of_mem hc
  have hlt : i < css.length := by
    rcases Nat.lt_or_ge i css.length with h | h
    · exact h
    · rw [List.getElem?_eq_none h] at hi; cases hi
  exact (h.2 i c (rs[i]'(by rw [← h.1]; exact hlt)) hi (List.getElem?_eq_getElem _)).size
theorem cellsL_len : ∀ css : List (Array Value), (∀ c ∈ css, c.size = 16) → (cellsL css).length = css.length * 16
  | [], _ => rfl
  | c :: css, h => by
    show (c.toList ++ cellsL css).length = _
    rw [List.length_append, cellsL_len css (fun c hc => h c (by simp [hc])), Array.length_toList, h c (by simp), List.length_cons]
    omega
theorem RepsAt.at_ {w : World} {A : Option Addr} {n : Nat} {rs : List Rep} (h : RepsAt w A n rs) (hn : 0 < n) :
    ∃ g o, A = some ⟨g, o, none⟩ ∧ g < w.heap.size ∧ ∀ i r, rs[i]? = some r → ∃ cs : List Value, RepV w cs.toArray r ∧ cs.length = 16 ∧ w.rangeAt g (o + i * 16) cs := by
  obtain ⟨css, h1, h2⟩ := h
  obtain ⟨ad, rfl, hlt, hc⟩ := h1.2 hn
  have hl := h1.1
  have h16 := h2.all16
  have hlen := cellsL_len css h16
  have hc0 : (cellsL css)[0]? = some ((cellsL css)[0]'(by omega)) := List.getElem?_eq_getElem _
  obtain ⟨g, o, rfl⟩ := addr_plain (hc 0 _ hc0)
  refine ⟨g, o, rfl, hlt, fun i r hr => ?_⟩
  have hi : i < css.length := by
    rcases Nat.lt_or_ge i rs.length with h | h
    · rw [h2.1]; exact h
    · rw [List.getElem?_eq_none h] at hr; cases hr
  have hci : css[i]? = some (css[i]'hi) := List.getElem?_eq_getElem _
  have hv := h2.2 i _ r hci hr
  refine ⟨(css[i]'hi).toList, by rw [Array.toArray_toList]; exact hv, by rw [Array.length_toList]; exact hv.size, fun j u hu => ?_⟩
  have := hc (i * 16 + j) u (cellsL_at css h16 i _ hci j u (by rw [Array.getElem?_toList] at hu; exact hu))
  rw [Go.WideShapes.add_plain] at this
  rw [show o + i * 16 + j = o + (i * 16 + j) by omega]
  exact this
/-- What Parse returns, under names. -/
def ParZ (b : List UInt8) (z : Int) (n : Nat) (w : World) (e : Ending) (w' : World) : Prop := ∃ A c, e = .returned (.tuple #[.slice A n c, .int .i64 z]) ∧ RepsAt w' A n (parseS b).1 ∧ Below w.heap.size w w'
theorem parse_z {b : List UInt8} {A : Option Addr} {n cap : Nat} {w : World} {z : Int} {k : Nat} (h : SlV w (.slice A n cap) b) (hn2 : n < 9223372036854775808) (hz : z = (parseS b).2) (hk : k = (parseS b).1.length) :
    Calls Try.prog 10 #[.slice A n cap] w (ParZ b z k w) := by
  subst hz hk
  refine (parse_c b A n cap w h hn2).mono ?_
  rintro e w' ⟨A', n', c', css, he, rfl, hc, hr, hv, hb⟩
  exact ⟨A', c', he, ⟨css, hr, hv⟩, hb⟩
theorem below_range {w w' : World} {g o : Nat} {cs : List Value} {B : Nat} (h : w.rangeAt g o cs) (hb : Below B w w') (hg : g < B) : w'.rangeAt g o cs := fun j v hv => (hb.cell (p := ⟨g, o + j, none⟩) hg).trans (h j v hv)
end Go.Proofs.Ytkfimncbfbbopaa
/- Calls that tell yes or no. -/
set_option linter.unusedVariables false
namespace Go.Proofs.Ytkfimncbfbbopaa
open Go.RowKit

/-- A call that tells whether P holds. -/
def BoolIs (P : Prop) (w : World) (e : Ending) (w' : World) : Prop := ∃ q : Bool, e = .returned (.bool q) ∧ ((q = true) ↔ P) ∧ Below w.heap.size w w'
theorem BoolIs.yes {P : Prop} {w w' : World} (h : P) (hb : Below w.heap.size w w') : BoolIs P w (.returned (.bool true)) w' := ⟨true, rfl, ⟨fun _ => h, fun _ => rfl⟩, hb⟩
theorem BoolIs.no {P : Prop} {w w' : World} (h : ¬ P) (hb : Below w.heap.size w w') : BoolIs P w (.returned (.bool false)) w' := ⟨false, rfl, ⟨(fun e => by cases e), (fun p => absurd p h)⟩, hb⟩
/-- A call that tells a place, or less than nothing. -/
def IdxIs (P : Prop) (w : World) (e : Ending) (w' : World) : Prop := ∃ z : Int, e = .returned (.int .i64 z) ∧ ((0 ≤ z) ↔ P) ∧ Below w.heap.size w w'
end Go.Proofs.Ytkfimncbfbbopaa
