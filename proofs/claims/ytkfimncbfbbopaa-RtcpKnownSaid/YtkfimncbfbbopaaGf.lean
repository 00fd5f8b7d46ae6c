/- The reference's SameReport over two reports that read alike (contract). Conditions: the reports lie in memory. -/
import Derived.Test.YtkfimncbfbbopaaGe
import Derived.BigQuiet
set_option linter.unusedVariables false
set_option linter.unusedSimpArgs false
namespace Go.Proofs.Ytkfimncbfbbopaa
open Go.RowKit
attribute [local go_sem ↓] Go.wp_at_zero Go.wp_at_succ

theorem of1 {ks : List IntKind} {k0 : IntKind} (hk : ks = [k0]) {e : List Nat} (h : (List.zipWith numV ks e).length = ks.length) : ∃ a0 rr, e = a0 :: rr := by
  subst hk
  match e, h with
  | a0 :: r, _ => exact ⟨a0, r, rfl⟩
  | [], h => simp at h
theorem of2 {ks : List IntKind} {k0 k1 : IntKind} (hk : ks = [k0, k1]) {e : List Nat} (h : (List.zipWith numV ks e).length = ks.length) : ∃ a0 a1 rr, e = a0 :: a1 :: rr := by
  subst hk
  match e, h with
  | a0 :: a1 :: r, _ => exact ⟨a0, a1, r, rfl⟩
  | [], h => simp at h
  | [a0], h => simp at h
theorem of7 {ks : List IntKind} {k0 k1 k2 k3 k4 k5 k6 : IntKind} (hk : ks = [k0, k1, k2, k3, k4, k5, k6]) {e : List Nat} (h : (List.zipWith numV ks e).length = ks.length) : ∃ a0 a1 a2 a3 a4 a5 a6 rr, e = a0 :: a1 :: a2 :: a3 :: a4 :: a5 :: a6 :: rr := by
  subst hk
  match e, h with
  | a0 :: a1 :: a2 :: a3 :: a4 :: a5 :: a6 :: r, _ => exact ⟨a0, a1, a2, a3, a4, a5, a6, r, rfl⟩
  | [], h => simp at h
  | [a0], h => simp at h
  | [a0, a1], h => simp at h
  | [a0, a1, a2], h => simp at h
  | [a0, a1, a2, a3], h => simp at h
  | [a0, a1, a2, a3, a4], h => simp at h
  | [a0, a1, a2, a3, a4, a5], h => simp at h
set_option maxRecDepth 100000 in
set_option maxHeartbeats 12800000 in
theorem sameR_c (cs1 cs2 : Array Value) (r : Rep) (w : World) (h1 : RepV w cs1 r) (h2 : RepV w cs2 r) (hbl : r.blocks.length < 1000000) (hpl : r.pairs.length < 1000000) (hfl : r.firs.length < 1000000) (hsl : r.ssrcs.length < 1000000) :
    Calls Try.prog 14 #[.agg cs1, .agg cs2] w fun e w' => e = .returned (.bool true) ∧ Below w.heap.size w w' := by
  obtain ⟨vb1, vp1, vf1, vs1, vd1, e1, hb1, hp1, hf1, hs1, hd1⟩ := h1
  obtain ⟨vb2, vp2, vf2, vs2, vd2, e2, hb2, hp2, hf2, hs2, hd2⟩ := h2
  subst e1 e2
  obtain ⟨Ab1, cb1, eb1, _, _⟩ := id hb1
  subst eb1
  obtain ⟨Ap1, cp1, ep1, _, _⟩ := id hp1
  subst ep1
  obtain ⟨Af1, cf1, ef1, _, _⟩ := id hf1
  subst ef1
  obtain ⟨As1, cs1, es1, _, _⟩ := id hs1
  subst es1
  obtain ⟨Ad1, cd1, ed1, _, _⟩ := id hd1
  subst ed1
  obtain ⟨Ab2, cb2, eb2, _, _⟩ := id hb2
  subst eb2
  obtain ⟨Ap2, cp2, ep2, _, _⟩ := id hp2
  subst ep2
  obtain ⟨Af2, cf2, ef2, _, _⟩ := id hf2
  subst ef2
  obtain ⟨As2, cs2, es2, _, _⟩ := id hs2
  subst es2
  obtain ⟨Ad2, cd2, ed2, _, _⟩ := id hd2
  subst ed2
  obtain ⟨kind, fr, ab, ntp, ts, pk, oc, blocks, pairs, firs, ex, mt, ssrcs, ty, ct, body⟩ := r
  obtain ⟨nb, hnb⟩ : ∃ nb, nb = blocks.length := ⟨_, rfl⟩
  obtain ⟨np, hnp⟩ : ∃ np, np = pairs.length := ⟨_, rfl⟩
  obtain ⟨nf, hnf⟩ : ∃ nf, nf = firs.length := ⟨_, rfl⟩
  obtain ⟨ns, hns⟩ : ∃ ns, ns = ssrcs.length := ⟨_, rfl⟩
  obtain ⟨nd, hnd⟩ : ∃ nd, nd = body.length := ⟨_, rfl⟩
  simp only at *
  rw [← hnb] at hb1 hb2 hbl
  rw [← hnp] at hp1 hp2 hpl
  rw [← hnf] at hf1 hf2 hfl
  rw [← hns] at hs1 hs2 hsl
  rw [← hnd] at hd1 hd2
  simp only [repA, ← hnb, ← hnp, ← hnf, ← hns, ← hnd]
  have Hb1 := Lib.hid hb1
  have Hb2 := Lib.hid hb2
  have Hp1 := Lib.hid hp1
  have Hp2 := Lib.hid hp2
  have Hf1 := Lib.hid hf1
  have Hf2 := Lib.hid hf2
  have Hs1 := Lib.hid hs1
  have Hs2 := Lib.hid hs2
  have Hd1 := Lib.hid hd1
  have Hd2 := Lib.hid hd2
  clear hb1 hb2 hp1 hp2 hf1 hf2 hs1 hs2 hd1 hd2 hnb hnp hnf hns hnd
  go_enter Try.func14, Try.ntmps14
  go_upto_region 3 with (first
    | (go_at_call 24
       refine (same_s (r := true) (by simp) (Hd1.out.below (balloc (balloc (Below.refl _ _) _) _)) (Hd2.out.below (balloc (balloc (Below.refl _ _) _) _))).mono ?_
       rintro e9 w9 ⟨rfl, rfl⟩))
  go_upto_region 6 with fail
  obtain ⟨w1, hw1⟩ : ∃ w1, w1 = ((w.alloc (.cells #[.int .i64 kind, .int .u32 (fr : Int), .int .u32 (ab : Int), .int .u64 (ntp : Int), .int .u32 (ts : Int), .int .u32 (pk : Int), .int .u32 (oc : Int), .slice Ab1 nb cb1, .slice Ap1 np cp1, .slice Af1 nf cf1, .int .i64 ex, .int .u32 (mt : Int), .slice As1 ns cs1, .int .i64 ty, .int .i64 ct, .slice Ad1 nd cd1] 40)).alloc (.cells #[.int .i64 kind, .int .u32 (fr : Int), .int .u32 (ab : Int), .int .u64 (ntp : Int), .int .u32 (ts : Int), .int .u32 (pk : Int), .int .u32 (oc : Int), .slice Ab2 nb cb2, .slice Ap2 np cp2, .slice Af2 nf cf2, .int .i64 ex, .int .u32 (mt : Int), .slice As2 ns cs2, .int .i64 ty, .int .i64 ct, .slice Ad2 nd cd2] 40)) := ⟨_, rfl⟩
  obtain ⟨g2, hg2⟩ : ∃ g2, g2 = w.heap.size := ⟨_, rfl⟩
  obtain ⟨g3, hg3⟩ : ∃ g3, g3 = w.heap.size + 1 := ⟨_, rfl⟩
  have HX2 : Hid (Blk w1 g2 40 #[.int .i64 kind, .int .u32 (fr : Int), .int .u32 (ab : Int), .int .u64 (ntp : Int), .int .u32 (ts : Int), .int .u32 (pk : Int), .int .u32 (oc : Int), .slice Ab1 nb cb1, .slice Ap1 np cp1, .slice Af1 nf cf1, .int .i64 ex, .int .u32 (mt : Int), .slice As1 ns cs1, .int .i64 ty, .int .i64 ct, .slice Ad1 nd cd1]) := by rw [hw1]; exact Blk.alloc (Blk.newAt hg2 _ _) _
  have HX3 : Hid (Blk w1 g3 40 #[.int .i64 kind, .int .u32 (fr : Int), .int .u32 (ab : Int), .int .u64 (ntp : Int), .int .u32 (ts : Int), .int .u32 (pk : Int), .int .u32 (oc : Int), .slice Ab2 nb cb2, .slice Ap2 np cp2, .slice Af2 nf cf2, .int .i64 ex, .int .u32 (mt : Int), .slice As2 ns cs2, .int .i64 ty, .int .i64 ct, .slice Ad2 nd cd2]) := by rw [hw1]; exact Blk.newAt (by simp; exact hg3) _ _
  have HB1 : Hid (Below w.heap.size w w1) := by rw [hw1]; exact balloc (balloc (Below.refl _ _) _) _
  change Code.wp _ _ _ _ ((w.alloc (.cells #[.int .i64 kind, .int .u32 (fr : Int), .int .u32 (ab : Int), .int .u64 (ntp : Int), .int .u32 (ts : Int), .int .u32 (pk : Int), .int .u32 (oc : Int), .slice Ab1 nb cb1, .slice Ap1 np cp1, .slice Af1 nf cf1, .int .i64 ex, .int .u32 (mt : Int), .slice As1 ns cs1, .int .i64 ty, .int .i64 ct, .slice Ad1 nd cd1] 40)).alloc (.cells #[.int .i64 kind, .int .u32 (fr : Int), .int .u32 (ab : Int), .int .u64 (ntp : Int), .int .u32 (ts : Int), .int .u32 (pk : Int), .int .u32 (oc : Int), .slice Ab2 nb cb2, .slice Ap2 np cp2, .slice Af2 nf cf2, .int .i64 ex, .int .u32 (mt : Int), .slice As2 ns cs2, .int .i64 ty, .int .i64 ct, .slice Ad2 nd cd2] 40))
  rw [← hw1, ← hg3, ← hg2]
  clear hw1 hg2 hg3
  go_loopg [5] nb (fun gg v wx => ∃ i : Nat, gg = nb - i ∧ i ≤ nb ∧ v = .int .i64 (i : Int) ∧ Below w1.heap.size w1 wx)
  case atStart => exact ⟨0, by omega, by omega, rfl, Below.refl _ _⟩
  case round =>
    obtain ⟨i, hgg, hi, rfl, hb⟩ := hrel
    have HBW0 := Lib.hid hb
    have HG := Lib.hid hgg
    have k1 : wr.cell? ⟨g2, 7, none⟩ = some (.slice Ab1 nb cb1) := (HBW0.out.cell (p := ⟨g2, 7, none⟩) HX2.out.lt).trans (HX2.out.cell 7)
    have k2 : wr.cell? ⟨g3, 7, none⟩ = some (.slice Ab2 nb cb2) := (HBW0.out.cell (p := ⟨g3, 7, none⟩) HX3.out.lt).trans (HX3.out.cell 7)
    clear hgg hb
    by_cases hin : i < nb
    · have hini : (i : Int) < (nb : Int) := by omega
      have hw1 : IntKind.i64.wrap ((i : Int) + 1) = ((i + 1 : Nat) : Int) := by rw [IntKind.wrap_i64]; omega
      obtain ⟨hz, ga, oa, hA, hga, hca⟩ := SlR.cells Hb1.out (by omega) (by decide)
      obtain ⟨hz2, gb, ob, hA2, hgb, hcb⟩ := SlR.cells Hb2.out (by omega) (by decide)
      subst hA hA2
      obtain ⟨e, hei⟩ : ∃ e, blocks[i]? = some e := ⟨_, List.getElem?_eq_getElem (by omega)⟩
      obtain ⟨hel, hcca⟩ := hca i e hei
      obtain ⟨hel2, hccb⟩ := hcb i e hei
      obtain ⟨a0, a1, a2, a3, a4, a5, a6, rr, he⟩ : ∃ a0 a1 a2 a3 a4 a5 a6 rr, e = a0 :: a1 :: a2 :: a3 :: a4 :: a5 :: a6 :: rr := of7 (ks := ks7) rfl hel
      have u0 : wr.cell? ⟨ga, oa + i * 7, none⟩ = some (.int .u32 (a0 : Int)) := (HBW0.out.cell (p := ⟨ga, oa + i * 7, none⟩) (Nat.lt_of_lt_of_le hga HB1.out.size)).trans ((HB1.out.cell (p := ⟨ga, oa + i * 7, none⟩) hga).trans (hcca 0 _ (by rw [he]; rfl)))
      have u1 : wr.cell? ⟨ga, oa + i * 7 + 1, none⟩ = some (.int .u8 (a1 : Int)) := (HBW0.out.cell (p := ⟨ga, oa + i * 7 + 1, none⟩) (Nat.lt_of_lt_of_le hga HB1.out.size)).trans ((HB1.out.cell (p := ⟨ga, oa + i * 7 + 1, none⟩) hga).trans (hcca 1 _ (by rw [he]; rfl)))
      have u2 : wr.cell? ⟨ga, oa + i * 7 + 2, none⟩ = some (.int .u32 (a2 : Int)) := (HBW0.out.cell (p := ⟨ga, oa + i * 7 + 2, none⟩) (Nat.lt_of_lt_of_le hga HB1.out.size)).trans ((HB1.out.cell (p := ⟨ga, oa + i * 7 + 2, none⟩) hga).trans (hcca 2 _ (by rw [he]; rfl)))
      have u3 : wr.cell? ⟨ga, oa + i * 7 + 3, none⟩ = some (.int .u32 (a3 : Int)) := (HBW0.out.cell (p := ⟨ga, oa + i * 7 + 3, none⟩) (Nat.lt_of_lt_of_le hga HB1.out.size)).trans ((HB1.out.cell (p := ⟨ga, oa + i * 7 + 3, none⟩) hga).trans (hcca 3 _ (by rw [he]; rfl)))
      have u4 : wr.cell? ⟨ga, oa + i * 7 + 4, none⟩ = some (.int .u32 (a4 : Int)) := (HBW0.out.cell (p := ⟨ga, oa + i * 7 + 4, none⟩) (Nat.lt_of_lt_of_le hga HB1.out.size)).trans ((HB1.out.cell (p := ⟨ga, oa + i * 7 + 4, none⟩) hga).trans (hcca 4 _ (by rw [he]; rfl)))
      have u5 : wr.cell? ⟨ga, oa + i * 7 + 5, none⟩ = some (.int .u32 (a5 : Int)) := (HBW0.out.cell (p := ⟨ga, oa + i * 7 + 5, none⟩) (Nat.lt_of_lt_of_le hga HB1.out.size)).trans ((HB1.out.cell (p := ⟨ga, oa + i * 7 + 5, none⟩) hga).trans (hcca 5 _ (by rw [he]; rfl)))
      have u6 : wr.cell? ⟨ga, oa + i * 7 + 6, none⟩ = some (.int .u32 (a6 : Int)) := (HBW0.out.cell (p := ⟨ga, oa + i * 7 + 6, none⟩) (Nat.lt_of_lt_of_le hga HB1.out.size)).trans ((HB1.out.cell (p := ⟨ga, oa + i * 7 + 6, none⟩) hga).trans (hcca 6 _ (by rw [he]; rfl)))
      have v0 : wr.cell? ⟨gb, ob + i * 7, none⟩ = some (.int .u32 (a0 : Int)) := (HBW0.out.cell (p := ⟨gb, ob + i * 7, none⟩) (Nat.lt_of_lt_of_le hgb HB1.out.size)).trans ((HB1.out.cell (p := ⟨gb, ob + i * 7, none⟩) hgb).trans (hccb 0 _ (by rw [he]; rfl)))
      have v1 : wr.cell? ⟨gb, ob + i * 7 + 1, none⟩ = some (.int .u8 (a1 : Int)) := (HBW0.out.cell (p := ⟨gb, ob + i * 7 + 1, none⟩) (Nat.lt_of_lt_of_le hgb HB1.out.size)).trans ((HB1.out.cell (p := ⟨gb, ob + i * 7 + 1, none⟩) hgb).trans (hccb 1 _ (by rw [he]; rfl)))
      have v2 : wr.cell? ⟨gb, ob + i * 7 + 2, none⟩ = some (.int .u32 (a2 : Int)) := (HBW0.out.cell (p := ⟨gb, ob + i * 7 + 2, none⟩) (Nat.lt_of_lt_of_le hgb HB1.out.size)).trans ((HB1.out.cell (p := ⟨gb, ob + i * 7 + 2, none⟩) hgb).trans (hccb 2 _ (by rw [he]; rfl)))
      have v3 : wr.cell? ⟨gb, ob + i * 7 + 3, none⟩ = some (.int .u32 (a3 : Int)) := (HBW0.out.cell (p := ⟨gb, ob + i * 7 + 3, none⟩) (Nat.lt_of_lt_of_le hgb HB1.out.size)).trans ((HB1.out.cell (p := ⟨gb, ob + i * 7 + 3, none⟩) hgb).trans (hccb 3 _ (by rw [he]; rfl)))
      have v4 : wr.cell? ⟨gb, ob + i * 7 + 4, none⟩ = some (.int .u32 (a4 : Int)) := (HBW0.out.cell (p := ⟨gb, ob + i * 7 + 4, none⟩) (Nat.lt_of_lt_of_le hgb HB1.out.size)).trans ((HB1.out.cell (p := ⟨gb, ob + i * 7 + 4, none⟩) hgb).trans (hccb 4 _ (by rw [he]; rfl)))
      have v5 : wr.cell? ⟨gb, ob + i * 7 + 5, none⟩ = some (.int .u32 (a5 : Int)) := (HBW0.out.cell (p := ⟨gb, ob + i * 7 + 5, none⟩) (Nat.lt_of_lt_of_le hgb HB1.out.size)).trans ((HB1.out.cell (p := ⟨gb, ob + i * 7 + 5, none⟩) hgb).trans (hccb 5 _ (by rw [he]; rfl)))
      have v6 : wr.cell? ⟨gb, ob + i * 7 + 6, none⟩ = some (.int .u32 (a6 : Int)) := (HBW0.out.cell (p := ⟨gb, ob + i * 7 + 6, none⟩) (Nat.lt_of_lt_of_le hgb HB1.out.size)).trans ((HB1.out.cell (p := ⟨gb, ob + i * 7 + 6, none⟩) hgb).trans (hccb 6 _ (by rw [he]; rfl)))
      have HLT := Lib.hid hin
      clear hca hcb hcca hccb hei he hel hel2 hz hz2 hin
      go_upto_region 8 with fail
      go_quiet (fail)
      go_wp2_with fail
      go_roundg (nb - (i + 1))
      case measure => have := HLT.out; have := HG.out; omega
      case rel =>
        have hlt := HLT.out
        exact ⟨i + 1, rfl, by omega, rfl, below_drewN HBW0.out _⟩
    · have hini : ¬ (i : Int) < (nb : Int) := by omega
      clear hin
      go_upto_region 11 with fail
      clear k1 k2
      go_loopg [6] np (fun gg v wx => ∃ i : Nat, gg = np - i ∧ i ≤ np ∧ v = .int .i64 (i : Int) ∧ Below w1.heap.size w1 wx)
      case atStart => exact ⟨0, by omega, by omega, rfl, HBW0.out⟩
      case round =>
        obtain ⟨i, hgg, hi, rfl, hb⟩ := hrel
        have HBW1 := Lib.hid hb
        have HG := Lib.hid hgg
        have k1 : wr.cell? ⟨g2, 8, none⟩ = some (.slice Ap1 np cp1) := (HBW1.out.cell (p := ⟨g2, 8, none⟩) HX2.out.lt).trans (HX2.out.cell 8)
        have k2 : wr.cell? ⟨g3, 8, none⟩ = some (.slice Ap2 np cp2) := (HBW1.out.cell (p := ⟨g3, 8, none⟩) HX3.out.lt).trans (HX3.out.cell 8)
        clear hgg hb
        by_cases hin : i < np
        · have hini : (i : Int) < (np : Int) := by omega
          have hw1 : IntKind.i64.wrap ((i : Int) + 1) = ((i + 1 : Nat) : Int) := by rw [IntKind.wrap_i64]; omega
          obtain ⟨hz, ga, oa, hA, hga, hca⟩ := SlR.cells Hp1.out (by omega) (by decide)
          obtain ⟨hz2, gb, ob, hA2, hgb, hcb⟩ := SlR.cells Hp2.out (by omega) (by decide)
          subst hA hA2
          obtain ⟨e, hei⟩ : ∃ e, pairs[i]? = some e := ⟨_, List.getElem?_eq_getElem (by omega)⟩
          obtain ⟨hel, hcca⟩ := hca i e hei
          obtain ⟨hel2, hccb⟩ := hcb i e hei
          obtain ⟨a0, a1, rr, he⟩ : ∃ a0 a1 rr, e = a0 :: a1 :: rr := of2 (ks := ksP) rfl hel
          have u0 : wr.cell? ⟨ga, oa + i * 2, none⟩ = some (.int .u16 (a0 : Int)) := (HBW1.out.cell (p := ⟨ga, oa + i * 2, none⟩) (Nat.lt_of_lt_of_le hga HB1.out.size)).trans ((HB1.out.cell (p := ⟨ga, oa + i * 2, none⟩) hga).trans (hcca 0 _ (by rw [he]; rfl)))
          have u1 : wr.cell? ⟨ga, oa + i * 2 + 1, none⟩ = some (.int .u16 (a1 : Int)) := (HBW1.out.cell (p := ⟨ga, oa + i * 2 + 1, none⟩) (Nat.lt_of_lt_of_le hga HB1.out.size)).trans ((HB1.out.cell (p := ⟨ga, oa + i * 2 + 1, none⟩) hga).trans (hcca 1 _ (by rw [he]; rfl)))
          have v0 : wr.cell? ⟨gb, ob + i * 2, none⟩ = some (.int .u16 (a0 : Int)) := (HBW1.out.cell (p := ⟨gb, ob + i * 2, none⟩) (Nat.lt_of_lt_of_le hgb HB1.out.size)).trans ((HB1.out.cell (p := ⟨gb, ob + i * 2, none⟩) hgb).trans (hccb 0 _ (by rw [he]; rfl)))
          have v1 : wr.cell? ⟨gb, ob + i * 2 + 1, none⟩ = some (.int .u16 (a1 : Int)) := (HBW1.out.cell (p := ⟨gb, ob + i * 2 + 1, none⟩) (Nat.lt_of_lt_of_le hgb HB1.out.size)).trans ((HB1.out.cell (p := ⟨gb, ob + i * 2 + 1, none⟩) hgb).trans (hccb 1 _ (by rw [he]; rfl)))
          have HLT := Lib.hid hin
          clear hca hcb hcca hccb hei he hel hel2 hz hz2 hin
          go_upto_region 13 with fail
          go_quiet (fail)
          go_wp2_with fail
          go_roundg (np - (i + 1))
          case measure => have := HLT.out; have := HG.out; omega
          case rel =>
            have hlt := HLT.out
            exact ⟨i + 1, rfl, by omega, rfl, below_drewN HBW1.out _⟩
        · have hini : ¬ (i : Int) < (np : Int) := by omega
          clear hin
          go_upto_region 16 with fail
          clear k1 k2
          go_loopg [7] nf (fun gg v wx => ∃ i : Nat, gg = nf - i ∧ i ≤ nf ∧ v = .int .i64 (i : Int) ∧ Below w1.heap.size w1 wx)
          case atStart => exact ⟨0, by omega, by omega, rfl, HBW1.out⟩
          case round =>
            obtain ⟨i, hgg, hi, rfl, hb⟩ := hrel
            have HBW2 := Lib.hid hb
            have HG := Lib.hid hgg
            have k1 : wr.cell? ⟨g2, 9, none⟩ = some (.slice Af1 nf cf1) := (HBW2.out.cell (p := ⟨g2, 9, none⟩) HX2.out.lt).trans (HX2.out.cell 9)
            have k2 : wr.cell? ⟨g3, 9, none⟩ = some (.slice Af2 nf cf2) := (HBW2.out.cell (p := ⟨g3, 9, none⟩) HX3.out.lt).trans (HX3.out.cell 9)
            clear hgg hb
            by_cases hin : i < nf
            · have hini : (i : Int) < (nf : Int) := by omega
              have hw1 : IntKind.i64.wrap ((i : Int) + 1) = ((i + 1 : Nat) : Int) := by rw [IntKind.wrap_i64]; omega
              obtain ⟨hz, ga, oa, hA, hga, hca⟩ := SlR.cells Hf1.out (by omega) (by decide)
              obtain ⟨hz2, gb, ob, hA2, hgb, hcb⟩ := SlR.cells Hf2.out (by omega) (by decide)
              subst hA hA2
              obtain ⟨e, hei⟩ : ∃ e, firs[i]? = some e := ⟨_, List.getElem?_eq_getElem (by omega)⟩
              obtain ⟨hel, hcca⟩ := hca i e hei
              obtain ⟨hel2, hccb⟩ := hcb i e hei
              obtain ⟨a0, a1, rr, he⟩ : ∃ a0 a1 rr, e = a0 :: a1 :: rr := of2 (ks := ksF) rfl hel
              have u0 : wr.cell? ⟨ga, oa + i * 2, none⟩ = some (.int .u32 (a0 : Int)) := (HBW2.out.cell (p := ⟨ga, oa + i * 2, none⟩) (Nat.lt_of_lt_of_le hga HB1.out.size)).trans ((HB1.out.cell (p := ⟨ga, oa + i * 2, none⟩) hga).trans (hcca 0 _ (by rw [he]; rfl)))
              have u1 : wr.cell? ⟨ga, oa + i * 2 + 1, none⟩ = some (.int .u8 (a1 : Int)) := (HBW2.out.cell (p := ⟨ga, oa + i * 2 + 1, none⟩) (Nat.lt_of_lt_of_le hga HB1.out.size)).trans ((HB1.out.cell (p := ⟨ga, oa + i * 2 + 1, none⟩) hga).trans (hcca 1 _ (by rw [he]; rfl)))
              have v0 : wr.cell? ⟨gb, ob + i * 2, none⟩ = some (.int .u32 (a0 : Int)) := (HBW2.out.cell (p := ⟨gb, ob + i * 2, none⟩) (Nat.lt_of_lt_of_le hgb HB1.out.size)).trans ((HB1.out.cell (p := ⟨gb, ob + i * 2, none⟩) hgb).trans (hccb 0 _ (by rw [he]; rfl)))
              have v1 : wr.cell? ⟨gb, ob + i * 2 + 1, none⟩ = some (.int .u8 (a1 : Int)) := (HBW2.out.cell (p := ⟨gb, ob + i * 2 + 1, none⟩) (Nat.lt_of_lt_of_le hgb HB1.out.size)).trans ((HB1.out.cell (p := ⟨gb, ob + i * 2 + 1, none⟩) hgb).trans (hccb 1 _ (by rw [he]; rfl)))
              have HLT := Lib.hid hin
              clear hca hcb hcca hccb hei he hel hel2 hz hz2 hin
              go_upto_region 18 with fail
              go_quiet (fail)
              go_wp2_with fail
              go_roundg (nf - (i + 1))
              case measure => have := HLT.out; have := HG.out; omega
              case rel =>
                have hlt := HLT.out
                exact ⟨i + 1, rfl, by omega, rfl, below_drewN HBW2.out _⟩
            · have hini : ¬ (i : Int) < (nf : Int) := by omega
              clear hin
              go_upto_region 21 with fail
              clear k1 k2
              go_loopg [8] ns (fun gg v wx => ∃ i : Nat, gg = ns - i ∧ i ≤ ns ∧ v = .int .i64 (i : Int) ∧ Below w1.heap.size w1 wx)
              case atStart => exact ⟨0, by omega, by omega, rfl, HBW2.out⟩
              case round =>
                obtain ⟨i, hgg, hi, rfl, hb⟩ := hrel
                have HBW3 := Lib.hid hb
                have HG := Lib.hid hgg
                have k1 : wr.cell? ⟨g2, 12, none⟩ = some (.slice As1 ns cs1) := (HBW3.out.cell (p := ⟨g2, 12, none⟩) HX2.out.lt).trans (HX2.out.cell 12)
                have k2 : wr.cell? ⟨g3, 12, none⟩ = some (.slice As2 ns cs2) := (HBW3.out.cell (p := ⟨g3, 12, none⟩) HX3.out.lt).trans (HX3.out.cell 12)
                clear hgg hb
                by_cases hin : i < ns
                · have hini : (i : Int) < (ns : Int) := by omega
                  have hw1 : IntKind.i64.wrap ((i : Int) + 1) = ((i + 1 : Nat) : Int) := by rw [IntKind.wrap_i64]; omega
                  obtain ⟨hz, ga, oa, hA, hga, hca⟩ := SlR.cells Hs1.out (by omega) (by decide)
                  obtain ⟨hz2, gb, ob, hA2, hgb, hcb⟩ := SlR.cells Hs2.out (by omega) (by decide)
                  subst hA hA2
                  obtain ⟨e, hei⟩ : ∃ e, ssrcs[i]? = some e := ⟨_, List.getElem?_eq_getElem (by omega)⟩
                  obtain ⟨hel, hcca⟩ := hca i e hei
                  obtain ⟨hel2, hccb⟩ := hcb i e hei
                  obtain ⟨a0, rr, he⟩ : ∃ a0 rr, e = a0 :: rr := of1 (ks := ksS) rfl hel
                  have u0 : wr.cell? ⟨ga, oa + i, none⟩ = some (.int .u32 (a0 : Int)) := (HBW3.out.cell (p := ⟨ga, oa + i, none⟩) (Nat.lt_of_lt_of_le hga HB1.out.size)).trans ((HB1.out.cell (p := ⟨ga, oa + i, none⟩) hga).trans (by have := hcca 0 _ (by rw [he]; rfl); simpa [ksS, numV] using this))
                  have v0 : wr.cell? ⟨gb, ob + i, none⟩ = some (.int .u32 (a0 : Int)) := (HBW3.out.cell (p := ⟨gb, ob + i, none⟩) (Nat.lt_of_lt_of_le hgb HB1.out.size)).trans ((HB1.out.cell (p := ⟨gb, ob + i, none⟩) hgb).trans (by have := hccb 0 _ (by rw [he]; rfl); simpa [ksS, numV] using this))
                  have HLT := Lib.hid hin
                  clear hca hcb hcca hccb hei he hel hel2 hz hz2 hin
                  go_upto_region 23 with fail
                  go_quiet (fail)
                  go_wp2_with fail
                  go_roundg (ns - (i + 1))
                  case measure => have := HLT.out; have := HG.out; omega
                  case rel =>
                    have hlt := HLT.out
                    exact ⟨i + 1, rfl, by omega, rfl, below_drewN HBW3.out _⟩
                · have hini : ¬ (i : Int) < (ns : Int) := by omega
                  clear hin
                  go_wp2_with fail
                  go_ret
                  exact ⟨rfl, HB1.out.trans (HBW3.out.mono HB1.out.size)⟩
end Go.Proofs.Ytkfimncbfbbopaa
