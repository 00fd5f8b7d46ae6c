/- Texts of this claim, one behind the other: Told1, Told2, Told3, Told4, Told5, Told6, Told7. Each says ahead of itself what it proves, and its conditions. -/
import Derived.Test.YtkfimncbfbbopaaHl
/- What told returns: a sender report (contract). Conditions: its blocks lie in memory. (Printed by gen8g.py.) -/
set_option linter.unusedVariables false
set_option linter.unusedSimpArgs false
namespace Go.Proofs.Ytkfimncbfbbopaa
open Go.RowKit
attribute [local go_sem ↓] Go.wp_at_zero Go.wp_at_succ

set_option maxRecDepth 100000 in
set_option maxHeartbeats 12800000 in
theorem told1_c (fr ab ntp ts pk oc mt nb cb np cp nf cf ns cs nd cd : Nat) (ex ty ct : Int) (Ab Ap Af As Ad : Option Addr) (w : World) (r : Rep) (hr : r.kind = 1) (hbs : SlR w ks7 (.slice Ab nb cb) r.blocks) (hfb : FitL r.blocks) (hnb : nb ≤ 100000) (hntp : ntp < 18446744073709551616) (hts : ts < 4294967296) (hpk : pk < 4294967296) (hoc : oc < 4294967296) (e3 : r.ntp = ntp) (e4 : r.ts = ts) (e5 : r.pk = pk) (e6 : r.oc = oc)
    (hfr : fr < 4294967296) (hab : ab < 4294967296) (e1 : r.fr = fr) (e2 : r.ab = ab) :
    Calls Try.prog 37 #[.agg #[.int .i64 1, .int .u32 (fr : Int), .int .u32 (ab : Int), .int .u64 (ntp : Int), .int .u32 (ts : Int), .int .u32 (pk : Int), .int .u32 (oc : Int), .slice Ab nb cb, .slice Ap np cp, .slice Af nf cf, .int .i64 ex, .int .u32 (mt : Int), .slice As ns cs, .int .i64 ty, .int .i64 ct, .slice Ad nd cd]] w (ToldR r (.slice Ad nd cd) w) := by
  obtain ⟨iB, hiB, hz0, hz1, hz2⟩ := info_parts infoByte
  obtain ⟨g1, hg1⟩ : ∃ g1, g1 = w.heap.size := ⟨_, rfl⟩
  obtain ⟨w1, hw1⟩ : ∃ w1, w1 = w.alloc (.cells #[.int .i64 1, .int .u32 (fr : Int), .int .u32 (ab : Int), .int .u64 (ntp : Int), .int .u32 (ts : Int), .int .u32 (pk : Int), .int .u32 (oc : Int), .slice Ab nb cb, .slice Ap np cp, .slice Af nf cf, .int .i64 ex, .int .u32 (mt : Int), .slice As ns cs, .int .i64 ty, .int .i64 ct, .slice Ad nd cd] 46) := ⟨_, rfl⟩
  obtain ⟨B, hB⟩ : ∃ B, B = w1.heap.size := ⟨_, rfl⟩
  have HX1 : Hid (Blk w1 g1 46 #[.int .i64 1, .int .u32 (fr : Int), .int .u32 (ab : Int), .int .u64 (ntp : Int), .int .u32 (ts : Int), .int .u32 (pk : Int), .int .u32 (oc : Int), .slice Ab nb cb, .slice Ap np cp, .slice Af nf cf, .int .i64 ex, .int .u32 (mt : Int), .slice As ns cs, .int .i64 ty, .int .i64 ct, .slice Ad nd cd]) := by show Blk _ _ _ _; rw [hw1]; exact Blk.newAt hg1 _ _
  have HB1 : Hid (Below w.heap.size w w1) := by show Below _ _ _; rw [hw1]; exact balloc (Below.refl _ _) _
  have HG0 : Hid (Grew B (.slice none 0 0) [] w1 (.slice none 0 0) w1) := by show Grew _ _ _ _ _ _; rw [hB]; exact Grew.start w1
  have HBE := Lib.hid hB
  have z1 := wrap64 hfr
  have z2 := wrap64 hab
  have HFR := Lib.hid hfr
  have HAB := Lib.hid hab
  have HR4 := Lib.hid hr
  have HE1 := Lib.hid e1
  have HE2 := Lib.hid e2
  have HBS : Hid (SlR w1 ks7 (.slice Ab nb cb) r.blocks) := hbs.below HB1.out
  have HFB := Lib.hid hfb
  have HNB : Hid (r.blocks.length = nb) := by obtain ⟨_, _, e, _⟩ := hbs; injection e with _ e; exact e.symm
  have HNTP := Lib.hid hntp
  have HTS := Lib.hid hts
  have HPK := Lib.hid hpk
  have HOC := Lib.hid hoc
  have HE3 := Lib.hid e3
  have HE4 := Lib.hid e4
  have HE5 := Lib.hid e5
  have HE6 := Lib.hid e6
  clear hbs hfb hntp hts hpk hoc e3 e4 e5 e6
  clear hr hfr hab e1 e2
  go_enter Try.func37, Try.ntmps37
  go_upto_region 1 with fail
  rw [← hw1, ← hg1]
  clear hw1 hg1 hB
  have k1 : w1.cell? ⟨g1, 1, none⟩ = some (.int .u32 (fr : Int)) := HX1.out.cell 1
  go_upto_region 2 with
   (go_at_call 38
    refine (put_c B fr 4 ([] : List UInt8) _ w1 HG0.out.1 (by rw [HBE.out]; exact Nat.le_refl _) (by decide) (by decide) (by have := HFR.out; omega)).mono ?_
    rintro e9 wp1 ⟨v9, rfl, hg9⟩
    have HG1 : Hid (Grew B (.slice none 0 0) (beS fr 4) w1 v9 wp1) := hg9
    obtain ⟨A1, c1, hv9⟩ := own_slice HG1.out.1
    subst hv9
    obtain ⟨m1, hm⟩ : ∃ m, m = (beS fr 4).length := ⟨_, rfl⟩
    have HL1 : Hid ((beS fr 4).length ≤ 100000000) := by show _ ≤ _; simp [beS_len, fours_len, blksB_len]
    rw [← hm] at HG1 ⊢
    have k0 : wp1.cell? ⟨g1, 0, none⟩ = some (.int .i64 1) := (HG1.out.blkN HX1.out).cell 0
    have k3 : wp1.cell? ⟨g1, 3, none⟩ = some (.int .u64 (ntp : Int)) := (HG1.out.blkN HX1.out).cell 3
    clear hg9 hm k1)
  go_upto_region 5 with
   (go_at_call 38
    refine (put_c B ntp 8 (beS fr 4) _ wp1 HG1.out.1 (by rw [HBE.out]; exact HG1.out.2.1.size) HL1.out (by decide) (HNTP.out)).mono ?_
    rintro e9 wp2 ⟨v9, rfl, hg9⟩
    have HG2 : Hid (Grew B (.slice none 0 0) ((beS fr 4) ++ beS ntp 8) w1 v9 wp2) := HG1.out.trans hg9
    obtain ⟨A2, c2, hv9⟩ := own_slice HG2.out.1
    subst hv9
    obtain ⟨m2, hm⟩ : ∃ m, m = ((beS fr 4) ++ beS ntp 8).length := ⟨_, rfl⟩
    have HL2 : Hid (((beS fr 4) ++ beS ntp 8).length ≤ 100000000) := by show _ ≤ _; simp [beS_len, fours_len, blksB_len]
    rw [← hm] at HG2 ⊢
    have k4 : wp2.cell? ⟨g1, 4, none⟩ = some (.int .u32 (ts : Int)) := (HG2.out.blkN HX1.out).cell 4
    have k5 : wp2.cell? ⟨g1, 5, none⟩ = some (.int .u32 (pk : Int)) := (HG2.out.blkN HX1.out).cell 5
    have k6 : wp2.cell? ⟨g1, 6, none⟩ = some (.int .u32 (oc : Int)) := (HG2.out.blkN HX1.out).cell 6
    clear hg9 hm k0 k3)
  go_upto_region 6 with fail
  clear k4 k5 k6
  obtain ⟨gy, hgy⟩ : ∃ gy, gy = wp2.heap.size := ⟨_, rfl⟩
  obtain ⟨w5, hw5⟩ : ∃ w5, w5 = wp2.alloc (.cells #[.int .u32 (ts : Int), .int .u32 (pk : Int), .int .u32 (oc : Int)] 33) := ⟨_, rfl⟩
  rw [← hw5, ← hgy]
  have HY5 : Hid (Blk w5 gy 33 #[.int .u32 (ts : Int), .int .u32 (pk : Int), .int .u32 (oc : Int)]) := by show Blk _ _ _ _; rw [hw5]; exact Blk.newAt hgy _ _
  have HG5 : Hid (Grew B (.slice none 0 0) ((beS fr 4) ++ beS ntp 8) w1 (.slice A2 m2 c2) w5) := by
    show Grew _ _ _ _ _ _
    rw [hw5]
    exact ⟨HG2.out.1.alloc _, HG2.out.2.1.alloc _, HG2.out.2.2⟩
  obtain ⟨L4, hL4⟩ : ∃ L4, L4 = ((beS fr 4) ++ beS ntp 8) := ⟨_, rfl⟩
  rw [← hL4] at HG5
  have HL4 := Lib.hid hL4
  have HL4l : Hid (L4.length ≤ 90000000) := by show _ ≤ _; rw [hL4]; simp [beS_len]
  have HA3 : Hid (∀ x ∈ [ts, pk, oc], x < 4294967296) := by
    intro x hx
    simp only [List.mem_cons, List.not_mem_nil, or_false] at hx
    rcases hx with h | h | h
    · rw [h]; exact HTS.out
    · rw [h]; exact HPK.out
    · rw [h]; exact HOC.out
  clear hw5 hgy hL4
  go_loopg [2, 33] 3 (fun gg vv vj wx => ∃ j : Nat, gg = 3 - j ∧ j ≤ 3 ∧ vj = .int .i64 (j : Int) ∧ Grew B (.slice none 0 0) (L4 ++ fours ([ts, pk, oc].take j)) w1 vv wx ∧ Blk wx gy 33 #[.int .u32 (ts : Int), .int .u32 (pk : Int), .int .u32 (oc : Int)])
  case atStart => exact ⟨0, rfl, by omega, rfl, by simpa [fours] using HG5.out, HY5.out⟩
  case round =>
    obtain ⟨j, hgj, hj, rfl, hg, hy⟩ := hrel
    obtain ⟨Aj, cj, hvj⟩ := own_slice hg.1
    subst hvj
    have HGi := Lib.hid hg
    have HY := Lib.hid hy
    clear hg hy HG5 HY5
    obtain ⟨mj, hmj⟩ : ∃ mj, mj = (L4 ++ fours ([ts, pk, oc].take j)).length := ⟨_, rfl⟩
    rw [← hmj] at HGi ⊢
    have HLJ : Hid ((L4 ++ fours ([ts, pk, oc].take j)).length ≤ 100000000) := by
      show _ ≤ _
      have h1 := HL4l.out
      rw [List.length_append, fours_len, List.length_take]
      omega
    clear hmj
    by_cases hjn : j < 3
    · have hji : (j : Int) < 3 := by omega
      have hwj : IntKind.i64.wrap ((j : Int) + 1) = ((j + 1 : Nat) : Int) := by rw [IntKind.wrap_i64]; omega
      obtain ⟨x, hx⟩ : ∃ x, [ts, pk, oc][j]? = some x := ⟨_, List.getElem?_eq_getElem (by simpa using hjn)⟩
      have cjx : wr.cell? ⟨gy, j, none⟩ = some (.int .u32 (x : Int)) := by
        rw [HY.out.cell j]
        show (([ts, pk, oc].map fun x : Nat => Value.int .u32 (x : Int)).toArray)[j]? = _
        rw [List.getElem?_toArray, List.getElem?_map, hx]
        rfl
      have HXL : Hid (x < 4294967296) := HA3.out x (List.mem_of_getElem? hx)
      have zx := wrap64 HXL.out
      have HTJ := Lib.hid (takeN_snoc hx)
      have HJN := Lib.hid hjn
      clear hx hjn
      go_wp2_with
       (go_at_call 38
        refine (put_c B x 4 _ _ wr HGi.out.1 (by rw [HBE.out]; exact HGi.out.2.1.size) HLJ.out (by decide) (by have := HXL.out; omega)).mono ?_
        rintro e9 w9 ⟨v9, rfl, hg9⟩
        have HG9 : Hid (Grew B (.slice none 0 0) (L4 ++ fours ([ts, pk, oc].take (j + 1))) w1 v9 w9) := by
          show Grew _ _ _ _ _ _
          rw [HTJ.out, fours_snoc, ← List.append_assoc]
          exact HGi.out.trans hg9
        have HY9 := Lib.hid (hg9.2.1.blk HY.out (fun e => own_blk_ne HGi.out.1 HY.out (by decide) e))
        clear hg9)
      go_roundg (3 - (j + 1))
      case measure => have := HJN.out; omega
      case rel => have := HJN.out; exact ⟨j + 1, rfl, by omega, by first | rfl | go_num, HG9.out, HY9.out⟩
    · have hji : ¬ (j : Int) < 3 := by omega
      have hjx : j = 3 := by omega
      subst hjx
      clear hjn hj
      have HGX : Hid (Grew B (.slice none 0 0) (L4 ++ fours [ts, pk, oc]) w1 (.slice Aj mj cj) wr) := HGi.out
      have HLX : Hid ((L4 ++ fours [ts, pk, oc]).length ≤ 100000000) := HLJ.out
      go_upto_region 10 with fail
      have HGD : Hid (Grew B (.slice none 0 0) (L4 ++ fours [ts, pk, oc]) w1 (.slice Aj mj cj) (World.drew wr)) := ⟨HGX.out.1, HGX.out.2.1.drew, HGX.out.2.2⟩
      have HXD : Hid (Blk (World.drew wr) g1 46 #[.int .i64 1, .int .u32 (fr : Int), .int .u32 (ab : Int), .int .u64 (ntp : Int), .int .u32 (ts : Int), .int .u32 (pk : Int), .int .u32 (oc : Int), .slice Ab nb cb, .slice Ap np cp, .slice Af nf cf, .int .i64 ex, .int .u32 (mt : Int), .slice As ns cs, .int .i64 ty, .int .i64 ct, .slice Ad nd cd]) := HGX.out.blkN HX1.out
      refine wp_region_held_drew (S := (fun w2 => Blk w2 g1 46 #[.int .i64 1, .int .u32 (fr : Int), .int .u32 (ab : Int), .int .u64 (ntp : Int), .int .u32 (ts : Int), .int .u32 (pk : Int), .int .u32 (oc : Int), .slice Ab nb cb, .slice Ap np cp, .slice Af nf cf, .int .i64 ex, .int .u32 (mt : Int), .slice As ns cs, .int .i64 ty, .int .i64 ct, .slice Ad nd cd])) (by kernel_rfl) (HXD.out) (fun hHeld => ?_)
      refine wpAnyH_takeAt (i := 0) (v := (.slice Aj mj cj)) rfl (by kernel_rfl) (by kernel_rfl) (by kernel_rfl) (fun _ _ _ h => h) rfl (Or.inl ⟨by rfl, fun w' hS => ?_⟩) hHeld ?_
      · go_simp
      simp only [List.set_cons_zero, List.set_cons_succ]
      refine wpAnyH_takeAt (i := 1) (v := (.pointer (some ⟨g1, 7, none⟩))) rfl (by kernel_rfl) (by kernel_rfl) (by kernel_rfl) (fun _ _ _ h => h) rfl (Or.inl ⟨by rfl, fun w' hS => ?_⟩) hHeld ?_
      · go_simp
      simp only [List.set_cons_zero, List.set_cons_succ]
      refine wpAnyH_takeAt (i := 2) (v := (.slice Ab nb cb)) rfl (by kernel_rfl) (by kernel_rfl) (by kernel_rfl) (fun _ _ _ h => h) rfl (Or.inl ⟨by rfl, fun w' hS => ?_⟩) hHeld ?_
      · have hc := hS.cell 7
        have hc' : w'.cell? ⟨g1, 7, none⟩ = some (.slice Ab nb cb) := hc
        go_simp
      simp only [List.set_cons_zero, List.set_cons_succ]
      refine wpAnyH_takeAt (i := 4) (v := (.pointer (some ⟨g1, 7, none⟩))) rfl (by kernel_rfl) (by kernel_rfl) (by kernel_rfl) (fun _ _ _ h => h) rfl (Or.inl ⟨by rfl, fun w' hS => ?_⟩) hHeld ?_
      · go_simp
      simp only [List.set_cons_zero, List.set_cons_succ]
      refine wpAnyH_takeAt (i := 5) (v := (.slice Ab nb cb)) rfl (by kernel_rfl) (by kernel_rfl) (by kernel_rfl) (fun _ _ _ h => h) rfl (Or.inl ⟨by rfl, fun w' hS => ?_⟩) hHeld ?_
      · have hc := hS.cell 7
        have hc' : w'.cell? ⟨g1, 7, none⟩ = some (.slice Ab nb cb) := hc
        go_simp
      simp only [List.set_cons_zero, List.set_cons_succ]
      refine wpAnyH_takeAt (i := 6) (v := (.int .i64 (nb : Int))) rfl (by kernel_rfl) (by kernel_rfl) (by kernel_rfl) (fun _ _ _ h => h) rfl (Or.inl ⟨by rfl, fun w' hS => ?_⟩) hHeld ?_
      · go_simp
      simp only [List.set_cons_zero, List.set_cons_succ]
      refine wpAnyH_ready (rs := [3]) (by kernel_rfl) (by simp) (AllReadyH.cons rfl (fun K' hK => ?_) AllReadyH.nil)
      go_simp
      go_at_call 56
      refine (blkW_c w1 r.blocks Ab nb cb HBS.out HFB.out (L4 ++ fours [ts, pk, oc]) _ _ HGD.out.belowN (by rw [← HBE.out]; exact HGD.out.1) (by have := HLX.out; rw [HL4.out]; simp [beS_len, fours_len]) hnb).mono ?_
      rintro e9 w9 ⟨v9, rfl, hg9⟩
      obtain ⟨A9, c9, hv9⟩ := own_slice hg9.1
      subst hv9
      obtain ⟨m9, hm⟩ : ∃ m, m = ((L4 ++ fours [ts, pk, oc]) ++ blksB r.blocks).length := ⟨_, rfl⟩
      rw [← hm] at hg9 ⊢
      have HG9 : Hid (Grew B (.slice none 0 0) ((L4 ++ fours [ts, pk, oc]) ++ blksB r.blocks) w1 (.slice A9 m9 c9) w9) := HGD.out.trans (by rw [HBE.out]; exact hg9)
      clear hg9 hm
      go_wp2_with fail
      refine hK.out _ _ (HG9.out.blkN HX1.out) (fun hHeld' => ?_)
      clear hK hHeld
      have hHeld := hHeld'
      clear hHeld'
      refine wpAnyH_takeAt (i := 7) (v := (.slice A9 m9 c9)) rfl (by kernel_rfl) (by kernel_rfl) (by kernel_rfl) (fun _ _ _ h => h) rfl (Or.inl ⟨by rfl, fun w' hS => ?_⟩) hHeld ?_
      · go_simp
      simp only [List.set_cons_zero, List.set_cons_succ]
      refine wpAnyH_takeAt (i := 8) (v := (.int .i64 200)) rfl (by kernel_rfl) (by kernel_rfl) (by kernel_rfl) (fun _ _ _ h => h) rfl (Or.inl ⟨by rfl, fun w' hS => ?_⟩) hHeld ?_
      · go_simp
      simp only [List.set_cons_zero, List.set_cons_succ]
      refine wpAnyH_takeAt (i := 9) (v := (.int .i64 (nb : Int))) rfl (by kernel_rfl) (by kernel_rfl) (by kernel_rfl) (fun _ _ _ h => h) rfl (Or.inl ⟨by rfl, fun w' hS => ?_⟩) hHeld ?_
      · go_simp
      simp only [List.set_cons_zero, List.set_cons_succ]
      refine wpAnyH_done (by kernel_rfl) ?_ _
      go_wp2_with fail
      go_ret3
      refine ⟨_, by unfold typS cntS; rw [HR4.out, HNB.out]; rfl, ?_, bcall HB1.out HG9.out.belowN⟩
      have hs := HG9.out.tv (w0 := w) (by rw [HBE.out]; exact HB1.out.size)
      unfold bodyS
      rw [HR4.out, HE1.out, HE3.out, HE4.out, HE5.out, HE6.out]
      rw [HL4.out] at hs
      exact .inl hs
end Go.Proofs.Ytkfimncbfbbopaa
/- What told returns: a receiver report (contract). Conditions: its blocks lie in memory. (Printed by gen8g.py.) -/
set_option linter.unusedVariables false
set_option linter.unusedSimpArgs false
namespace Go.Proofs.Ytkfimncbfbbopaa
open Go.RowKit
attribute [local go_sem ↓] Go.wp_at_zero Go.wp_at_succ

set_option maxRecDepth 100000 in
set_option maxHeartbeats 12800000 in
theorem told2_c (fr ab ntp ts pk oc mt nb cb np cp nf cf ns cs nd cd : Nat) (ex ty ct : Int) (Ab Ap Af As Ad : Option Addr) (w : World) (r : Rep) (hr : r.kind = 2) (hbs : SlR w ks7 (.slice Ab nb cb) r.blocks) (hfb : FitL r.blocks) (hnb : nb ≤ 100000)
    (hfr : fr < 4294967296) (hab : ab < 4294967296) (e1 : r.fr = fr) (e2 : r.ab = ab) :
    Calls Try.prog 37 #[.agg #[.int .i64 2, .int .u32 (fr : Int), .int .u32 (ab : Int), .int .u64 (ntp : Int), .int .u32 (ts : Int), .int .u32 (pk : Int), .int .u32 (oc : Int), .slice Ab nb cb, .slice Ap np cp, .slice Af nf cf, .int .i64 ex, .int .u32 (mt : Int), .slice As ns cs, .int .i64 ty, .int .i64 ct, .slice Ad nd cd]] w (ToldR r (.slice Ad nd cd) w) := by
  obtain ⟨iB, hiB, hz0, hz1, hz2⟩ := info_parts infoByte
  obtain ⟨g1, hg1⟩ : ∃ g1, g1 = w.heap.size := ⟨_, rfl⟩
  obtain ⟨w1, hw1⟩ : ∃ w1, w1 = w.alloc (.cells #[.int .i64 2, .int .u32 (fr : Int), .int .u32 (ab : Int), .int .u64 (ntp : Int), .int .u32 (ts : Int), .int .u32 (pk : Int), .int .u32 (oc : Int), .slice Ab nb cb, .slice Ap np cp, .slice Af nf cf, .int .i64 ex, .int .u32 (mt : Int), .slice As ns cs, .int .i64 ty, .int .i64 ct, .slice Ad nd cd] 46) := ⟨_, rfl⟩
  obtain ⟨B, hB⟩ : ∃ B, B = w1.heap.size := ⟨_, rfl⟩
  have HX1 : Hid (Blk w1 g1 46 #[.int .i64 2, .int .u32 (fr : Int), .int .u32 (ab : Int), .int .u64 (ntp : Int), .int .u32 (ts : Int), .int .u32 (pk : Int), .int .u32 (oc : Int), .slice Ab nb cb, .slice Ap np cp, .slice Af nf cf, .int .i64 ex, .int .u32 (mt : Int), .slice As ns cs, .int .i64 ty, .int .i64 ct, .slice Ad nd cd]) := by show Blk _ _ _ _; rw [hw1]; exact Blk.newAt hg1 _ _
  have HB1 : Hid (Below w.heap.size w w1) := by show Below _ _ _; rw [hw1]; exact balloc (Below.refl _ _) _
  have HG0 : Hid (Grew B (.slice none 0 0) [] w1 (.slice none 0 0) w1) := by show Grew _ _ _ _ _ _; rw [hB]; exact Grew.start w1
  have HBE := Lib.hid hB
  have z1 := wrap64 hfr
  have z2 := wrap64 hab
  have HFR := Lib.hid hfr
  have HAB := Lib.hid hab
  have HR4 := Lib.hid hr
  have HE1 := Lib.hid e1
  have HE2 := Lib.hid e2
  have HBS : Hid (SlR w1 ks7 (.slice Ab nb cb) r.blocks) := hbs.below HB1.out
  have HFB := Lib.hid hfb
  have HNB : Hid (r.blocks.length = nb) := by obtain ⟨_, _, e, _⟩ := hbs; injection e with _ e; exact e.symm
  clear hbs hfb
  clear hr hfr hab e1 e2
  go_enter Try.func37, Try.ntmps37
  go_upto_region 1 with fail
  rw [← hw1, ← hg1]
  clear hw1 hg1 hB
  have k1 : w1.cell? ⟨g1, 1, none⟩ = some (.int .u32 (fr : Int)) := HX1.out.cell 1
  go_upto_region 2 with
   (go_at_call 38
    refine (put_c B fr 4 ([] : List UInt8) _ w1 HG0.out.1 (by rw [HBE.out]; exact Nat.le_refl _) (by decide) (by decide) (by have := HFR.out; omega)).mono ?_
    rintro e9 wp1 ⟨v9, rfl, hg9⟩
    have HG1 : Hid (Grew B (.slice none 0 0) (beS fr 4) w1 v9 wp1) := hg9
    obtain ⟨A1, c1, hv9⟩ := own_slice HG1.out.1
    subst hv9
    obtain ⟨m1, hm⟩ : ∃ m, m = (beS fr 4).length := ⟨_, rfl⟩
    have HL1 : Hid ((beS fr 4).length ≤ 100000000) := by show _ ≤ _; simp [beS_len, fours_len, blksB_len]
    rw [← hm] at HG1 ⊢
    have k0 : wp1.cell? ⟨g1, 0, none⟩ = some (.int .i64 2) := (HG1.out.blkN HX1.out).cell 0
    clear hg9 hm k1)
  go_upto_region 12 with fail
  have HGD : Hid (Grew B (.slice none 0 0) (beS fr 4) w1 (.slice A1 m1 c1) (World.drew wp1)) := ⟨HG1.out.1, HG1.out.2.1.drew, HG1.out.2.2⟩
  have HXD : Hid (Blk (World.drew wp1) g1 46 #[.int .i64 2, .int .u32 (fr : Int), .int .u32 (ab : Int), .int .u64 (ntp : Int), .int .u32 (ts : Int), .int .u32 (pk : Int), .int .u32 (oc : Int), .slice Ab nb cb, .slice Ap np cp, .slice Af nf cf, .int .i64 ex, .int .u32 (mt : Int), .slice As ns cs, .int .i64 ty, .int .i64 ct, .slice Ad nd cd]) := HG1.out.blkN HX1.out
  refine wp_region_held_drew (S := (fun w2 => Blk w2 g1 46 #[.int .i64 2, .int .u32 (fr : Int), .int .u32 (ab : Int), .int .u64 (ntp : Int), .int .u32 (ts : Int), .int .u32 (pk : Int), .int .u32 (oc : Int), .slice Ab nb cb, .slice Ap np cp, .slice Af nf cf, .int .i64 ex, .int .u32 (mt : Int), .slice As ns cs, .int .i64 ty, .int .i64 ct, .slice Ad nd cd])) (by kernel_rfl) (HXD.out) (fun hHeld => ?_)
  refine wpAnyH_takeAt (i := 0) (v := (.slice A1 m1 c1)) rfl (by kernel_rfl) (by kernel_rfl) (by kernel_rfl) (fun _ _ _ h => h) rfl (Or.inl ⟨by rfl, fun w' hS => ?_⟩) hHeld ?_
  · go_simp
  simp only [List.set_cons_zero, List.set_cons_succ]
  refine wpAnyH_takeAt (i := 1) (v := (.pointer (some ⟨g1, 7, none⟩))) rfl (by kernel_rfl) (by kernel_rfl) (by kernel_rfl) (fun _ _ _ h => h) rfl (Or.inl ⟨by rfl, fun w' hS => ?_⟩) hHeld ?_
  · go_simp
  simp only [List.set_cons_zero, List.set_cons_succ]
  refine wpAnyH_takeAt (i := 2) (v := (.slice Ab nb cb)) rfl (by kernel_rfl) (by kernel_rfl) (by kernel_rfl) (fun _ _ _ h => h) rfl (Or.inl ⟨by rfl, fun w' hS => ?_⟩) hHeld ?_
  · have hc := hS.cell 7
    have hc' : w'.cell? ⟨g1, 7, none⟩ = some (.slice Ab nb cb) := hc
    go_simp
  simp only [List.set_cons_zero, List.set_cons_succ]
  refine wpAnyH_takeAt (i := 4) (v := (.pointer (some ⟨g1, 7, none⟩))) rfl (by kernel_rfl) (by kernel_rfl) (by kernel_rfl) (fun _ _ _ h => h) rfl (Or.inl ⟨by rfl, fun w' hS => ?_⟩) hHeld ?_
  · go_simp
  simp only [List.set_cons_zero, List.set_cons_succ]
  refine wpAnyH_takeAt (i := 5) (v := (.slice Ab nb cb)) rfl (by kernel_rfl) (by kernel_rfl) (by kernel_rfl) (fun _ _ _ h => h) rfl (Or.inl ⟨by rfl, fun w' hS => ?_⟩) hHeld ?_
  · have hc := hS.cell 7
    have hc' : w'.cell? ⟨g1, 7, none⟩ = some (.slice Ab nb cb) := hc
    go_simp
  simp only [List.set_cons_zero, List.set_cons_succ]
  refine wpAnyH_takeAt (i := 6) (v := (.int .i64 (nb : Int))) rfl (by kernel_rfl) (by kernel_rfl) (by kernel_rfl) (fun _ _ _ h => h) rfl (Or.inl ⟨by rfl, fun w' hS => ?_⟩) hHeld ?_
  · go_simp
  simp only [List.set_cons_zero, List.set_cons_succ]
  refine wpAnyH_ready (rs := [3]) (by kernel_rfl) (by simp) (AllReadyH.cons rfl (fun K' hK => ?_) AllReadyH.nil)
  go_simp
  go_at_call 56
  refine (blkW_c w1 r.blocks Ab nb cb HBS.out HFB.out (beS fr 4) _ _ HGD.out.belowN (by rw [← HBE.out]; exact HGD.out.1) (by simp [beS_len]) hnb).mono ?_
  rintro e9 w9 ⟨v9, rfl, hg9⟩
  obtain ⟨A9, c9, hv9⟩ := own_slice hg9.1
  subst hv9
  obtain ⟨m9, hm⟩ : ∃ m, m = (beS fr 4 ++ blksB r.blocks).length := ⟨_, rfl⟩
  rw [← hm] at hg9 ⊢
  have HG9 : Hid (Grew B (.slice none 0 0) (beS fr 4 ++ blksB r.blocks) w1 (.slice A9 m9 c9) w9) := HGD.out.trans (by rw [HBE.out]; exact hg9)
  clear hg9 hm
  go_wp2_with fail
  refine hK.out _ _ (HG9.out.blkN HX1.out) (fun hHeld' => ?_)
  clear hK hHeld
  have hHeld := hHeld'
  clear hHeld'
  refine wpAnyH_takeAt (i := 7) (v := (.slice A9 m9 c9)) rfl (by kernel_rfl) (by kernel_rfl) (by kernel_rfl) (fun _ _ _ h => h) rfl (Or.inl ⟨by rfl, fun w' hS => ?_⟩) hHeld ?_
  · go_simp
  simp only [List.set_cons_zero, List.set_cons_succ]
  refine wpAnyH_takeAt (i := 8) (v := (.int .i64 201)) rfl (by kernel_rfl) (by kernel_rfl) (by kernel_rfl) (fun _ _ _ h => h) rfl (Or.inl ⟨by rfl, fun w' hS => ?_⟩) hHeld ?_
  · go_simp
  simp only [List.set_cons_zero, List.set_cons_succ]
  refine wpAnyH_takeAt (i := 9) (v := (.int .i64 (nb : Int))) rfl (by kernel_rfl) (by kernel_rfl) (by kernel_rfl) (fun _ _ _ h => h) rfl (Or.inl ⟨by rfl, fun w' hS => ?_⟩) hHeld ?_
  · go_simp
  simp only [List.set_cons_zero, List.set_cons_succ]
  refine wpAnyH_done (by kernel_rfl) ?_ _
  go_wp2_with fail
  go_ret3
  refine ⟨_, by unfold typS cntS; rw [HR4.out, HNB.out]; rfl, ?_, bcall HB1.out HG9.out.belowN⟩
  have hs := HG9.out.tv (w0 := w) (by rw [HBE.out]; exact HB1.out.size)
  unfold bodyS
  rw [HR4.out, HE1.out]
  exact .inl hs
end Go.Proofs.Ytkfimncbfbbopaa
/- What told returns: pairs (contract). Conditions: its pairs lie in memory. (Printed by gen8g.py.) -/
set_option linter.unusedVariables false
set_option linter.unusedSimpArgs false
namespace Go.Proofs.Ytkfimncbfbbopaa
open Go.RowKit
attribute [local go_sem ↓] Go.wp_at_zero Go.wp_at_succ

set_option maxRecDepth 100000 in
set_option maxHeartbeats 12800000 in
theorem told3_c (fr ab ntp ts pk oc mt nb cb np cp nf cf ns cs nd cd : Nat) (ex ty ct : Int) (Ab Ap Af As Ad : Option Addr) (w : World) (r : Rep) (hr : r.kind = 3) (hbs : SlR w ksP (.slice Ap np cp) r.pairs) (hfb : ∀ e ∈ r.pairs, ∀ x ∈ e, x < 65536) (hnb : np ≤ 100000)
    (hfr : fr < 4294967296) (hab : ab < 4294967296) (e1 : r.fr = fr) (e2 : r.ab = ab) :
    Calls Try.prog 37 #[.agg #[.int .i64 3, .int .u32 (fr : Int), .int .u32 (ab : Int), .int .u64 (ntp : Int), .int .u32 (ts : Int), .int .u32 (pk : Int), .int .u32 (oc : Int), .slice Ab nb cb, .slice Ap np cp, .slice Af nf cf, .int .i64 ex, .int .u32 (mt : Int), .slice As ns cs, .int .i64 ty, .int .i64 ct, .slice Ad nd cd]] w (ToldR r (.slice Ad nd cd) w) := by
  obtain ⟨iB, hiB, hz0, hz1, hz2⟩ := info_parts infoByte
  obtain ⟨g1, hg1⟩ : ∃ g1, g1 = w.heap.size := ⟨_, rfl⟩
  obtain ⟨w1, hw1⟩ : ∃ w1, w1 = w.alloc (.cells #[.int .i64 3, .int .u32 (fr : Int), .int .u32 (ab : Int), .int .u64 (ntp : Int), .int .u32 (ts : Int), .int .u32 (pk : Int), .int .u32 (oc : Int), .slice Ab nb cb, .slice Ap np cp, .slice Af nf cf, .int .i64 ex, .int .u32 (mt : Int), .slice As ns cs, .int .i64 ty, .int .i64 ct, .slice Ad nd cd] 46) := ⟨_, rfl⟩
  obtain ⟨B, hB⟩ : ∃ B, B = w1.heap.size := ⟨_, rfl⟩
  have HX1 : Hid (Blk w1 g1 46 #[.int .i64 3, .int .u32 (fr : Int), .int .u32 (ab : Int), .int .u64 (ntp : Int), .int .u32 (ts : Int), .int .u32 (pk : Int), .int .u32 (oc : Int), .slice Ab nb cb, .slice Ap np cp, .slice Af nf cf, .int .i64 ex, .int .u32 (mt : Int), .slice As ns cs, .int .i64 ty, .int .i64 ct, .slice Ad nd cd]) := by show Blk _ _ _ _; rw [hw1]; exact Blk.newAt hg1 _ _
  have HB1 : Hid (Below w.heap.size w w1) := by show Below _ _ _; rw [hw1]; exact balloc (Below.refl _ _) _
  have HG0 : Hid (Grew B (.slice none 0 0) [] w1 (.slice none 0 0) w1) := by show Grew _ _ _ _ _ _; rw [hB]; exact Grew.start w1
  have HBE := Lib.hid hB
  have z1 := wrap64 hfr
  have z2 := wrap64 hab
  have HFR := Lib.hid hfr
  have HAB := Lib.hid hab
  have HR4 := Lib.hid hr
  have HE1 := Lib.hid e1
  have HE2 := Lib.hid e2
  have HBS : Hid (SlR w1 ksP (.slice Ap np cp) r.pairs) := hbs.below HB1.out
  have HFB := Lib.hid hfb
  have HLEN : Hid (r.pairs.length = np) := by obtain ⟨_, _, e, _⟩ := hbs; injection e with _ e; exact e.symm
  clear hbs hfb
  clear hr hfr hab e1 e2
  go_enter Try.func37, Try.ntmps37
  go_upto_region 1 with fail
  rw [← hw1, ← hg1]
  clear hw1 hg1 hB
  have k1 : w1.cell? ⟨g1, 1, none⟩ = some (.int .u32 (fr : Int)) := HX1.out.cell 1
  go_upto_region 2 with
   (go_at_call 38
    refine (put_c B fr 4 ([] : List UInt8) _ w1 HG0.out.1 (by rw [HBE.out]; exact Nat.le_refl _) (by decide) (by decide) (by have := HFR.out; omega)).mono ?_
    rintro e9 wp1 ⟨v9, rfl, hg9⟩
    have HG1 : Hid (Grew B (.slice none 0 0) (beS fr 4) w1 v9 wp1) := hg9
    obtain ⟨A1, c1, hv9⟩ := own_slice HG1.out.1
    subst hv9
    obtain ⟨m1, hm⟩ : ∃ m, m = (beS fr 4).length := ⟨_, rfl⟩
    have HL1 : Hid ((beS fr 4).length ≤ 100000000) := by show _ ≤ _; simp [beS_len, fours_len, blksB_len]
    rw [← hm] at HG1 ⊢
    have k0 : wp1.cell? ⟨g1, 0, none⟩ = some (.int .i64 3) := (HG1.out.blkN HX1.out).cell 0
    have k2 : wp1.cell? ⟨g1, 2, none⟩ = some (.int .u32 (ab : Int)) := (HG1.out.blkN HX1.out).cell 2
    clear hg9 hm k1)
  go_upto_region 16 with
   (go_at_call 38
    refine (put_c B ab 4 (beS fr 4) _ wp1 HG1.out.1 (by rw [HBE.out]; exact HG1.out.2.1.size) HL1.out (by decide) (by have := HAB.out; omega)).mono ?_
    rintro e9 wp2 ⟨v9, rfl, hg9⟩
    have HG2 : Hid (Grew B (.slice none 0 0) ((beS fr 4) ++ beS ab 4) w1 v9 wp2) := HG1.out.trans hg9
    obtain ⟨A2, c2, hv9⟩ := own_slice HG2.out.1
    subst hv9
    obtain ⟨m2, hm⟩ : ∃ m, m = ((beS fr 4) ++ beS ab 4).length := ⟨_, rfl⟩
    have HL2 : Hid (((beS fr 4) ++ beS ab 4).length ≤ 100000000) := by show _ ≤ _; simp [beS_len, fours_len, blksB_len]
    rw [← hm] at HG2 ⊢
    have k0 : wp2.cell? ⟨g1, 0, none⟩ = some (.int .i64 3) := (HG2.out.blkN HX1.out).cell 0
    have k8 : wp2.cell? ⟨g1, 8, none⟩ = some (.slice Ap np cp) := (HG2.out.blkN HX1.out).cell 8
    clear hg9 hm k2)
  go_upto_region 19 with fail
  obtain ⟨L4, hL4⟩ : ∃ L4, L4 = ((beS fr 4) ++ beS ab 4) := ⟨_, rfl⟩
  have HGS : Hid (Grew B (.slice none 0 0) (L4 ++ pairsB (r.pairs.take 0)) w1 (.slice A2 m2 c2) wp2) := by
    show Grew _ _ _ _ _ _
    rw [hL4]
    simpa [pairsB] using HG2.out
  have HL4 := Lib.hid hL4
  have HL4l : Hid (L4.length ≤ 10000) := by show _ ≤ _; rw [hL4]; simp [beS_len]
  clear hL4
  go_loopg [2, 78] np (fun gg vv vi wx => ∃ i : Nat, gg = np - i ∧ i ≤ np ∧ vi = .int .i64 (i : Int) ∧ Grew B (.slice none 0 0) (L4 ++ pairsB (r.pairs.take i)) w1 vv wx)
  case atStart => exact ⟨0, rfl, by omega, rfl, HGS.out⟩
  case round =>
    obtain ⟨i, hgg, hi, rfl, hg⟩ := hrel
    obtain ⟨Av, cv, hv⟩ := own_slice hg.1
    subst hv
    have HG := Lib.hid hg
    have HGG := Lib.hid hgg
    clear hg hgg HGS
    have HBW : Hid (Below w1.heap.size w1 wr) := HG.out.belowN
    obtain ⟨L, hL⟩ : ∃ L, L = L4 ++ pairsB (r.pairs.take i) := ⟨_, rfl⟩
    have HLE := Lib.hid hL
    have HLl : Hid (L.length ≤ 90000000) := by show _ ≤ _; have := HL4l.out; rw [hL, List.length_append, pairsB_len, List.length_take]; omega
    rw [← hL] at HG ⊢
    obtain ⟨m, hm⟩ : ∃ m, m = L.length := ⟨_, rfl⟩
    have HM := Lib.hid hm
    rw [← hm] at HG ⊢
    clear hL hm
    by_cases hin : i < np
    · have hini : (i : Int) < (np : Int) := by omega
      have hw1 : IntKind.i64.wrap ((i : Int) + 1) = ((i + 1 : Nat) : Int) := by rw [IntKind.wrap_i64]; omega
      obtain ⟨e, hei⟩ : ∃ e, r.pairs[i]? = some e := ⟨r.pairs[i]'(by have := HLEN.out; omega), List.getElem?_eq_getElem _⟩
      obtain ⟨hz, ga, oa, hA, hga, hc⟩ := SlR.cells HBS.out (by omega) (by decide)
      subst hA
      obtain ⟨hel, hcc⟩ := hc i e hei
      obtain ⟨a0, a1, rr, he⟩ := of2 (ks := ksP) rfl hel
      have u0 : wr.cell? ⟨ga, oa + i * 2, none⟩ = some (.int .u16 (a0 : Int)) := (HBW.out.cell (p := ⟨ga, oa + i * 2, none⟩) hga).trans (hcc 0 _ (by rw [he]; rfl))
      have u1 : wr.cell? ⟨ga, oa + i * 2 + 1, none⟩ = some (.int .u16 (a1 : Int)) := (HBW.out.cell (p := ⟨ga, oa + i * 2 + 1, none⟩) hga).trans (hcc 1 _ (by rw [he]; rfl))
      have hfx := HFB.out e (List.mem_of_getElem? hei)
      rw [he] at hfx
      have HFX := Lib.hid hfx
      have HTK : Hid (L4 ++ pairsB (r.pairs.take (i + 1)) = L ++ pairB (a0 :: a1 :: rr)) := by
        show _ = _
        rw [takeN_snoc hei, pairsB_snoc, ← List.append_assoc, HLE.out, he]
      have HLT := Lib.hid hin
      clear hc hcc hei hin he hel hz hi hfx
      go_upto_region 21 with fail
      obtain ⟨gx, hgx⟩ : ∃ gx, gx = wr.heap.size := ⟨_, rfl⟩
      obtain ⟨w2, hw2⟩ : ∃ w2, w2 = wr.alloc (.cells #[.int .u16 (a0 : Int), .int .u16 (a1 : Int)] 57) := ⟨_, rfl⟩
      rw [← hw2, ← hgx]
      have HX2 : Hid (Blk w2 gx 57 #[.int .u16 (a0 : Int), .int .u16 (a1 : Int)]) := by show Blk _ _ _ _; rw [hw2]; exact Blk.newAt hgx _ _
      have HG2 : Hid (Grew B (.slice none 0 0) L w1 (.slice Av m cv) w2) := by
        show Grew _ _ _ _ _ _
        rw [hw2]
        exact ⟨HG.out.1.alloc _, HG.out.2.1.alloc _, HG.out.2.2⟩
      clear hw2 hgx u0 u1
      have HGD : Hid (Grew B (.slice none 0 0) L w1 (.slice Av m cv) (World.drew w2)) := ⟨HG2.out.1, HG2.out.2.1.drew, HG2.out.2.2⟩
      have HXD : Hid (Blk (World.drew w2) gx 57 #[.int .u16 (a0 : Int), .int .u16 (a1 : Int)]) := HX2.out
      have za0 : IntKind.u64.wrap (a0 : Int) = (a0 : Int) := wrap64 (by have := HFX.out a0 (by simp); omega)
      have za1 : IntKind.u64.wrap (a1 : Int) = (a1 : Int) := wrap64 (by have := HFX.out a1 (by simp); omega)
      refine wp_region_held_drew (S := (fun w3 => Blk w3 gx 57 #[.int .u16 (a0 : Int), .int .u16 (a1 : Int)])) (by kernel_rfl) (HXD.out) (fun hHeld => ?_)
      refine wpAnyH_takeAt (i := 0) (v := (.slice Av m cv)) rfl (by kernel_rfl) (by kernel_rfl) (by kernel_rfl) (fun _ _ _ h => h) rfl (Or.inl ⟨by rfl, fun w' hS => ?_⟩) hHeld ?_
      · go_simp
      simp only [List.set_cons_zero, List.set_cons_succ]
      refine wpAnyH_takeAt (i := 1) (v := (.pointer (some ⟨gx, 0, none⟩))) rfl (by kernel_rfl) (by kernel_rfl) (by kernel_rfl) (fun _ _ _ h => h) rfl (Or.inl ⟨by rfl, fun w' hS => ?_⟩) hHeld ?_
      · go_simp
      simp only [List.set_cons_zero, List.set_cons_succ]
      refine wpAnyH_takeAt (i := 2) (v := (.int .u16 (a0 : Int))) rfl (by kernel_rfl) (by kernel_rfl) (by kernel_rfl) (fun _ _ _ h => h) rfl (Or.inl ⟨by rfl, fun w' hS => ?_⟩) hHeld ?_
      · have hc := hS.cell 0
        have hc' : w'.cell? ⟨gx, 0, none⟩ = some (.int .u16 (a0 : Int)) := hc
        go_simp
      simp only [List.set_cons_zero, List.set_cons_succ]
      refine wpAnyH_takeAt (i := 3) (v := (.int .u64 (a0 : Int))) rfl (by kernel_rfl) (by kernel_rfl) (by kernel_rfl) (fun _ _ _ h => h) rfl (Or.inl ⟨by rfl, fun w' hS => ?_⟩) hHeld ?_
      · go_simp
      simp only [List.set_cons_zero, List.set_cons_succ]
      refine wpAnyH_takeAt (i := 5) (v := (.pointer (some ⟨gx, 1, none⟩))) rfl (by kernel_rfl) (by kernel_rfl) (by kernel_rfl) (fun _ _ _ h => h) rfl (Or.inl ⟨by rfl, fun w' hS => ?_⟩) hHeld ?_
      · go_simp
      simp only [List.set_cons_zero, List.set_cons_succ]
      refine wpAnyH_takeAt (i := 6) (v := (.int .u16 (a1 : Int))) rfl (by kernel_rfl) (by kernel_rfl) (by kernel_rfl) (fun _ _ _ h => h) rfl (Or.inl ⟨by rfl, fun w' hS => ?_⟩) hHeld ?_
      · have hc := hS.cell 1
        have hc' : w'.cell? ⟨gx, 1, none⟩ = some (.int .u16 (a1 : Int)) := hc
        go_simp
      simp only [List.set_cons_zero, List.set_cons_succ]
      refine wpAnyH_takeAt (i := 7) (v := (.int .u64 (a1 : Int))) rfl (by kernel_rfl) (by kernel_rfl) (by kernel_rfl) (fun _ _ _ h => h) rfl (Or.inl ⟨by rfl, fun w' hS => ?_⟩) hHeld ?_
      · go_simp
      simp only [List.set_cons_zero, List.set_cons_succ]
      refine wpAnyH_ready (rs := [4]) (by kernel_rfl) (by simp) (AllReadyH.cons rfl (fun K' hK => ?_) AllReadyH.nil)
      go_simp
      go_at_call 38
      refine (put_c B a0 2 L _ _ HGD.out.1 (by rw [HBE.out]; exact HGD.out.2.1.size) (by have := HLl.out; omega) (by decide) (by have := HFX.out a0 (by simp); omega)).mono ?_
      rintro e9 w5 ⟨v9, rfl, hg9⟩
      obtain ⟨A5, c5, hv9⟩ := own_slice hg9.1
      subst hv9
      have HX5 := Lib.hid (hg9.2.1.blk HXD.out (fun e => own_blk_ne HGD.out.1 HXD.out (by decide) e))
      have HGp5 : Hid (Grew B (.slice none 0 0) (L ++ beS a0 2) w1 (.slice A5 (L ++ beS a0 2).length c5) w5) := HGD.out.trans hg9
      obtain ⟨m5, hm⟩ : ∃ m, m = (L ++ beS a0 2).length := ⟨_, rfl⟩
      rw [← hm] at HGp5 ⊢
      clear hg9 hm
      go_wp2_with fail
      refine hK.out _ _ HX5.out (fun hHeld' => ?_)
      clear hK hHeld
      have hHeld := hHeld'
      clear hHeld'
      refine wpAnyH_ready (rs := [8]) (by kernel_rfl) (by simp) (AllReadyH.cons rfl (fun K' hK => ?_) AllReadyH.nil)
      go_simp
      go_at_call 38
      refine (put_c B a1 2 (L ++ beS a0 2) _ _ HGp5.out.1 (by rw [HBE.out]; exact HGp5.out.2.1.size) (by have := HLl.out; rw [List.length_append, beS_len]; omega) (by decide) (by have := HFX.out a1 (by simp); omega)).mono ?_
      rintro e9 w6 ⟨v9, rfl, hg9⟩
      obtain ⟨A6, c6, hv9⟩ := own_slice hg9.1
      subst hv9
      have HX6 := Lib.hid (hg9.2.1.blk HX5.out (fun e => own_blk_ne HGp5.out.1 HX5.out (by decide) e))
      have HGp6 : Hid (Grew B (.slice none 0 0) ((L ++ beS a0 2) ++ beS a1 2) w1 (.slice A6 ((L ++ beS a0 2) ++ beS a1 2).length c6) w6) := HGp5.out.trans hg9
      obtain ⟨m6, hm⟩ : ∃ m, m = ((L ++ beS a0 2) ++ beS a1 2).length := ⟨_, rfl⟩
      rw [← hm] at HGp6 ⊢
      clear hg9 hm
      go_wp2_with fail
      refine hK.out _ _ HX6.out (fun hHeld' => ?_)
      clear hK hHeld
      have hHeld := hHeld'
      clear hHeld'
      refine wpAnyH_takeAt (i := 9) (v := (.slice A6 m6 c6)) rfl (by kernel_rfl) (by kernel_rfl) (by kernel_rfl) (fun _ _ _ h => h) rfl (Or.inl ⟨by rfl, fun w' hS => ?_⟩) hHeld ?_
      · go_simp
      simp only [List.set_cons_zero, List.set_cons_succ]
      refine wpAnyH_done (by kernel_rfl) ?_ _
      go_wp2_with fail
      go_roundg (np - (i + 1))
      case measure => have := HLT.out; have := HGG.out; omega
      case rel =>
        have hlt := HLT.out
        refine ⟨i + 1, rfl, by omega, by first | rfl | go_num, ?_⟩
        rw [HTK.out]
        have hs := HGp6.out
        rw [List.append_assoc] at hs
        exact hs
    · have hini : ¬ (i : Int) < (np : Int) := by omega
      have hie : np = i := by omega
      subst hie
      have HT : Hid (r.pairs.take np = r.pairs) := List.take_of_length_le (by have := HLEN.out; omega)
      clear hin hi
      go_wp2_with fail
      go_ret3
      refine ⟨_, by unfold typS cntS; rw [HR4.out]; rfl, ?_, bcall HB1.out HG.out.belowN⟩
      have hs := HG.out.tv (w0 := w) (by rw [HBE.out]; exact HB1.out.size)
      unfold bodyS
      rw [HR4.out, HE1.out, HE2.out]
      rw [HLE.out, HT.out, HL4.out] at hs
      exact .inl hs
end Go.Proofs.Ytkfimncbfbbopaa
/- What told returns: a lost picture (contract). Conditions: none. (Printed by gen8g.py.) -/
set_option linter.unusedVariables false
set_option linter.unusedSimpArgs false
namespace Go.Proofs.Ytkfimncbfbbopaa
open Go.RowKit
attribute [local go_sem ↓] Go.wp_at_zero Go.wp_at_succ

set_option maxRecDepth 100000 in
set_option maxHeartbeats 12800000 in
theorem told4_c (fr ab ntp ts pk oc mt nb cb np cp nf cf ns cs nd cd : Nat) (ex ty ct : Int) (Ab Ap Af As Ad : Option Addr) (w : World) (r : Rep) (hr : r.kind = 4)
    (hfr : fr < 4294967296) (hab : ab < 4294967296) (e1 : r.fr = fr) (e2 : r.ab = ab) :
    Calls Try.prog 37 #[.agg #[.int .i64 4, .int .u32 (fr : Int), .int .u32 (ab : Int), .int .u64 (ntp : Int), .int .u32 (ts : Int), .int .u32 (pk : Int), .int .u32 (oc : Int), .slice Ab nb cb, .slice Ap np cp, .slice Af nf cf, .int .i64 ex, .int .u32 (mt : Int), .slice As ns cs, .int .i64 ty, .int .i64 ct, .slice Ad nd cd]] w (ToldR r (.slice Ad nd cd) w) := by
  obtain ⟨iB, hiB, hz0, hz1, hz2⟩ := info_parts infoByte
  obtain ⟨g1, hg1⟩ : ∃ g1, g1 = w.heap.size := ⟨_, rfl⟩
  obtain ⟨w1, hw1⟩ : ∃ w1, w1 = w.alloc (.cells #[.int .i64 4, .int .u32 (fr : Int), .int .u32 (ab : Int), .int .u64 (ntp : Int), .int .u32 (ts : Int), .int .u32 (pk : Int), .int .u32 (oc : Int), .slice Ab nb cb, .slice Ap np cp, .slice Af nf cf, .int .i64 ex, .int .u32 (mt : Int), .slice As ns cs, .int .i64 ty, .int .i64 ct, .slice Ad nd cd] 46) := ⟨_, rfl⟩
  obtain ⟨B, hB⟩ : ∃ B, B = w1.heap.size := ⟨_, rfl⟩
  have HX1 : Hid (Blk w1 g1 46 #[.int .i64 4, .int .u32 (fr : Int), .int .u32 (ab : Int), .int .u64 (ntp : Int), .int .u32 (ts : Int), .int .u32 (pk : Int), .int .u32 (oc : Int), .slice Ab nb cb, .slice Ap np cp, .slice Af nf cf, .int .i64 ex, .int .u32 (mt : Int), .slice As ns cs, .int .i64 ty, .int .i64 ct, .slice Ad nd cd]) := by show Blk _ _ _ _; rw [hw1]; exact Blk.newAt hg1 _ _
  have HB1 : Hid (Below w.heap.size w w1) := by show Below _ _ _; rw [hw1]; exact balloc (Below.refl _ _) _
  have HG0 : Hid (Grew B (.slice none 0 0) [] w1 (.slice none 0 0) w1) := by show Grew _ _ _ _ _ _; rw [hB]; exact Grew.start w1
  have HBE := Lib.hid hB
  have z1 := wrap64 hfr
  have z2 := wrap64 hab
  have HFR := Lib.hid hfr
  have HAB := Lib.hid hab
  have HR4 := Lib.hid hr
  have HE1 := Lib.hid e1
  have HE2 := Lib.hid e2
  clear hr hfr hab e1 e2
  go_enter Try.func37, Try.ntmps37
  go_upto_region 1 with fail
  rw [← hw1, ← hg1]
  clear hw1 hg1 hB
  have k1 : w1.cell? ⟨g1, 1, none⟩ = some (.int .u32 (fr : Int)) := HX1.out.cell 1
  go_upto_region 2 with
   (go_at_call 38
    refine (put_c B fr 4 ([] : List UInt8) _ w1 HG0.out.1 (by rw [HBE.out]; exact Nat.le_refl _) (by decide) (by decide) (by have := HFR.out; omega)).mono ?_
    rintro e9 wp1 ⟨v9, rfl, hg9⟩
    have HG1 : Hid (Grew B (.slice none 0 0) (beS fr 4) w1 v9 wp1) := hg9
    obtain ⟨A1, c1, hv9⟩ := own_slice HG1.out.1
    subst hv9
    obtain ⟨m1, hm⟩ : ∃ m, m = (beS fr 4).length := ⟨_, rfl⟩
    have HL1 : Hid ((beS fr 4).length ≤ 100000000) := by show _ ≤ _; simp [beS_len, fours_len, blksB_len]
    rw [← hm] at HG1 ⊢
    have k0 : wp1.cell? ⟨g1, 0, none⟩ = some (.int .i64 4) := (HG1.out.blkN HX1.out).cell 0
    have k2 : wp1.cell? ⟨g1, 2, none⟩ = some (.int .u32 (ab : Int)) := (HG1.out.blkN HX1.out).cell 2
    clear hg9 hm k1)
  go_upto_region 16 with
   (go_at_call 38
    refine (put_c B ab 4 (beS fr 4) _ wp1 HG1.out.1 (by rw [HBE.out]; exact HG1.out.2.1.size) HL1.out (by decide) (by have := HAB.out; omega)).mono ?_
    rintro e9 wp2 ⟨v9, rfl, hg9⟩
    have HG2 : Hid (Grew B (.slice none 0 0) ((beS fr 4) ++ beS ab 4) w1 v9 wp2) := HG1.out.trans hg9
    obtain ⟨A2, c2, hv9⟩ := own_slice HG2.out.1
    subst hv9
    obtain ⟨m2, hm⟩ : ∃ m, m = ((beS fr 4) ++ beS ab 4).length := ⟨_, rfl⟩
    have HL2 : Hid (((beS fr 4) ++ beS ab 4).length ≤ 100000000) := by show _ ≤ _; simp [beS_len, fours_len, blksB_len]
    rw [← hm] at HG2 ⊢
    have k0 : wp2.cell? ⟨g1, 0, none⟩ = some (.int .i64 4) := (HG2.out.blkN HX1.out).cell 0
    clear hg9 hm )
  go_wp2_with fail
  go_ret3
  refine ⟨_, by unfold typS cntS; rw [HR4.out]; rfl, ?_, bcall HB1.out HG2.out.belowN⟩
  have hs := HG2.out.tv (w0 := w) (by rw [HBE.out]; exact HB1.out.size)
  unfold bodyS
  rw [HR4.out, HE1.out, HE2.out]
  exact .inl hs
end Go.Proofs.Ytkfimncbfbbopaa
/- What told returns: key frames that are asked for (contract). Conditions: what it asks for lies in memory. (Printed by gen8g.py.) -/
set_option linter.unusedVariables false
set_option linter.unusedSimpArgs false
namespace Go.Proofs.Ytkfimncbfbbopaa
open Go.RowKit
attribute [local go_sem ↓] Go.wp_at_zero Go.wp_at_succ

set_option maxRecDepth 100000 in
set_option maxHeartbeats 12800000 in
theorem told5_c (fr ab ntp ts pk oc mt nb cb np cp nf cf ns cs nd cd : Nat) (ex ty ct : Int) (Ab Ap Af As Ad : Option Addr) (w : World) (r : Rep) (hr : r.kind = 5) (hbs : SlR w ksF (.slice Af nf cf) r.firs) (hfb : FitL r.firs) (hnb : nf ≤ 100000)
    (hfr : fr < 4294967296) (hab : ab < 4294967296) (e1 : r.fr = fr) (e2 : r.ab = ab) :
    Calls Try.prog 37 #[.agg #[.int .i64 5, .int .u32 (fr : Int), .int .u32 (ab : Int), .int .u64 (ntp : Int), .int .u32 (ts : Int), .int .u32 (pk : Int), .int .u32 (oc : Int), .slice Ab nb cb, .slice Ap np cp, .slice Af nf cf, .int .i64 ex, .int .u32 (mt : Int), .slice As ns cs, .int .i64 ty, .int .i64 ct, .slice Ad nd cd]] w (ToldR r (.slice Ad nd cd) w) := by
  obtain ⟨iB, hiB, hz0, hz1, hz2⟩ := info_parts infoByte
  obtain ⟨g1, hg1⟩ : ∃ g1, g1 = w.heap.size := ⟨_, rfl⟩
  obtain ⟨w1, hw1⟩ : ∃ w1, w1 = w.alloc (.cells #[.int .i64 5, .int .u32 (fr : Int), .int .u32 (ab : Int), .int .u64 (ntp : Int), .int .u32 (ts : Int), .int .u32 (pk : Int), .int .u32 (oc : Int), .slice Ab nb cb, .slice Ap np cp, .slice Af nf cf, .int .i64 ex, .int .u32 (mt : Int), .slice As ns cs, .int .i64 ty, .int .i64 ct, .slice Ad nd cd] 46) := ⟨_, rfl⟩
  obtain ⟨B, hB⟩ : ∃ B, B = w1.heap.size := ⟨_, rfl⟩
  have HX1 : Hid (Blk w1 g1 46 #[.int .i64 5, .int .u32 (fr : Int), .int .u32 (ab : Int), .int .u64 (ntp : Int), .int .u32 (ts : Int), .int .u32 (pk : Int), .int .u32 (oc : Int), .slice Ab nb cb, .slice Ap np cp, .slice Af nf cf, .int .i64 ex, .int .u32 (mt : Int), .slice As ns cs, .int .i64 ty, .int .i64 ct, .slice Ad nd cd]) := by show Blk _ _ _ _; rw [hw1]; exact Blk.newAt hg1 _ _
  have HB1 : Hid (Below w.heap.size w w1) := by show Below _ _ _; rw [hw1]; exact balloc (Below.refl _ _) _
  have HG0 : Hid (Grew B (.slice none 0 0) [] w1 (.slice none 0 0) w1) := by show Grew _ _ _ _ _ _; rw [hB]; exact Grew.start w1
  have HBE := Lib.hid hB
  have z1 := wrap64 hfr
  have z2 := wrap64 hab
  have HFR := Lib.hid hfr
  have HAB := Lib.hid hab
  have HR4 := Lib.hid hr
  have HE1 := Lib.hid e1
  have HE2 := Lib.hid e2
  have HBS : Hid (SlR w1 ksF (.slice Af nf cf) r.firs) := hbs.below HB1.out
  have HFB := Lib.hid hfb
  have HLEN : Hid (r.firs.length = nf) := by obtain ⟨_, _, e, _⟩ := hbs; injection e with _ e; exact e.symm
  clear hbs hfb
  clear hr hfr hab e1 e2
  go_enter Try.func37, Try.ntmps37
  go_upto_region 1 with fail
  rw [← hw1, ← hg1]
  clear hw1 hg1 hB
  have k1 : w1.cell? ⟨g1, 1, none⟩ = some (.int .u32 (fr : Int)) := HX1.out.cell 1
  go_upto_region 2 with
   (go_at_call 38
    refine (put_c B fr 4 ([] : List UInt8) _ w1 HG0.out.1 (by rw [HBE.out]; exact Nat.le_refl _) (by decide) (by decide) (by have := HFR.out; omega)).mono ?_
    rintro e9 wp1 ⟨v9, rfl, hg9⟩
    have HG1 : Hid (Grew B (.slice none 0 0) (beS fr 4) w1 v9 wp1) := hg9
    obtain ⟨A1, c1, hv9⟩ := own_slice HG1.out.1
    subst hv9
    obtain ⟨m1, hm⟩ : ∃ m, m = (beS fr 4).length := ⟨_, rfl⟩
    have HL1 : Hid ((beS fr 4).length ≤ 100000000) := by show _ ≤ _; simp [beS_len, fours_len, blksB_len]
    rw [← hm] at HG1 ⊢
    have k0 : wp1.cell? ⟨g1, 0, none⟩ = some (.int .i64 5) := (HG1.out.blkN HX1.out).cell 0
    have k2 : wp1.cell? ⟨g1, 2, none⟩ = some (.int .u32 (ab : Int)) := (HG1.out.blkN HX1.out).cell 2
    clear hg9 hm k1)
  go_upto_region 16 with
   (go_at_call 38
    refine (put_c B ab 4 (beS fr 4) _ wp1 HG1.out.1 (by rw [HBE.out]; exact HG1.out.2.1.size) HL1.out (by decide) (by have := HAB.out; omega)).mono ?_
    rintro e9 wp2 ⟨v9, rfl, hg9⟩
    have HG2 : Hid (Grew B (.slice none 0 0) ((beS fr 4) ++ beS ab 4) w1 v9 wp2) := HG1.out.trans hg9
    obtain ⟨A2, c2, hv9⟩ := own_slice HG2.out.1
    subst hv9
    obtain ⟨m2, hm⟩ : ∃ m, m = ((beS fr 4) ++ beS ab 4).length := ⟨_, rfl⟩
    have HL2 : Hid (((beS fr 4) ++ beS ab 4).length ≤ 100000000) := by show _ ≤ _; simp [beS_len, fours_len, blksB_len]
    rw [← hm] at HG2 ⊢
    have k0 : wp2.cell? ⟨g1, 0, none⟩ = some (.int .i64 5) := (HG2.out.blkN HX1.out).cell 0
    have k9 : wp2.cell? ⟨g1, 9, none⟩ = some (.slice Af nf cf) := (HG2.out.blkN HX1.out).cell 9
    clear hg9 hm k2)
  go_upto_region 26 with fail
  obtain ⟨L4, hL4⟩ : ∃ L4, L4 = ((beS fr 4) ++ beS ab 4) := ⟨_, rfl⟩
  have HGS : Hid (Grew B (.slice none 0 0) (L4 ++ firsB (r.firs.take 0)) w1 (.slice A2 m2 c2) wp2) := by
    show Grew _ _ _ _ _ _
    rw [hL4]
    simpa [firsB] using HG2.out
  have HL4 := Lib.hid hL4
  have HL4l : Hid (L4.length ≤ 10000) := by show _ ≤ _; rw [hL4]; simp [beS_len]
  clear hL4
  go_loopg [2, 98] nf (fun gg vv vi wx => ∃ i : Nat, gg = nf - i ∧ i ≤ nf ∧ vi = .int .i64 (i : Int) ∧ Grew B (.slice none 0 0) (L4 ++ firsB (r.firs.take i)) w1 vv wx)
  case atStart => exact ⟨0, rfl, by omega, rfl, HGS.out⟩
  case round =>
    obtain ⟨i, hgg, hi, rfl, hg⟩ := hrel
    obtain ⟨Av, cv, hv⟩ := own_slice hg.1
    subst hv
    have HG := Lib.hid hg
    have HGG := Lib.hid hgg
    clear hg hgg HGS
    have HBW : Hid (Below w1.heap.size w1 wr) := HG.out.belowN
    obtain ⟨L, hL⟩ : ∃ L, L = L4 ++ firsB (r.firs.take i) := ⟨_, rfl⟩
    have HLE := Lib.hid hL
    have HLl : Hid (L.length ≤ 90000000) := by show _ ≤ _; have := HL4l.out; rw [hL, List.length_append, firsB_len, List.length_take]; omega
    rw [← hL] at HG ⊢
    obtain ⟨m, hm⟩ : ∃ m, m = L.length := ⟨_, rfl⟩
    have HM := Lib.hid hm
    rw [← hm] at HG ⊢
    clear hL hm
    by_cases hin : i < nf
    · have hini : (i : Int) < (nf : Int) := by omega
      have hw1 : IntKind.i64.wrap ((i : Int) + 1) = ((i + 1 : Nat) : Int) := by rw [IntKind.wrap_i64]; omega
      obtain ⟨e, hei⟩ : ∃ e, r.firs[i]? = some e := ⟨r.firs[i]'(by have := HLEN.out; omega), List.getElem?_eq_getElem _⟩
      obtain ⟨hz, ga, oa, hA, hga, hc⟩ := SlR.cells HBS.out (by omega) (by decide)
      subst hA
      obtain ⟨hel, hcc⟩ := hc i e hei
      obtain ⟨a0, a1, rr, he⟩ := of2 (ks := ksF) rfl hel
      have u0 : wr.cell? ⟨ga, oa + i * 2, none⟩ = some (.int .u32 (a0 : Int)) := (HBW.out.cell (p := ⟨ga, oa + i * 2, none⟩) hga).trans (hcc 0 _ (by rw [he]; rfl))
      have u1 : wr.cell? ⟨ga, oa + i * 2 + 1, none⟩ = some (.int .u8 (a1 : Int)) := (HBW.out.cell (p := ⟨ga, oa + i * 2 + 1, none⟩) hga).trans (hcc 1 _ (by rw [he]; rfl))
      have hfx := HFB.out e (List.mem_of_getElem? hei)
      rw [he] at hfx
      have HFX := Lib.hid hfx
      have HTK : Hid (L4 ++ firsB (r.firs.take (i + 1)) = L ++ firB (a0 :: a1 :: rr)) := by
        show _ = _
        rw [takeN_snoc hei, firsB_snoc, ← List.append_assoc, HLE.out, he]
      have HLT := Lib.hid hin
      clear hc hcc hei hin he hel hz hi hfx
      go_upto_region 28 with fail
      obtain ⟨gx, hgx⟩ : ∃ gx, gx = wr.heap.size := ⟨_, rfl⟩
      obtain ⟨w2, hw2⟩ : ∃ w2, w2 = wr.alloc (.cells #[.int .u32 (a0 : Int), .int .u8 (a1 : Int)] 82) := ⟨_, rfl⟩
      rw [← hw2, ← hgx]
      have HX2 : Hid (Blk w2 gx 82 #[.int .u32 (a0 : Int), .int .u8 (a1 : Int)]) := by show Blk _ _ _ _; rw [hw2]; exact Blk.newAt hgx _ _
      have HG2 : Hid (Grew B (.slice none 0 0) L w1 (.slice Av m cv) w2) := by
        show Grew _ _ _ _ _ _
        rw [hw2]
        exact ⟨HG.out.1.alloc _, HG.out.2.1.alloc _, HG.out.2.2⟩
      clear hw2 hgx u0 u1
      have HGD : Hid (Grew B (.slice none 0 0) L w1 (.slice Av m cv) (World.drew w2)) := ⟨HG2.out.1, HG2.out.2.1.drew, HG2.out.2.2⟩
      have HXD : Hid (Blk (World.drew w2) gx 82 #[.int .u32 (a0 : Int), .int .u8 (a1 : Int)]) := HX2.out
      have HA0 : Hid (a0 < 4294967296) := HFX.out.1 a0 (by simp)
      have HA1 : Hid (a1 < 256) := HFX.out.2
      have za0 : IntKind.u64.wrap (a0 : Int) = (a0 : Int) := wrap64 HA0.out
      have HN4 : Hid ([Value.int .u8 (a1 : Int), .int .u8 0, .int .u8 0, .int .u8 0] = ([UInt8.ofNat a1, 0, 0, 0] : List UInt8).map u8v) := by
        show _ = _
        simp only [List.map_cons, List.map_nil]
        rw [u8v_of HA1.out]
        rfl
      refine wp_region_held_drew (S := (fun w3 => Blk w3 gx 82 #[.int .u32 (a0 : Int), .int .u8 (a1 : Int)])) (by kernel_rfl) (HXD.out) (fun hHeld => ?_)
      refine wpAnyH_takeAt (i := 0) (v := (.slice Av m cv)) rfl (by kernel_rfl) (by kernel_rfl) (by kernel_rfl) (fun _ _ _ h => h) rfl (Or.inl ⟨by rfl, fun w' hS => ?_⟩) hHeld ?_
      · go_simp
      simp only [List.set_cons_zero, List.set_cons_succ]
      refine wpAnyH_takeAt (i := 1) (v := (.pointer (some ⟨gx, 0, none⟩))) rfl (by kernel_rfl) (by kernel_rfl) (by kernel_rfl) (fun _ _ _ h => h) rfl (Or.inl ⟨by rfl, fun w' hS => ?_⟩) hHeld ?_
      · go_simp
      simp only [List.set_cons_zero, List.set_cons_succ]
      refine wpAnyH_takeAt (i := 2) (v := (.int .u32 (a0 : Int))) rfl (by kernel_rfl) (by kernel_rfl) (by kernel_rfl) (fun _ _ _ h => h) rfl (Or.inl ⟨by rfl, fun w' hS => ?_⟩) hHeld ?_
      · have hc := hS.cell 0
        have hc' : w'.cell? ⟨gx, 0, none⟩ = some (.int .u32 (a0 : Int)) := hc
        go_simp
      simp only [List.set_cons_zero, List.set_cons_succ]
      refine wpAnyH_takeAt (i := 3) (v := (.int .u64 (a0 : Int))) rfl (by kernel_rfl) (by kernel_rfl) (by kernel_rfl) (fun _ _ _ h => h) rfl (Or.inl ⟨by rfl, fun w' hS => ?_⟩) hHeld ?_
      · go_simp
      simp only [List.set_cons_zero, List.set_cons_succ]
      refine wpAnyH_takeAt (i := 5) (v := (.pointer (some ⟨gx, 1, none⟩))) rfl (by kernel_rfl) (by kernel_rfl) (by kernel_rfl) (fun _ _ _ h => h) rfl (Or.inl ⟨by rfl, fun w' hS => ?_⟩) hHeld ?_
      · go_simp
      simp only [List.set_cons_zero, List.set_cons_succ]
      refine wpAnyH_takeAt (i := 6) (v := (.int .u8 (a1 : Int))) rfl (by kernel_rfl) (by kernel_rfl) (by kernel_rfl) (fun _ _ _ h => h) rfl (Or.inl ⟨by rfl, fun w' hS => ?_⟩) hHeld ?_
      · have hc := hS.cell 1
        have hc' : w'.cell? ⟨gx, 1, none⟩ = some (.int .u8 (a1 : Int)) := hc
        go_simp
      simp only [List.set_cons_zero, List.set_cons_succ]
      refine wpAnyH_ready (rs := [4, 7]) (by kernel_rfl) (by simp) (AllReadyH.cons rfl (fun K' hK => ?_) (AllReadyH.cons rfl (fun K' hK => ?_) AllReadyH.nil))
      · go_simp
        go_at_call 38
        refine (put_c B a0 4 L _ _ HGD.out.1 (by rw [HBE.out]; exact HGD.out.2.1.size) (by have := HLl.out; omega) (by decide) (by have := HA0.out; omega)).mono ?_
        rintro e9 w_1 ⟨v9, rfl, hg9⟩
        obtain ⟨A_1, c_1, hv9⟩ := own_slice hg9.1
        subst hv9
        have HX_1 := Lib.hid (hg9.2.1.blk HXD.out (fun e => own_blk_ne HGD.out.1 HXD.out (by decide) e))
        have HG_1 : Hid (Grew B (.slice none 0 0) (L ++ beS a0 4) w1 (.slice A_1 (L ++ beS a0 4).length c_1) w_1) := HGD.out.trans hg9
        obtain ⟨m_1, hm⟩ : ∃ m, m = (L ++ beS a0 4).length := ⟨_, rfl⟩
        have HM_1 := Lib.hid hm
        rw [← hm] at HG_1 ⊢
        clear hg9 hm
        go_wp2_with fail
        refine hK.out _ _ HX_1.out (fun hHeld' => ?_)
        clear hK hHeld
        have hHeld := hHeld'
        clear hHeld'
        refine wpAnyH_ready (rs := [7]) (by kernel_rfl) (by simp) (AllReadyH.cons rfl (fun K' hK => ?_) AllReadyH.nil)
        go_simp
        obtain ⟨gy_, hgy_⟩ : ∃ gy_, gy_ = (World.heap w_1).size := ⟨_, rfl⟩
        have HY_2 : Hid (Blk (World.alloc w_1 (.cells #[.int .u8 (a1 : Int), .int .u8 0, .int .u8 0, .int .u8 0] 5)) gy_ 5 #[.int .u8 (a1 : Int), .int .u8 0, .int .u8 0, .int .u8 0]) := Blk.newAt hgy_ _ _
        have HNE : Hid ((Value.slice A_1 m_1 c_1).ownBlock ≠ some gy_) := fun e => by have := (HG_1.out.1.lt gy_ e).2; omega
        have HGE : Hid ((w_1).heap.size = gy_) := hgy_.symm
        have HX_2 : Hid (Blk (World.alloc w_1 (.cells #[.int .u8 (a1 : Int), .int .u8 0, .int .u8 0, .int .u8 0] 5)) gx 82 #[.int .u32 (a0 : Int), .int .u8 (a1 : Int)]) := Blk.alloc HX_1.out _
        have HG_2 : Hid (Grew B (.slice none 0 0) (L ++ beS a0 4) w1 (.slice A_1 m_1 c_1) (World.alloc w_1 (.cells #[.int .u8 (a1 : Int), .int .u8 0, .int .u8 0, .int .u8 0] 5))) := ⟨HG_1.out.1.alloc _, HG_1.out.2.1.alloc _, HG_1.out.2.2⟩
        refine hK.out _ _ HX_2.out (fun hHeld' => ?_)
        clear hK hHeld
        have hHeld := hHeld'
        clear hHeld'
        rw [HGE.out]
        clear hgy_
        refine wpAnyH_ready (rs := [8]) (by kernel_rfl) (by simp) (AllReadyH.cons rfl (fun K' hK => ?_) AllReadyH.nil)
        have HO_3 : Hid (World.ownsRow (World.alloc w_1 (.cells #[.int .u8 (a1 : Int), .int .u8 0, .int .u8 0, .int .u8 0] 5)) B 5 1 (.slice A_1 m_1 c_1) m_1 ((L ++ beS a0 4).map u8v)) := by
          have := HG_2.out.1
          rw [← HM_1.out] at this
          exact this
        refine step_append_any _ (by rfl) (.tmp 106) (.tmp 109) _ (by rfl) B 5 iB _ 1 1 Try.underlying22 hiB hz0 hz1 hz2 rfl (by omega) (.slice A_1 m_1 c_1) m_1 ((L ++ beS a0 4).map u8v) (by rfl) HO_3.out
          _ (some ⟨gy_, 0, none⟩) 4 4 [.int .u8 (a1 : Int), .int .u8 0, .int .u8 0, .int .u8 0] (by rfl) (reads_blk HY_2.out rfl) (by simp [Value.oneCell']) (by have h1 := HM_1.out; have := HLl.out; rw [List.length_append, beS_len] at h1; simp only [maxLen]; omega) (by have h1 := HM_1.out; have := HLl.out; rw [List.length_append, beS_len] at h1; omega) (by rw [HBE.out]; exact HG_2.out.2.1.size) ?_
        intro v_3 w_3 hown_3 hg_3 hat_3
        obtain ⟨A_3, c_3, hv_3⟩ := own_slice hown_3
        subst hv_3
        have HX_3 : Hid (Blk w_3 gx 82 #[.int .u32 (a0 : Int), .int .u8 (a1 : Int)]) := Blk.grown HX_2.out hg_3 (Ne.symm (own_blk_ne HO_3.out HX_2.out (by decide)))
        have HGF : Hid (Grew B (.slice none 0 0) (L ++ beS a0 4 ++ [UInt8.ofNat a1, 0, 0, 0]) w1 (.slice A_3 (m_1 + 4) c_3) w_3) := by
          refine HG_2.out.trans (Grew.app (news := [UInt8.ofNat a1, 0, 0, 0]) (Sv.refl _ _) ?_ hg_3 hat_3)
          have := hown_3
          rw [HN4.out] at this
          rw [← HM_1.out]
          exact this
        clear hown_3 hg_3 hat_3
        refine hK.out _ _ HX_3.out (fun hHeld' => ?_)
        clear hK hHeld
        have hHeld := hHeld'
        clear hHeld'
        refine wpAnyH_putAt rfl ?_
        simp only [List.set_cons_zero, List.set_cons_succ]
        refine wpAnyH_takeAt (i := 9) (v := (.slice A_3 (m_1 + 4) c_3)) rfl (by kernel_rfl) (by kernel_rfl) (by kernel_rfl) (fun _ _ _ h => h) rfl (Or.inl ⟨by rfl, fun w' hS => ?_⟩) hHeld ?_
        · go_simp
        simp only [List.set_cons_zero, List.set_cons_succ]
        refine wpAnyH_done (by kernel_rfl) ?_ _
        go_wp2_with fail
        go_roundg (nf - (i + 1))
        case measure => have := HLT.out; have := HGG.out; omega
        case rel =>
          have hlt := HLT.out
          refine ⟨i + 1, rfl, by omega, by first | rfl | go_num, ?_⟩
          rw [HTK.out]
          have hs := HGF.out
          rw [List.append_assoc] at hs
          exact hs
      · go_simp
        obtain ⟨gy_, hgy_⟩ : ∃ gy_, gy_ = (World.heap (World.drew w2)).size := ⟨_, rfl⟩
        have HY_4 : Hid (Blk (World.drew (World.alloc w2 (.cells #[.int .u8 (a1 : Int), .int .u8 0, .int .u8 0, .int .u8 0] 5))) gy_ 5 #[.int .u8 (a1 : Int), .int .u8 0, .int .u8 0, .int .u8 0]) := Blk.newAt hgy_ _ _
        have HNE : Hid ((Value.slice Av m cv).ownBlock ≠ some gy_) := fun e => by have := (HGD.out.1.lt gy_ e).2; omega
        have HGE : Hid ((w2).heap.size = gy_) := hgy_.symm
        have HX_4 : Hid (Blk (World.drew (World.alloc w2 (.cells #[.int .u8 (a1 : Int), .int .u8 0, .int .u8 0, .int .u8 0] 5))) gx 82 #[.int .u32 (a0 : Int), .int .u8 (a1 : Int)]) := Blk.alloc HXD.out _
        have HG_4 : Hid (Grew B (.slice none 0 0) L w1 (.slice Av m cv) (World.drew (World.alloc w2 (.cells #[.int .u8 (a1 : Int), .int .u8 0, .int .u8 0, .int .u8 0] 5)))) := ⟨HGD.out.1.alloc _, HGD.out.2.1.alloc _, HGD.out.2.2⟩
        refine hK.out _ _ HX_4.out (fun hHeld' => ?_)
        clear hK hHeld
        have hHeld := hHeld'
        clear hHeld'
        rw [HGE.out]
        clear hgy_
        refine wpAnyH_ready (rs := [4]) (by kernel_rfl) (by simp) (AllReadyH.cons rfl (fun K' hK => ?_) AllReadyH.nil)
        go_simp
        go_at_call 38
        refine (put_c B a0 4 L _ _ HG_4.out.1 (by rw [HBE.out]; exact HG_4.out.2.1.size) (by have := HLl.out; omega) (by decide) (by have := HA0.out; omega)).mono ?_
        rintro e9 w_5 ⟨v9, rfl, hg9⟩
        obtain ⟨A_5, c_5, hv9⟩ := own_slice hg9.1
        subst hv9
        have HX_5 := Lib.hid (hg9.2.1.blk HX_4.out (fun e => own_blk_ne HG_4.out.1 HX_4.out (by decide) e))
        have HG_5 : Hid (Grew B (.slice none 0 0) (L ++ beS a0 4) w1 (.slice A_5 (L ++ beS a0 4).length c_5) w_5) := HG_4.out.trans hg9
        have HY_5 := Lib.hid (hg9.2.1.blk HY_4.out (fun e => HNE.out e))
        obtain ⟨m_5, hm⟩ : ∃ m, m = (L ++ beS a0 4).length := ⟨_, rfl⟩
        have HM_5 := Lib.hid hm
        rw [← hm] at HG_5 ⊢
        clear hg9 hm
        go_wp2_with fail
        refine hK.out _ _ HX_5.out (fun hHeld' => ?_)
        clear hK hHeld
        have hHeld := hHeld'
        clear hHeld'
        refine wpAnyH_ready (rs := [8]) (by kernel_rfl) (by simp) (AllReadyH.cons rfl (fun K' hK => ?_) AllReadyH.nil)
        have HO_6 : Hid (World.ownsRow w_5 B 5 1 (.slice A_5 m_5 c_5) m_5 ((L ++ beS a0 4).map u8v)) := by
          have := HG_5.out.1
          rw [← HM_5.out] at this
          exact this
        refine step_append_any _ (by rfl) (.tmp 106) (.tmp 109) _ (by rfl) B 5 iB _ 1 1 Try.underlying22 hiB hz0 hz1 hz2 rfl (by omega) (.slice A_5 m_5 c_5) m_5 ((L ++ beS a0 4).map u8v) (by rfl) HO_6.out
          _ (some ⟨gy_, 0, none⟩) 4 4 [.int .u8 (a1 : Int), .int .u8 0, .int .u8 0, .int .u8 0] (by rfl) (reads_blk HY_5.out rfl) (by simp [Value.oneCell']) (by have h1 := HM_5.out; have := HLl.out; rw [List.length_append, beS_len] at h1; simp only [maxLen]; omega) (by have h1 := HM_5.out; have := HLl.out; rw [List.length_append, beS_len] at h1; omega) (by rw [HBE.out]; exact HG_5.out.2.1.size) ?_
        intro v_6 w_6 hown_6 hg_6 hat_6
        obtain ⟨A_6, c_6, hv_6⟩ := own_slice hown_6
        subst hv_6
        have HX_6 : Hid (Blk w_6 gx 82 #[.int .u32 (a0 : Int), .int .u8 (a1 : Int)]) := Blk.grown HX_5.out hg_6 (Ne.symm (own_blk_ne HO_6.out HX_5.out (by decide)))
        have HGF : Hid (Grew B (.slice none 0 0) (L ++ beS a0 4 ++ [UInt8.ofNat a1, 0, 0, 0]) w1 (.slice A_6 (m_5 + 4) c_6) w_6) := by
          refine HG_5.out.trans (Grew.app (news := [UInt8.ofNat a1, 0, 0, 0]) (Sv.refl _ _) ?_ hg_6 hat_6)
          have := hown_6
          rw [HN4.out] at this
          rw [← HM_5.out]
          exact this
        clear hown_6 hg_6 hat_6
        refine hK.out _ _ HX_6.out (fun hHeld' => ?_)
        clear hK hHeld
        have hHeld := hHeld'
        clear hHeld'
        refine wpAnyH_putAt rfl ?_
        simp only [List.set_cons_zero, List.set_cons_succ]
        refine wpAnyH_takeAt (i := 9) (v := (.slice A_6 (m_5 + 4) c_6)) rfl (by kernel_rfl) (by kernel_rfl) (by kernel_rfl) (fun _ _ _ h => h) rfl (Or.inl ⟨by rfl, fun w' hS => ?_⟩) hHeld ?_
        · go_simp
        simp only [List.set_cons_zero, List.set_cons_succ]
        refine wpAnyH_done (by kernel_rfl) ?_ _
        go_wp2_with fail
        go_roundg (nf - (i + 1))
        case measure => have := HLT.out; have := HGG.out; omega
        case rel =>
          have hlt := HLT.out
          refine ⟨i + 1, rfl, by omega, by first | rfl | go_num, ?_⟩
          rw [HTK.out]
          have hs := HGF.out
          rw [List.append_assoc] at hs
          exact hs
    · have hini : ¬ (i : Int) < (nf : Int) := by omega
      have hie : nf = i := by omega
      subst hie
      have HT : Hid (r.firs.take nf = r.firs) := List.take_of_length_le (by have := HLEN.out; omega)
      clear hin hi
      go_wp2_with fail
      go_ret3
      refine ⟨_, by unfold typS cntS; rw [HR4.out]; rfl, ?_, bcall HB1.out HG.out.belowN⟩
      have hs := HG.out.tv (w0 := w) (by rw [HBE.out]; exact HB1.out.size)
      unfold bodyS
      rw [HR4.out, HE1.out, HE2.out]
      rw [HLE.out, HT.out, HL4.out] at hs
      exact .inl hs
end Go.Proofs.Ytkfimncbfbbopaa
/- What told returns: a rate (contract). Conditions: its streams lie in memory. (Printed by gen8g.py.) -/
set_option linter.unusedVariables false
set_option linter.unusedSimpArgs false
namespace Go.Proofs.Ytkfimncbfbbopaa
open Go.RowKit
attribute [local go_sem ↓] Go.wp_at_zero Go.wp_at_succ

theorem own_num {w : World} {base e size n k c : Nat} {A : Option Addr} {xs : List Value} (h : w.ownsRow base e size (.slice A k c) n xs) : k = n := by
  rcases h.2 with ⟨e1, h0⟩ | ⟨g, cap, cur, e1, _⟩
  · injection e1 with _ e2 _
    omega
  · injection e1
theorem or18 (e m : Nat) (he : e < 64) (hm : m < 262144) : bits .or .u64 ((262144 * e : Nat) : Int) (m : Int) = ((262144 * e + m : Nat) : Int) := by
  rw [u64_or_nat _ _ (by omega) (by omega)]
  have := Nat.two_pow_add_eq_or_of_lt (i := 18) hm e
  rw [show (2 : Nat) ^ 18 = 262144 from rfl] at this
  rw [this]
set_option maxRecDepth 100000 in
set_option maxHeartbeats 12800000 in
theorem told6_c (fr ab ntp ts pk oc mt nb cb np cp nf cf ns cs nd cd : Nat) (ex ty ct : Int) (Ab Ap Af As Ad : Option Addr) (w : World) (r : Rep) (hr : r.kind = 6) (hbs : SlR w ksS (.slice As ns cs) r.ssrcs) (hfb : ∀ e ∈ r.ssrcs, ∀ x ∈ e, x < 4294967296) (hnb : ns ≤ 255) (exn : Nat) (hex : ex = (exn : Int)) (hexn : exn < 64) (hmt : mt < 262144) (e3 : r.ex = ex) (e4 : r.mt = mt)
    (hfr : fr < 4294967296) (hab : ab < 4294967296) (e1 : r.fr = fr) (e2 : r.ab = ab) :
    Calls Try.prog 37 #[.agg #[.int .i64 6, .int .u32 (fr : Int), .int .u32 (ab : Int), .int .u64 (ntp : Int), .int .u32 (ts : Int), .int .u32 (pk : Int), .int .u32 (oc : Int), .slice Ab nb cb, .slice Ap np cp, .slice Af nf cf, .int .i64 ex, .int .u32 (mt : Int), .slice As ns cs, .int .i64 ty, .int .i64 ct, .slice Ad nd cd]] w (ToldR r (.slice Ad nd cd) w) := by
  obtain ⟨iB, hiB, hz0, hz1, hz2⟩ := info_parts infoByte
  obtain ⟨g1, hg1⟩ : ∃ g1, g1 = w.heap.size := ⟨_, rfl⟩
  obtain ⟨w1, hw1⟩ : ∃ w1, w1 = w.alloc (.cells #[.int .i64 6, .int .u32 (fr : Int), .int .u32 (ab : Int), .int .u64 (ntp : Int), .int .u32 (ts : Int), .int .u32 (pk : Int), .int .u32 (oc : Int), .slice Ab nb cb, .slice Ap np cp, .slice Af nf cf, .int .i64 ex, .int .u32 (mt : Int), .slice As ns cs, .int .i64 ty, .int .i64 ct, .slice Ad nd cd] 46) := ⟨_, rfl⟩
  obtain ⟨B, hB⟩ : ∃ B, B = w1.heap.size := ⟨_, rfl⟩
  have HX1 : Hid (Blk w1 g1 46 #[.int .i64 6, .int .u32 (fr : Int), .int .u32 (ab : Int), .int .u64 (ntp : Int), .int .u32 (ts : Int), .int .u32 (pk : Int), .int .u32 (oc : Int), .slice Ab nb cb, .slice Ap np cp, .slice Af nf cf, .int .i64 ex, .int .u32 (mt : Int), .slice As ns cs, .int .i64 ty, .int .i64 ct, .slice Ad nd cd]) := by show Blk _ _ _ _; rw [hw1]; exact Blk.newAt hg1 _ _
  have HB1 : Hid (Below w.heap.size w w1) := by show Below _ _ _; rw [hw1]; exact balloc (Below.refl _ _) _
  have HG0 : Hid (Grew B (.slice none 0 0) [] w1 (.slice none 0 0) w1) := by show Grew _ _ _ _ _ _; rw [hB]; exact Grew.start w1
  have HBE := Lib.hid hB
  have zex : IntKind.u64.wrap ex = (exn : Int) := by rw [hex]; exact wrap64 (by omega)
  have HEXE := Lib.hid hex
  clear hex
  have z1 := wrap64 hfr
  have z2 := wrap64 hab
  have HFR := Lib.hid hfr
  have HAB := Lib.hid hab
  have HR4 := Lib.hid hr
  have HE1 := Lib.hid e1
  have HE2 := Lib.hid e2
  have HBS : Hid (SlR w1 ksS (.slice As ns cs) r.ssrcs) := hbs.below HB1.out
  have HFB := Lib.hid hfb
  have HLEN : Hid (r.ssrcs.length = ns) := by obtain ⟨_, _, e, _⟩ := hbs; injection e with _ e; exact e.symm
  have HE3 := Lib.hid e3
  have HE4 := Lib.hid e4
  have HMT := Lib.hid hmt
  have HEX := Lib.hid hexn
  clear hbs hfb e3 e4 hmt hexn
  clear hr hfr hab e1 e2
  go_enter Try.func37, Try.ntmps37
  go_upto_region 1 with fail
  rw [← hw1, ← hg1]
  clear hw1 hg1 hB
  have k1 : w1.cell? ⟨g1, 1, none⟩ = some (.int .u32 (fr : Int)) := HX1.out.cell 1
  go_upto_region 2 with
   (go_at_call 38
    refine (put_c B fr 4 ([] : List UInt8) _ w1 HG0.out.1 (by rw [HBE.out]; exact Nat.le_refl _) (by decide) (by decide) (by have := HFR.out; omega)).mono ?_
    rintro e9 wp1 ⟨v9, rfl, hg9⟩
    have HG1 : Hid (Grew B (.slice none 0 0) (beS fr 4) w1 v9 wp1) := hg9
    obtain ⟨A1, c1, hv9⟩ := own_slice HG1.out.1
    subst hv9
    obtain ⟨m1, hm⟩ : ∃ m, m = (beS fr 4).length := ⟨_, rfl⟩
    have HL1 : Hid ((beS fr 4).length ≤ 100000000) := by show _ ≤ _; simp [beS_len, fours_len, blksB_len]
    rw [← hm] at HG1 ⊢
    have k0 : wp1.cell? ⟨g1, 0, none⟩ = some (.int .i64 6) := (HG1.out.blkN HX1.out).cell 0
    have k2 : wp1.cell? ⟨g1, 2, none⟩ = some (.int .u32 (ab : Int)) := (HG1.out.blkN HX1.out).cell 2
    clear hg9 hm k1)
  go_upto_region 16 with
   (go_at_call 38
    refine (put_c B ab 4 (beS fr 4) _ wp1 HG1.out.1 (by rw [HBE.out]; exact HG1.out.2.1.size) HL1.out (by decide) (by have := HAB.out; omega)).mono ?_
    rintro e9 wp2 ⟨v9, rfl, hg9⟩
    have HG2 : Hid (Grew B (.slice none 0 0) ((beS fr 4) ++ beS ab 4) w1 v9 wp2) := HG1.out.trans hg9
    obtain ⟨A2, c2, hv9⟩ := own_slice HG2.out.1
    subst hv9
    obtain ⟨m2, hm⟩ : ∃ m, m = ((beS fr 4) ++ beS ab 4).length := ⟨_, rfl⟩
    have HL2 : Hid (((beS fr 4) ++ beS ab 4).length ≤ 100000000) := by show _ ≤ _; simp [beS_len, fours_len, blksB_len]
    rw [← hm] at HG2 ⊢
    have k0 : wp2.cell? ⟨g1, 0, none⟩ = some (.int .i64 6) := (HG2.out.blkN HX1.out).cell 0
    clear hg9 hm k2)
  go_upto_region 32 with fail
  obtain rfl : m2 = 8 := by
    have h1 := own_num HG2.out.1
    rw [h1]
    simp [beS_len]
  obtain ⟨L2, hL2⟩ : ∃ L2, L2 = beS fr 4 ++ beS ab 4 := ⟨_, rfl⟩
  have HGD : Hid (Grew B (.slice none 0 0) L2 w1 (.slice A2 8 c2) (World.drew wp2)) := by
    show Grew _ _ _ _ _ _
    rw [hL2]
    exact ⟨HG2.out.1, HG2.out.2.1.drew, HG2.out.2.2⟩
  have HXD : Hid (Blk (World.drew wp2) g1 46 #[.int .i64 6, .int .u32 (fr : Int), .int .u32 (ab : Int), .int .u64 (ntp : Int), .int .u32 (ts : Int), .int .u32 (pk : Int), .int .u32 (oc : Int), .slice Ab nb cb, .slice Ap np cp, .slice Af nf cf, .int .i64 ex, .int .u32 (mt : Int), .slice As ns cs, .int .i64 ty, .int .i64 ct, .slice Ad nd cd]) := HG2.out.blkN HX1.out
  have HLL : Hid (L2.length = 8) := by show _ = _; rw [hL2]; simp [beS_len]
  have HL12 : Hid ((L2 ++ ([82, 69, 77, 66] : List UInt8)).length = 12) := by show _ = _; rw [List.length_append, HLL.out]; rfl
  have HL2E := Lib.hid hL2
  have hnw : IntKind.u8.wrap (ns : Int) = (ns : Int) := by rw [IntKind.wrap_u8]; omega
  have HN1 : Hid ([Value.int .u8 (ns : Int)] = ([UInt8.ofNat ns] : List UInt8).map u8v) := by
    show _ = _
    simp only [List.map_cons, List.map_nil]
    rw [u8v_of (by omega)]
  have HST : Hid (strV ⟨#[82, 69, 77, 66]⟩ = ([82, 69, 77, 66] : List UInt8).map u8v) := rfl
  clear hL2
  go_cut [2] (fun v2 wx => ∃ A9 c9, v2 = .slice A9 13 c9 ∧ Grew B (.slice none 0 0) (L2 ++ [82, 69, 77, 66] ++ [UInt8.ofNat ns]) w1 v2 wx)
  case first =>
    refine wp_region_held_drew (S := (fun w3 => Blk w3 g1 46 #[.int .i64 6, .int .u32 (fr : Int), .int .u32 (ab : Int), .int .u64 (ntp : Int), .int .u32 (ts : Int), .int .u32 (pk : Int), .int .u32 (oc : Int), .slice Ab nb cb, .slice Ap np cp, .slice Af nf cf, .int .i64 ex, .int .u32 (mt : Int), .slice As ns cs, .int .i64 ty, .int .i64 ct, .slice Ad nd cd])) (by kernel_rfl) (HXD.out) (fun hHeld => ?_)
    refine wpAnyH_takeAt (i := 0) (v := (.slice A2 8 c2)) rfl (by kernel_rfl) (by kernel_rfl) (by kernel_rfl) (fun _ _ _ h => h) rfl (Or.inl ⟨by rfl, fun w' hS => ?_⟩) hHeld ?_
    · go_simp
    simp only [List.set_cons_zero, List.set_cons_succ]
    refine wpAnyH_takeAt (i := 2) (v := (.pointer (some ⟨g1, 12, none⟩))) rfl (by kernel_rfl) (by kernel_rfl) (by kernel_rfl) (fun _ _ _ h => h) rfl (Or.inl ⟨by rfl, fun w' hS => ?_⟩) hHeld ?_
    · go_simp
    simp only [List.set_cons_zero, List.set_cons_succ]
    refine wpAnyH_takeAt (i := 3) (v := (.slice As ns cs)) rfl (by kernel_rfl) (by kernel_rfl) (by kernel_rfl) (fun _ _ _ h => h) rfl (Or.inl ⟨by rfl, fun w' hS => ?_⟩) hHeld ?_
    · have hc := hS.cell 12
      have hc' : w'.cell? ⟨g1, 12, none⟩ = some (.slice As ns cs) := hc
      go_simp
    simp only [List.set_cons_zero, List.set_cons_succ]
    refine wpAnyH_takeAt (i := 4) (v := (.int .i64 (ns : Int))) rfl (by kernel_rfl) (by kernel_rfl) (by kernel_rfl) (fun _ _ _ h => h) rfl (Or.inl ⟨by rfl, fun w' hS => ?_⟩) hHeld ?_
    · go_simp
    simp only [List.set_cons_zero, List.set_cons_succ]
    refine wpAnyH_takeAt (i := 5) (v := (.int .u8 (ns : Int))) rfl (by kernel_rfl) (by kernel_rfl) (by kernel_rfl) (fun _ _ _ h => h) rfl (Or.inl ⟨by rfl, fun w' hS => ?_⟩) hHeld ?_
    · go_simp
    simp only [List.set_cons_zero, List.set_cons_succ]
    refine wpAnyH_ready (rs := [1, 6]) (by kernel_rfl) (by simp) (AllReadyH.cons rfl (fun K' hK => ?_) (AllReadyH.cons rfl (fun K' hK => ?_) AllReadyH.nil))
    · refine step_append_str _ (by rfl) (.tmp 115) _ 22 9 (by rfl) B 5 iB _ Try.underlying22 Try.underlying9 hiB hz0 hz1 hz2 rfl (.slice A2 8 c2) 8 (L2.map u8v) (by rfl) (by have := HGD.out.1; rw [HLL.out] at this; exact this) ⟨#[82, 69, 77, 66]⟩ (by rfl) (by decide)
        (by show 8 + 4 ≤ maxLen; decide) (by show 8 + 4 ≤ _; decide) (by rw [HBE.out]; exact HGD.out.2.1.size) ?_
      intro v_7 w_7 hown_7 hg_7 hat_7
      obtain ⟨A_7, c_7, hv_7⟩ : ∃ A c, v_7 = .slice A 12 c := own_slice hown_7
      subst hv_7
      have HX_7 : Hid (Blk w_7 g1 46 #[.int .i64 6, .int .u32 (fr : Int), .int .u32 (ab : Int), .int .u64 (ntp : Int), .int .u32 (ts : Int), .int .u32 (pk : Int), .int .u32 (oc : Int), .slice Ab nb cb, .slice Ap np cp, .slice Af nf cf, .int .i64 ex, .int .u32 (mt : Int), .slice As ns cs, .int .i64 ty, .int .i64 ct, .slice Ad nd cd]) := Blk.grown HXD.out hg_7 (fun e => by have h1 := own_blk_ne (by have := HGD.out.1; exact this) HXD.out (by decide); exact h1 e.symm)
      have HG_7 : Hid (Grew B (.slice none 0 0) (L2 ++ [82, 69, 77, 66]) w1 (.slice A_7 12 c_7) w_7) := by
        refine HGD.out.trans (Grew.app (news := [82, 69, 77, 66]) (Sv.refl _ _) ?_ hg_7 hat_7)
        have := hown_7
        rw [HST.out] at this
        rw [HLL.out]
        exact this
      clear hown_7 hg_7 hat_7
      refine hK.out _ _ HX_7.out (fun hHeld' => ?_)
      clear hK hHeld
      have hHeld := hHeld'
      clear hHeld'
      refine wpAnyH_putAt rfl ?_
      simp only [List.set_cons_zero, List.set_cons_succ]
      refine wpAnyH_ready (rs := [6]) (by kernel_rfl) (by simp) (AllReadyH.cons rfl (fun K' hK => ?_) AllReadyH.nil)
      go_simp
      obtain ⟨gy_, hgy_⟩ : ∃ gy_, gy_ = (World.heap w_7).size := ⟨_, rfl⟩
      have HY_8 : Hid (Blk (World.alloc w_7 (.cells #[.int .u8 (ns : Int)] 5)) gy_ 5 #[.int .u8 (ns : Int)]) := Blk.newAt hgy_ _ _
      have HNE : Hid ((Value.slice  A_7 12 c_7).ownBlock ≠ some gy_) := fun e => by have := (HG_7.out.1.lt gy_ e).2; omega
      have HGE : Hid ((w_7).heap.size = gy_) := hgy_.symm
      have HX_8 : Hid (Blk (World.alloc w_7 (.cells #[.int .u8 (ns : Int)] 5)) g1 46 #[.int .i64 6, .int .u32 (fr : Int), .int .u32 (ab : Int), .int .u64 (ntp : Int), .int .u32 (ts : Int), .int .u32 (pk : Int), .int .u32 (oc : Int), .slice Ab nb cb, .slice Ap np cp, .slice Af nf cf, .int .i64 ex, .int .u32 (mt : Int), .slice As ns cs, .int .i64 ty, .int .i64 ct, .slice Ad nd cd]) := Blk.alloc HX_7.out _
      have HG_8 : Hid (Grew B (.slice none 0 0) (L2 ++ [82, 69, 77, 66]) w1 (.slice A_7 12 c_7) (World.alloc w_7 (.cells #[.int .u8 (ns : Int)] 5))) := ⟨HG_7.out.1.alloc _, HG_7.out.2.1.alloc _, HG_7.out.2.2⟩
      refine hK.out _ _ HX_8.out (fun hHeld' => ?_)
      clear hK hHeld
      have hHeld := hHeld'
      clear hHeld'
      rw [HGE.out]
      clear hgy_
      refine wpAnyH_ready (rs := [7]) (by kernel_rfl) (by simp) (AllReadyH.cons rfl (fun K' hK => ?_) AllReadyH.nil)
      have HO_9 : Hid (World.ownsRow (World.alloc w_7 (.cells #[.int .u8 (ns : Int)] 5)) B 5 1 (.slice A_7 12 c_7) 12 ((L2 ++ [82, 69, 77, 66]).map u8v)) := by
        have := HG_8.out.1
        rw [HL12.out] at this
        exact this
      refine step_append_any _ (by rfl) (.tmp 116) (.tmp 121) _ (by rfl) B 5 iB _ 1 1 Try.underlying22 hiB hz0 hz1 hz2 rfl (by omega) (.slice A_7 12 c_7) 12 ((L2 ++ [82, 69, 77, 66]).map u8v) (by rfl) HO_9.out
        _ (some ⟨gy_, 0, none⟩) 1 1 [.int .u8 (ns : Int)] (by rfl) (reads_blk HY_8.out rfl) (by simp [Value.oneCell']) (by show 12 + 1 ≤ maxLen; decide) (by show 12 + 1 ≤ _; decide) (by rw [HBE.out]; exact HG_8.out.2.1.size) ?_
      intro v_9 w_9 hown_9 hg_9 hat_9
      obtain ⟨A_9, c_9, hv_9⟩ : ∃ A c, v_9 = .slice A 13 c := own_slice hown_9
      subst hv_9
      have HX_9 : Hid (Blk w_9 g1 46 #[.int .i64 6, .int .u32 (fr : Int), .int .u32 (ab : Int), .int .u64 (ntp : Int), .int .u32 (ts : Int), .int .u32 (pk : Int), .int .u32 (oc : Int), .slice Ab nb cb, .slice Ap np cp, .slice Af nf cf, .int .i64 ex, .int .u32 (mt : Int), .slice As ns cs, .int .i64 ty, .int .i64 ct, .slice Ad nd cd]) := Blk.grown HX_8.out hg_9 (Ne.symm (own_blk_ne HO_9.out HX_8.out (by decide)))
      have HGF : Hid (Grew B (.slice none 0 0) (L2 ++ [82, 69, 77, 66] ++ [UInt8.ofNat ns]) w1 (.slice A_9 13 c_9) w_9) := by
        refine HG_8.out.trans (Grew.app (news := [UInt8.ofNat ns]) (Sv.refl _ _) ?_ hg_9 hat_9)
        have := hown_9
        rw [HN1.out] at this
        rw [HL12.out]
        exact this
      clear hown_9 hg_9 hat_9
      refine hK.out _ _ HX_9.out (fun hHeld' => ?_)
      clear hK hHeld
      have hHeld := hHeld'
      clear hHeld'
      refine wpAnyH_putAt rfl ?_
      simp only [List.set_cons_zero, List.set_cons_succ]
      refine wpAnyH_takeAt (i := 8) (v := (.slice A_9 13 c_9)) rfl (by kernel_rfl) (by kernel_rfl) (by kernel_rfl) (fun _ _ _ h => h) rfl (Or.inl ⟨by rfl, fun w' hS => ?_⟩) hHeld ?_
      · go_simp
      simp only [List.set_cons_zero, List.set_cons_succ]
      refine wpAnyH_done (by kernel_rfl) ?_ _
      go_wp2_with fail
      go_meet
      exact ⟨A_9, c_9, rfl, HGF.out⟩
    · go_simp
      obtain ⟨gy_, hgy_⟩ : ∃ gy_, gy_ = (World.heap (World.drew wp2)).size := ⟨_, rfl⟩
      have HY_10 : Hid (Blk (World.drew (World.alloc wp2 (.cells #[.int .u8 (ns : Int)] 5))) gy_ 5 #[.int .u8 (ns : Int)]) := Blk.newAt hgy_ _ _
      have HNE : Hid ((Value.slice  A2 8 c2).ownBlock ≠ some gy_) := fun e => by have := (HGD.out.1.lt gy_ e).2; omega
      have HGE : Hid ((wp2).heap.size = gy_) := hgy_.symm
      have HX_10 : Hid (Blk (World.drew (World.alloc wp2 (.cells #[.int .u8 (ns : Int)] 5))) g1 46 #[.int .i64 6, .int .u32 (fr : Int), .int .u32 (ab : Int), .int .u64 (ntp : Int), .int .u32 (ts : Int), .int .u32 (pk : Int), .int .u32 (oc : Int), .slice Ab nb cb, .slice Ap np cp, .slice Af nf cf, .int .i64 ex, .int .u32 (mt : Int), .slice As ns cs, .int .i64 ty, .int .i64 ct, .slice Ad nd cd]) := Blk.alloc HXD.out _
      have HG_10 : Hid (Grew B (.slice none 0 0) L2 w1 (.slice A2 8 c2) (World.drew (World.alloc wp2 (.cells #[.int .u8 (ns : Int)] 5)))) := ⟨HGD.out.1.alloc _, HGD.out.2.1.alloc _, HGD.out.2.2⟩
      refine hK.out _ _ HX_10.out (fun hHeld' => ?_)
      clear hK hHeld
      have hHeld := hHeld'
      clear hHeld'
      rw [HGE.out]
      clear hgy_
      refine wpAnyH_ready (rs := [1]) (by kernel_rfl) (by simp) (AllReadyH.cons rfl (fun K' hK => ?_) AllReadyH.nil)
      refine step_append_str _ (by rfl) (.tmp 115) _ 22 9 (by rfl) B 5 iB _ Try.underlying22 Try.underlying9 hiB hz0 hz1 hz2 rfl (.slice A2 8 c2) 8 (L2.map u8v) (by rfl) (by have := HG_10.out.1; rw [HLL.out] at this; exact this) ⟨#[82, 69, 77, 66]⟩ (by rfl) (by decide)
        (by show 8 + 4 ≤ maxLen; decide) (by show 8 + 4 ≤ _; decide) (by rw [HBE.out]; exact HG_10.out.2.1.size) ?_
      intro v_11 w_11 hown_11 hg_11 hat_11
      obtain ⟨A_11, c_11, hv_11⟩ : ∃ A c, v_11 = .slice A 12 c := own_slice hown_11
      subst hv_11
      have HX_11 : Hid (Blk w_11 g1 46 #[.int .i64 6, .int .u32 (fr : Int), .int .u32 (ab : Int), .int .u64 (ntp : Int), .int .u32 (ts : Int), .int .u32 (pk : Int), .int .u32 (oc : Int), .slice Ab nb cb, .slice Ap np cp, .slice Af nf cf, .int .i64 ex, .int .u32 (mt : Int), .slice As ns cs, .int .i64 ty, .int .i64 ct, .slice Ad nd cd]) := Blk.grown HX_10.out hg_11 (fun e => by have h1 := own_blk_ne (by have := HG_10.out.1; exact this) HX_10.out (by decide); exact h1 e.symm)
      have HG_11 : Hid (Grew B (.slice none 0 0) (L2 ++ [82, 69, 77, 66]) w1 (.slice A_11 12 c_11) w_11) := by
        refine HG_10.out.trans (Grew.app (news := [82, 69, 77, 66]) (Sv.refl _ _) ?_ hg_11 hat_11)
        have := hown_11
        rw [HST.out] at this
        rw [HLL.out]
        exact this
      have HY_11 := Lib.hid (Blk.grown HY_10.out hg_11 (fun e => HNE.out e.symm))
      clear hown_11 hg_11 hat_11
      refine hK.out _ _ HX_11.out (fun hHeld' => ?_)
      clear hK hHeld
      have hHeld := hHeld'
      clear hHeld'
      refine wpAnyH_putAt rfl ?_
      simp only [List.set_cons_zero, List.set_cons_succ]
      refine wpAnyH_ready (rs := [7]) (by kernel_rfl) (by simp) (AllReadyH.cons rfl (fun K' hK => ?_) AllReadyH.nil)
      have HO_12 : Hid (World.ownsRow w_11 B 5 1 (.slice A_11 12 c_11) 12 ((L2 ++ [82, 69, 77, 66]).map u8v)) := by
        have := HG_11.out.1
        rw [HL12.out] at this
        exact this
      refine step_append_any _ (by rfl) (.tmp 116) (.tmp 121) _ (by rfl) B 5 iB _ 1 1 Try.underlying22 hiB hz0 hz1 hz2 rfl (by omega) (.slice A_11 12 c_11) 12 ((L2 ++ [82, 69, 77, 66]).map u8v) (by rfl) HO_12.out
        _ (some ⟨gy_, 0, none⟩) 1 1 [.int .u8 (ns : Int)] (by rfl) (reads_blk HY_11.out rfl) (by simp [Value.oneCell']) (by show 12 + 1 ≤ maxLen; decide) (by show 12 + 1 ≤ _; decide) (by rw [HBE.out]; exact HG_11.out.2.1.size) ?_
      intro v_12 w_12 hown_12 hg_12 hat_12
      obtain ⟨A_12, c_12, hv_12⟩ : ∃ A c, v_12 = .slice A 13 c := own_slice hown_12
      subst hv_12
      have HX_12 : Hid (Blk w_12 g1 46 #[.int .i64 6, .int .u32 (fr : Int), .int .u32 (ab : Int), .int .u64 (ntp : Int), .int .u32 (ts : Int), .int .u32 (pk : Int), .int .u32 (oc : Int), .slice Ab nb cb, .slice Ap np cp, .slice Af nf cf, .int .i64 ex, .int .u32 (mt : Int), .slice As ns cs, .int .i64 ty, .int .i64 ct, .slice Ad nd cd]) := Blk.grown HX_11.out hg_12 (Ne.symm (own_blk_ne HO_12.out HX_11.out (by decide)))
      have HGF : Hid (Grew B (.slice none 0 0) (L2 ++ [82, 69, 77, 66] ++ [UInt8.ofNat ns]) w1 (.slice A_12 13 c_12) w_12) := by
        refine HG_11.out.trans (Grew.app (news := [UInt8.ofNat ns]) (Sv.refl _ _) ?_ hg_12 hat_12)
        have := hown_12
        rw [HN1.out] at this
        rw [HL12.out]
        exact this
      clear hown_12 hg_12 hat_12
      refine hK.out _ _ HX_12.out (fun hHeld' => ?_)
      clear hK hHeld
      have hHeld := hHeld'
      clear hHeld'
      refine wpAnyH_putAt rfl ?_
      simp only [List.set_cons_zero, List.set_cons_succ]
      refine wpAnyH_takeAt (i := 8) (v := (.slice A_12 13 c_12)) rfl (by kernel_rfl) (by kernel_rfl) (by kernel_rfl) (fun _ _ _ h => h) rfl (Or.inl ⟨by rfl, fun w' hS => ?_⟩) hHeld ?_
      · go_simp
      simp only [List.set_cons_zero, List.set_cons_succ]
      refine wpAnyH_done (by kernel_rfl) ?_ _
      go_wp2_with fail
      go_meet
      exact ⟨A_12, c_12, rfl, HGF.out⟩
  case rest =>
    obtain ⟨A9, c9, rfl, hg⟩ := hcut
    have HG9 := Lib.hid hg
    have k10 : wc.cell? ⟨g1, 10, none⟩ = some (.int .i64 ex) := (HG9.out.blkN HX1.out).cell 10
    have k11 : wc.cell? ⟨g1, 11, none⟩ = some (.int .u32 (mt : Int)) := (HG9.out.blkN HX1.out).cell 11
    have zmt : IntKind.u64.wrap (mt : Int) = (mt : Int) := wrap64 (by have := HMT.out; omega)
    obtain ⟨Y, hY⟩ : ∃ Y, Y = 262144 * exn := ⟨_, rfl⟩
    obtain ⟨Z, hZ⟩ : ∃ Z, Z = Y + mt := ⟨_, rfl⟩
    have zsh : IntKind.u64.wrap ((exn : Int) * 262144) = (Y : Int) := by
      have := HEX.out
      rw [show (exn : Int) * 262144 = ((262144 * exn : Nat) : Int) by omega, ← hY]
      simp [IntKind.wrap, IntKind.bits, IntKind.signed]; omega
    have zor : bits .or .u64 (Y : Int) (mt : Int) = (Z : Int) := by
      rw [hZ, hY]
      exact or18 exn mt HEX.out HMT.out
    have HZ : Hid (Z = exn * 262144 + mt) := by show _ = _; omega
    obtain ⟨L3, hL3⟩ : ∃ L3, L3 = L2 ++ [82, 69, 77, 66] ++ [UInt8.ofNat ns] := ⟨_, rfl⟩
    rw [← hL3] at HG9
    have HL3l : Hid (L3.length = 13) := by show _ = _; rw [hL3, List.length_append, HL12.out]; rfl
    have HL3 := Lib.hid hL3
    clear hg hY hZ hL3
    go_upto_region 34 with
     (go_at_call 38
      refine (put_c B Z 3 L3 _ wc HG9.out.1 (by rw [HBE.out]; exact HG9.out.2.1.size) (by have := HL3l.out; omega) (by decide) (by have := HZ.out; have := HEX.out; have := HMT.out; omega)).mono ?_
      rintro e9 wp ⟨v9, rfl, hg9⟩
      have HGA : Hid (Grew B (.slice none 0 0) (L3 ++ beS Z 3) w1 v9 wp) := HG9.out.trans hg9
      obtain ⟨AA, cA, hv9⟩ := own_slice HGA.out.1
      subst hv9
      obtain ⟨mA, hm⟩ : ∃ m, m = (L3 ++ beS Z 3).length := ⟨_, rfl⟩
      rw [← hm] at HGA ⊢
      have k12 : wp.cell? ⟨g1, 12, none⟩ = some (.slice As ns cs) := (HGA.out.blkN HX1.out).cell 12
      clear hg9 hm)
    clear k10 k11 zmt zsh zor zex
    obtain ⟨L4, hL4⟩ : ∃ L4, L4 = L3 ++ beS Z 3 := ⟨_, rfl⟩
    have HGS : Hid (Grew B (.slice none 0 0) (L4 ++ fours ((r.ssrcs.take 0).map fun e => e.getD 0 0)) w1 (.slice AA mA cA) wp) := by
      show Grew _ _ _ _ _ _
      rw [hL4]
      simpa [fours] using HGA.out
    have HL4 := Lib.hid hL4
    have HL4l : Hid (L4.length = 16) := by show _ = _; rw [hL4, List.length_append, beS_len, HL3l.out]
    clear hL4 HGA
    go_upto_region 35 with fail
    clear k12
    go_loopg [2, 136] ns (fun gg vv vi wx => ∃ i : Nat, gg = ns - i ∧ i ≤ ns ∧ vi = .int .i64 (i : Int) ∧ Grew B (.slice none 0 0) (L4 ++ fours ((r.ssrcs.take i).map fun e => e.getD 0 0)) w1 vv wx)
    case atStart => exact ⟨0, rfl, by omega, rfl, HGS.out⟩
    case round =>
      obtain ⟨i, hgg, hi, rfl, hg⟩ := hrel
      obtain ⟨Av, cv, hv⟩ := own_slice hg.1
      subst hv
      have HG := Lib.hid hg
      have HGG := Lib.hid hgg
      clear hg hgg HGS
      have HBW : Hid (Below w1.heap.size w1 wr) := HG.out.belowN
      obtain ⟨L, hL⟩ : ∃ L, L = L4 ++ fours ((r.ssrcs.take i).map fun e => e.getD 0 0) := ⟨_, rfl⟩
      have HLE := Lib.hid hL
      have HLl : Hid (L.length ≤ 90000000) := by show _ ≤ _; have := HL4l.out; rw [hL, List.length_append, fours_len, List.length_map, List.length_take]; omega
      rw [← hL] at HG ⊢
      obtain ⟨m, hm⟩ : ∃ m, m = L.length := ⟨_, rfl⟩
      rw [← hm] at HG ⊢
      clear hL hm
      by_cases hin : i < ns
      · have hini : (i : Int) < (ns : Int) := by omega
        have hw1 : IntKind.i64.wrap ((i : Int) + 1) = ((i + 1 : Nat) : Int) := by rw [IntKind.wrap_i64]; omega
        obtain ⟨e, hei⟩ : ∃ e, r.ssrcs[i]? = some e := ⟨r.ssrcs[i]'(by have := HLEN.out; omega), List.getElem?_eq_getElem _⟩
        obtain ⟨hz, ga, oa, hA, hga, hc⟩ := SlR.cells HBS.out (by omega) (by decide)
        subst hA
        obtain ⟨hel, hcc⟩ := hc i e hei
        obtain ⟨a0, rr, he⟩ : ∃ a0 rr, e = a0 :: rr := of1 (ks := ksS) rfl hel
        have u0 : wr.cell? ⟨ga, oa + i, none⟩ = some (.int .u32 (a0 : Int)) := (HBW.out.cell (p := ⟨ga, oa + i, none⟩) hga).trans (by have := hcc 0 _ (by rw [he]; rfl); simpa [ksS, numV] using this)
        have HA0 : Hid (a0 < 4294967296) := HFB.out e (List.mem_of_getElem? hei) a0 (by rw [he]; simp)
        have za0 : IntKind.u64.wrap (a0 : Int) = (a0 : Int) := wrap64 HA0.out
        have HTK : Hid (L4 ++ fours ((r.ssrcs.take (i + 1)).map fun e => e.getD 0 0) = L ++ beS a0 4) := by
          show _ = _
          rw [takeN_snoc hei, List.map_append, List.map_cons, List.map_nil, fours_snoc, ← List.append_assoc, HLE.out, he]
          rfl
        have HLT := Lib.hid hin
        clear hc hcc hei hin he hel hz hi
        go_wp2_with
         (go_at_call 38
          refine (put_c B a0 4 L _ wr HG.out.1 (by rw [HBE.out]; exact HG.out.2.1.size) (by have := HLl.out; omega) (by decide) (by have := HA0.out; omega)).mono ?_
          rintro e9 w9 ⟨v9, rfl, hg9⟩
          have HGN : Hid (Grew B (.slice none 0 0) (L4 ++ fours ((r.ssrcs.take (i + 1)).map fun e => e.getD 0 0)) w1 v9 w9) := by
            show Grew _ _ _ _ _ _
            rw [HTK.out]
            exact HG.out.trans hg9
          clear hg9)
        go_roundg (ns - (i + 1))
        case measure => have := HLT.out; have := HGG.out; omega
        case rel =>
          have hlt := HLT.out
          exact ⟨i + 1, rfl, by omega, by first | rfl | go_num, HGN.out⟩
      · have hini : ¬ (i : Int) < (ns : Int) := by omega
        have hie : ns = i := by omega
        subst hie
        have HT : Hid (r.ssrcs.take ns = r.ssrcs) := List.take_of_length_le (by have := HLEN.out; omega)
        clear hin hi
        go_wp2_with fail
        go_ret3
        refine ⟨_, by unfold typS cntS; rw [HR4.out]; rfl, ?_, bcall HB1.out HG.out.belowN⟩
        have hs := HG.out.tv (w0 := w) (by rw [HBE.out]; exact HB1.out.size)
        unfold bodyS
        rw [HR4.out, HE1.out, HE2.out, HE3.out, HE4.out, HLEN.out, HEXE.out, Int.toNat_natCast, ← HZ.out]
        rw [HLE.out, HT.out, HL4.out, HL3.out, HL2E.out] at hs
        exact .inl hs
end Go.Proofs.Ytkfimncbfbbopaa
/- What told returns: a report of no kind (contract). Conditions: its body lies in memory. (Printed by gen8g.py.) -/
set_option linter.unusedVariables false
set_option linter.unusedSimpArgs false
namespace Go.Proofs.Ytkfimncbfbbopaa
open Go.RowKit
attribute [local go_sem ↓] Go.wp_at_zero Go.wp_at_succ

set_option maxRecDepth 100000 in
set_option maxHeartbeats 12800000 in
theorem told7_c (fr ab ntp ts pk oc mt nb cb np cp nf cf ns cs nd cd : Nat) (ex ty ct : Int) (Ab Ap Af As Ad : Option Addr) (w : World) (r : Rep) (hr : r.kind = 7) (hbd : SlV w (.slice Ad nd cd) r.body) (e3 : r.ty = ty) (e4 : r.ct = ct)
    (hfr : fr < 4294967296) (hab : ab < 4294967296) (e1 : r.fr = fr) (e2 : r.ab = ab) :
    Calls Try.prog 37 #[.agg #[.int .i64 7, .int .u32 (fr : Int), .int .u32 (ab : Int), .int .u64 (ntp : Int), .int .u32 (ts : Int), .int .u32 (pk : Int), .int .u32 (oc : Int), .slice Ab nb cb, .slice Ap np cp, .slice Af nf cf, .int .i64 ex, .int .u32 (mt : Int), .slice As ns cs, .int .i64 ty, .int .i64 ct, .slice Ad nd cd]] w (ToldR r (.slice Ad nd cd) w) := by
  obtain ⟨iB, hiB, hz0, hz1, hz2⟩ := info_parts infoByte
  obtain ⟨g1, hg1⟩ : ∃ g1, g1 = w.heap.size := ⟨_, rfl⟩
  obtain ⟨w1, hw1⟩ : ∃ w1, w1 = w.alloc (.cells #[.int .i64 7, .int .u32 (fr : Int), .int .u32 (ab : Int), .int .u64 (ntp : Int), .int .u32 (ts : Int), .int .u32 (pk : Int), .int .u32 (oc : Int), .slice Ab nb cb, .slice Ap np cp, .slice Af nf cf, .int .i64 ex, .int .u32 (mt : Int), .slice As ns cs, .int .i64 ty, .int .i64 ct, .slice Ad nd cd] 46) := ⟨_, rfl⟩
  obtain ⟨B, hB⟩ : ∃ B, B = w1.heap.size := ⟨_, rfl⟩
  have HX1 : Hid (Blk w1 g1 46 #[.int .i64 7, .int .u32 (fr : Int), .int .u32 (ab : Int), .int .u64 (ntp : Int), .int .u32 (ts : Int), .int .u32 (pk : Int), .int .u32 (oc : Int), .slice Ab nb cb, .slice Ap np cp, .slice Af nf cf, .int .i64 ex, .int .u32 (mt : Int), .slice As ns cs, .int .i64 ty, .int .i64 ct, .slice Ad nd cd]) := by show Blk _ _ _ _; rw [hw1]; exact Blk.newAt hg1 _ _
  have HB1 : Hid (Below w.heap.size w w1) := by show Below _ _ _; rw [hw1]; exact balloc (Below.refl _ _) _
  have HG0 : Hid (Grew B (.slice none 0 0) [] w1 (.slice none 0 0) w1) := by show Grew _ _ _ _ _ _; rw [hB]; exact Grew.start w1
  have HBE := Lib.hid hB
  have z1 := wrap64 hfr
  have z2 := wrap64 hab
  have HFR := Lib.hid hfr
  have HAB := Lib.hid hab
  have HR4 := Lib.hid hr
  have HE1 := Lib.hid e1
  have HE2 := Lib.hid e2
  have HBD := Lib.hid hbd
  have HE3 := Lib.hid e3
  have HE4 := Lib.hid e4
  clear hbd e3 e4
  clear hr hfr hab e1 e2
  go_enter Try.func37, Try.ntmps37
  go_upto_region 1 with fail
  rw [← hw1, ← hg1]
  clear hw1 hg1 hB
  have k1 : w1.cell? ⟨g1, 1, none⟩ = some (.int .u32 (fr : Int)) := HX1.out.cell 1
  go_upto_region 2 with
   (go_at_call 38
    refine (put_c B fr 4 ([] : List UInt8) _ w1 HG0.out.1 (by rw [HBE.out]; exact Nat.le_refl _) (by decide) (by decide) (by have := HFR.out; omega)).mono ?_
    rintro e9 wp1 ⟨v9, rfl, hg9⟩
    have HG1 : Hid (Grew B (.slice none 0 0) (beS fr 4) w1 v9 wp1) := hg9
    obtain ⟨A1, c1, hv9⟩ := own_slice HG1.out.1
    subst hv9
    obtain ⟨m1, hm⟩ : ∃ m, m = (beS fr 4).length := ⟨_, rfl⟩
    have HL1 : Hid ((beS fr 4).length ≤ 100000000) := by show _ ≤ _; simp [beS_len, fours_len, blksB_len]
    rw [← hm] at HG1 ⊢
    have k0 : wp1.cell? ⟨g1, 0, none⟩ = some (.int .i64 7) := (HG1.out.blkN HX1.out).cell 0
    have k13 : wp1.cell? ⟨g1, 13, none⟩ = some (.int .i64 ty) := (HG1.out.blkN HX1.out).cell 13
    have k14 : wp1.cell? ⟨g1, 14, none⟩ = some (.int .i64 ct) := (HG1.out.blkN HX1.out).cell 14
    have k15 : wp1.cell? ⟨g1, 15, none⟩ = some (.slice Ad nd cd) := (HG1.out.blkN HX1.out).cell 15
    clear hg9 hm k1)
  go_upto_region 14 with fail
  go_quiet (fail)
  go_wp2_with fail
  go_ret3
  have hb2 : Below w.heap.size w (World.drewN wp1 nq) := below_drewN (bcall HB1.out HG1.out.belowN) _
  refine ⟨_, by unfold typS cntS; rw [HR4.out, HE3.out, HE4.out]; rfl, ?_, hb2⟩
  refine .inr ⟨rfl, ?_⟩
  unfold bodyS
  rw [HR4.out]
  rfl
end Go.Proofs.Ytkfimncbfbbopaa
