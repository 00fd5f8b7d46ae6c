/- Texts of this claim, one behind the other: Body3, Body4, Body5, Body6, Body7, BodyA. Each says ahead of itself what it proves, and its conditions. -/
import Derived.Test.YtkfimncbfbbopaaHp1
import Derived.Test.YtkfimncbfbbopaaHm
import Derived.Test.YtkfimncbfbbopaaHn
/- What the reference makes of a report of kind 3 (contract). Conditions: what it tells lies in memory. (Printed by gen8g.py.) -/
set_option linter.unusedVariables false
set_option linter.unusedSimpArgs false
namespace Go.Proofs.Ytkfimncbfbbopaa
open Go.RowKit
attribute [local go_sem ↓] Go.wp_at_zero Go.wp_at_succ

set_option maxRecDepth 100000 in
set_option maxHeartbeats 12800000 in
theorem body3_c (fr ab ntp ts pk oc mt nb cb np cp nf cf ns cs nd cd : Nat) (ex ty ct : Int) (Ab Ap Af As Ad : Option Addr) (w : World) (r : Rep) (hr : r.kind = 3) (hbs : SlR w ksP (.slice Ap np cp) r.pairs) (hfb : ∀ e ∈ r.pairs, ∀ x ∈ e, x < 65536) (hnb : np ≤ 100000)
    (hfr : fr < 4294967296) (hab : ab < 4294967296) (e1 : r.fr = fr) (e2 : r.ab = ab) :
    Calls Try.prog 47 #[.agg #[.int .i64 3, .int .u32 (fr : Int), .int .u32 (ab : Int), .int .u64 (ntp : Int), .int .u32 (ts : Int), .int .u32 (pk : Int), .int .u32 (oc : Int), .slice Ab nb cb, .slice Ap np cp, .slice Af nf cf, .int .i64 ex, .int .u32 (mt : Int), .slice As ns cs, .int .i64 ty, .int .i64 ct, .slice Ad nd cd]] w (BodyR r (.slice Ad nd cd) w) := by
  obtain ⟨iB, hiB, hz0, hz1, hz2⟩ := info_parts infoByte
  obtain ⟨g1, hg1⟩ : ∃ g1, g1 = w.heap.size := ⟨_, rfl⟩
  obtain ⟨w1, hw1⟩ : ∃ w1, w1 = w.alloc (.cells #[.int .i64 3, .int .u32 (fr : Int), .int .u32 (ab : Int), .int .u64 (ntp : Int), .int .u32 (ts : Int), .int .u32 (pk : Int), .int .u32 (oc : Int), .slice Ab nb cb, .slice Ap np cp, .slice Af nf cf, .int .i64 ex, .int .u32 (mt : Int), .slice As ns cs, .int .i64 ty, .int .i64 ct, .slice Ad nd cd] 40) := ⟨_, rfl⟩
  have HX1 : Hid (Blk w1 g1 40 #[.int .i64 3, .int .u32 (fr : Int), .int .u32 (ab : Int), .int .u64 (ntp : Int), .int .u32 (ts : Int), .int .u32 (pk : Int), .int .u32 (oc : Int), .slice Ab nb cb, .slice Ap np cp, .slice Af nf cf, .int .i64 ex, .int .u32 (mt : Int), .slice As ns cs, .int .i64 ty, .int .i64 ct, .slice Ad nd cd]) := by show Blk _ _ _ _; rw [hw1]; exact Blk.newAt hg1 _ _
  have HB1 : Hid (Below w.heap.size w w1) := by show Below _ _ _; rw [hw1]; exact balloc (Below.refl _ _) _
  have HB0 : Hid (Below w1.heap.size w1 w1) := Below.refl _ _
  have HO0 : Hid (ByteRow w1 w1.heap.size (.slice none 0 0) []) := World.ownsRow_nil _ _ _ _
  have z1 := wrap64 hfr
  have z2 := wrap64 hab
  have HFR := Lib.hid hfr
  have HAB := Lib.hid hab
  have HR4 := Lib.hid hr
  have HE1 := Lib.hid e1
  have HE2 := Lib.hid e2
  have HBS : Hid (SlR w1 ksP (.slice Ap np cp) r.pairs) := hbs.below HB1.out
  have HFB := Lib.hid hfb
  have HLEN : Hid (r.pairs.length = np) := by obtain ⟨_, _, e, _⟩ := hbs; injection e with _ e; exact e.symm
  clear hbs hfb
  clear hr hfr hab e1 e2
  go_enter Try.func47, Try.ntmps47
  go_upto_region 1 with fail
  rw [← hw1, ← hg1]
  clear hw1 hg1
  have k1 : w1.cell? ⟨g1, 1, none⟩ = some (.int .u32 (fr : Int)) := HX1.out.cell 1
  go_upto_region 2 with
   (go_at_call 48
    refine (U_z (SlV.own HO0.out) (by decide) (by decide) (by have := HFR.out; omega)).mono ?_
    rintro e9 w_1 ⟨v9, rfl, ho9, hb9⟩
    obtain ⟨A_1, c_1, hv9⟩ := own_slice ho9
    subst hv9
    have HO_1 : Hid (ByteRow w_1 w1.heap.size (.slice A_1 (([] : List UInt8) ++ beS fr 4).length c_1) (([] : List UInt8) ++ beS fr 4)) := own_lower ho9 HB0.out.size
    have HB_1 : Hid (Below w1.heap.size w1 w_1) := bcall HB0.out hb9
    obtain ⟨m_1, hm⟩ : ∃ m, m = (([] : List UInt8) ++ beS fr 4).length := ⟨_, rfl⟩
    have HM_1 := Lib.hid hm
    rw [← hm] at HO_1 ⊢
    clear ho9 hb9 hm
    have k0 : w_1.cell? ⟨g1, 0, none⟩ = some (.int .i64 3) := (HX1.out.below HB_1.out).cell 0
    have k2 : w_1.cell? ⟨g1, 2, none⟩ = some (.int .u32 (ab : Int)) := (HX1.out.below HB_1.out).cell 2
    clear k1
    skip)
  go_upto_region 22 with
   (go_at_call 48
    refine (U_z (SlV.own HO_1.out) (by simp [beS_len]) (by decide) (by have := HAB.out; omega)).mono ?_
    rintro e9 w_2 ⟨v9, rfl, ho9, hb9⟩
    obtain ⟨A_2, c_2, hv9⟩ := own_slice ho9
    subst hv9
    have HO_2 : Hid (ByteRow w_2 w1.heap.size (.slice A_2 (([] ++ beS fr 4) ++ beS ab 4).length c_2) (([] ++ beS fr 4) ++ beS ab 4)) := own_lower ho9 HB_1.out.size
    have HB_2 : Hid (Below w1.heap.size w1 w_2) := bcall HB_1.out hb9
    obtain ⟨m_2, hm⟩ : ∃ m, m = (([] ++ beS fr 4) ++ beS ab 4).length := ⟨_, rfl⟩
    have HM_2 := Lib.hid hm
    rw [← hm] at HO_2 ⊢
    clear ho9 hb9 hm
    have k0 : w_2.cell? ⟨g1, 0, none⟩ = some (.int .i64 3) := (HX1.out.below HB_2.out).cell 0
    have k8 : w_2.cell? ⟨g1, 8, none⟩ = some (.slice Ap np cp) := (HX1.out.below HB_2.out).cell 8
    skip)
  obtain ⟨L4, hL4⟩ : ∃ L4, L4 = ([] ++ beS fr 4 ++ beS ab 4) := ⟨_, rfl⟩
  have HGS : Hid (ByteRow w_2 w1.heap.size (.slice A_2 m_2 c_2) (L4 ++ pairsB (r.pairs.take 0))) := by
    show ByteRow _ _ _ _
    rw [hL4]
    simpa [pairsB] using HO_2.out
  have HL4 := Lib.hid hL4
  have HL4l : Hid (L4.length ≤ 10000) := by show _ ≤ _; rw [hL4]; simp [beS_len, fours_len]
  clear hL4
  go_upto_region 25 with fail
  go_loopg [5, 8] np (fun gg vv vi wx => ∃ i : Nat, gg = np - i ∧ i ≤ np ∧ vi = .int .i64 (i : Int) ∧ ByteRow wx w1.heap.size vv (L4 ++ pairsB (r.pairs.take i)) ∧ Below w1.heap.size w1 wx)
  case atStart => exact ⟨0, rfl, by omega, rfl, HGS.out, HB_2.out⟩
  case round =>
    obtain ⟨i, hgg, hi, rfl, hg, hbx⟩ := hrel
    obtain ⟨Av, cv, hv⟩ := own_slice hg
    subst hv
    have HGG := Lib.hid hgg
    obtain ⟨L, hL⟩ : ∃ L, L = L4 ++ pairsB (r.pairs.take i) := ⟨_, rfl⟩
    have HLE := Lib.hid hL
    have HLl : Hid (L.length ≤ 90000000) := by show _ ≤ _; have := HL4l.out; rw [hL, List.length_append, pairsB_len, List.length_take]; omega
    rw [← hL] at hg ⊢
    have HO := Lib.hid hg
    have HB := Lib.hid hbx
    obtain ⟨m, hm⟩ : ∃ m, m = L.length := ⟨_, rfl⟩
    have HM := Lib.hid hm
    rw [← hm] at HO ⊢
    have kl : wr.cell? ⟨g1, 8, none⟩ = some (.slice Ap np cp) := (HX1.out.below HB.out).cell 8
    clear hL hm hg hbx hgg HGS
    by_cases hin : i < np
    · have hini : (i : Int) < (np : Int) := by omega
      have hin0 : (0 : Int) ≤ (i : Int) := by omega
      have hw1 : IntKind.i64.wrap ((i : Int) + 1) = ((i + 1 : Nat) : Int) := by rw [IntKind.wrap_i64]; omega
      obtain ⟨e, hei⟩ : ∃ e, r.pairs[i]? = some e := ⟨r.pairs[i]'(by have := HLEN.out; omega), List.getElem?_eq_getElem _⟩
      obtain ⟨hz, ga, oa, hA, hga, hc⟩ := SlR.cells HBS.out (by omega) (by decide)
      subst hA
      obtain ⟨hel, hcc⟩ := hc i e hei
      obtain ⟨a0, a1, rr, he⟩ := of2 (ks := ksP) rfl hel
      have HX8 : Hid (wr.cell? ⟨g1, 8, none⟩ = some (.slice (some ⟨ga, oa, none⟩) np cp)) := (HX1.out.below HB.out).cell 8
      have HU0 : Hid (wr.cell? ⟨ga, oa + i * 2, none⟩ = some (.int .u16 (a0 : Int))) := (HB.out.cell (p := ⟨ga, oa + i * 2, none⟩) hga).trans (hcc 0 _ (by rw [he]; rfl))
      have HU1 : Hid (wr.cell? ⟨ga, oa + i * 2 + 1, none⟩ = some (.int .u16 (a1 : Int))) := (HB.out.cell (p := ⟨ga, oa + i * 2 + 1, none⟩) hga).trans (hcc 1 _ (by rw [he]; rfl))
      have HGA : Hid (ga < wr.heap.size ∧ g1 < wr.heap.size) := ⟨Nat.lt_of_lt_of_le hga HB.out.size, (HX1.out.below HB.out).lt⟩
      have hfx := HFB.out e (List.mem_of_getElem? hei)
      rw [he] at hfx
      have HFX := Lib.hid hfx
      have HTK : Hid (L4 ++ pairsB (r.pairs.take (i + 1)) = L ++ pairB (a0 :: a1 :: rr)) := by
        show _ = _
        rw [takeN_snoc hei, pairsB_snoc, ← List.append_assoc, HLE.out, he]
      have HLT := Lib.hid hin
      have za0 : IntKind.u64.wrap (a0 : Int) = (a0 : Int) := wrap64 (by have := hfx a0 (by simp); omega)
      have za1 : IntKind.u64.wrap (a1 : Int) = (a1 : Int) := wrap64 (by have := hfx a1 (by simp); omega)
      have HKS : Hid (∀ w', Below wr.heap.size wr w' → (w'.cell? ⟨g1, 8, none⟩ = some (.slice (some ⟨ga, oa, none⟩) np cp) ∧ w'.cell? ⟨ga, oa + i * 2, none⟩ = some (.int .u16 (a0 : Int)) ∧ w'.cell? ⟨ga, oa + i * 2 + 1, none⟩ = some (.int .u16 (a1 : Int)))) :=
        fun w' hb => ⟨(hb.cell (p := ⟨g1, 8, none⟩) HGA.out.2).trans HX8.out, (hb.cell (p := ⟨ga, oa + i * 2, none⟩) HGA.out.1).trans HU0.out, (hb.cell (p := ⟨ga, oa + i * 2 + 1, none⟩) HGA.out.1).trans HU1.out⟩
      clear hc hcc hei hin he hel hz hi hfx hga
      go_upto_region 27 with fail
      clear kl
      have HOD : Hid (ByteRow (World.drew wr) w1.heap.size (.slice Av m cv) L) := HO.out
      have HBD : Hid (Below w1.heap.size w1 (World.drew wr)) := bdrew HB.out
      have HRD : Hid (Below wr.heap.size wr (World.drew wr)) := bdrew (Below.refl _ _)
      refine wp_region_held_drew (S := (fun w3 => w3.cell? ⟨g1, 8, none⟩ = some (.slice (some ⟨ga, oa, none⟩) np cp) ∧ w3.cell? ⟨ga, oa + i * 2, none⟩ = some (.int .u16 (a0 : Int)) ∧ w3.cell? ⟨ga, oa + i * 2 + 1, none⟩ = some (.int .u16 (a1 : Int)))) (by kernel_rfl) (HKS.out _ HRD.out) (fun hHeld => ?_)
      refine wpAnyH_takeAt (i := 0) (v := (.slice Av m cv)) rfl (by kernel_rfl) (by kernel_rfl) (by kernel_rfl) (fun _ _ _ h => h) rfl (Or.inl ⟨by rfl, fun w' hS => ?_⟩) hHeld ?_
      · go_simp
      simp only [List.set_cons_zero, List.set_cons_succ]
      refine wpAnyH_takeAt (i := 1) (v := (.pointer (some ⟨g1, 8, none⟩))) rfl (by kernel_rfl) (by kernel_rfl) (by kernel_rfl) (fun _ _ _ h => h) rfl (Or.inl ⟨by rfl, fun w' hS => ?_⟩) hHeld ?_
      · go_simp
      simp only [List.set_cons_zero, List.set_cons_succ]
      refine wpAnyH_takeAt (i := 2) (v := (.slice (some ⟨ga, oa, none⟩) np cp)) rfl (by kernel_rfl) (by kernel_rfl) (by kernel_rfl) (fun _ _ _ h => h) rfl (Or.inl ⟨by rfl, fun w' hS => ?_⟩) hHeld ?_
      · have hc' := hS.1
        go_simp
      simp only [List.set_cons_zero, List.set_cons_succ]
      refine wpAnyH_takeAt (i := 3) (v := (.int .i64 (i : Int))) rfl (by kernel_rfl) (by kernel_rfl) (by kernel_rfl) (fun _ _ _ h => h) rfl (Or.inl ⟨by rfl, fun w' hS => ?_⟩) hHeld ?_
      · go_simp
      simp only [List.set_cons_zero, List.set_cons_succ]
      refine wpAnyH_takeAt (i := 4) (v := (.pointer (some ⟨ga, oa + i * 2, none⟩))) rfl (by kernel_rfl) (by kernel_rfl) (by kernel_rfl) (fun _ _ _ h => h) rfl (Or.inl ⟨by rfl, fun w' hS => ?_⟩) hHeld ?_
      · go_simp
      simp only [List.set_cons_zero, List.set_cons_succ]
      refine wpAnyH_takeAt (i := 5) (v := (.pointer (some ⟨ga, oa + i * 2, none⟩))) rfl (by kernel_rfl) (by kernel_rfl) (by kernel_rfl) (fun _ _ _ h => h) rfl (Or.inl ⟨by rfl, fun w' hS => ?_⟩) hHeld ?_
      · go_simp
      simp only [List.set_cons_zero, List.set_cons_succ]
      refine wpAnyH_takeAt (i := 6) (v := (.int .u16 (a0 : Int))) rfl (by kernel_rfl) (by kernel_rfl) (by kernel_rfl) (fun _ _ _ h => h) rfl (Or.inl ⟨by rfl, fun w' hS => ?_⟩) hHeld ?_
      · have hc' := hS.2.1
        go_simp
      simp only [List.set_cons_zero, List.set_cons_succ]
      refine wpAnyH_takeAt (i := 7) (v := (.int .u64 (a0 : Int))) rfl (by kernel_rfl) (by kernel_rfl) (by kernel_rfl) (fun _ _ _ h => h) rfl (Or.inl ⟨by rfl, fun w' hS => ?_⟩) hHeld ?_
      · go_simp
      simp only [List.set_cons_zero, List.set_cons_succ]
      refine wpAnyH_takeAt (i := 9) (v := (.pointer (some ⟨g1, 8, none⟩))) rfl (by kernel_rfl) (by kernel_rfl) (by kernel_rfl) (fun _ _ _ h => h) rfl (Or.inl ⟨by rfl, fun w' hS => ?_⟩) hHeld ?_
      · go_simp
      simp only [List.set_cons_zero, List.set_cons_succ]
      refine wpAnyH_takeAt (i := 10) (v := (.slice (some ⟨ga, oa, none⟩) np cp)) rfl (by kernel_rfl) (by kernel_rfl) (by kernel_rfl) (fun _ _ _ h => h) rfl (Or.inl ⟨by rfl, fun w' hS => ?_⟩) hHeld ?_
      · have hc' := hS.1
        go_simp
      simp only [List.set_cons_zero, List.set_cons_succ]
      refine wpAnyH_takeAt (i := 11) (v := (.int .i64 (i : Int))) rfl (by kernel_rfl) (by kernel_rfl) (by kernel_rfl) (fun _ _ _ h => h) rfl (Or.inl ⟨by rfl, fun w' hS => ?_⟩) hHeld ?_
      · go_simp
      simp only [List.set_cons_zero, List.set_cons_succ]
      refine wpAnyH_takeAt (i := 12) (v := (.pointer (some ⟨ga, oa + i * 2, none⟩))) rfl (by kernel_rfl) (by kernel_rfl) (by kernel_rfl) (fun _ _ _ h => h) rfl (Or.inl ⟨by rfl, fun w' hS => ?_⟩) hHeld ?_
      · go_simp
      simp only [List.set_cons_zero, List.set_cons_succ]
      refine wpAnyH_takeAt (i := 13) (v := (.pointer (some ⟨ga, oa + i * 2 + 1, none⟩))) rfl (by kernel_rfl) (by kernel_rfl) (by kernel_rfl) (fun _ _ _ h => h) rfl (Or.inl ⟨by rfl, fun w' hS => ?_⟩) hHeld ?_
      · go_simp
      simp only [List.set_cons_zero, List.set_cons_succ]
      refine wpAnyH_takeAt (i := 14) (v := (.int .u16 (a1 : Int))) rfl (by kernel_rfl) (by kernel_rfl) (by kernel_rfl) (fun _ _ _ h => h) rfl (Or.inl ⟨by rfl, fun w' hS => ?_⟩) hHeld ?_
      · have hc' := hS.2.2
        go_simp
      simp only [List.set_cons_zero, List.set_cons_succ]
      refine wpAnyH_takeAt (i := 15) (v := (.int .u64 (a1 : Int))) rfl (by kernel_rfl) (by kernel_rfl) (by kernel_rfl) (fun _ _ _ h => h) rfl (Or.inl ⟨by rfl, fun w' hS => ?_⟩) hHeld ?_
      · go_simp
      simp only [List.set_cons_zero, List.set_cons_succ]
      refine wpAnyH_ready (rs := [8]) (by kernel_rfl) (by simp) (AllReadyH.cons rfl (fun K' hK => ?_) AllReadyH.nil)
      go_simp
      go_at_call 48
      refine (U_z (SlV.own HOD.out) (by have := HLl.out; omega) (by decide) (by have := HFX.out a0 (by simp); omega)).mono ?_
      rintro e9 w_1 ⟨v9, rfl, ho9, hb9⟩
      obtain ⟨A_1, c_1, hv9⟩ := own_slice ho9
      subst hv9
      have HO_1 : Hid (ByteRow w_1 w1.heap.size (.slice A_1 (L ++ beS a0 2).length c_1) (L ++ beS a0 2)) := own_lower ho9 HBD.out.size
      have HB_1 : Hid (Below w1.heap.size w1 w_1) := bcall HBD.out hb9
      have HR_1 : Hid (Below wr.heap.size wr w_1) := bcall HRD.out hb9
      have HOW_1 : Hid (ByteRow w_1 wr.heap.size (.slice A_1 (L ++ beS a0 2).length c_1) (L ++ beS a0 2)) := own_lower ho9 HRD.out.size
      obtain ⟨m_1, hm⟩ : ∃ m, m = (L ++ beS a0 2).length := ⟨_, rfl⟩
      have HM_1 := Lib.hid hm
      rw [← hm] at HO_1 HOW_1 ⊢
      clear ho9 hb9 hm
      go_wp2_with fail
      refine hK.out _ _ (HKS.out _ HR_1.out) (fun hHeld' => ?_)
      clear hK hHeld
      have hHeld := hHeld'
      clear hHeld'
      refine wpAnyH_ready (rs := [16]) (by kernel_rfl) (by simp) (AllReadyH.cons rfl (fun K' hK => ?_) AllReadyH.nil)
      go_simp
      go_at_call 48
      refine (U_z (SlV.own HO_1.out) (by have := HLl.out; rw [List.length_append, beS_len]; omega) (by decide) (by have := HFX.out a1 (by simp); omega)).mono ?_
      rintro e9 w_2 ⟨v9, rfl, ho9, hb9⟩
      obtain ⟨A_2, c_2, hv9⟩ := own_slice ho9
      subst hv9
      have HO_2 : Hid (ByteRow w_2 w1.heap.size (.slice A_2 ((L ++ beS a0 2) ++ beS a1 2).length c_2) ((L ++ beS a0 2) ++ beS a1 2)) := own_lower ho9 HB_1.out.size
      have HB_2 : Hid (Below w1.heap.size w1 w_2) := bcall HB_1.out hb9
      have HR_2 : Hid (Below wr.heap.size wr w_2) := bcall HR_1.out hb9
      have HOW_2 : Hid (ByteRow w_2 wr.heap.size (.slice A_2 ((L ++ beS a0 2) ++ beS a1 2).length c_2) ((L ++ beS a0 2) ++ beS a1 2)) := own_lower ho9 HR_1.out.size
      obtain ⟨m_2, hm⟩ : ∃ m, m = ((L ++ beS a0 2) ++ beS a1 2).length := ⟨_, rfl⟩
      have HM_2 := Lib.hid hm
      rw [← hm] at HO_2 HOW_2 ⊢
      clear ho9 hb9 hm
      go_wp2_with fail
      refine hK.out _ _ (HKS.out _ HR_2.out) (fun hHeld' => ?_)
      clear hK hHeld
      have hHeld := hHeld'
      clear hHeld'
      refine wpAnyH_takeAt (i := 17) (v := (.slice A_2 m_2 c_2)) rfl (by kernel_rfl) (by kernel_rfl) (by kernel_rfl) (fun _ _ _ h => h) rfl (Or.inl ⟨by rfl, fun w' hS => ?_⟩) hHeld ?_
      · go_simp
      simp only [List.set_cons_zero, List.set_cons_succ]
      refine wpAnyH_done (by kernel_rfl) ?_ _
      go_wp2_with fail
      go_roundg (np - (i + 1))
      case measure => have := HLT.out; have := HGG.out; omega
      case rel =>
        have hlt := HLT.out
        refine ⟨i + 1, rfl, by omega, by first | rfl | go_num, ?_, HB_2.out⟩
        rw [HTK.out]
        have hs := HO_2.out
        rw [List.append_assoc] at hs
        exact hs
    · have hini : ¬ (i : Int) < (np : Int) := by omega
      have hie : np = i := by omega
      subst hie
      have HT : Hid (r.pairs.take np = r.pairs) := List.take_of_length_le (by have := HLEN.out; omega)
      clear hin hi
      go_wp2_with fail
      go_ret3
      refine ⟨_, by unfold typS cntS; rw [HR4.out]; rfl, ?_, bcall HB1.out HB.out⟩
      have hs : ByteRow _ w.heap.size _ _ := own_lower HO.out HB1.out.size
      unfold bodyS
      rw [HR4.out, HE1.out, HE2.out]
      rw [HLE.out, HT.out, HL4.out] at hs
      exact .inl hs
end Go.Proofs.Ytkfimncbfbbopaa
/- What the reference makes of a report of kind 4 (contract). Conditions: what it tells lies in memory. (Printed by gen8g.py.) -/
set_option linter.unusedVariables false
set_option linter.unusedSimpArgs false
namespace Go.Proofs.Ytkfimncbfbbopaa
open Go.RowKit
attribute [local go_sem ↓] Go.wp_at_zero Go.wp_at_succ

set_option maxRecDepth 100000 in
set_option maxHeartbeats 12800000 in
theorem body4_c (fr ab ntp ts pk oc mt nb cb np cp nf cf ns cs nd cd : Nat) (ex ty ct : Int) (Ab Ap Af As Ad : Option Addr) (w : World) (r : Rep) (hr : r.kind = 4)
    (hfr : fr < 4294967296) (hab : ab < 4294967296) (e1 : r.fr = fr) (e2 : r.ab = ab) :
    Calls Try.prog 47 #[.agg #[.int .i64 4, .int .u32 (fr : Int), .int .u32 (ab : Int), .int .u64 (ntp : Int), .int .u32 (ts : Int), .int .u32 (pk : Int), .int .u32 (oc : Int), .slice Ab nb cb, .slice Ap np cp, .slice Af nf cf, .int .i64 ex, .int .u32 (mt : Int), .slice As ns cs, .int .i64 ty, .int .i64 ct, .slice Ad nd cd]] w (BodyR r (.slice Ad nd cd) w) := by
  obtain ⟨iB, hiB, hz0, hz1, hz2⟩ := info_parts infoByte
  obtain ⟨g1, hg1⟩ : ∃ g1, g1 = w.heap.size := ⟨_, rfl⟩
  obtain ⟨w1, hw1⟩ : ∃ w1, w1 = w.alloc (.cells #[.int .i64 4, .int .u32 (fr : Int), .int .u32 (ab : Int), .int .u64 (ntp : Int), .int .u32 (ts : Int), .int .u32 (pk : Int), .int .u32 (oc : Int), .slice Ab nb cb, .slice Ap np cp, .slice Af nf cf, .int .i64 ex, .int .u32 (mt : Int), .slice As ns cs, .int .i64 ty, .int .i64 ct, .slice Ad nd cd] 40) := ⟨_, rfl⟩
  have HX1 : Hid (Blk w1 g1 40 #[.int .i64 4, .int .u32 (fr : Int), .int .u32 (ab : Int), .int .u64 (ntp : Int), .int .u32 (ts : Int), .int .u32 (pk : Int), .int .u32 (oc : Int), .slice Ab nb cb, .slice Ap np cp, .slice Af nf cf, .int .i64 ex, .int .u32 (mt : Int), .slice As ns cs, .int .i64 ty, .int .i64 ct, .slice Ad nd cd]) := by show Blk _ _ _ _; rw [hw1]; exact Blk.newAt hg1 _ _
  have HB1 : Hid (Below w.heap.size w w1) := by show Below _ _ _; rw [hw1]; exact balloc (Below.refl _ _) _
  have HB0 : Hid (Below w1.heap.size w1 w1) := Below.refl _ _
  have HO0 : Hid (ByteRow w1 w1.heap.size (.slice none 0 0) []) := World.ownsRow_nil _ _ _ _
  have z1 := wrap64 hfr
  have z2 := wrap64 hab
  have HFR := Lib.hid hfr
  have HAB := Lib.hid hab
  have HR4 := Lib.hid hr
  have HE1 := Lib.hid e1
  have HE2 := Lib.hid e2
  clear hr hfr hab e1 e2
  go_enter Try.func47, Try.ntmps47
  go_upto_region 1 with fail
  rw [← hw1, ← hg1]
  clear hw1 hg1
  have k1 : w1.cell? ⟨g1, 1, none⟩ = some (.int .u32 (fr : Int)) := HX1.out.cell 1
  go_upto_region 2 with
   (go_at_call 48
    refine (U_z (SlV.own HO0.out) (by decide) (by decide) (by have := HFR.out; omega)).mono ?_
    rintro e9 w_1 ⟨v9, rfl, ho9, hb9⟩
    obtain ⟨A_1, c_1, hv9⟩ := own_slice ho9
    subst hv9
    have HO_1 : Hid (ByteRow w_1 w1.heap.size (.slice A_1 (([] : List UInt8) ++ beS fr 4).length c_1) (([] : List UInt8) ++ beS fr 4)) := own_lower ho9 HB0.out.size
    have HB_1 : Hid (Below w1.heap.size w1 w_1) := bcall HB0.out hb9
    obtain ⟨m_1, hm⟩ : ∃ m, m = (([] : List UInt8) ++ beS fr 4).length := ⟨_, rfl⟩
    have HM_1 := Lib.hid hm
    rw [← hm] at HO_1 ⊢
    clear ho9 hb9 hm
    have k0 : w_1.cell? ⟨g1, 0, none⟩ = some (.int .i64 4) := (HX1.out.below HB_1.out).cell 0
    have k2 : w_1.cell? ⟨g1, 2, none⟩ = some (.int .u32 (ab : Int)) := (HX1.out.below HB_1.out).cell 2
    clear k1
    skip)
  go_upto_region 22 with
   (go_at_call 48
    refine (U_z (SlV.own HO_1.out) (by simp [beS_len]) (by decide) (by have := HAB.out; omega)).mono ?_
    rintro e9 w_2 ⟨v9, rfl, ho9, hb9⟩
    obtain ⟨A_2, c_2, hv9⟩ := own_slice ho9
    subst hv9
    have HO_2 : Hid (ByteRow w_2 w1.heap.size (.slice A_2 (([] ++ beS fr 4) ++ beS ab 4).length c_2) (([] ++ beS fr 4) ++ beS ab 4)) := own_lower ho9 HB_1.out.size
    have HB_2 : Hid (Below w1.heap.size w1 w_2) := bcall HB_1.out hb9
    obtain ⟨m_2, hm⟩ : ∃ m, m = (([] ++ beS fr 4) ++ beS ab 4).length := ⟨_, rfl⟩
    have HM_2 := Lib.hid hm
    rw [← hm] at HO_2 ⊢
    clear ho9 hb9 hm
    have k0 : w_2.cell? ⟨g1, 0, none⟩ = some (.int .i64 4) := (HX1.out.below HB_2.out).cell 0
    skip)
  go_wp2_with fail
  go_ret3
  refine ⟨_, by unfold typS cntS; rw [HR4.out]; rfl, ?_, bcall HB1.out HB_2.out⟩
  have hs : ByteRow _ w.heap.size _ _ := own_lower HO_2.out HB1.out.size
  unfold bodyS
  rw [HR4.out, HE1.out, HE2.out]
  exact .inl hs
end Go.Proofs.Ytkfimncbfbbopaa
/- What the reference makes of a report of kind 5 (contract). Conditions: what it tells lies in memory. (Printed by gen8g.py.) -/
set_option linter.unusedVariables false
set_option linter.unusedSimpArgs false
namespace Go.Proofs.Ytkfimncbfbbopaa
open Go.RowKit
attribute [local go_sem ↓] Go.wp_at_zero Go.wp_at_succ

set_option maxRecDepth 100000 in
set_option maxHeartbeats 12800000 in
theorem body5_c (fr ab ntp ts pk oc mt nb cb np cp nf cf ns cs nd cd : Nat) (ex ty ct : Int) (Ab Ap Af As Ad : Option Addr) (w : World) (r : Rep) (hr : r.kind = 5) (hbs : SlR w ksF (.slice Af nf cf) r.firs) (hfb : FitL r.firs) (hnb : nf ≤ 100000)
    (hfr : fr < 4294967296) (hab : ab < 4294967296) (e1 : r.fr = fr) (e2 : r.ab = ab) :
    Calls Try.prog 47 #[.agg #[.int .i64 5, .int .u32 (fr : Int), .int .u32 (ab : Int), .int .u64 (ntp : Int), .int .u32 (ts : Int), .int .u32 (pk : Int), .int .u32 (oc : Int), .slice Ab nb cb, .slice Ap np cp, .slice Af nf cf, .int .i64 ex, .int .u32 (mt : Int), .slice As ns cs, .int .i64 ty, .int .i64 ct, .slice Ad nd cd]] w (BodyR r (.slice Ad nd cd) w) := by
  obtain ⟨iB, hiB, hz0, hz1, hz2⟩ := info_parts infoByte
  obtain ⟨g1, hg1⟩ : ∃ g1, g1 = w.heap.size := ⟨_, rfl⟩
  obtain ⟨w1, hw1⟩ : ∃ w1, w1 = w.alloc (.cells #[.int .i64 5, .int .u32 (fr : Int), .int .u32 (ab : Int), .int .u64 (ntp : Int), .int .u32 (ts : Int), .int .u32 (pk : Int), .int .u32 (oc : Int), .slice Ab nb cb, .slice Ap np cp, .slice Af nf cf, .int .i64 ex, .int .u32 (mt : Int), .slice As ns cs, .int .i64 ty, .int .i64 ct, .slice Ad nd cd] 40) := ⟨_, rfl⟩
  have HX1 : Hid (Blk w1 g1 40 #[.int .i64 5, .int .u32 (fr : Int), .int .u32 (ab : Int), .int .u64 (ntp : Int), .int .u32 (ts : Int), .int .u32 (pk : Int), .int .u32 (oc : Int), .slice Ab nb cb, .slice Ap np cp, .slice Af nf cf, .int .i64 ex, .int .u32 (mt : Int), .slice As ns cs, .int .i64 ty, .int .i64 ct, .slice Ad nd cd]) := by show Blk _ _ _ _; rw [hw1]; exact Blk.newAt hg1 _ _
  have HB1 : Hid (Below w.heap.size w w1) := by show Below _ _ _; rw [hw1]; exact balloc (Below.refl _ _) _
  have HB0 : Hid (Below w1.heap.size w1 w1) := Below.refl _ _
  have HO0 : Hid (ByteRow w1 w1.heap.size (.slice none 0 0) []) := World.ownsRow_nil _ _ _ _
  have z1 := wrap64 hfr
  have z2 := wrap64 hab
  have HFR := Lib.hid hfr
  have HAB := Lib.hid hab
  have HR4 := Lib.hid hr
  have HE1 := Lib.hid e1
  have HE2 := Lib.hid e2
  have HBS : Hid (SlR w1 ksF (.slice Af nf cf) r.firs) := hbs.below HB1.out
  have HFB := Lib.hid hfb
  have HLEN : Hid (r.firs.length = nf) := by obtain ⟨_, _, e, _⟩ := hbs; injection e with _ e; exact e.symm
  clear hbs hfb
  clear hr hfr hab e1 e2
  go_enter Try.func47, Try.ntmps47
  go_upto_region 1 with fail
  rw [← hw1, ← hg1]
  clear hw1 hg1
  have k1 : w1.cell? ⟨g1, 1, none⟩ = some (.int .u32 (fr : Int)) := HX1.out.cell 1
  go_upto_region 2 with
   (go_at_call 48
    refine (U_z (SlV.own HO0.out) (by decide) (by decide) (by have := HFR.out; omega)).mono ?_
    rintro e9 w_1 ⟨v9, rfl, ho9, hb9⟩
    obtain ⟨A_1, c_1, hv9⟩ := own_slice ho9
    subst hv9
    have HO_1 : Hid (ByteRow w_1 w1.heap.size (.slice A_1 (([] : List UInt8) ++ beS fr 4).length c_1) (([] : List UInt8) ++ beS fr 4)) := own_lower ho9 HB0.out.size
    have HB_1 : Hid (Below w1.heap.size w1 w_1) := bcall HB0.out hb9
    obtain ⟨m_1, hm⟩ : ∃ m, m = (([] : List UInt8) ++ beS fr 4).length := ⟨_, rfl⟩
    have HM_1 := Lib.hid hm
    rw [← hm] at HO_1 ⊢
    clear ho9 hb9 hm
    have k0 : w_1.cell? ⟨g1, 0, none⟩ = some (.int .i64 5) := (HX1.out.below HB_1.out).cell 0
    have k2 : w_1.cell? ⟨g1, 2, none⟩ = some (.int .u32 (ab : Int)) := (HX1.out.below HB_1.out).cell 2
    clear k1
    skip)
  go_upto_region 22 with
   (go_at_call 48
    refine (U_z (SlV.own HO_1.out) (by simp [beS_len]) (by decide) (by have := HAB.out; omega)).mono ?_
    rintro e9 w_2 ⟨v9, rfl, ho9, hb9⟩
    obtain ⟨A_2, c_2, hv9⟩ := own_slice ho9
    subst hv9
    have HO_2 : Hid (ByteRow w_2 w1.heap.size (.slice A_2 (([] ++ beS fr 4) ++ beS ab 4).length c_2) (([] ++ beS fr 4) ++ beS ab 4)) := own_lower ho9 HB_1.out.size
    have HB_2 : Hid (Below w1.heap.size w1 w_2) := bcall HB_1.out hb9
    obtain ⟨m_2, hm⟩ : ∃ m, m = (([] ++ beS fr 4) ++ beS ab 4).length := ⟨_, rfl⟩
    have HM_2 := Lib.hid hm
    rw [← hm] at HO_2 ⊢
    clear ho9 hb9 hm
    have k0 : w_2.cell? ⟨g1, 0, none⟩ = some (.int .i64 5) := (HX1.out.below HB_2.out).cell 0
    have k9 : w_2.cell? ⟨g1, 9, none⟩ = some (.slice Af nf cf) := (HX1.out.below HB_2.out).cell 9
    skip)
  obtain ⟨L4, hL4⟩ : ∃ L4, L4 = ([] ++ beS fr 4 ++ beS ab 4) := ⟨_, rfl⟩
  have HGS : Hid (ByteRow w_2 w1.heap.size (.slice A_2 m_2 c_2) (L4 ++ firsB (r.firs.take 0))) := by
    show ByteRow _ _ _ _
    rw [hL4]
    simpa [firsB] using HO_2.out
  have HL4 := Lib.hid hL4
  have HL4l : Hid (L4.length ≤ 10000) := by show _ ≤ _; rw [hL4]; simp [beS_len, fours_len]
  clear hL4
  go_upto_region 33 with fail
  go_loopg [5, 9] nf (fun gg vv vi wx => ∃ i : Nat, gg = nf - i ∧ i ≤ nf ∧ vi = .int .i64 (i : Int) ∧ ByteRow wx w1.heap.size vv (L4 ++ firsB (r.firs.take i)) ∧ Below w1.heap.size w1 wx)
  case atStart => exact ⟨0, rfl, by omega, rfl, HGS.out, HB_2.out⟩
  case round =>
    obtain ⟨i, hgg, hi, rfl, hg, hbx⟩ := hrel
    obtain ⟨Av, cv, hv⟩ := own_slice hg
    subst hv
    have HGG := Lib.hid hgg
    obtain ⟨L, hL⟩ : ∃ L, L = L4 ++ firsB (r.firs.take i) := ⟨_, rfl⟩
    have HLE := Lib.hid hL
    have HLl : Hid (L.length ≤ 90000000) := by show _ ≤ _; have := HL4l.out; rw [hL, List.length_append, firsB_len, List.length_take]; omega
    rw [← hL] at hg ⊢
    have HO := Lib.hid hg
    have HB := Lib.hid hbx
    obtain ⟨m, hm⟩ : ∃ m, m = L.length := ⟨_, rfl⟩
    have HM := Lib.hid hm
    rw [← hm] at HO ⊢
    have kl : wr.cell? ⟨g1, 9, none⟩ = some (.slice Af nf cf) := (HX1.out.below HB.out).cell 9
    clear hL hm hg hbx hgg HGS
    by_cases hin : i < nf
    · have hini : (i : Int) < (nf : Int) := by omega
      have hin0 : (0 : Int) ≤ (i : Int) := by omega
      have hw1 : IntKind.i64.wrap ((i : Int) + 1) = ((i + 1 : Nat) : Int) := by rw [IntKind.wrap_i64]; omega
      obtain ⟨e, hei⟩ : ∃ e, r.firs[i]? = some e := ⟨r.firs[i]'(by have := HLEN.out; omega), List.getElem?_eq_getElem _⟩
      obtain ⟨hz, ga, oa, hA, hga, hc⟩ := SlR.cells HBS.out (by omega) (by decide)
      subst hA
      obtain ⟨hel, hcc⟩ := hc i e hei
      obtain ⟨a0, a1, rr, he⟩ := of2 (ks := ksF) rfl hel
      have HX8 : Hid (wr.cell? ⟨g1, 9, none⟩ = some (.slice (some ⟨ga, oa, none⟩) nf cf)) := (HX1.out.below HB.out).cell 9
      have HU0 : Hid (wr.cell? ⟨ga, oa + i * 2, none⟩ = some (.int .u32 (a0 : Int))) := (HB.out.cell (p := ⟨ga, oa + i * 2, none⟩) hga).trans (hcc 0 _ (by rw [he]; rfl))
      have HU1 : Hid (wr.cell? ⟨ga, oa + i * 2 + 1, none⟩ = some (.int .u8 (a1 : Int))) := (HB.out.cell (p := ⟨ga, oa + i * 2 + 1, none⟩) hga).trans (hcc 1 _ (by rw [he]; rfl))
      have HGA : Hid (ga < wr.heap.size ∧ g1 < wr.heap.size) := ⟨Nat.lt_of_lt_of_le hga HB.out.size, (HX1.out.below HB.out).lt⟩
      have hfx := HFB.out e (List.mem_of_getElem? hei)
      rw [he] at hfx
      have HA0 : Hid (a0 < 4294967296) := hfx.1 a0 (by simp)
      have HA1 : Hid (a1 < 256) := hfx.2
      have HTK : Hid (L4 ++ firsB (r.firs.take (i + 1)) = L ++ firB (a0 :: a1 :: rr)) := by
        show _ = _
        rw [takeN_snoc hei, firsB_snoc, ← List.append_assoc, HLE.out, he]
      have HLT := Lib.hid hin
      have za0 : IntKind.u64.wrap (a0 : Int) = (a0 : Int) := wrap64 HA0.out
      have HN4 : Hid ([Value.int .u8 (a1 : Int), .int .u8 0, .int .u8 0, .int .u8 0] = ([UInt8.ofNat a1, 0, 0, 0] : List UInt8).map u8v) := by
        show _ = _
        simp only [List.map_cons, List.map_nil]
        rw [u8v_of HA1.out]
        rfl
      have HKS : Hid (∀ w', Below wr.heap.size wr w' → (w'.cell? ⟨g1, 9, none⟩ = some (.slice (some ⟨ga, oa, none⟩) nf cf) ∧ w'.cell? ⟨ga, oa + i * 2, none⟩ = some (.int .u32 (a0 : Int)) ∧ w'.cell? ⟨ga, oa + i * 2 + 1, none⟩ = some (.int .u8 (a1 : Int)))) :=
        fun w' hb => ⟨(hb.cell (p := ⟨g1, 9, none⟩) HGA.out.2).trans HX8.out, (hb.cell (p := ⟨ga, oa + i * 2, none⟩) HGA.out.1).trans HU0.out, (hb.cell (p := ⟨ga, oa + i * 2 + 1, none⟩) HGA.out.1).trans HU1.out⟩
      clear hc hcc hei hin he hel hz hi hfx hga
      go_upto_region 35 with fail
      clear kl
      have HOD : Hid (ByteRow (World.drew wr) w1.heap.size (.slice Av m cv) L) := HO.out
      have HBD : Hid (Below w1.heap.size w1 (World.drew wr)) := bdrew HB.out
      have HRD : Hid (Below wr.heap.size wr (World.drew wr)) := bdrew (Below.refl _ _)
      refine wp_region_held_drew (S := (fun w3 => w3.cell? ⟨g1, 9, none⟩ = some (.slice (some ⟨ga, oa, none⟩) nf cf) ∧ w3.cell? ⟨ga, oa + i * 2, none⟩ = some (.int .u32 (a0 : Int)) ∧ w3.cell? ⟨ga, oa + i * 2 + 1, none⟩ = some (.int .u8 (a1 : Int)))) (by kernel_rfl) (HKS.out _ HRD.out) (fun hHeld => ?_)
      refine wpAnyH_takeAt (i := 0) (v := (.slice Av m cv)) rfl (by kernel_rfl) (by kernel_rfl) (by kernel_rfl) (fun _ _ _ h => h) rfl (Or.inl ⟨by rfl, fun w' hS => ?_⟩) hHeld ?_
      · go_simp
      simp only [List.set_cons_zero, List.set_cons_succ]
      refine wpAnyH_takeAt (i := 1) (v := (.pointer (some ⟨g1, 9, none⟩))) rfl (by kernel_rfl) (by kernel_rfl) (by kernel_rfl) (fun _ _ _ h => h) rfl (Or.inl ⟨by rfl, fun w' hS => ?_⟩) hHeld ?_
      · go_simp
      simp only [List.set_cons_zero, List.set_cons_succ]
      refine wpAnyH_takeAt (i := 2) (v := (.slice (some ⟨ga, oa, none⟩) nf cf)) rfl (by kernel_rfl) (by kernel_rfl) (by kernel_rfl) (fun _ _ _ h => h) rfl (Or.inl ⟨by rfl, fun w' hS => ?_⟩) hHeld ?_
      · have hc' := hS.1
        go_simp
      simp only [List.set_cons_zero, List.set_cons_succ]
      refine wpAnyH_takeAt (i := 3) (v := (.int .i64 (i : Int))) rfl (by kernel_rfl) (by kernel_rfl) (by kernel_rfl) (fun _ _ _ h => h) rfl (Or.inl ⟨by rfl, fun w' hS => ?_⟩) hHeld ?_
      · go_simp
      simp only [List.set_cons_zero, List.set_cons_succ]
      refine wpAnyH_takeAt (i := 4) (v := (.pointer (some ⟨ga, oa + i * 2, none⟩))) rfl (by kernel_rfl) (by kernel_rfl) (by kernel_rfl) (fun _ _ _ h => h) rfl (Or.inl ⟨by rfl, fun w' hS => ?_⟩) hHeld ?_
      · go_simp
      simp only [List.set_cons_zero, List.set_cons_succ]
      refine wpAnyH_takeAt (i := 5) (v := (.pointer (some ⟨ga, oa + i * 2, none⟩))) rfl (by kernel_rfl) (by kernel_rfl) (by kernel_rfl) (fun _ _ _ h => h) rfl (Or.inl ⟨by rfl, fun w' hS => ?_⟩) hHeld ?_
      · go_simp
      simp only [List.set_cons_zero, List.set_cons_succ]
      refine wpAnyH_takeAt (i := 6) (v := (.int .u32 (a0 : Int))) rfl (by kernel_rfl) (by kernel_rfl) (by kernel_rfl) (fun _ _ _ h => h) rfl (Or.inl ⟨by rfl, fun w' hS => ?_⟩) hHeld ?_
      · have hc' := hS.2.1
        go_simp
      simp only [List.set_cons_zero, List.set_cons_succ]
      refine wpAnyH_takeAt (i := 7) (v := (.int .u64 (a0 : Int))) rfl (by kernel_rfl) (by kernel_rfl) (by kernel_rfl) (fun _ _ _ h => h) rfl (Or.inl ⟨by rfl, fun w' hS => ?_⟩) hHeld ?_
      · go_simp
      simp only [List.set_cons_zero, List.set_cons_succ]
      refine wpAnyH_takeAt (i := 9) (v := (.pointer (some ⟨g1, 9, none⟩))) rfl (by kernel_rfl) (by kernel_rfl) (by kernel_rfl) (fun _ _ _ h => h) rfl (Or.inl ⟨by rfl, fun w' hS => ?_⟩) hHeld ?_
      · go_simp
      simp only [List.set_cons_zero, List.set_cons_succ]
      refine wpAnyH_takeAt (i := 10) (v := (.slice (some ⟨ga, oa, none⟩) nf cf)) rfl (by kernel_rfl) (by kernel_rfl) (by kernel_rfl) (fun _ _ _ h => h) rfl (Or.inl ⟨by rfl, fun w' hS => ?_⟩) hHeld ?_
      · have hc' := hS.1
        go_simp
      simp only [List.set_cons_zero, List.set_cons_succ]
      refine wpAnyH_takeAt (i := 11) (v := (.int .i64 (i : Int))) rfl (by kernel_rfl) (by kernel_rfl) (by kernel_rfl) (fun _ _ _ h => h) rfl (Or.inl ⟨by rfl, fun w' hS => ?_⟩) hHeld ?_
      · go_simp
      simp only [List.set_cons_zero, List.set_cons_succ]
      refine wpAnyH_takeAt (i := 12) (v := (.pointer (some ⟨ga, oa + i * 2, none⟩))) rfl (by kernel_rfl) (by kernel_rfl) (by kernel_rfl) (fun _ _ _ h => h) rfl (Or.inl ⟨by rfl, fun w' hS => ?_⟩) hHeld ?_
      · go_simp
      simp only [List.set_cons_zero, List.set_cons_succ]
      refine wpAnyH_takeAt (i := 13) (v := (.pointer (some ⟨ga, oa + i * 2 + 1, none⟩))) rfl (by kernel_rfl) (by kernel_rfl) (by kernel_rfl) (fun _ _ _ h => h) rfl (Or.inl ⟨by rfl, fun w' hS => ?_⟩) hHeld ?_
      · go_simp
      simp only [List.set_cons_zero, List.set_cons_succ]
      refine wpAnyH_takeAt (i := 14) (v := (.int .u8 (a1 : Int))) rfl (by kernel_rfl) (by kernel_rfl) (by kernel_rfl) (fun _ _ _ h => h) rfl (Or.inl ⟨by rfl, fun w' hS => ?_⟩) hHeld ?_
      · have hc' := hS.2.2
        go_simp
      simp only [List.set_cons_zero, List.set_cons_succ]
      refine wpAnyH_ready (rs := [8, 15]) (by kernel_rfl) (by simp) (AllReadyH.cons rfl (fun K' hK => ?_) (AllReadyH.cons rfl (fun K' hK => ?_) AllReadyH.nil))
      · go_simp
        go_at_call 48
        refine (U_z (SlV.own HOD.out) (by have := HLl.out; omega) (by decide) (by have := HA0.out; omega)).mono ?_
        rintro e9 w_3 ⟨v9, rfl, ho9, hb9⟩
        obtain ⟨A_3, c_3, hv9⟩ := own_slice ho9
        subst hv9
        have HO_3 : Hid (ByteRow w_3 w1.heap.size (.slice A_3 (L ++ beS a0 4).length c_3) (L ++ beS a0 4)) := own_lower ho9 HBD.out.size
        have HB_3 : Hid (Below w1.heap.size w1 w_3) := bcall HBD.out hb9
        have HR_3 : Hid (Below wr.heap.size wr w_3) := bcall HRD.out hb9
        have HOW_3 : Hid (ByteRow w_3 wr.heap.size (.slice A_3 (L ++ beS a0 4).length c_3) (L ++ beS a0 4)) := own_lower ho9 HRD.out.size
        obtain ⟨m_3, hm⟩ : ∃ m, m = (L ++ beS a0 4).length := ⟨_, rfl⟩
        have HM_3 := Lib.hid hm
        rw [← hm] at HO_3 HOW_3 ⊢
        clear ho9 hb9 hm
        go_wp2_with fail
        refine hK.out _ _ (HKS.out _ HR_3.out) (fun hHeld' => ?_)
        clear hK hHeld
        have hHeld := hHeld'
        clear hHeld'
        refine wpAnyH_ready (rs := [15]) (by kernel_rfl) (by simp) (AllReadyH.cons rfl (fun K' hK => ?_) AllReadyH.nil)
        go_simp
        obtain ⟨gy_, hgy_⟩ : ∃ gy_, gy_ = (World.heap w_3).size := ⟨_, rfl⟩
        have HY_4 : Hid (Blk (World.alloc w_3 (.cells #[.int .u8 (a1 : Int), .int .u8 0, .int .u8 0, .int .u8 0] 5)) gy_ 5 #[.int .u8 (a1 : Int), .int .u8 0, .int .u8 0, .int .u8 0]) := Blk.newAt hgy_ _ _
        have HGE : Hid ((w_3).heap.size = gy_) := hgy_.symm
        have HO_4 : Hid (ByteRow (World.alloc w_3 (.cells #[.int .u8 (a1 : Int), .int .u8 0, .int .u8 0, .int .u8 0] 5)) w1.heap.size (.slice A_3 m_3 c_3) (L ++ beS a0 4)) := World.ownsRow.alloc HO_3.out _
        have HB_4 : Hid (Below w1.heap.size w1 (World.alloc w_3 (.cells #[.int .u8 (a1 : Int), .int .u8 0, .int .u8 0, .int .u8 0] 5))) := balloc HB_3.out _
        have HR_4 : Hid (Below wr.heap.size wr (World.alloc w_3 (.cells #[.int .u8 (a1 : Int), .int .u8 0, .int .u8 0, .int .u8 0] 5))) := balloc HR_3.out _
        have HOW_4 : Hid (ByteRow (World.alloc w_3 (.cells #[.int .u8 (a1 : Int), .int .u8 0, .int .u8 0, .int .u8 0] 5)) wr.heap.size (.slice A_3 m_3 c_3) (L ++ beS a0 4)) := World.ownsRow.alloc HOW_3.out _
        refine hK.out _ _ (HKS.out _ HR_4.out) (fun hHeld' => ?_)
        clear hK hHeld
        have hHeld := hHeld'
        clear hHeld'
        rw [HGE.out]
        clear hgy_
        refine wpAnyH_ready (rs := [16]) (by kernel_rfl) (by simp) (AllReadyH.cons rfl (fun K' hK => ?_) AllReadyH.nil)
        have HO_5' : Hid (World.ownsRow (World.alloc w_3 (.cells #[.int .u8 (a1 : Int), .int .u8 0, .int .u8 0, .int .u8 0] 5)) w1.heap.size 5 1 (.slice A_3 m_3 c_3) m_3 ((L ++ beS a0 4).map u8v)) := by
          have := HO_4.out
          unfold ByteRow at this
          rw [← HM_3.out] at this
          exact this
        refine step_append_any _ (by rfl) (.tmp 155) (.tmp 162) _ (by rfl) w1.heap.size 5 iB _ 1 1 Try.underlying22 hiB hz0 hz1 hz2 rfl (by omega) (.slice A_3 m_3 c_3) m_3 ((L ++ beS a0 4).map u8v) (by rfl) HO_5'.out
          _ (some ⟨gy_, 0, none⟩) 4 4 [.int .u8 (a1 : Int), .int .u8 0, .int .u8 0, .int .u8 0] (by rfl) (reads_blk HY_4.out rfl) (by simp [Value.oneCell']) (by have h1 := HM_3.out; rw [List.length_append, beS_len] at h1; have := HLl.out; simp only [maxLen]; omega) (by have h1 := HM_3.out; rw [List.length_append, beS_len] at h1; have := HLl.out; omega) HB_4.out.size ?_
        intro v_5 w_5 hown_5 hg_5 hat_5
        obtain ⟨A_5, c_5, hv_5⟩ := own_slice hown_5
        subst hv_5
        have HO_5 : Hid (ByteRow w_5 w1.heap.size (.slice A_5 (m_3 + 4) c_5) ((L ++ beS a0 4) ++ [UInt8.ofNat a1, 0, 0, 0])) := by
          have := hown_5
          rw [HN4.out, HM_3.out, ← List.map_append] at this
          show World.ownsRow _ _ _ _ _ _ _
          rw [List.length_append, HM_3.out]
          exact this
        have HB_5 : Hid (Below w1.heap.size w1 w_5) := own_grow_below HB_4.out HO_5'.out hg_5
        have HR_5 : Hid (Below wr.heap.size wr w_5) := own_grow_below HR_4.out HOW_4.out hg_5
        clear hown_5 hg_5 hat_5
        refine hK.out _ _ (HKS.out _ HR_5.out) (fun hHeld' => ?_)
        clear hK hHeld
        have hHeld := hHeld'
        clear hHeld'
        refine wpAnyH_putAt rfl ?_
        simp only [List.set_cons_zero, List.set_cons_succ]
        refine wpAnyH_takeAt (i := 17) (v := (.slice A_5 (m_3 + 4) c_5)) rfl (by kernel_rfl) (by kernel_rfl) (by kernel_rfl) (fun _ _ _ h => h) rfl (Or.inl ⟨by rfl, fun w' hS => ?_⟩) hHeld ?_
        · go_simp
        simp only [List.set_cons_zero, List.set_cons_succ]
        refine wpAnyH_done (by kernel_rfl) ?_ _
        go_wp2_with fail
        go_roundg (nf - (i + 1))
        case measure => have := HLT.out; have := HGG.out; omega
        case rel =>
          have hlt := HLT.out
          refine ⟨i + 1, rfl, by omega, by first | rfl | go_num, ?_, HB_5.out⟩
          rw [HTK.out]
          have hs := HO_5.out
          rw [List.append_assoc] at hs
          exact hs
      · go_simp
        obtain ⟨gy_, hgy_⟩ : ∃ gy_, gy_ = (World.heap (World.drew wr)).size := ⟨_, rfl⟩
        have HY_6 : Hid (Blk (World.drew (World.alloc wr (.cells #[.int .u8 (a1 : Int), .int .u8 0, .int .u8 0, .int .u8 0] 5))) gy_ 5 #[.int .u8 (a1 : Int), .int .u8 0, .int .u8 0, .int .u8 0]) := Blk.newAt hgy_ _ _
        have HGE : Hid ((wr).heap.size = gy_) := hgy_.symm
        have HO_6 : Hid (ByteRow (World.drew (World.alloc wr (.cells #[.int .u8 (a1 : Int), .int .u8 0, .int .u8 0, .int .u8 0] 5))) w1.heap.size (.slice Av m cv) L) := World.ownsRow.alloc HOD.out _
        have HB_6 : Hid (Below w1.heap.size w1 (World.drew (World.alloc wr (.cells #[.int .u8 (a1 : Int), .int .u8 0, .int .u8 0, .int .u8 0] 5)))) := balloc HBD.out _
        have HR_6 : Hid (Below wr.heap.size wr (World.drew (World.alloc wr (.cells #[.int .u8 (a1 : Int), .int .u8 0, .int .u8 0, .int .u8 0] 5)))) := balloc HRD.out _
        refine hK.out _ _ (HKS.out _ HR_6.out) (fun hHeld' => ?_)
        clear hK hHeld
        have hHeld := hHeld'
        clear hHeld'
        rw [HGE.out]
        clear hgy_
        refine wpAnyH_ready (rs := [8]) (by kernel_rfl) (by simp) (AllReadyH.cons rfl (fun K' hK => ?_) AllReadyH.nil)
        go_simp
        go_at_call 48
        refine (U_z (SlV.own HO_6.out) (by have := HLl.out; omega) (by decide) (by have := HA0.out; omega)).mono ?_
        rintro e9 w_7 ⟨v9, rfl, ho9, hb9⟩
        obtain ⟨A_7, c_7, hv9⟩ := own_slice ho9
        subst hv9
        have HO_7 : Hid (ByteRow w_7 w1.heap.size (.slice A_7 (L ++ beS a0 4).length c_7) (L ++ beS a0 4)) := own_lower ho9 HB_6.out.size
        have HB_7 : Hid (Below w1.heap.size w1 w_7) := bcall HB_6.out hb9
        have HR_7 : Hid (Below wr.heap.size wr w_7) := bcall HR_6.out hb9
        have HOW_7 : Hid (ByteRow w_7 wr.heap.size (.slice A_7 (L ++ beS a0 4).length c_7) (L ++ beS a0 4)) := own_lower ho9 HR_6.out.size
        have HY_7 := Lib.hid (HY_6.out.below hb9)
        obtain ⟨m_7, hm⟩ : ∃ m, m = (L ++ beS a0 4).length := ⟨_, rfl⟩
        have HM_7 := Lib.hid hm
        rw [← hm] at HO_7 HOW_7 ⊢
        clear ho9 hb9 hm
        go_wp2_with fail
        refine hK.out _ _ (HKS.out _ HR_7.out) (fun hHeld' => ?_)
        clear hK hHeld
        have hHeld := hHeld'
        clear hHeld'
        refine wpAnyH_ready (rs := [16]) (by kernel_rfl) (by simp) (AllReadyH.cons rfl (fun K' hK => ?_) AllReadyH.nil)
        have HO_8' : Hid (World.ownsRow w_7 w1.heap.size 5 1 (.slice A_7 m_7 c_7) m_7 ((L ++ beS a0 4).map u8v)) := by
          have := HO_7.out
          unfold ByteRow at this
          rw [← HM_7.out] at this
          exact this
        refine step_append_any _ (by rfl) (.tmp 155) (.tmp 162) _ (by rfl) w1.heap.size 5 iB _ 1 1 Try.underlying22 hiB hz0 hz1 hz2 rfl (by omega) (.slice A_7 m_7 c_7) m_7 ((L ++ beS a0 4).map u8v) (by rfl) HO_8'.out
          _ (some ⟨gy_, 0, none⟩) 4 4 [.int .u8 (a1 : Int), .int .u8 0, .int .u8 0, .int .u8 0] (by rfl) (reads_blk HY_7.out rfl) (by simp [Value.oneCell']) (by have h1 := HM_7.out; rw [List.length_append, beS_len] at h1; have := HLl.out; simp only [maxLen]; omega) (by have h1 := HM_7.out; rw [List.length_append, beS_len] at h1; have := HLl.out; omega) HB_7.out.size ?_
        intro v_8 w_8 hown_8 hg_8 hat_8
        obtain ⟨A_8, c_8, hv_8⟩ := own_slice hown_8
        subst hv_8
        have HO_8 : Hid (ByteRow w_8 w1.heap.size (.slice A_8 (m_7 + 4) c_8) ((L ++ beS a0 4) ++ [UInt8.ofNat a1, 0, 0, 0])) := by
          have := hown_8
          rw [HN4.out, HM_7.out, ← List.map_append] at this
          show World.ownsRow _ _ _ _ _ _ _
          rw [List.length_append, HM_7.out]
          exact this
        have HB_8 : Hid (Below w1.heap.size w1 w_8) := own_grow_below HB_7.out HO_8'.out hg_8
        have HR_8 : Hid (Below wr.heap.size wr w_8) := own_grow_below HR_7.out HOW_7.out hg_8
        clear hown_8 hg_8 hat_8
        refine hK.out _ _ (HKS.out _ HR_8.out) (fun hHeld' => ?_)
        clear hK hHeld
        have hHeld := hHeld'
        clear hHeld'
        refine wpAnyH_putAt rfl ?_
        simp only [List.set_cons_zero, List.set_cons_succ]
        refine wpAnyH_takeAt (i := 17) (v := (.slice A_8 (m_7 + 4) c_8)) rfl (by kernel_rfl) (by kernel_rfl) (by kernel_rfl) (fun _ _ _ h => h) rfl (Or.inl ⟨by rfl, fun w' hS => ?_⟩) hHeld ?_
        · go_simp
        simp only [List.set_cons_zero, List.set_cons_succ]
        refine wpAnyH_done (by kernel_rfl) ?_ _
        go_wp2_with fail
        go_roundg (nf - (i + 1))
        case measure => have := HLT.out; have := HGG.out; omega
        case rel =>
          have hlt := HLT.out
          refine ⟨i + 1, rfl, by omega, by first | rfl | go_num, ?_, HB_8.out⟩
          rw [HTK.out]
          have hs := HO_8.out
          rw [List.append_assoc] at hs
          exact hs
    · have hini : ¬ (i : Int) < (nf : Int) := by omega
      have hie : nf = i := by omega
      subst hie
      have HT : Hid (r.firs.take nf = r.firs) := List.take_of_length_le (by have := HLEN.out; omega)
      clear hin hi
      go_wp2_with fail
      go_ret3
      refine ⟨_, by unfold typS cntS; rw [HR4.out]; rfl, ?_, bcall HB1.out HB.out⟩
      have hs : ByteRow _ w.heap.size _ _ := own_lower HO.out HB1.out.size
      unfold bodyS
      rw [HR4.out, HE1.out, HE2.out]
      rw [HLE.out, HT.out, HL4.out] at hs
      exact .inl hs
end Go.Proofs.Ytkfimncbfbbopaa
/- What the reference makes of a report of kind 6 (contract). Conditions: what it tells lies in memory. (Printed by gen8g.py.) -/
set_option linter.unusedVariables false
set_option linter.unusedSimpArgs false
namespace Go.Proofs.Ytkfimncbfbbopaa
open Go.RowKit
attribute [local go_sem ↓] Go.wp_at_zero Go.wp_at_succ

set_option maxRecDepth 100000 in
set_option maxHeartbeats 12800000 in
theorem body6_c (fr ab ntp ts pk oc mt nb cb np cp nf cf ns cs nd cd : Nat) (ex ty ct : Int) (Ab Ap Af As Ad : Option Addr) (w : World) (r : Rep) (hr : r.kind = 6) (hbs : SlR w ksS (.slice As ns cs) r.ssrcs) (hfb : ∀ e ∈ r.ssrcs, ∀ x ∈ e, x < 4294967296) (hnb : ns ≤ 255) (exn : Nat) (hex : ex = (exn : Int)) (hexn : exn < 64) (hmt : mt < 262144) (e3 : r.ex = ex) (e4 : r.mt = mt)
    (hfr : fr < 4294967296) (hab : ab < 4294967296) (e1 : r.fr = fr) (e2 : r.ab = ab) :
    Calls Try.prog 47 #[.agg #[.int .i64 6, .int .u32 (fr : Int), .int .u32 (ab : Int), .int .u64 (ntp : Int), .int .u32 (ts : Int), .int .u32 (pk : Int), .int .u32 (oc : Int), .slice Ab nb cb, .slice Ap np cp, .slice Af nf cf, .int .i64 ex, .int .u32 (mt : Int), .slice As ns cs, .int .i64 ty, .int .i64 ct, .slice Ad nd cd]] w (BodyR r (.slice Ad nd cd) w) := by
  obtain ⟨iB, hiB, hz0, hz1, hz2⟩ := info_parts infoByte
  obtain ⟨g1, hg1⟩ : ∃ g1, g1 = w.heap.size := ⟨_, rfl⟩
  obtain ⟨w1, hw1⟩ : ∃ w1, w1 = w.alloc (.cells #[.int .i64 6, .int .u32 (fr : Int), .int .u32 (ab : Int), .int .u64 (ntp : Int), .int .u32 (ts : Int), .int .u32 (pk : Int), .int .u32 (oc : Int), .slice Ab nb cb, .slice Ap np cp, .slice Af nf cf, .int .i64 ex, .int .u32 (mt : Int), .slice As ns cs, .int .i64 ty, .int .i64 ct, .slice Ad nd cd] 40) := ⟨_, rfl⟩
  have HX1 : Hid (Blk w1 g1 40 #[.int .i64 6, .int .u32 (fr : Int), .int .u32 (ab : Int), .int .u64 (ntp : Int), .int .u32 (ts : Int), .int .u32 (pk : Int), .int .u32 (oc : Int), .slice Ab nb cb, .slice Ap np cp, .slice Af nf cf, .int .i64 ex, .int .u32 (mt : Int), .slice As ns cs, .int .i64 ty, .int .i64 ct, .slice Ad nd cd]) := by show Blk _ _ _ _; rw [hw1]; exact Blk.newAt hg1 _ _
  have HB1 : Hid (Below w.heap.size w w1) := by show Below _ _ _; rw [hw1]; exact balloc (Below.refl _ _) _
  have HB0 : Hid (Below w1.heap.size w1 w1) := Below.refl _ _
  have HO0 : Hid (ByteRow w1 w1.heap.size (.slice none 0 0) []) := World.ownsRow_nil _ _ _ _
  have z1 := wrap64 hfr
  have z2 := wrap64 hab
  have HFR := Lib.hid hfr
  have HAB := Lib.hid hab
  have HR4 := Lib.hid hr
  have HE1 := Lib.hid e1
  have HE2 := Lib.hid e2
  have HBS : Hid (SlR w1 ksS (.slice As ns cs) r.ssrcs) := hbs.below HB1.out
  have HFB := Lib.hid hfb
  have HLEN : Hid (r.ssrcs.length = ns) := by obtain ⟨_, _, e, _⟩ := hbs; injection e with _ e; exact e.symm
  clear hbs hfb
  have zex : IntKind.u64.wrap ex = (exn : Int) := by rw [hex]; exact wrap64 (by omega)
  have HEXE := Lib.hid hex
  have HE3 := Lib.hid e3
  have HE4 := Lib.hid e4
  have HMT := Lib.hid hmt
  have HEX := Lib.hid hexn
  clear e3 e4 hmt hexn hex
  clear hr hfr hab e1 e2
  go_enter Try.func47, Try.ntmps47
  go_upto_region 1 with fail
  rw [← hw1, ← hg1]
  clear hw1 hg1
  have k1 : w1.cell? ⟨g1, 1, none⟩ = some (.int .u32 (fr : Int)) := HX1.out.cell 1
  go_upto_region 2 with
   (go_at_call 48
    refine (U_z (SlV.own HO0.out) (by decide) (by decide) (by have := HFR.out; omega)).mono ?_
    rintro e9 w_1 ⟨v9, rfl, ho9, hb9⟩
    obtain ⟨A_1, c_1, hv9⟩ := own_slice ho9
    subst hv9
    have HO_1 : Hid (ByteRow w_1 w1.heap.size (.slice A_1 (([] : List UInt8) ++ beS fr 4).length c_1) (([] : List UInt8) ++ beS fr 4)) := own_lower ho9 HB0.out.size
    have HB_1 : Hid (Below w1.heap.size w1 w_1) := bcall HB0.out hb9
    obtain ⟨m_1, hm⟩ : ∃ m, m = (([] : List UInt8) ++ beS fr 4).length := ⟨_, rfl⟩
    have HM_1 := Lib.hid hm
    rw [← hm] at HO_1 ⊢
    clear ho9 hb9 hm
    have k0 : w_1.cell? ⟨g1, 0, none⟩ = some (.int .i64 6) := (HX1.out.below HB_1.out).cell 0
    have k2 : w_1.cell? ⟨g1, 2, none⟩ = some (.int .u32 (ab : Int)) := (HX1.out.below HB_1.out).cell 2
    clear k1
    skip)
  go_upto_region 22 with
   (go_at_call 48
    refine (U_z (SlV.own HO_1.out) (by simp [beS_len]) (by decide) (by have := HAB.out; omega)).mono ?_
    rintro e9 w_2 ⟨v9, rfl, ho9, hb9⟩
    obtain ⟨A_2, c_2, hv9⟩ := own_slice ho9
    subst hv9
    have HO_2 : Hid (ByteRow w_2 w1.heap.size (.slice A_2 (([] ++ beS fr 4) ++ beS ab 4).length c_2) (([] ++ beS fr 4) ++ beS ab 4)) := own_lower ho9 HB_1.out.size
    have HB_2 : Hid (Below w1.heap.size w1 w_2) := bcall HB_1.out hb9
    obtain ⟨m_2, hm⟩ : ∃ m, m = (([] ++ beS fr 4) ++ beS ab 4).length := ⟨_, rfl⟩
    have HM_2 := Lib.hid hm
    rw [← hm] at HO_2 ⊢
    clear ho9 hb9 hm
    have k0 : w_2.cell? ⟨g1, 0, none⟩ = some (.int .i64 6) := (HX1.out.below HB_2.out).cell 0
    have HK12 : Hid True := trivial; have k12 : w_2.cell? ⟨g1, 12, none⟩ = some (.slice As ns cs) := (HX1.out.below HB_2.out).cell 12
    skip)
  clear k12
  go_upto_region 37 with fail
  obtain ⟨L2, hL2⟩ : ∃ L2, L2 = [] ++ beS fr 4 ++ beS ab 4 := ⟨_, rfl⟩
  obtain rfl : m_2 = 8 := by
    have h1 := own_num HO_2.out
    rw [h1]
    simp [beS_len]
  rw [← hL2] at HO_2
  have HOD : Hid (ByteRow (World.drew w_2) w1.heap.size (.slice A_2 8 c_2) L2) := HO_2.out
  have HBD : Hid (Below w1.heap.size w1 (World.drew w_2)) := bdrew HB_2.out
  have HXD : Hid (Blk (World.drew w_2) g1 40 #[.int .i64 6, .int .u32 (fr : Int), .int .u32 (ab : Int), .int .u64 (ntp : Int), .int .u32 (ts : Int), .int .u32 (pk : Int), .int .u32 (oc : Int), .slice Ab nb cb, .slice Ap np cp, .slice Af nf cf, .int .i64 ex, .int .u32 (mt : Int), .slice As ns cs, .int .i64 ty, .int .i64 ct, .slice Ad nd cd]) := HX1.out.below HBD.out
  have HLL : Hid (L2.length = 8) := by show _ = _; rw [hL2]; simp [beS_len]
  have HL12 : Hid ((L2 ++ ([82, 69, 77, 66] : List UInt8)).length = 12) := by show _ = _; rw [List.length_append, HLL.out]; rfl
  have HL2E := Lib.hid hL2
  have hnw : IntKind.u8.wrap (ns : Int) = (ns : Int) := by rw [IntKind.wrap_u8]; omega
  have HN1 : Hid ([Value.int .u8 (ns : Int)] = ([UInt8.ofNat ns] : List UInt8).map u8v) := by
    show _ = _
    simp only [List.map_cons, List.map_nil]
    rw [u8v_of (by omega)]
  have HST : Hid (strV ⟨#[82, 69, 77, 66]⟩ = ([82, 69, 77, 66] : List UInt8).map u8v) := rfl
  clear hL2
  go_cut [5] (fun v2 wx => ∃ A9 c9, v2 = .slice A9 13 c9 ∧ ByteRow wx w1.heap.size v2 (L2 ++ [82, 69, 77, 66] ++ [UInt8.ofNat ns]) ∧ Below w1.heap.size w1 wx)
  case first =>
    refine wp_region_held_drew (S := (fun w3 => Blk w3 g1 40 #[.int .i64 6, .int .u32 (fr : Int), .int .u32 (ab : Int), .int .u64 (ntp : Int), .int .u32 (ts : Int), .int .u32 (pk : Int), .int .u32 (oc : Int), .slice Ab nb cb, .slice Ap np cp, .slice Af nf cf, .int .i64 ex, .int .u32 (mt : Int), .slice As ns cs, .int .i64 ty, .int .i64 ct, .slice Ad nd cd])) (by kernel_rfl) (HXD.out) (fun hHeld => ?_)
    refine wpAnyH_takeAt (i := 0) (v := (.slice A_2 8 c_2)) rfl (by kernel_rfl) (by kernel_rfl) (by kernel_rfl) (fun _ _ _ h => h) rfl (Or.inl ⟨by rfl, fun w' hS => ?_⟩) hHeld ?_
    · go_simp
    simp only [List.set_cons_zero, List.set_cons_succ]
    refine wpAnyH_takeAt (i := 2) (v := (.pointer (some ⟨g1, 12, none⟩))) rfl (by kernel_rfl) (by kernel_rfl) (by kernel_rfl) (fun _ _ _ h => h) rfl (Or.inl ⟨by rfl, fun w' hS => ?_⟩) hHeld ?_
    · go_simp
    simp only [List.set_cons_zero, List.set_cons_succ]
    refine wpAnyH_takeAt (i := 3) (v := (.slice As ns cs)) rfl (by kernel_rfl) (by kernel_rfl) (by kernel_rfl) (fun _ _ _ h => h) rfl (Or.inl ⟨by rfl, fun w' hS => ?_⟩) hHeld ?_
    · have hc := hS.cell 12
      have hc' : w'.cell? ⟨g1, 12, none⟩ = some (.slice As ns cs) := hc
      go_simp
    simp only [List.set_cons_zero, List.set_cons_succ]
    refine wpAnyH_takeAt (i := 4) (v := (.int .i64 (ns : Int))) rfl (by kernel_rfl) (by kernel_rfl) (by kernel_rfl) (fun _ _ _ h => h) rfl (Or.inl ⟨by rfl, fun w' hS => ?_⟩) hHeld ?_
    · go_simp
    simp only [List.set_cons_zero, List.set_cons_succ]
    refine wpAnyH_takeAt (i := 5) (v := (.int .u8 (ns : Int))) rfl (by kernel_rfl) (by kernel_rfl) (by kernel_rfl) (fun _ _ _ h => h) rfl (Or.inl ⟨by rfl, fun w' hS => ?_⟩) hHeld ?_
    · go_simp
    simp only [List.set_cons_zero, List.set_cons_succ]
    refine wpAnyH_ready (rs := [1, 6]) (by kernel_rfl) (by simp) (AllReadyH.cons rfl (fun K' hK => ?_) (AllReadyH.cons rfl (fun K' hK => ?_) AllReadyH.nil))
    · have HO_1' : Hid (World.ownsRow (World.drew w_2) w1.heap.size 5 1 (.slice A_2 8 c_2) 8 (L2.map u8v)) := by
        have := HOD.out
        unfold ByteRow at this
        rw [HLL.out] at this
        exact this
      refine step_append_str _ (by rfl) (.tmp 165) _ 22 9 (by rfl) w1.heap.size 5 iB _ Try.underlying22 Try.underlying9 hiB hz0 hz1 hz2 rfl (.slice A_2 8 c_2) 8 (L2.map u8v) (by rfl) HO_1'.out ⟨#[82, 69, 77, 66]⟩ (by rfl) (by decide)
        (by show 8 + 4 ≤ maxLen; decide) (by show 8 + 4 ≤ _; decide) HBD.out.size ?_
      intro v_1 w_1 hown_1 hg_1 hat_1
      obtain ⟨A_1, c_1, hv_1⟩ : ∃ A c, v_1 = .slice A 12 c := own_slice hown_1
      subst hv_1
      have HX_1 : Hid (Blk w_1 g1 40 #[.int .i64 6, .int .u32 (fr : Int), .int .u32 (ab : Int), .int .u64 (ntp : Int), .int .u32 (ts : Int), .int .u32 (pk : Int), .int .u32 (oc : Int), .slice Ab nb cb, .slice Ap np cp, .slice Af nf cf, .int .i64 ex, .int .u32 (mt : Int), .slice As ns cs, .int .i64 ty, .int .i64 ct, .slice Ad nd cd]) := Blk.grown HXD.out hg_1 (Ne.symm (own_blk_ne HO_1'.out HXD.out (by decide)))
      have HO_1 : Hid (ByteRow w_1 w1.heap.size (.slice A_1 12 c_1) (L2 ++ [82, 69, 77, 66])) := by
        have := hown_1
        rw [HST.out, ← List.map_append] at this
        show World.ownsRow _ _ _ _ _ _ _
        rw [HL12.out]
        exact this
      have HB_1 : Hid (Below w1.heap.size w1 w_1) := own_grow_below HBD.out HO_1'.out hg_1
      clear hown_1 hg_1 hat_1
      refine hK.out _ _ HX_1.out (fun hHeld' => ?_)
      clear hK hHeld
      have hHeld := hHeld'
      clear hHeld'
      refine wpAnyH_putAt rfl ?_
      simp only [List.set_cons_zero, List.set_cons_succ]
      refine wpAnyH_ready (rs := [6]) (by kernel_rfl) (by simp) (AllReadyH.cons rfl (fun K' hK => ?_) AllReadyH.nil)
      go_simp
      obtain ⟨gy_, hgy_⟩ : ∃ gy_, gy_ = (World.heap w_1).size := ⟨_, rfl⟩
      have HY_2 : Hid (Blk (World.alloc w_1 (.cells #[.int .u8 (ns : Int)] 5)) gy_ 5 #[.int .u8 (ns : Int)]) := Blk.newAt hgy_ _ _
      have HNE : Hid ((Value.slice  A_1 12 c_1).ownBlock ≠ some gy_) := fun e => by have := (World.ownsRow.lt HO_1.out gy_ e).2; omega
      have HGE : Hid ((w_1).heap.size = gy_) := hgy_.symm
      have HX_2 : Hid (Blk (World.alloc w_1 (.cells #[.int .u8 (ns : Int)] 5)) g1 40 #[.int .i64 6, .int .u32 (fr : Int), .int .u32 (ab : Int), .int .u64 (ntp : Int), .int .u32 (ts : Int), .int .u32 (pk : Int), .int .u32 (oc : Int), .slice Ab nb cb, .slice Ap np cp, .slice Af nf cf, .int .i64 ex, .int .u32 (mt : Int), .slice As ns cs, .int .i64 ty, .int .i64 ct, .slice Ad nd cd]) := Blk.alloc HX_1.out _
      have HO_2 : Hid (ByteRow (World.alloc w_1 (.cells #[.int .u8 (ns : Int)] 5)) w1.heap.size (.slice A_1 12 c_1) (L2 ++ [82, 69, 77, 66])) := World.ownsRow.alloc HO_1.out _
      have HB_2 : Hid (Below w1.heap.size w1 (World.alloc w_1 (.cells #[.int .u8 (ns : Int)] 5))) := balloc HB_1.out _
      refine hK.out _ _ HX_2.out (fun hHeld' => ?_)
      clear hK hHeld
      have hHeld := hHeld'
      clear hHeld'
      rw [HGE.out]
      clear hgy_
      refine wpAnyH_ready (rs := [7]) (by kernel_rfl) (by simp) (AllReadyH.cons rfl (fun K' hK => ?_) AllReadyH.nil)
      have HO_3' : Hid (World.ownsRow (World.alloc w_1 (.cells #[.int .u8 (ns : Int)] 5)) w1.heap.size 5 1 (.slice A_1 12 c_1) 12 ((L2 ++ [82, 69, 77, 66]).map u8v)) := by
        have := HO_2.out
        unfold ByteRow at this
        rw [HL12.out] at this
        exact this
      refine step_append_any _ (by rfl) (.tmp 166) (.tmp 171) _ (by rfl) w1.heap.size 5 iB _ 1 1 Try.underlying22 hiB hz0 hz1 hz2 rfl (by omega) (.slice A_1 12 c_1) 12 ((L2 ++ [82, 69, 77, 66]).map u8v) (by rfl) HO_3'.out
        _ (some ⟨gy_, 0, none⟩) 1 1 [.int .u8 (ns : Int)] (by rfl) (reads_blk HY_2.out rfl) (by simp [Value.oneCell']) (by show 12 + 1 ≤ maxLen; decide) (by show 12 + 1 ≤ _; decide) HB_2.out.size ?_
      intro v_3 w_3 hown_3 hg_3 hat_3
      obtain ⟨A_3, c_3, hv_3⟩ : ∃ A c, v_3 = .slice A 13 c := own_slice hown_3
      subst hv_3
      have HX_3 : Hid (Blk w_3 g1 40 #[.int .i64 6, .int .u32 (fr : Int), .int .u32 (ab : Int), .int .u64 (ntp : Int), .int .u32 (ts : Int), .int .u32 (pk : Int), .int .u32 (oc : Int), .slice Ab nb cb, .slice Ap np cp, .slice Af nf cf, .int .i64 ex, .int .u32 (mt : Int), .slice As ns cs, .int .i64 ty, .int .i64 ct, .slice Ad nd cd]) := Blk.grown HX_2.out hg_3 (Ne.symm (own_blk_ne HO_3'.out HX_2.out (by decide)))
      have HOF : Hid (ByteRow w_3 w1.heap.size (.slice A_3 13 c_3) (L2 ++ [82, 69, 77, 66] ++ [UInt8.ofNat ns])) := by
        have := hown_3
        rw [HN1.out, ← List.map_append] at this
        show World.ownsRow _ _ _ _ _ _ _
        rw [List.length_append, HL12.out]
        exact this
      have HBF : Hid (Below w1.heap.size w1 w_3) := own_grow_below HB_2.out HO_3'.out hg_3
      clear hown_3 hg_3 hat_3
      refine hK.out _ _ HX_3.out (fun hHeld' => ?_)
      clear hK hHeld
      have hHeld := hHeld'
      clear hHeld'
      refine wpAnyH_putAt rfl ?_
      simp only [List.set_cons_zero, List.set_cons_succ]
      refine wpAnyH_takeAt (i := 8) (v := (.slice A_3 13 c_3)) rfl (by kernel_rfl) (by kernel_rfl) (by kernel_rfl) (fun _ _ _ h => h) rfl (Or.inl ⟨by rfl, fun w' hS => ?_⟩) hHeld ?_
      · go_simp
      simp only [List.set_cons_zero, List.set_cons_succ]
      refine wpAnyH_done (by kernel_rfl) ?_ _
      go_wp2_with fail
      go_meet
      exact ⟨A_3, c_3, rfl, HOF.out, HBF.out⟩
    · go_simp
      obtain ⟨gy_, hgy_⟩ : ∃ gy_, gy_ = (World.heap (World.drew w_2)).size := ⟨_, rfl⟩
      have HY_4 : Hid (Blk (World.drew (World.alloc w_2 (.cells #[.int .u8 (ns : Int)] 5))) gy_ 5 #[.int .u8 (ns : Int)]) := Blk.newAt hgy_ _ _
      have HNE : Hid ((Value.slice  A_2 8 c_2).ownBlock ≠ some gy_) := fun e => by have := (World.ownsRow.lt HOD.out gy_ e).2; omega
      have HGE : Hid ((w_2).heap.size = gy_) := hgy_.symm
      have HX_4 : Hid (Blk (World.drew (World.alloc w_2 (.cells #[.int .u8 (ns : Int)] 5))) g1 40 #[.int .i64 6, .int .u32 (fr : Int), .int .u32 (ab : Int), .int .u64 (ntp : Int), .int .u32 (ts : Int), .int .u32 (pk : Int), .int .u32 (oc : Int), .slice Ab nb cb, .slice Ap np cp, .slice Af nf cf, .int .i64 ex, .int .u32 (mt : Int), .slice As ns cs, .int .i64 ty, .int .i64 ct, .slice Ad nd cd]) := Blk.alloc HXD.out _
      have HO_4 : Hid (ByteRow (World.drew (World.alloc w_2 (.cells #[.int .u8 (ns : Int)] 5))) w1.heap.size (.slice A_2 8 c_2) L2) := World.ownsRow.alloc HOD.out _
      have HB_4 : Hid (Below w1.heap.size w1 (World.drew (World.alloc w_2 (.cells #[.int .u8 (ns : Int)] 5)))) := balloc HBD.out _
      refine hK.out _ _ HX_4.out (fun hHeld' => ?_)
      clear hK hHeld
      have hHeld := hHeld'
      clear hHeld'
      rw [HGE.out]
      clear hgy_
      refine wpAnyH_ready (rs := [1]) (by kernel_rfl) (by simp) (AllReadyH.cons rfl (fun K' hK => ?_) AllReadyH.nil)
      have HO_5' : Hid (World.ownsRow (World.drew (World.alloc w_2 (.cells #[.int .u8 (ns : Int)] 5))) w1.heap.size 5 1 (.slice A_2 8 c_2) 8 (L2.map u8v)) := by
        have := HO_4.out
        unfold ByteRow at this
        rw [HLL.out] at this
        exact this
      refine step_append_str _ (by rfl) (.tmp 165) _ 22 9 (by rfl) w1.heap.size 5 iB _ Try.underlying22 Try.underlying9 hiB hz0 hz1 hz2 rfl (.slice A_2 8 c_2) 8 (L2.map u8v) (by rfl) HO_5'.out ⟨#[82, 69, 77, 66]⟩ (by rfl) (by decide)
        (by show 8 + 4 ≤ maxLen; decide) (by show 8 + 4 ≤ _; decide) HB_4.out.size ?_
      intro v_5 w_5 hown_5 hg_5 hat_5
      obtain ⟨A_5, c_5, hv_5⟩ : ∃ A c, v_5 = .slice A 12 c := own_slice hown_5
      subst hv_5
      have HX_5 : Hid (Blk w_5 g1 40 #[.int .i64 6, .int .u32 (fr : Int), .int .u32 (ab : Int), .int .u64 (ntp : Int), .int .u32 (ts : Int), .int .u32 (pk : Int), .int .u32 (oc : Int), .slice Ab nb cb, .slice Ap np cp, .slice Af nf cf, .int .i64 ex, .int .u32 (mt : Int), .slice As ns cs, .int .i64 ty, .int .i64 ct, .slice Ad nd cd]) := Blk.grown HX_4.out hg_5 (Ne.symm (own_blk_ne HO_5'.out HX_4.out (by decide)))
      have HO_5 : Hid (ByteRow w_5 w1.heap.size (.slice A_5 12 c_5) (L2 ++ [82, 69, 77, 66])) := by
        have := hown_5
        rw [HST.out, ← List.map_append] at this
        show World.ownsRow _ _ _ _ _ _ _
        rw [HL12.out]
        exact this
      have HB_5 : Hid (Below w1.heap.size w1 w_5) := own_grow_below HB_4.out HO_5'.out hg_5
      have HY_5 := Lib.hid (Blk.grown HY_4.out hg_5 (fun e => HNE.out e.symm))
      clear hown_5 hg_5 hat_5
      refine hK.out _ _ HX_5.out (fun hHeld' => ?_)
      clear hK hHeld
      have hHeld := hHeld'
      clear hHeld'
      refine wpAnyH_putAt rfl ?_
      simp only [List.set_cons_zero, List.set_cons_succ]
      refine wpAnyH_ready (rs := [7]) (by kernel_rfl) (by simp) (AllReadyH.cons rfl (fun K' hK => ?_) AllReadyH.nil)
      have HO_6' : Hid (World.ownsRow w_5 w1.heap.size 5 1 (.slice A_5 12 c_5) 12 ((L2 ++ [82, 69, 77, 66]).map u8v)) := by
        have := HO_5.out
        unfold ByteRow at this
        rw [HL12.out] at this
        exact this
      refine step_append_any _ (by rfl) (.tmp 166) (.tmp 171) _ (by rfl) w1.heap.size 5 iB _ 1 1 Try.underlying22 hiB hz0 hz1 hz2 rfl (by omega) (.slice A_5 12 c_5) 12 ((L2 ++ [82, 69, 77, 66]).map u8v) (by rfl) HO_6'.out
        _ (some ⟨gy_, 0, none⟩) 1 1 [.int .u8 (ns : Int)] (by rfl) (reads_blk HY_5.out rfl) (by simp [Value.oneCell']) (by show 12 + 1 ≤ maxLen; decide) (by show 12 + 1 ≤ _; decide) HB_5.out.size ?_
      intro v_6 w_6 hown_6 hg_6 hat_6
      obtain ⟨A_6, c_6, hv_6⟩ : ∃ A c, v_6 = .slice A 13 c := own_slice hown_6
      subst hv_6
      have HX_6 : Hid (Blk w_6 g1 40 #[.int .i64 6, .int .u32 (fr : Int), .int .u32 (ab : Int), .int .u64 (ntp : Int), .int .u32 (ts : Int), .int .u32 (pk : Int), .int .u32 (oc : Int), .slice Ab nb cb, .slice Ap np cp, .slice Af nf cf, .int .i64 ex, .int .u32 (mt : Int), .slice As ns cs, .int .i64 ty, .int .i64 ct, .slice Ad nd cd]) := Blk.grown HX_5.out hg_6 (Ne.symm (own_blk_ne HO_6'.out HX_5.out (by decide)))
      have HOF : Hid (ByteRow w_6 w1.heap.size (.slice A_6 13 c_6) (L2 ++ [82, 69, 77, 66] ++ [UInt8.ofNat ns])) := by
        have := hown_6
        rw [HN1.out, ← List.map_append] at this
        show World.ownsRow _ _ _ _ _ _ _
        rw [List.length_append, HL12.out]
        exact this
      have HBF : Hid (Below w1.heap.size w1 w_6) := own_grow_below HB_5.out HO_6'.out hg_6
      clear hown_6 hg_6 hat_6
      refine hK.out _ _ HX_6.out (fun hHeld' => ?_)
      clear hK hHeld
      have hHeld := hHeld'
      clear hHeld'
      refine wpAnyH_putAt rfl ?_
      simp only [List.set_cons_zero, List.set_cons_succ]
      refine wpAnyH_takeAt (i := 8) (v := (.slice A_6 13 c_6)) rfl (by kernel_rfl) (by kernel_rfl) (by kernel_rfl) (fun _ _ _ h => h) rfl (Or.inl ⟨by rfl, fun w' hS => ?_⟩) hHeld ?_
      · go_simp
      simp only [List.set_cons_zero, List.set_cons_succ]
      refine wpAnyH_done (by kernel_rfl) ?_ _
      go_wp2_with fail
      go_meet
      exact ⟨A_6, c_6, rfl, HOF.out, HBF.out⟩
  case rest =>
    obtain ⟨A9, c9, rfl, hg, hbc⟩ := hcut
    have HO9 := Lib.hid hg
    have HB9 := Lib.hid hbc
    have k10 : wc.cell? ⟨g1, 10, none⟩ = some (.int .i64 ex) := (HX1.out.below HB9.out).cell 10
    have k11 : wc.cell? ⟨g1, 11, none⟩ = some (.int .u32 (mt : Int)) := (HX1.out.below HB9.out).cell 11
    have zmt : IntKind.u64.wrap (mt : Int) = (mt : Int) := wrap64 (by have := HMT.out; omega)
    obtain ⟨Y, hY⟩ : ∃ Y, Y = 262144 * exn := ⟨_, rfl⟩
    obtain ⟨Z, hZ⟩ : ∃ Z, Z = Y + mt := ⟨_, rfl⟩
    have zsh : IntKind.u64.wrap ((exn : Int) * 262144) = (Y : Int) := by
      have := HEX.out
      rw [show (exn : Int) * 262144 = ((262144 * exn : Nat) : Int) by omega, ← hY]
      simp [IntKind.wrap, IntKind.bits, IntKind.signed]; omega
    have zor : bits .or .u64 (Y : Int) (mt : Int) = (Z : Int) := by
      rw [hZ, hY]
      exact or18 exn mt HEX.out HMT.out
    have HZ : Hid (Z = exn * 262144 + mt) := by show _ = _; omega
    obtain ⟨L3, hL3⟩ : ∃ L3, L3 = L2 ++ [82, 69, 77, 66] ++ [UInt8.ofNat ns] := ⟨_, rfl⟩
    rw [← hL3] at HO9
    have HL3l : Hid (L3.length = 13) := by show _ = _; rw [hL3, List.length_append, HL12.out]; rfl
    have HL3 := Lib.hid hL3
    clear hg hbc hY hZ hL3
    go_upto_region 39 with
     (go_at_call 48
      refine (U_z (SlV.own HO9.out) (by have := HL3l.out; omega) (by decide) (by have := HZ.out; have := HEX.out; have := HMT.out; omega)).mono ?_
      rintro e9 w_C ⟨v9, rfl, ho9, hb9⟩
      obtain ⟨A_C, c_C, hv9⟩ := own_slice ho9
      subst hv9
      have HO_C : Hid (ByteRow w_C w1.heap.size (.slice A_C (L3 ++ beS Z 3).length c_C) (L3 ++ beS Z 3)) := own_lower ho9 HB9.out.size
      have HB_C : Hid (Below w1.heap.size w1 w_C) := bcall HB9.out hb9
      obtain ⟨m_C, hm⟩ : ∃ m, m = (L3 ++ beS Z 3).length := ⟨_, rfl⟩
      have HM_C := Lib.hid hm
      rw [← hm] at HO_C ⊢
      clear ho9 hb9 hm
      have k12 : w_C.cell? ⟨g1, 12, none⟩ = some (.slice As ns cs) := (HX1.out.below HB_C.out).cell 12
      skip)
    clear k10 k11 zmt zsh zor zex k12
    obtain ⟨L4, hL4⟩ : ∃ L4, L4 = L3 ++ beS Z 3 := ⟨_, rfl⟩
    have HGS : Hid (ByteRow w_C w1.heap.size (.slice A_C m_C c_C) (L4 ++ fours ((r.ssrcs.take 0).map fun e : List Nat => e.getD 0 0))) := by
      show ByteRow _ _ _ _
      rw [hL4]
      simpa [fours] using HO_C.out
    have HL4 := Lib.hid hL4
    have HL4l : Hid (L4.length ≤ 10000) := by show _ ≤ _; rw [hL4, List.length_append, beS_len, HL3l.out]; decide
    clear hL4
    have k12 : w_C.cell? ⟨g1, 12, none⟩ = some (.slice As ns cs) := (HX1.out.below HB_C.out).cell 12
    go_upto_region 40 with fail
    clear k12
    go_loopg [5, 10] ns (fun gg vv vi wx => ∃ i : Nat, gg = ns - i ∧ i ≤ ns ∧ vi = .int .i64 (i : Int) ∧ ByteRow wx w1.heap.size vv (L4 ++ fours ((r.ssrcs.take i).map fun e : List Nat => e.getD 0 0)) ∧ Below w1.heap.size w1 wx)
    case atStart => exact ⟨0, rfl, by omega, rfl, HGS.out, HB_C.out⟩
    case round =>
      obtain ⟨i, hgg, hi, rfl, hg, hbx⟩ := hrel
      obtain ⟨Av, cv, hv⟩ := own_slice hg
      subst hv
      have HGG := Lib.hid hgg
      obtain ⟨L, hL⟩ : ∃ L, L = L4 ++ fours ((r.ssrcs.take i).map fun e : List Nat => e.getD 0 0) := ⟨_, rfl⟩
      have HLE := Lib.hid hL
      have HLl : Hid (L.length ≤ 90000000) := by show _ ≤ _; have := HL4l.out; rw [hL, List.length_append, fours_len, List.length_map, List.length_take]; omega
      rw [← hL] at hg ⊢
      have HO := Lib.hid hg
      have HB := Lib.hid hbx
      obtain ⟨m, hm⟩ : ∃ m, m = L.length := ⟨_, rfl⟩
      have HM := Lib.hid hm
      rw [← hm] at HO ⊢
      have kl : wr.cell? ⟨g1, 12, none⟩ = some (.slice As ns cs) := (HX1.out.below HB.out).cell 12
      clear hL hm hg hbx hgg HGS
      by_cases hin : i < ns
      · have hini : (i : Int) < (ns : Int) := by omega
        have hin0 : (0 : Int) ≤ (i : Int) := by omega
        have hw1 : IntKind.i64.wrap ((i : Int) + 1) = ((i + 1 : Nat) : Int) := by rw [IntKind.wrap_i64]; omega
        obtain ⟨e, hei⟩ : ∃ e, r.ssrcs[i]? = some e := ⟨r.ssrcs[i]'(by have := HLEN.out; omega), List.getElem?_eq_getElem _⟩
        obtain ⟨hz, ga, oa, hA, hga, hc⟩ := SlR.cells HBS.out (by omega) (by decide)
        subst hA
        obtain ⟨hel, hcc⟩ := hc i e hei
        obtain ⟨a0, rr, he⟩ : ∃ a0 rr, e = a0 :: rr := of1 (ks := ksS) rfl hel
        have u0 : wr.cell? ⟨ga, oa + i, none⟩ = some (.int .u32 (a0 : Int)) := (HB.out.cell (p := ⟨ga, oa + i, none⟩) hga).trans (by have := hcc 0 _ (by rw [he]; rfl); simpa [ksS, numV] using this)
        have HA0 : Hid (a0 < 4294967296) := HFB.out e (List.mem_of_getElem? hei) a0 (by rw [he]; simp)
        have za0 : IntKind.u64.wrap (a0 : Int) = (a0 : Int) := wrap64 HA0.out
        have HTK : Hid (L4 ++ fours ((r.ssrcs.take (i + 1)).map fun e : List Nat => e.getD 0 0) = L ++ beS a0 4) := by
          show _ = _
          rw [takeN_snoc hei, List.map_append, List.map_cons, List.map_nil, fours_snoc, ← List.append_assoc, HLE.out, he]
          rfl
        have HLT := Lib.hid hin
        clear hc hcc hei hin he hel hz hi
        go_wp2_with
         (go_at_call 48
          refine (U_z (SlV.own HO.out) (by have := HLl.out; omega) (by decide) (by have := HA0.out; omega)).mono ?_
          rintro e9 w9 ⟨v9, rfl, ho9, hb9⟩
          have HON : Hid (ByteRow w9 w1.heap.size v9 (L4 ++ fours ((r.ssrcs.take (i + 1)).map fun e : List Nat => e.getD 0 0))) := by
            show ByteRow _ _ _ _
            rw [HTK.out]
            exact own_lower ho9 HB.out.size
          have HBN : Hid (Below w1.heap.size w1 w9) := bcall HB.out hb9
          clear ho9 hb9)
        go_roundg (ns - (i + 1))
        case measure => have := HLT.out; have := HGG.out; omega
        case rel =>
          have hlt := HLT.out
          exact ⟨i + 1, rfl, by omega, by first | rfl | go_num, HON.out, HBN.out⟩
      · have hini : ¬ (i : Int) < (ns : Int) := by omega
        have hie : ns = i := by omega
        subst hie
        have HT : Hid (r.ssrcs.take ns = r.ssrcs) := List.take_of_length_le (by have := HLEN.out; omega)
        clear hin hi
        go_wp2_with fail
        go_ret3
        refine ⟨_, by unfold typS cntS; rw [HR4.out]; rfl, ?_, bcall HB1.out HB.out⟩
        have hs : ByteRow _ w.heap.size _ _ := own_lower HO.out HB1.out.size
        unfold bodyS
        rw [HR4.out, HE1.out, HE2.out, HE3.out, HE4.out, HLEN.out, HEXE.out, Int.toNat_natCast, ← HZ.out]
        rw [HLE.out, HT.out, HL4.out, HL3.out, HL2E.out] at hs
        exact .inl hs
end Go.Proofs.Ytkfimncbfbbopaa
/- What the reference makes of a report of kind 7 (contract). Conditions: what it tells lies in memory. (Printed by gen8g.py.) -/
set_option linter.unusedVariables false
set_option linter.unusedSimpArgs false
namespace Go.Proofs.Ytkfimncbfbbopaa
open Go.RowKit
attribute [local go_sem ↓] Go.wp_at_zero Go.wp_at_succ

set_option maxRecDepth 100000 in
set_option maxHeartbeats 12800000 in
theorem body7_c (fr ab ntp ts pk oc mt nb cb np cp nf cf ns cs nd cd : Nat) (ex ty ct : Int) (Ab Ap Af As Ad : Option Addr) (w : World) (r : Rep) (hr : r.kind = 7) (e3 : r.ty = ty) (e4 : r.ct = ct)
    (hfr : fr < 4294967296) (hab : ab < 4294967296) (e1 : r.fr = fr) (e2 : r.ab = ab) :
    Calls Try.prog 47 #[.agg #[.int .i64 7, .int .u32 (fr : Int), .int .u32 (ab : Int), .int .u64 (ntp : Int), .int .u32 (ts : Int), .int .u32 (pk : Int), .int .u32 (oc : Int), .slice Ab nb cb, .slice Ap np cp, .slice Af nf cf, .int .i64 ex, .int .u32 (mt : Int), .slice As ns cs, .int .i64 ty, .int .i64 ct, .slice Ad nd cd]] w (BodyR r (.slice Ad nd cd) w) := by
  obtain ⟨iB, hiB, hz0, hz1, hz2⟩ := info_parts infoByte
  obtain ⟨g1, hg1⟩ : ∃ g1, g1 = w.heap.size := ⟨_, rfl⟩
  obtain ⟨w1, hw1⟩ : ∃ w1, w1 = w.alloc (.cells #[.int .i64 7, .int .u32 (fr : Int), .int .u32 (ab : Int), .int .u64 (ntp : Int), .int .u32 (ts : Int), .int .u32 (pk : Int), .int .u32 (oc : Int), .slice Ab nb cb, .slice Ap np cp, .slice Af nf cf, .int .i64 ex, .int .u32 (mt : Int), .slice As ns cs, .int .i64 ty, .int .i64 ct, .slice Ad nd cd] 40) := ⟨_, rfl⟩
  have HX1 : Hid (Blk w1 g1 40 #[.int .i64 7, .int .u32 (fr : Int), .int .u32 (ab : Int), .int .u64 (ntp : Int), .int .u32 (ts : Int), .int .u32 (pk : Int), .int .u32 (oc : Int), .slice Ab nb cb, .slice Ap np cp, .slice Af nf cf, .int .i64 ex, .int .u32 (mt : Int), .slice As ns cs, .int .i64 ty, .int .i64 ct, .slice Ad nd cd]) := by show Blk _ _ _ _; rw [hw1]; exact Blk.newAt hg1 _ _
  have HB1 : Hid (Below w.heap.size w w1) := by show Below _ _ _; rw [hw1]; exact balloc (Below.refl _ _) _
  have HB0 : Hid (Below w1.heap.size w1 w1) := Below.refl _ _
  have HO0 : Hid (ByteRow w1 w1.heap.size (.slice none 0 0) []) := World.ownsRow_nil _ _ _ _
  have z1 := wrap64 hfr
  have z2 := wrap64 hab
  have HFR := Lib.hid hfr
  have HAB := Lib.hid hab
  have HR4 := Lib.hid hr
  have HE1 := Lib.hid e1
  have HE2 := Lib.hid e2
  have HE3 := Lib.hid e3
  have HE4 := Lib.hid e4
  clear e3 e4
  clear hr hfr hab e1 e2
  go_enter Try.func47, Try.ntmps47
  go_upto_region 1 with fail
  rw [← hw1, ← hg1]
  clear hw1 hg1
  have k1 : w1.cell? ⟨g1, 1, none⟩ = some (.int .u32 (fr : Int)) := HX1.out.cell 1
  go_upto_region 2 with
   (go_at_call 48
    refine (U_z (SlV.own HO0.out) (by decide) (by decide) (by have := HFR.out; omega)).mono ?_
    rintro e9 w_1 ⟨v9, rfl, ho9, hb9⟩
    obtain ⟨A_1, c_1, hv9⟩ := own_slice ho9
    subst hv9
    have HO_1 : Hid (ByteRow w_1 w1.heap.size (.slice A_1 (([] : List UInt8) ++ beS fr 4).length c_1) (([] : List UInt8) ++ beS fr 4)) := own_lower ho9 HB0.out.size
    have HB_1 : Hid (Below w1.heap.size w1 w_1) := bcall HB0.out hb9
    obtain ⟨m_1, hm⟩ : ∃ m, m = (([] : List UInt8) ++ beS fr 4).length := ⟨_, rfl⟩
    have HM_1 := Lib.hid hm
    rw [← hm] at HO_1 ⊢
    clear ho9 hb9 hm
    have k0 : w_1.cell? ⟨g1, 0, none⟩ = some (.int .i64 7) := (HX1.out.below HB_1.out).cell 0
    have k13 : w_1.cell? ⟨g1, 13, none⟩ = some (.int .i64 ty) := (HX1.out.below HB_1.out).cell 13
    have k14 : w_1.cell? ⟨g1, 14, none⟩ = some (.int .i64 ct) := (HX1.out.below HB_1.out).cell 14
    have k15 : w_1.cell? ⟨g1, 15, none⟩ = some (.slice Ad nd cd) := (HX1.out.below HB_1.out).cell 15
    clear k1
    skip)
  go_upto_region 20 with fail
  go_quiet (fail)
  go_wp2_with fail
  go_ret3
  refine ⟨_, by unfold typS cntS; rw [HR4.out, HE3.out, HE4.out]; rfl, ?_, below_drewN (bcall HB1.out HB_1.out) _⟩
  refine .inr ⟨rfl, ?_⟩
  unfold bodyS
  rw [HR4.out]
  rfl
end Go.Proofs.Ytkfimncbfbbopaa
/- What the reference's body returns, whatever the report's kind (contract). Conditions: the report lies in memory, may be, and is of a length that fits. -/
set_option linter.unusedVariables false
set_option linter.unusedSimpArgs false
namespace Go.Proofs.Ytkfimncbfbbopaa
open Go.RowKit

theorem body_c (r : Rep) (cs0 : Array Value) (w : World) (h : RepV w cs0 r) (hg : goodS r) (hf : FitR r) (h1 : r.blocks.length ≤ 100000) (h2 : r.pairs.length ≤ 100000) (h3 : r.firs.length ≤ 100000) (vd0 : Value) (hvd : cs0[15]? = some vd0) :
    Calls Try.prog 47 #[.agg cs0] w (BodyR r vd0 w) := by
  obtain ⟨vb, vp, vf, vs, vd, e1, hb, hp, hfi, hs, hd⟩ := h
  subst e1
  obtain ⟨f1, f2, f3, f4, f5, f6, f7, f8, f9, f10, f11⟩ := hf
  obtain ⟨Ab, cb, eb, _, _⟩ := id hb
  obtain ⟨Ap, cp, ep, _, _⟩ := id hp
  obtain ⟨Af, cf, ef, _, _⟩ := id hfi
  obtain ⟨As, cs, es, _, _⟩ := id hs
  obtain ⟨Ad, cd, ed, _, _⟩ := id hd
  subst eb ep ef es ed
  have hvd0 : Value.slice Ad r.body.length cd = vd0 := by injection hvd
  subst hvd0
  clear hvd
  obtain ⟨k, hk, hn, hc⟩ := hg
  match k, hn, hc with
  | 1, hn, hc =>
    have hk1 : r.kind = 1 := hk
    have := body1_c r.fr r.ab r.ntp r.ts r.pk r.oc r.mt r.blocks.length cb r.pairs.length cp r.firs.length cf r.ssrcs.length cs r.body.length cd r.ex r.ty r.ct Ab Ap Af As Ad w r hk1 hb (okC_fit f8) h1 f3 f4 f5 f6 rfl rfl rfl rfl f1 f2 rfl rfl
    rw [← hk1] at this
    exact this
  | 2, hn, hc =>
    have hk1 : r.kind = 2 := hk
    have := body2_c r.fr r.ab r.ntp r.ts r.pk r.oc r.mt r.blocks.length cb r.pairs.length cp r.firs.length cf r.ssrcs.length cs r.body.length cd r.ex r.ty r.ct Ab Ap Af As Ad w r hk1 hb (okC_fit f8) h1 f1 f2 rfl rfl
    rw [← hk1] at this
    exact this
  | 3, hn, hc =>
    have hk1 : r.kind = 3 := hk
    have := body3_c r.fr r.ab r.ntp r.ts r.pk r.oc r.mt r.blocks.length cb r.pairs.length cp r.firs.length cf r.ssrcs.length cs r.body.length cd r.ex r.ty r.ct Ab Ap Af As Ad w r hk1 hp (okP_fit f9) h2 f1 f2 rfl rfl
    rw [← hk1] at this
    exact this
  | 4, hn, hc =>
    have hk1 : r.kind = 4 := hk
    have := body4_c r.fr r.ab r.ntp r.ts r.pk r.oc r.mt r.blocks.length cb r.pairs.length cp r.firs.length cf r.ssrcs.length cs r.body.length cd r.ex r.ty r.ct Ab Ap Af As Ad w r hk1 f1 f2 rfl rfl
    rw [← hk1] at this
    exact this
  | 5, hn, hc =>
    have hk1 : r.kind = 5 := hk
    have := body5_c r.fr r.ab r.ntp r.ts r.pk r.oc r.mt r.blocks.length cb r.pairs.length cp r.firs.length cf r.ssrcs.length cs r.body.length cd r.ex r.ty r.ct Ab Ap Af As Ad w r hk1 hfi (okF_fit f10) h3 f1 f2 rfl rfl
    rw [← hk1] at this
    exact this
  | 6, hn, hc =>
    have hk1 : r.kind = 6 := hk
    obtain ⟨c1, c2, c3, c4⟩ := hc
    have := body6_c r.fr r.ab r.ntp r.ts r.pk r.oc r.mt r.blocks.length cb r.pairs.length cp r.firs.length cf r.ssrcs.length cs r.body.length cd r.ex r.ty r.ct Ab Ap Af As Ad w r hk1 hs (okQ_fit f11) c1 r.ex.toNat (by omega) (by omega) c4 rfl rfl f1 f2 rfl rfl
    rw [← hk1] at this
    exact this
  | 7, hn, hc =>
    have hk1 : r.kind = 7 := hk
    have := body7_c r.fr r.ab r.ntp r.ts r.pk r.oc r.mt r.blocks.length cb r.pairs.length cp r.firs.length cf r.ssrcs.length cs r.body.length cd r.ex r.ty r.ct Ab Ap Af As Ad w r hk1 rfl rfl f1 f2 rfl rfl
    rw [← hk1] at this
    exact this
  | 0, hn, _ => exact hn.elim
  | k + 8, hn, _ => exact hn.elim
end Go.Proofs.Ytkfimncbfbbopaa
