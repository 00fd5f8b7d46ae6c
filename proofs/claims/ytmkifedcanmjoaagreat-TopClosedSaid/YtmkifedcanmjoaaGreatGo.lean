/- Texts of this claim, one behind the other: RoomO, RoomL. Each says ahead of itself what it proves, and its conditions. -/
import Derived.Test.YtmkifedcanmjoaaGreatGg
/- room.R.gone (contract). Conditions: none. -/
set_option linter.unusedVariables false
set_option linter.unusedSimpArgs false
namespace Go.Proofs.YtmkifedcanmjoaaGreat
open Go.RowKit
attribute [local go_sem ↓] Go.wp_at_zero Go.wp_at_succ
set_option maxRecDepth 100000 in
set_option maxHeartbeats 6400000 in
theorem gone_c (r : Rm) (i : Nat) (now : Int) (w : World) (hr : WR r) (hi : i < 8) (hnow : NowB now) :
    Calls Tryz.prog 37 #[.agg (rL r).toArray, .int .i64 (i : Int), .int .i64 now] w fun e w' => e = .returned (.agg (rL (goneR r i now)).toArray) ∧ Below w.heap.size w w' := by
  have HWR := Lib.hid hr
  obtain ⟨T, hT⟩ : ∃ T : List Value, T = rL r := ⟨_, rfl⟩
  have HTF : Hid (FitL 56 T) := by show FitL _ _; rw [hT]; exact fitR hr
  have HTE := Lib.hid hT
  obtain ⟨D, hD⟩ : ∃ D : List Value, D = tbL r.t := ⟨_, rfl⟩
  have HDF : Hid (FitL 53 D) := by show FitL _ _; rw [hD]; exact fitT hr.1
  have HDE := Lib.hid hD
  obtain ⟨Z, hZ⟩ : ∃ Z : List Value, Z = [.bool false, .bool false, .bool false, .bool false, .bool false, .bool false, .bool false, .bool false, .int .i64 0, .int .i64 0, .int .i64 0, .int .i64 0, .int .i64 0, .int .i64 0, .int .i64 0, .int .i64 0, .int .i64 0, .bool false, .int .i64 0, .int .i64 0, .int .i64 0, .int .i64 0, .int .i64 0, .int .i64 0, .int .i64 0, .int .i64 0, .int .i64 0, .int .i64 0, .int .i64 0, .int .i64 0, .int .i64 0, .int .i64 0, .int .i64 0, .int .i64 0, .int .i64 0, .int .i64 0, .int .i64 0, .int .i64 0, .bool false] := ⟨_, rfl⟩
  have HZF : Hid (FitL 56 Z) := by show FitL _ _; rw [hZ]; exact fit0R
  have HZE := Lib.hid hZ
  obtain ⟨Y, hY⟩ : ∃ Y : List Value, Y = [.int .i64 0, .bool false, .int .i64 0, .int .i64 0, .int .i64 0, .int .i64 0] := ⟨_, rfl⟩
  have HYF : Hid (FitL 49 Y) := by show FitL _ _; rw [hY]; exact fit0K
  have HYE := Lib.hid hY
  obtain ⟨q, hq⟩ : ∃ q, q = freeT r.t (i : Int) := ⟨_, rfl⟩
  have HQE := Lib.hid hq
  have HQT : Hid (WT q.1) := by show WT _; rw [hq]; exact hr.1.free _
  obtain ⟨r1, hr1⟩ : ∃ r1, r1 = { r with t := q.1 } := ⟨_, rfl⟩
  have HR1E := Lib.hid hr1
  have HR1 : Hid (WR r1) := by show WR _; rw [hr1]; exact hr.setT HQT.out
  obtain ⟨r2, hr2⟩ : ∃ r2, r2 = { r1 with seen := r1.seen.set i 0 } := ⟨_, rfl⟩
  have HR2E := Lib.hid hr2
  have HR2 : Hid (WR r2) := by show WR _; rw [hr2]; exact HR1.out.setSeen i nowB0
  obtain ⟨r3, hr3⟩ : ∃ r3, r3 = { r2 with since := r2.since.set i 0 } := ⟨_, rfl⟩
  have HR3E := Lib.hid hr3
  have HR3 : Hid (WR r3) := by show WR _; rw [hr3]; exact HR2.out.setSince i 0
  have HR3t : Hid (r3.t = q.1) := by show _ = _; rw [hr3, hr2, hr1]
  have HR3k : Hid (r3.k = r.k) := by show _ = _; rw [hr3, hr2, hr1]
  obtain ⟨k, hk⟩ : ∃ k, k = raiseK r.k (maskT q.1) now := ⟨_, rfl⟩
  have HKE := Lib.hid hk
  have HWK : Hid (WK k.1) := by show WK _; rw [hk]; exact hr.2.1.raise hnow
  obtain ⟨r4, hr4⟩ : ∃ r4, r4 = { r3 with k := k.1 } := ⟨_, rfl⟩
  have HR4E := Lib.hid hr4
  have HR4 : Hid (WR r4) := by show WR _; rw [hr4]; exact HR3.out.setK HWK.out
  obtain ⟨m, hm⟩ : ∃ m, m = maskT q.1 := ⟨_, rfl⟩
  obtain ⟨E, hE⟩ : ∃ E : List Value, E = tbL q.1 := ⟨_, rfl⟩
  have HEF : Hid (FitL 53 E) := by show FitL _ _; rw [hE]; exact fitT HQT.out
  have HEE := Lib.hid hE
  obtain ⟨T1, hT1⟩ : ∃ T1 : List Value, T1 = rL r1 := ⟨_, rfl⟩
  have HT1F : Hid (FitL 56 T1) := by show FitL _ _; rw [hT1]; exact fitR HR1.out
  have HT1E := Lib.hid hT1
  obtain ⟨T2, hT2⟩ : ∃ T2 : List Value, T2 = rL r2 := ⟨_, rfl⟩
  have HT2F : Hid (FitL 56 T2) := by show FitL _ _; rw [hT2]; exact fitR HR2.out
  have HT2E := Lib.hid hT2
  obtain ⟨T3, hT3⟩ : ∃ T3 : List Value, T3 = rL r3 := ⟨_, rfl⟩
  have HT3F : Hid (FitL 56 T3) := by show FitL _ _; rw [hT3]; exact fitR HR3.out
  have HT3E := Lib.hid hT3
  obtain ⟨T4, hT4⟩ : ∃ T4 : List Value, T4 = rL r4 := ⟨_, rfl⟩
  have HT4F : Hid (FitL 56 T4) := by show FitL _ _; rw [hT4]; exact fitR HR4.out
  have HT4E := Lib.hid hT4
  obtain ⟨K, hK⟩ : ∃ K : List Value, K = kL r.k := ⟨_, rfl⟩
  have HKF : Hid (FitL 49 K) := by show FitL _ _; rw [hK]; exact fitK r.k
  have HKE_ := Lib.hid hK
  obtain ⟨K2, hK2⟩ : ∃ K2 : List Value, K2 = kL k.1 := ⟨_, rfl⟩
  have HK2F : Hid (FitL 49 K2) := by show FitL _ _; rw [hK2]; exact fitK k.1
  have HK2E := Lib.hid hK2
  obtain ⟨k2, hk2⟩ : ∃ k2, k2 = k.2 := ⟨_, rfl⟩
  have HTD : Hid (∀ j v, D[j]? = some v → T[0 + j]? = some v) := by show ∀ _ _, _; rw [hT, hD]; exact rL_tpart hr
  have HTE3 : Hid (∀ j v, E[j]? = some v → T3[0 + j]? = some v) := by show ∀ _ _, _; rw [hT3, hE, ← HR3t.out]; exact rL_tpart HR3.out
  have HTK3 : Hid (∀ j v, K[j]? = some v → T3[16 + j]? = some v) := by show ∀ _ _, _; rw [hT3, hK, ← HR3k.out]; exact rL_kpart HR3.out
  have HC0 : Hid (T3[16]? = some (.int .i64 r.k.epoch)) := by show _ = _; rw [hT3, ← HR3k.out]; exact rL_k HR3.out (i := 0) (by decide)
  have HC1 : Hid (T1[22 + i]? = some (.int .i64 (seenAt r1 i))) := by show _ = _; rw [hT1]; exact rL_seen HR1.out hi
  have HC2 : Hid (T2[30 + i]? = some (.int .i64 (sinceAt r2 i))) := by show _ = _; rw [hT2]; exact rL_since HR2.out hi
  have HS2 : Hid (T1.set (22 + i) (.int .i64 0) = T2) := by show _ = _; rw [hT1, hT2, hr2]; exact rL_setSeen HR1.out hi 0
  have HS3 : Hid (T2.set (30 + i) (.int .i64 0) = T3) := by show _ = _; rw [hT2, hT3, hr3]; exact rL_setSince HR2.out hi 0
  obtain ⟨tt, htt⟩ : ∃ tt, tt = goneR r i now := ⟨_, rfl⟩
  have HTT : Hid (tt = if k2 = 0 then r4 else { rm0 r.k.epoch with over := true }) := by
    show _ = _
    rw [htt, hk2, hk, hr4, hr3, hr2, hr1, hk, hq]
    rfl
  have FRE : Hid (∀ (wx : World), Calls Tryz.prog 70 #[.agg D.toArray, .int .i64 (i : Int)] wx fun e w' => e = .returned (.tuple #[.agg E.toArray, .int .i64 q.2]) ∧ Below wx.heap.size wx w') := fun wx => by rw [HDE.out, HEE.out, HQE.out]; exact free_c r.t i wx HWR.out.1
  have MSK : Hid (∀ (wx : World), Calls Tryz.prog 64 #[.agg E.toArray] wx fun e w' => e = .returned (.int .i64 (m : Int)) ∧ Below wx.heap.size wx w') := fun wx => by rw [HEE.out, hm]; exact mask_c q.1 wx HQT.out
  have RSE : Hid (∀ (wx : World), Calls Tryz.prog 17 #[.agg K.toArray, .int .i64 (m : Int), .int .i64 now] wx fun e w' => e = .returned (.tuple #[.agg K2.toArray, .int .i64 k2]) ∧ Below wx.heap.size wx w') := fun wx => by rw [HKE_.out, HK2E.out, hk2, HKE.out, hm]; exact raise_c r.k (maskT q.1) now wx HWR.out.2.1
  have hin0 : (0 : Int) ≤ (i : Int) := by omega
  have hini : (i : Int) < 8 := by omega
  obtain ⟨ep, hep⟩ : ∃ ep, ep = r.k.epoch := ⟨_, rfl⟩
  have HEPW : Hid (0 ≤ ep ∧ ep < 65536) := by show 0 ≤ ep ∧ ep < 65536; rw [hep]; exact hr.2.1.1
  rw [← hep] at HC0 HTT
  rw [← hT, ← htt]
  obtain ⟨q2, hq2⟩ : ∃ q2, q2 = q.2 := ⟨_, rfl⟩
  rw [← hq2] at FRE
  have HI8 := Lib.hid hi
  clear hT hD hE hq hr htt hr1 hr2 hr3 hr4 hT1 hT2 hT3 hT4 hK hK2 hk hk2 hm hep hq2 hnow hi
  obtain ⟨g1, hg1⟩ : ∃ g1, g1 = w.heap.size := ⟨_, rfl⟩
  obtain ⟨g2, hg2⟩ : ∃ g2, g2 = w.heap.size + 1 := ⟨_, rfl⟩
  obtain ⟨w1, hw1⟩ : ∃ w1, w1 = (w.alloc (.cells T.toArray 56)).alloc (.cells #[.bool false, .bool false, .bool false, .bool false, .bool false, .bool false, .bool false, .bool false, .int .i64 0, .int .i64 0, .int .i64 0, .int .i64 0, .int .i64 0, .int .i64 0, .int .i64 0, .int .i64 0, .int .i64 0, .bool false, .int .i64 0, .int .i64 0, .int .i64 0, .int .i64 0, .int .i64 0, .int .i64 0, .int .i64 0, .int .i64 0, .int .i64 0, .int .i64 0, .int .i64 0, .int .i64 0, .int .i64 0, .int .i64 0, .int .i64 0, .int .i64 0, .int .i64 0, .int .i64 0, .int .i64 0, .int .i64 0, .bool false] 56) := ⟨_, rfl⟩
  have HM1 : Hid (MW w w1 [(g2, 56, Z), (g1, 56, T)]) := by
    show MW _ _ _
    have h := (((MW.start w).alloc 56 T).alloc 56 Z)
    try simp only [World.size_alloc] at h
    rw [hZ, hw1, hg1, hg2]
    rw [hZ] at h
    exact h
  go_enter Tryz.func37, Tryz.ntmps37
  go_upto_region 1 with fail
  rw [← hw1, ← hg2, ← hg1]
  clear hw1 hg1 hg2 hZ hY
  have HRW : Hid (w1.rangeAt g1 0 D) := HM1.out.part (.tail _ (.head _)) 0 D HTD.out
  go_wp2_with (first
    | ((with_reducible show wpList _ _ _ (⟨some 11, .load _ (.tmp 10), _, _, _, _⟩ :: _) _ _); refine wpList_load_mid rfl 53 (.tmp 10) rfl g1 0 rfl D _ HRW.out Tryz.underlying53 rfl HDF.out.info ?_))
  clear HRW
  refine (FRE.out w1).mono ?_
  rintro e0 w2 ⟨rfl, hbq⟩
  have HM2 : Hid (MW w w2 [(g2, 56, Z), (g1, 56, T)]) := HM1.out.call hbq
  clear hbq HM1
  have HTH : Hid (w2.there g1 0 E.toArray.size) := HM2.out.there (.tail _ (.head _)) 0 _ (by show 0 + E.length ≤ T.length; rw [HEF.out.len HDF.out]; have h1 := HEF.out.info; have h2 := HTF.out.info; have h3 := HDF.out.len HEF.out; rw [infoTb] at h1; rw [infoR] at h2; injection h1 with h1; injection h2 with h2; omega)
  go_upto_region 2 with (first
    | ((with_reducible show wpList _ _ _ (⟨none, .store _ (.tmp 16) _, _, _, _, _⟩ :: _) _ _); refine wpList_store_mid rfl 53 (.tmp 16) (.tmp 14) rfl g1 0 E.toArray rfl rfl HTH.out HEF.out.infos HEF.out.one ?_))
  clear HTH
  obtain ⟨w3, hw3⟩ : ∃ w3, w3 = w2.setCells g1 0 E := ⟨_, rfl⟩
  have HM3 : Hid (MW w w3 [(g2, 56, Z), (g1, 56, T1)]) := by show MW _ _ _; rw [hw3]; exact (by rw [HT1E.out, HEE.out, HR1E.out]; have h := HM2.out; rw [HTE.out] at h; exact MW.setT (pre := [(g2, 56, Z)]) (post := []) h HWR.out HQT.out)
  rw [← hw3]
  clear hw3 HM2
  have ck1 : w3.cell? ⟨g1, 22 + i, none⟩ = some (.int .i64 (seenAt r1 i)) := by rw [HM3.out.cell (.tail _ (.head _))]; exact HC1.out
  have fk1 : w3.frozen? ⟨g1, 22 + i, none⟩ = false := HM3.out.frozen (.tail _ (.head _)) _
  have HMa : Hid (MW w (w3.setCell ⟨g1, 22 + i, none⟩ (.int .i64 0)) [(g2, 56, Z), (g1, 56, T2)]) := by
    show MW _ _ _
    have h := MW.set1 (pre := [(g2, 56, Z)]) (post := []) HM3.out (22 + i) (.int .i64 0)
    rw [HS2.out] at h
    exact h
  have ck2 : (w3.setCell ⟨g1, 22 + i, none⟩ (.int .i64 0)).cell? ⟨g1, 30 + i, none⟩ = some (.int .i64 (sinceAt r2 i)) := by rw [HMa.out.cell (.tail _ (.head _))]; exact HC2.out
  have fk2 : (w3.setCell ⟨g1, 22 + i, none⟩ (.int .i64 0)).frozen? ⟨g1, 30 + i, none⟩ = false := HMa.out.frozen (.tail _ (.head _)) _
  go_upto_region 3 with fail
  obtain ⟨w4, hw4⟩ : ∃ w4, w4 = (w3.setCell ⟨g1, 22 + i, none⟩ (.int .i64 0)).setCell ⟨g1, 30 + i, none⟩ (.int .i64 0) := ⟨_, rfl⟩
  have HM4 : Hid (MW w w4 [(g2, 56, Z), (g1, 56, T3)]) := by show MW _ _ _; rw [hw4]; exact (by have h := MW.set1 (pre := [(g2, 56, Z)]) (post := []) HMa.out (30 + i) (.int .i64 0); rw [HS3.out] at h; exact h)
  rw [← hw4]
  clear hw4 HM3
  clear ck1 ck2 fk1 fk2 HMa
  go_cut [7, 8] (fun v7 v8 wx => ∃ gk, v7 = .pointer (some ⟨gk, 0, none⟩) ∧ v8 = .int .i64 k2 ∧ MW w wx [(gk, 49, K2), (g2, 56, Z), (g1, 56, T3)])
  case first =>
    obtain ⟨w5, hw5⟩ : ∃ w5, w5 = w4.drew := ⟨_, rfl⟩
    have HM5 : Hid (MW w w5 [(g2, 56, Z), (g1, 56, T3)]) := by show MW _ _ _; rw [hw5]; exact HM4.out.drew
    refine wp_region_held_drew (S := (fun w' => MW w w' [(g2, 56, Z), (g1, 56, T3)])) (by kernel_rfl) (by rw [← hw5]; exact (HM5.out.drop (List.Sublist.refl _))) (fun hHeld => ?_)
    rw [← hw5] at hHeld ⊢
    clear hw5 HM4
    refine wpAnyH_takeAt (i := 0) (v := (.pointer (some ⟨g1, 16, none⟩))) rfl (by kernel_rfl) (by kernel_rfl) (by kernel_rfl) (fun _ _ _ h => h) rfl (Or.inl ⟨by rfl, fun w' hS => ?_⟩) hHeld ?_
    · go_simp
    simp only [List.set_cons_zero, List.set_cons_succ]
    refine wpAnyH_takeAt (i := 1) (v := (.agg K.toArray)) rfl (by kernel_rfl) (by kernel_rfl) (by kernel_rfl) (fun _ _ _ h => h) rfl (yieldsIf_load_mid (by rfl) 49 _ rfl g1 16 rfl K _ (fun w' hS => (hS.part (.tail _ (.head _)) 16 K HTK3.out)) Tryz.underlying49 rfl HKF.out.info) hHeld ?_
    simp only [List.set_cons_zero, List.set_cons_succ]
    refine wpAnyH_takeAt (i := 2) (v := (.pointer (some ⟨g1, 0, none⟩))) rfl (by kernel_rfl) (by kernel_rfl) (by kernel_rfl) (fun _ _ _ h => h) rfl (Or.inl ⟨by rfl, fun w' hS => ?_⟩) hHeld ?_
    · go_simp
    simp only [List.set_cons_zero, List.set_cons_succ]
    refine wpAnyH_takeAt (i := 3) (v := (.agg E.toArray)) rfl (by kernel_rfl) (by kernel_rfl) (by kernel_rfl) (fun _ _ _ h => h) rfl (yieldsIf_load_mid (by rfl) 53 _ rfl g1 0 rfl E _ (fun w' hS => (hS.part (.tail _ (.head _)) 0 E HTE3.out)) Tryz.underlying53 rfl HEF.out.info) hHeld ?_
    simp only [List.set_cons_zero, List.set_cons_succ]
    refine wpAnyH_takeAt (i := 5) (v := (.int .i64 now)) rfl (by kernel_rfl) (by kernel_rfl) (by kernel_rfl) (fun _ _ _ h => h) rfl (Or.inl ⟨by rfl, fun w' hS => ?_⟩) hHeld ?_
    · go_simp
    simp only [List.set_cons_zero, List.set_cons_succ]
    refine wpAnyH_ready (rs := [4, 10]) (by kernel_rfl) (by simp) (AllReadyH.cons rfl (fun K' hK => ?_) (AllReadyH.cons rfl (fun K' hK => ?_) AllReadyH.nil))
    · go_simp
      go_at_call 64
      refine (MSK.out w5).mono ?_
      rintro e0 w6 ⟨rfl, hbq⟩
      have HM6 : Hid (MW w w6 [(g2, 56, Z), (g1, 56, T3)]) := HM5.out.call hbq
      clear hbq
      go_wp2_with fail
      refine hK.out _ _ (HM6.out.drop (List.Sublist.refl _)) (fun hHeld' => ?_)
      clear hK hHeld HM5
      have hHeld := hHeld'
      clear hHeld'
      refine wpAnyH_ready (rs := [6, 10]) (by kernel_rfl) (by simp) (AllReadyH.cons rfl (fun K' hK => ?_) (AllReadyH.cons rfl (fun K' hK => ?_) AllReadyH.nil))
      · go_simp
        go_at_call 17
        refine (RSE.out w6).mono ?_
        rintro e0 w7 ⟨rfl, hbq⟩
        have HM7 : Hid (MW w w7 [(g2, 56, Z), (g1, 56, T3)]) := HM6.out.call hbq
        clear hbq
        go_wp2_with fail
        refine hK.out _ _ (HM7.out.drop (List.Sublist.refl _)) (fun hHeld' => ?_)
        clear hK hHeld HM6
        have hHeld := hHeld'
        clear hHeld'
        refine wpAnyH_takeAt (i := 7) (v := (.tuple #[.agg K2.toArray, .int .i64 k2])) rfl (by kernel_rfl) (by kernel_rfl) (by kernel_rfl) (fun _ _ _ h => h) rfl (Or.inl ⟨by rfl, fun w' hS => ?_⟩) hHeld ?_
        · go_simp
        simp only [List.set_cons_zero, List.set_cons_succ]
        refine wpAnyH_takeAt (i := 8) (v := (.agg K2.toArray)) rfl (by kernel_rfl) (by kernel_rfl) (by kernel_rfl) (fun _ _ _ h => h) rfl (Or.inl ⟨by rfl, fun w' hS => ?_⟩) hHeld ?_
        · go_simp
        simp only [List.set_cons_zero, List.set_cons_succ]
        refine wpAnyH_takeAt (i := 9) (v := (.int .i64 k2)) rfl (by kernel_rfl) (by kernel_rfl) (by kernel_rfl) (fun _ _ _ h => h) rfl (Or.inl ⟨by rfl, fun w' hS => ?_⟩) hHeld ?_
        · go_simp
        simp only [List.set_cons_zero, List.set_cons_succ]
        refine wpAnyH_ready (rs := [10]) (by kernel_rfl) (by simp) (AllReadyH.cons rfl (fun K' hK => ?_) AllReadyH.nil)
        go_simp
        obtain ⟨g7, hg7⟩ : ∃ g7, g7 = w7.heap.size := ⟨_, rfl⟩
        obtain ⟨w8, hw8⟩ : ∃ w8, w8 = w7.alloc (.cells #[.int .i64 0, .bool false, .int .i64 0, .int .i64 0, .int .i64 0, .int .i64 0] 49) := ⟨_, rfl⟩
        have HM8 : Hid (MW w w8 [(g7, 49, Y), (g2, 56, Z), (g1, 56, T3)]) := by
          show MW _ _ _
          have h := HM7.out.alloc 49 [.int .i64 0, .bool false, .int .i64 0, .int .i64 0, .int .i64 0, .int .i64 0]
          rw [hw8, hg7, HYE.out]
          exact h
        rw [← hw8, ← hg7]
        clear hw8 hg7
        refine hK.out _ _ (HM8.out.drop (.cons _ (List.Sublist.refl _))) (fun hHeld' => ?_)
        clear hK hHeld HM7
        have hHeld := hHeld'
        clear hHeld'
        refine wpAnyH_ready (rs := [11]) (by kernel_rfl) (by simp) (AllReadyH.cons rfl (fun K' hK => ?_) AllReadyH.nil)
        rw [if_pos (by rfl)]
        refine wp_store_mid 49 (.tmp 7) (.tmp 31) (by rfl) g7 0 K2.toArray (by rfl) (by rfl) (HM8.out.there (.head _) 0 _ (by show 0 + K2.length ≤ Y.length; rw [HK2F.out.len HYF.out]; omega)) HK2F.out.infos HK2F.out.one ?_
        obtain ⟨w9, hw9⟩ : ∃ w9, w9 = w8.setCells g7 0 K2 := ⟨_, rfl⟩
        have HM9 : Hid (MW w w9 [(g7, 49, K2), (g2, 56, Z), (g1, 56, T3)]) := by show MW _ _ _; rw [hw9]; exact MW.set (pre := []) (post := [(g2, 56, Z), (g1, 56, T3)]) HM8.out (HK2F.out.len HYF.out)
        rw [← hw9]
        clear hw9
        refine hK.out _ _ (HM9.out.drop (.cons _ (List.Sublist.refl _))) (fun hHeld' => ?_)
        clear hK hHeld HM8
        have hHeld := hHeld'
        clear hHeld'
        refine wpAnyH_putNone rfl ?_
        refine wpAnyH_takeAt (i := 12) (v := (.int .i64 k2)) rfl (by kernel_rfl) (by kernel_rfl) (by kernel_rfl) (fun _ _ _ h => h) rfl (Or.inl ⟨by rfl, fun w' hS => ?_⟩) hHeld ?_
        · go_simp
        simp only [List.set_cons_zero, List.set_cons_succ]
        refine wpAnyH_done (by kernel_rfl) ?_ _
        go_wp2_with fail
        go_meet
        exact ⟨g7, rfl, rfl, HM9.out⟩
      · go_simp
        obtain ⟨g7, hg7⟩ : ∃ g7, g7 = w6.heap.size := ⟨_, rfl⟩
        obtain ⟨w7, hw7⟩ : ∃ w7, w7 = w6.alloc (.cells #[.int .i64 0, .bool false, .int .i64 0, .int .i64 0, .int .i64 0, .int .i64 0] 49) := ⟨_, rfl⟩
        have HM7 : Hid (MW w w7 [(g7, 49, Y), (g2, 56, Z), (g1, 56, T3)]) := by
          show MW _ _ _
          have h := HM6.out.alloc 49 [.int .i64 0, .bool false, .int .i64 0, .int .i64 0, .int .i64 0, .int .i64 0]
          rw [hw7, hg7, HYE.out]
          exact h
        rw [← hw7, ← hg7]
        clear hw7 hg7
        refine hK.out _ _ (HM7.out.drop (.cons _ (List.Sublist.refl _))) (fun hHeld' => ?_)
        clear hK hHeld HM6
        have hHeld := hHeld'
        clear hHeld'
        refine wpAnyH_ready (rs := [6]) (by kernel_rfl) (by simp) (AllReadyH.cons rfl (fun K' hK => ?_) AllReadyH.nil)
        go_simp
        go_at_call 17
        refine (RSE.out w7).mono ?_
        rintro e0 w8 ⟨rfl, hbq⟩
        have HM8 : Hid (MW w w8 [(g7, 49, Y), (g2, 56, Z), (g1, 56, T3)]) := HM7.out.call hbq
        clear hbq
        go_wp2_with fail
        refine hK.out _ _ (HM8.out.drop (.cons _ (List.Sublist.refl _))) (fun hHeld' => ?_)
        clear hK hHeld HM7
        have hHeld := hHeld'
        clear hHeld'
        refine wpAnyH_takeAt (i := 7) (v := (.tuple #[.agg K2.toArray, .int .i64 k2])) rfl (by kernel_rfl) (by kernel_rfl) (by kernel_rfl) (fun _ _ _ h => h) rfl (Or.inl ⟨by rfl, fun w' hS => ?_⟩) hHeld ?_
        · go_simp
        simp only [List.set_cons_zero, List.set_cons_succ]
        refine wpAnyH_takeAt (i := 8) (v := (.agg K2.toArray)) rfl (by kernel_rfl) (by kernel_rfl) (by kernel_rfl) (fun _ _ _ h => h) rfl (Or.inl ⟨by rfl, fun w' hS => ?_⟩) hHeld ?_
        · go_simp
        simp only [List.set_cons_zero, List.set_cons_succ]
        refine wpAnyH_takeAt (i := 9) (v := (.int .i64 k2)) rfl (by kernel_rfl) (by kernel_rfl) (by kernel_rfl) (fun _ _ _ h => h) rfl (Or.inl ⟨by rfl, fun w' hS => ?_⟩) hHeld ?_
        · go_simp
        simp only [List.set_cons_zero, List.set_cons_succ]
        refine wpAnyH_ready (rs := [11]) (by kernel_rfl) (by simp) (AllReadyH.cons rfl (fun K' hK => ?_) AllReadyH.nil)
        rw [if_pos (by rfl)]
        refine wp_store_mid 49 (.tmp 7) (.tmp 31) (by rfl) g7 0 K2.toArray (by rfl) (by rfl) (HM8.out.there (.head _) 0 _ (by show 0 + K2.length ≤ Y.length; rw [HK2F.out.len HYF.out]; omega)) HK2F.out.infos HK2F.out.one ?_
        obtain ⟨w9, hw9⟩ : ∃ w9, w9 = w8.setCells g7 0 K2 := ⟨_, rfl⟩
        have HM9 : Hid (MW w w9 [(g7, 49, K2), (g2, 56, Z), (g1, 56, T3)]) := by show MW _ _ _; rw [hw9]; exact MW.set (pre := []) (post := [(g2, 56, Z), (g1, 56, T3)]) HM8.out (HK2F.out.len HYF.out)
        rw [← hw9]
        clear hw9
        refine hK.out _ _ (HM9.out.drop (.cons _ (List.Sublist.refl _))) (fun hHeld' => ?_)
        clear hK hHeld HM8
        have hHeld := hHeld'
        clear hHeld'
        refine wpAnyH_putNone rfl ?_
        refine wpAnyH_takeAt (i := 12) (v := (.int .i64 k2)) rfl (by kernel_rfl) (by kernel_rfl) (by kernel_rfl) (fun _ _ _ h => h) rfl (Or.inl ⟨by rfl, fun w' hS => ?_⟩) hHeld ?_
        · go_simp
        simp only [List.set_cons_zero, List.set_cons_succ]
        refine wpAnyH_done (by kernel_rfl) ?_ _
        go_wp2_with fail
        go_meet
        exact ⟨g7, rfl, rfl, HM9.out⟩
    · go_simp
      obtain ⟨g7, hg7⟩ : ∃ g7, g7 = w5.heap.size := ⟨_, rfl⟩
      obtain ⟨w6, hw6⟩ : ∃ w6, w6 = w5.alloc (.cells #[.int .i64 0, .bool false, .int .i64 0, .int .i64 0, .int .i64 0, .int .i64 0] 49) := ⟨_, rfl⟩
      have HM6 : Hid (MW w w6 [(g7, 49, Y), (g2, 56, Z), (g1, 56, T3)]) := by
        show MW _ _ _
        have h := HM5.out.alloc 49 [.int .i64 0, .bool false, .int .i64 0, .int .i64 0, .int .i64 0, .int .i64 0]
        rw [hw6, hg7, HYE.out]
        exact h
      rw [← hw6, ← hg7]
      clear hw6 hg7
      refine hK.out _ _ (HM6.out.drop (.cons _ (List.Sublist.refl _))) (fun hHeld' => ?_)
      clear hK hHeld HM5
      have hHeld := hHeld'
      clear hHeld'
      refine wpAnyH_ready (rs := [4]) (by kernel_rfl) (by simp) (AllReadyH.cons rfl (fun K' hK => ?_) AllReadyH.nil)
      go_simp
      go_at_call 64
      refine (MSK.out w6).mono ?_
      rintro e0 w7 ⟨rfl, hbq⟩
      have HM7 : Hid (MW w w7 [(g7, 49, Y), (g2, 56, Z), (g1, 56, T3)]) := HM6.out.call hbq
      clear hbq
      go_wp2_with fail
      refine hK.out _ _ (HM7.out.drop (.cons _ (List.Sublist.refl _))) (fun hHeld' => ?_)
      clear hK hHeld HM6
      have hHeld := hHeld'
      clear hHeld'
      refine wpAnyH_ready (rs := [6]) (by kernel_rfl) (by simp) (AllReadyH.cons rfl (fun K' hK => ?_) AllReadyH.nil)
      go_simp
      go_at_call 17
      refine (RSE.out w7).mono ?_
      rintro e0 w8 ⟨rfl, hbq⟩
      have HM8 : Hid (MW w w8 [(g7, 49, Y), (g2, 56, Z), (g1, 56, T3)]) := HM7.out.call hbq
      clear hbq
      go_wp2_with fail
      refine hK.out _ _ (HM8.out.drop (.cons _ (List.Sublist.refl _))) (fun hHeld' => ?_)
      clear hK hHeld HM7
      have hHeld := hHeld'
      clear hHeld'
      refine wpAnyH_takeAt (i := 7) (v := (.tuple #[.agg K2.toArray, .int .i64 k2])) rfl (by kernel_rfl) (by kernel_rfl) (by kernel_rfl) (fun _ _ _ h => h) rfl (Or.inl ⟨by rfl, fun w' hS => ?_⟩) hHeld ?_
      · go_simp
      simp only [List.set_cons_zero, List.set_cons_succ]
      refine wpAnyH_takeAt (i := 8) (v := (.agg K2.toArray)) rfl (by kernel_rfl) (by kernel_rfl) (by kernel_rfl) (fun _ _ _ h => h) rfl (Or.inl ⟨by rfl, fun w' hS => ?_⟩) hHeld ?_
      · go_simp
      simp only [List.set_cons_zero, List.set_cons_succ]
      refine wpAnyH_takeAt (i := 9) (v := (.int .i64 k2)) rfl (by kernel_rfl) (by kernel_rfl) (by kernel_rfl) (fun _ _ _ h => h) rfl (Or.inl ⟨by rfl, fun w' hS => ?_⟩) hHeld ?_
      · go_simp
      simp only [List.set_cons_zero, List.set_cons_succ]
      refine wpAnyH_ready (rs := [11]) (by kernel_rfl) (by simp) (AllReadyH.cons rfl (fun K' hK => ?_) AllReadyH.nil)
      rw [if_pos (by rfl)]
      refine wp_store_mid 49 (.tmp 7) (.tmp 31) (by rfl) g7 0 K2.toArray (by rfl) (by rfl) (HM8.out.there (.head _) 0 _ (by show 0 + K2.length ≤ Y.length; rw [HK2F.out.len HYF.out]; omega)) HK2F.out.infos HK2F.out.one ?_
      obtain ⟨w9, hw9⟩ : ∃ w9, w9 = w8.setCells g7 0 K2 := ⟨_, rfl⟩
      have HM9 : Hid (MW w w9 [(g7, 49, K2), (g2, 56, Z), (g1, 56, T3)]) := by show MW _ _ _; rw [hw9]; exact MW.set (pre := []) (post := [(g2, 56, Z), (g1, 56, T3)]) HM8.out (HK2F.out.len HYF.out)
      rw [← hw9]
      clear hw9
      refine hK.out _ _ (HM9.out.drop (.cons _ (List.Sublist.refl _))) (fun hHeld' => ?_)
      clear hK hHeld HM8
      have hHeld := hHeld'
      clear hHeld'
      refine wpAnyH_putNone rfl ?_
      refine wpAnyH_takeAt (i := 12) (v := (.int .i64 k2)) rfl (by kernel_rfl) (by kernel_rfl) (by kernel_rfl) (fun _ _ _ h => h) rfl (Or.inl ⟨by rfl, fun w' hS => ?_⟩) hHeld ?_
      · go_simp
      simp only [List.set_cons_zero, List.set_cons_succ]
      refine wpAnyH_done (by kernel_rfl) ?_ _
      go_wp2_with fail
      go_meet
      exact ⟨g7, rfl, rfl, HM9.out⟩
  case rest =>
    obtain ⟨gk, rfl, rfl, hmc⟩ := hcut
    have HM50 := Lib.hid hmc
    clear hmc HM4
    by_cases hz : k2 = 0
    · subst hz
      have HV : Hid (tt = r4) := by show _ = _; rw [HTT.out, if_pos rfl]
      clear HTT
      have HRK : Hid (wc.rangeAt gk 0 K2) := HM50.out.range (.head _)
      have HTH : Hid (wc.there g1 16 K2.toArray.size) := HM50.out.there (.tail _ (.tail _ (.head _))) 16 _ (by show 16 + K2.length ≤ T3.length; have h1 := HK2F.out.info; have h2 := HT3F.out.info; rw [infoK] at h1; rw [infoR] at h2; injection h1 with h1; injection h2 with h2; omega)
      go_upto_region 7 with (first
        | ((with_reducible show wpList _ _ _ (⟨some 40, .load _ (.tmp 7), _, _, _, _⟩ :: _) _ _); refine wpList_load_mid rfl 49 (.tmp 7) rfl gk 0 rfl K2 _ HRK.out Tryz.underlying49 rfl HK2F.out.info ?_)
        | ((with_reducible show wpList _ _ _ (⟨none, .store _ (.tmp 41) _, _, _, _, _⟩ :: _) _ _); refine wpList_store_mid rfl 49 (.tmp 41) (.tmp 40) rfl g1 16 K2.toArray rfl rfl HTH.out HK2F.out.infos HK2F.out.one ?_))
      clear HTH HRK
      obtain ⟨w51, hw51⟩ : ∃ w51, w51 = wc.setCells g1 16 K2 := ⟨_, rfl⟩
      have HM51 : Hid (MW w w51 [(gk, 49, K2), (g2, 56, Z), (g1, 56, T4)]) := by show MW _ _ _; rw [hw51]; exact (by rw [HT4E.out, HK2E.out, HR4E.out]; have h := HM50.out; rw [HT3E.out, HK2E.out] at h; exact MW.setK (pre := [(gk, 49, kL k.1), (g2, 56, Z)]) (post := []) h HR3.out k.1)
      rw [← hw51]
      clear hw51 HM50
      have HRr : Hid (w51.rangeAt g1 0 T4) := HM51.out.range (.tail _ (.tail _ (.head _)))
      have HTr : Hid (w51.there g2 0 T4.toArray.size) := HM51.out.there (.tail _ (.head _)) 0 _ (by show 0 + T4.length ≤ Z.length; rw [HT4F.out.len HZF.out]; omega)
      go_wp2_with (first
        | ((with_reducible show wpList _ _ _ (⟨some 42, .load _ (.tmp 3), _, _, _, _⟩ :: _) _ _); refine wpList_load_mid rfl 56 (.tmp 3) rfl g1 0 rfl T4 _ HRr.out Tryz.underlying56 rfl HT4F.out.info ?_)
        | ((with_reducible show wpList _ _ _ (⟨none, .store _ (.tmp 6) _, _, _, _, _⟩ :: _) _ _); refine wpList_store_mid rfl 56 (.tmp 6) (.tmp 42) rfl g2 0 T4.toArray rfl rfl HTr.out HT4F.out.infos HT4F.out.one ?_))
      have HMr : Hid (MW w (w51.setCells g2 0 T4) [(gk, 49, K2), (g2, 56, T4), (g1, 56, T4)]) := MW.set (pre := [(gk, 49, K2)]) (post := [(g1, 56, T4)]) HM51.out (HT4F.out.len HZF.out)
      (try simp only [Exit.inBlock, Exit.then])
      refine bodyPost_ret (results_c1 rfl rfl (HMr.out.range (.tail _ (.head _))) Tryz.underlying56 rfl HT4F.out.info) rfl ?_
      refine ⟨?_, HMr.out.bel⟩
      rw [HV.out, HT4E.out]
    · have hz2 : (k2 != 0) = true := by simp [hz]
      have HV : Hid (tt = { rm0 ep with over := true }) := by show _ = _; rw [HTT.out, if_neg hz]
      clear HTT hz
      obtain ⟨U, hU⟩ : ∃ U : List Value, U = rL { rm0 ep with over := true } := ⟨_, rfl⟩
      have HUF : Hid (FitL 56 U) := by show FitL _ _; rw [hU]; exact fitR (WR.rm0 HEPW.out true)
      have HUE := Lib.hid hU
      have HUA : Hid (U.toArray = #[.bool false, .bool false, .bool false, .bool false, .bool false, .bool false, .bool false, .bool false, .int .i64 0, .int .i64 0, .int .i64 0, .int .i64 0, .int .i64 0, .int .i64 0, .int .i64 0, .int .i64 0, .int .i64 ep, .bool false, .int .i64 0, .int .i64 0, .int .i64 0, .int .i64 0, .int .i64 0, .int .i64 0, .int .i64 0, .int .i64 0, .int .i64 0, .int .i64 0, .int .i64 0, .int .i64 0, .int .i64 0, .int .i64 0, .int .i64 0, .int .i64 0, .int .i64 0, .int .i64 0, .int .i64 0, .int .i64 0, .bool true]) := by show _ = _; rw [hU]; rfl
      clear hU
      have ck1 : wc.cell? ⟨g1, 16, none⟩ = some (.int .i64 ep) := by rw [HM50.out.cell (.tail _ (.tail _ (.head _)))]; exact HC0.out
      have HTr : Hid (wc.there g2 0 U.toArray.size) := HM50.out.there (.tail _ (.head _)) 0 _ (by show 0 + U.length ≤ Z.length; rw [HUF.out.len HZF.out]; omega)
      go_wp2_with (first
        | ((with_reducible show wpList _ _ _ (⟨none, .store _ (.tmp 6) _, _, _, _, _⟩ :: _) _ _); refine wpList_store_mid rfl 56 (.tmp 6) (.tmp 39) rfl g2 0 U.toArray rfl (congrArg Value.agg HUA.out.symm) HTr.out HUF.out.infos HUF.out.one ?_))
      have HMr : Hid (MW w (wc.setCells g2 0 U) [(gk, 49, K2), (g2, 56, U), (g1, 56, T3)]) := MW.set (pre := [(gk, 49, K2)]) (post := [(g1, 56, T3)]) HM50.out (HUF.out.len HZF.out)
      (try simp only [Exit.inBlock, Exit.then])
      refine bodyPost_ret (results_c1 rfl rfl (HMr.out.range (.tail _ (.head _))) Tryz.underlying56 rfl HUF.out.info) rfl ?_
      refine ⟨?_, HMr.out.bel⟩
      rw [HV.out, HUE.out]
end Go.Proofs.YtmkifedcanmjoaaGreat
/- room.Leave (contract). Conditions: none. -/
set_option linter.unusedVariables false
set_option linter.unusedSimpArgs false
namespace Go.Proofs.YtmkifedcanmjoaaGreat
open Go.RowKit
attribute [local go_sem ↓] Go.wp_at_zero Go.wp_at_succ
set_option maxRecDepth 100000 in
set_option maxHeartbeats 6400000 in
theorem findR_lt {r : Rm} {a : Int} : (findR r a).1 < 8 := by
  unfold findR
  split
  · decide
  · split
    · rename_i i h
      have : ∀ f i j, findFrom r.t a f i = some j → j < i + f := by
        intro f
        induction f with
        | zero => intro i j h; cases h
        | succ f ih =>
          intro i j h
          unfold findFrom at h
          split at h
          · injection h with h; omega
          · have := ih (i + 1) j h; omega
      have := this 8 0 i h
      show i < 8
      omega
    · decide
set_option maxRecDepth 100000 in
set_option maxHeartbeats 6400000 in
theorem leave_c (r : Rm) (a now : Int) (w : World) (hr : WR r) (hnow : NowB now) :
    Calls Tryz.prog 15 #[.agg (rL r).toArray, .int .i64 a, .int .i64 now] w fun e w' => e = .returned (.tuple #[.agg (rL (leaveR r a now).1).toArray, .int .i64 (leaveR r a now).2]) ∧ Below w.heap.size w w' := by
  have HWR := Lib.hid hr
  obtain ⟨T, hT⟩ : ∃ T : List Value, T = rL r := ⟨_, rfl⟩
  have HTF : Hid (FitL 56 T) := by show FitL _ _; rw [hT]; exact fitR hr
  have HTE := Lib.hid hT
  obtain ⟨Z, hZ⟩ : ∃ Z : List Value, Z = [.bool false, .bool false, .bool false, .bool false, .bool false, .bool false, .bool false, .bool false, .int .i64 0, .int .i64 0, .int .i64 0, .int .i64 0, .int .i64 0, .int .i64 0, .int .i64 0, .int .i64 0, .int .i64 0, .bool false, .int .i64 0, .int .i64 0, .int .i64 0, .int .i64 0, .int .i64 0, .int .i64 0, .int .i64 0, .int .i64 0, .int .i64 0, .int .i64 0, .int .i64 0, .int .i64 0, .int .i64 0, .int .i64 0, .int .i64 0, .int .i64 0, .int .i64 0, .int .i64 0, .int .i64 0, .int .i64 0, .bool false] := ⟨_, rfl⟩
  have HZF : Hid (FitL 56 Z) := by show FitL _ _; rw [hZ]; exact fit0R
  have HZE := Lib.hid hZ
  obtain ⟨q, hq⟩ : ∃ q, q = findR r a := ⟨_, rfl⟩
  have HQE := Lib.hid hq
  have HQ8 : Hid (q.1 < 8) := by show _ < _; rw [hq]; exact findR_lt
  obtain ⟨i, hi⟩ : ∃ i, i = q.1 := ⟨_, rfl⟩
  obtain ⟨e2, he2⟩ : ∃ e2, e2 = q.2 := ⟨_, rfl⟩
  obtain ⟨r1, hr1⟩ : ∃ r1, r1 = goneR r i now := ⟨_, rfl⟩
  have HR1E := Lib.hid hr1
  have HR1 : Hid (WR r1) := by show WR _; rw [hr1]; exact hr.gone i hnow
  obtain ⟨T1, hT1⟩ : ∃ T1 : List Value, T1 = rL r1 := ⟨_, rfl⟩
  have HT1F : Hid (FitL 56 T1) := by show FitL _ _; rw [hT1]; exact fitR HR1.out
  have HT1E := Lib.hid hT1
  obtain ⟨tt, htt⟩ : ∃ tt, tt = leaveR r a now := ⟨_, rfl⟩
  have HTT : Hid (tt = if e2 = 0 then (r1, 0) else (r, e2)) := by
    show _ = _
    rw [htt, he2, hr1, hi, hq]
    unfold leaveR
    by_cases h : (findR r a).2 = 0
    · rw [if_neg (by simp [h]), if_pos h]
    · rw [if_pos h, if_neg h]
  have FND : Hid (∀ (wx : World), Calls Tryz.prog 36 #[.agg T.toArray, .int .i64 a] wx fun e w' => e = .returned (.tuple #[.int .i64 (i : Int), .int .i64 e2]) ∧ Below wx.heap.size wx w') := fun wx => by rw [HTE.out, he2, hi, hq]; exact findR_c r a wx HWR.out
  have GON : Hid (∀ (wx : World), Calls Tryz.prog 37 #[.agg T.toArray, .int .i64 (i : Int), .int .i64 now] wx fun e w' => e = .returned (.agg T1.toArray) ∧ Below wx.heap.size wx w') := fun wx => by rw [HTE.out, HT1E.out, HR1E.out]; exact gone_c r i now wx HWR.out (by rw [hi]; exact HQ8.out) hnow
  rw [← hT, ← htt]
  clear hT hT1 hq hr htt hr1 hi he2 hnow
  obtain ⟨g1, hg1⟩ : ∃ g1, g1 = w.heap.size := ⟨_, rfl⟩
  obtain ⟨g2, hg2⟩ : ∃ g2, g2 = w.heap.size + 1 := ⟨_, rfl⟩
  obtain ⟨w1, hw1⟩ : ∃ w1, w1 = (w.alloc (.cells T.toArray 56)).alloc (.cells #[.bool false, .bool false, .bool false, .bool false, .bool false, .bool false, .bool false, .bool false, .int .i64 0, .int .i64 0, .int .i64 0, .int .i64 0, .int .i64 0, .int .i64 0, .int .i64 0, .int .i64 0, .int .i64 0, .bool false, .int .i64 0, .int .i64 0, .int .i64 0, .int .i64 0, .int .i64 0, .int .i64 0, .int .i64 0, .int .i64 0, .int .i64 0, .int .i64 0, .int .i64 0, .int .i64 0, .int .i64 0, .int .i64 0, .int .i64 0, .int .i64 0, .int .i64 0, .int .i64 0, .int .i64 0, .int .i64 0, .bool false] 56) := ⟨_, rfl⟩
  have HM1 : Hid (MW w w1 [(g2, 56, Z), (g1, 56, T)]) := by
    show MW _ _ _
    have h := (((MW.start w).alloc 56 T).alloc 56 Z)
    try simp only [World.size_alloc] at h
    rw [hZ, hw1, hg1, hg2]
    rw [hZ] at h
    exact h
  go_enter Tryz.func15, Tryz.ntmps15
  go_upto_region 1 with fail
  rw [← hw1, ← hg2, ← hg1]
  clear hw1 hg1 hg2 hZ
  have HRW : Hid (w1.rangeAt g1 0 T) := HM1.out.range (.tail _ (.head _))
  go_wp2_with (first
    | ((with_reducible show wpList _ _ _ (⟨some 11, .load _ (.tmp 3), _, _, _, _⟩ :: _) _ _); refine wpList_load_mid rfl 56 (.tmp 3) rfl g1 0 rfl T _ HRW.out Tryz.underlying56 rfl HTF.out.info ?_))
  clear HRW
  refine (FND.out w1).mono ?_
  rintro e0 w2 ⟨rfl, hbq⟩
  have HM2 : Hid (MW w w2 [(g2, 56, Z), (g1, 56, T)]) := HM1.out.call hbq
  clear hbq HM1
  by_cases hz : e2 = 0
  · subst hz
    have HV : Hid (tt = (r1, 0)) := by show _ = _; rw [HTT.out, if_pos rfl]
    clear HTT
    have HRW : Hid (w2.rangeAt g1 0 T) := HM2.out.range (.tail _ (.head _))
    go_wp2_with (first
      | ((with_reducible show wpList _ _ _ (⟨some 20, .load _ (.tmp 3), _, _, _, _⟩ :: _) _ _); refine wpList_load_mid rfl 56 (.tmp 3) rfl g1 0 rfl T _ HRW.out Tryz.underlying56 rfl HTF.out.info ?_))
    clear HRW
    refine (GON.out w2).mono ?_
    rintro e0 w3 ⟨rfl, hbq⟩
    have HM3 : Hid (MW w w3 [(g2, 56, Z), (g1, 56, T)]) := HM2.out.call hbq
    clear hbq HM2
    have HTr : Hid (w3.there g2 0 T1.toArray.size) := HM3.out.there (.head _) 0 _ (by show 0 + T1.length ≤ Z.length; rw [HT1F.out.len HZF.out]; omega)
    go_wp2_with (first
      | ((with_reducible show wpList _ _ _ (⟨none, .store _ (.tmp 6) _, _, _, _, _⟩ :: _) _ _); refine wpList_store_mid rfl 56 (.tmp 6) (.tmp 23) rfl g2 0 T1.toArray rfl rfl HTr.out HT1F.out.infos HT1F.out.one ?_))
    have HMr : Hid (MW w (w3.setCells g2 0 T1) [(g2, 56, T1), (g1, 56, T)]) := MW.set (pre := []) (post := [(g1, 56, T)]) HM3.out (HT1F.out.len HZF.out)
    (try simp only [Exit.inBlock, Exit.then])
    refine bodyPost_ret (results_c2 rfl rfl (HMr.out.range (.head _)) Tryz.underlying56 rfl HT1F.out.info) rfl ?_
    refine ⟨?_, HMr.out.bel⟩
    rw [HV.out, HT1E.out]
    rfl
  · have hz2 : (e2 != 0) = true := by simp [hz]
    have HV : Hid (tt = (r, e2)) := by show _ = _; rw [HTT.out, if_neg hz]
    clear HTT hz
    have HRr : Hid (w2.rangeAt g1 0 T) := HM2.out.range (.tail _ (.head _))
    have HTr : Hid (w2.there g2 0 T.toArray.size) := HM2.out.there (.head _) 0 _ (by show 0 + T.length ≤ Z.length; rw [HTF.out.len HZF.out]; omega)
    go_wp2_with (first
      | ((with_reducible show wpList _ _ _ (⟨some 18, .load _ (.tmp 3), _, _, _, _⟩ :: _) _ _); refine wpList_load_mid rfl 56 (.tmp 3) rfl g1 0 rfl T _ HRr.out Tryz.underlying56 rfl HTF.out.info ?_)
      | ((with_reducible show wpList _ _ _ (⟨none, .store _ (.tmp 6) _, _, _, _, _⟩ :: _) _ _); refine wpList_store_mid rfl 56 (.tmp 6) (.tmp 18) rfl g2 0 T.toArray rfl rfl HTr.out HTF.out.infos HTF.out.one ?_))
    have HMr : Hid (MW w (w2.setCells g2 0 T) [(g2, 56, T), (g1, 56, T)]) := MW.set (pre := []) (post := [(g1, 56, T)]) HM2.out (HTF.out.len HZF.out)
    (try simp only [Exit.inBlock, Exit.then])
    refine bodyPost_ret (results_c2 rfl rfl (HMr.out.range (.head _)) Tryz.underlying56 rfl HTF.out.info) rfl ?_
    refine ⟨?_, HMr.out.bel⟩
    rw [HV.out, HTE.out]
    rfl
end Go.Proofs.YtmkifedcanmjoaaGreat
