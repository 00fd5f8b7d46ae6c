/- Texts of this claim, one behind the other: RoomO, RoomL, Alive, Heard, All2. Each says ahead of itself what it proves, and its conditions. -/
import Derived.Test.YtmkifedcanmjoaaGreatJq
import Derived.Test.YtmkifedcanmjoaaGreatJm
import Derived.Test.YtmkifedcanmjoaaGreatJx
/- room.R.gone (contract). Conditions: none. -/
set_option linter.unusedVariables false
set_option linter.unusedSimpArgs false
namespace Go.Proofs.YtmkifedcanmjoaaGreat
open Go.RowKit
attribute [local go_sem ↓] Go.wp_at_zero Go.wp_at_succ
set_option maxRecDepth 100000 in
set_option maxHeartbeats 6400000 in
theorem gone_c (r : Rm) (i : Nat) (now : Int) (w : World) (hr : WR r) (hi : i < 8) (hnow : NowB now) :
    Calls Tryz.prog 37 #[.agg (rL r).toArray, .int .i64 (i : Int), .int .i64 now] w fun e w' => e = .returned (.agg (rL (goneR r i now)).toArray) ∧ Below w.heap.size w w' := by
  have HWR := Lib.hid hr
  obtain ⟨T, hT⟩ : ∃ T : List Value, T = rL r := ⟨_, rfl⟩
  have HTF : Hid (FitL 56 T) := by show FitL _ _; rw [hT]; exact fitR hr
  have HTE := Lib.hid hT
  obtain ⟨D, hD⟩ : ∃ D : List Value, D = tbL r.t := ⟨_, rfl⟩
  have HDF : Hid (FitL 53 D) := by show FitL _ _; rw [hD]; exact fitT hr.1
  have HDE := Lib.hid hD
  obtain ⟨Z, hZ⟩ : ∃ Z : List Value, Z = [.bool false, .bool false, .bool false, .bool false, .bool false, .bool false, .bool false, .bool false, .int .i64 0, .int .i64 0, .int .i64 0, .int .i64 0, .int .i64 0, .int .i64 0, .int .i64 0, .int .i64 0, .int .i64 0, .bool false, .int .i64 0, .int .i64 0, .int .i64 0, .int .i64 0, .int .i64 0, .int .i64 0, .int .i64 0, .int .i64 0, .int .i64 0, .int .i64 0, .int .i64 0, .int .i64 0, .int .i64 0, .int .i64 0, .int .i64 0, .int .i64 0, .int .i64 0, .int .i64 0, .int .i64 0, .int .i64 0, .bool false] := ⟨_, rfl⟩
  have HZF : Hid (FitL 56 Z) := by show FitL _ _; rw [hZ]; exact fit0R
  have HZE := Lib.hid hZ
  obtain ⟨Y, hY⟩ : ∃ Y : List Value, Y = [.int .i64 0, .bool false, .int .i64 0, .int .i64 0, .int .i64 0, .int .i64 0] := ⟨_, rfl⟩
  have HYF : Hid (FitL 49 Y) := by show FitL _ _; rw [hY]; exact fit0K
  have HYE := Lib.hid hY
  obtain ⟨q, hq⟩ : ∃ q, q = freeT r.t (i : Int) := ⟨_, rfl⟩
  have HQE := Lib.hid hq
  have HQT : Hid (WT q.1) := by show WT _; rw [hq]; exact hr.1.free _
  obtain ⟨r1, hr1⟩ : ∃ r1, r1 = { r with t := q.1 } := ⟨_, rfl⟩
  have HR1E := Lib.hid hr1
  have HR1 : Hid (WR r1) := by show WR _; rw [hr1]; exact hr.setT HQT.out
  obtain ⟨r2, hr2⟩ : ∃ r2, r2 = { r1 with seen := r1.seen.set i 0 } := ⟨_, rfl⟩
  have HR2E := Lib.hid hr2
  have HR2 : Hid (WR r2) := by show WR _; rw [hr2]; exact HR1.out.setSeen i nowB0
  obtain ⟨r3, hr3⟩ : ∃ r3, r3 = { r2 with since := r2.since.set i 0 } := ⟨_, rfl⟩
  have HR3E := Lib.hid hr3
  have HR3 : Hid (WR r3) := by show WR _; rw [hr3]; exact HR2.out.setSince i 0
  have HR3t : Hid (r3.t = q.1) := by show _ = _; rw [hr3, hr2, hr1]
  have HR3k : Hid (r3.k = r.k) := by show _ = _; rw [hr3, hr2, hr1]
  obtain ⟨k, hk⟩ : ∃ k, k = raiseK r.k (maskT q.1) now := ⟨_, rfl⟩
  have HKE := Lib.hid hk
  have HWK : Hid (WK k.1) := by show WK _; rw [hk]; exact hr.2.1.raise hnow
  obtain ⟨r4, hr4⟩ : ∃ r4, r4 = { r3 with k := k.1 } := ⟨_, rfl⟩
  have HR4E := Lib.hid hr4
  have HR4 : Hid (WR r4) := by show WR _; rw [hr4]; exact HR3.out.setK HWK.out
  obtain ⟨m, hm⟩ : ∃ m, m = maskT q.1 := ⟨_, rfl⟩
  obtain ⟨E, hE⟩ : ∃ E : List Value, E = tbL q.1 := ⟨_, rfl⟩
  have HEF : Hid (FitL 53 E) := by show FitL _ _; rw [hE]; exact fitT HQT.out
  have HEE := Lib.hid hE
  obtain ⟨T1, hT1⟩ : ∃ T1 : List Value, T1 = rL r1 := ⟨_, rfl⟩
  have HT1F : Hid (FitL 56 T1) := by show FitL _ _; rw [hT1]; exact fitR HR1.out
  have HT1E := Lib.hid hT1
  obtain ⟨T2, hT2⟩ : ∃ T2 : List Value, T2 = rL r2 := ⟨_, rfl⟩
  have HT2F : Hid (FitL 56 T2) := by show FitL _ _; rw [hT2]; exact fitR HR2.out
  have HT2E := Lib.hid hT2
  obtain ⟨T3, hT3⟩ : ∃ T3 : List Value, T3 = rL r3 := ⟨_, rfl⟩
  have HT3F : Hid (FitL 56 T3) := by show FitL _ _; rw [hT3]; exact fitR HR3.out
  have HT3E := Lib.hid hT3
  obtain ⟨T4, hT4⟩ : ∃ T4 : List Value, T4 = rL r4 := ⟨_, rfl⟩
  have HT4F : Hid (FitL 56 T4) := by show FitL _ _; rw [hT4]; exact fitR HR4.out
  have HT4E := Lib.hid hT4
  obtain ⟨K, hK⟩ : ∃ K : List Value, K = kL r.k := ⟨_, rfl⟩
  have HKF : Hid (FitL 49 K) := by show FitL _ _; rw [hK]; exact fitK r.k
  have HKE_ := Lib.hid hK
  obtain ⟨K2, hK2⟩ : ∃ K2 : List Value, K2 = kL k.1 := ⟨_, rfl⟩
  have HK2F : Hid (FitL 49 K2) := by show FitL _ _; rw [hK2]; exact fitK k.1
  have HK2E := Lib.hid hK2
  obtain ⟨k2, hk2⟩ : ∃ k2, k2 = k.2 := ⟨_, rfl⟩
  have HTD : Hid (∀ j v, D[j]? = some v → T[0 + j]? = some v) := by show ∀ _ _, _; rw [hT, hD]; exact rL_tpart hr
  have HTE3 : Hid (∀ j v, E[j]? = some v → T3[0 + j]? = some v) := by show ∀ _ _, _; rw [hT3, hE, ← HR3t.out]; exact rL_tpart HR3.out
  have HTK3 : Hid (∀ j v, K[j]? = some v → T3[16 + j]? = some v) := by show ∀ _ _, _; rw [hT3, hK, ← HR3k.out]; exact rL_kpart HR3.out
  have HC0 : Hid (T3[16]? = some (.int .i64 r.k.epoch)) := by show _ = _; rw [hT3, ← HR3k.out]; exact rL_k HR3.out (i := 0) (by decide)
  have HC1 : Hid (T1[22 + i]? = some (.int .i64 (seenAt r1 i))) := by show _ = _; rw [hT1]; exact rL_seen HR1.out hi
  have HC2 : Hid (T2[30 + i]? = some (.int .i64 (sinceAt r2 i))) := by show _ = _; rw [hT2]; exact rL_since HR2.out hi
  have HS2 : Hid (T1.set (22 + i) (.int .i64 0) = T2) := by show _ = _; rw [hT1, hT2, hr2]; exact rL_setSeen HR1.out hi 0
  have HS3 : Hid (T2.set (30 + i) (.int .i64 0) = T3) := by show _ = _; rw [hT2, hT3, hr3]; exact rL_setSince HR2.out hi 0
  obtain ⟨tt, htt⟩ : ∃ tt, tt = goneR r i now := ⟨_, rfl⟩
  have HTT : Hid (tt = if k2 = 0 then r4 else { rm0 r.k.epoch with over := true }) := by
    show _ = _
    rw [htt, hk2, hk, hr4, hr3, hr2, hr1, hk, hq]
    rfl
  have FRE : Hid (∀ (wx : World), Calls Tryz.prog 70 #[.agg D.toArray, .int .i64 (i : Int)] wx fun e w' => e = .returned (.tuple #[.agg E.toArray, .int .i64 q.2]) ∧ Below wx.heap.size wx w') := fun wx => by rw [HDE.out, HEE.out, HQE.out]; exact free_c r.t i wx HWR.out.1
  have MSK : Hid (∀ (wx : World), Calls Tryz.prog 64 #[.agg E.toArray] wx fun e w' => e = .returned (.int .i64 (m : Int)) ∧ Below wx.heap.size wx w') := fun wx => by rw [HEE.out, hm]; exact mask_c q.1 wx HQT.out
  have RSE : Hid (∀ (wx : World), Calls Tryz.prog 17 #[.agg K.toArray, .int .i64 (m : Int), .int .i64 now] wx fun e w' => e = .returned (.tuple #[.agg K2.toArray, .int .i64 k2]) ∧ Below wx.heap.size wx w') := fun wx => by rw [HKE_.out, HK2E.out, hk2, HKE.out, hm]; exact raise_c r.k (maskT q.1) now wx HWR.out.2.1
  have hin0 : (0 : Int) ≤ (i : Int) := by omega
  have hini : (i : Int) < 8 := by omega
  obtain ⟨ep, hep⟩ : ∃ ep, ep = r.k.epoch := ⟨_, rfl⟩
  have HEPW : Hid (0 ≤ ep ∧ ep < 65536) := by show 0 ≤ ep ∧ ep < 65536; rw [hep]; exact hr.2.1.1
  rw [← hep] at HC0 HTT
  rw [← hT, ← htt]
  obtain ⟨q2, hq2⟩ : ∃ q2, q2 = q.2 := ⟨_, rfl⟩
  rw [← hq2] at FRE
  have HI8 := Lib.hid hi
  clear hT hD hE hq hr htt hr1 hr2 hr3 hr4 hT1 hT2 hT3 hT4 hK hK2 hk hk2 hm hep hq2 hnow hi
  obtain ⟨g1, hg1⟩ : ∃ g1, g1 = w.heap.size := ⟨_, rfl⟩
  obtain ⟨g2, hg2⟩ : ∃ g2, g2 = w.heap.size + 1 := ⟨_, rfl⟩
  obtain ⟨w1, hw1⟩ : ∃ w1, w1 = (w.alloc (.cells T.toArray 56)).alloc (.cells #[.bool false, .bool false, .bool false, .bool false, .bool false, .bool false, .bool false, .bool false, .int .i64 0, .int .i64 0, .int .i64 0, .int .i64 0, .int .i64 0, .int .i64 0, .int .i64 0, .int .i64 0, .int .i64 0, .bool false, .int .i64 0, .int .i64 0, .int .i64 0, .int .i64 0, .int .i64 0, .int .i64 0, .int .i64 0, .int .i64 0, .int .i64 0, .int .i64 0, .int .i64 0, .int .i64 0, .int .i64 0, .int .i64 0, .int .i64 0, .int .i64 0, .int .i64 0, .int .i64 0, .int .i64 0, .int .i64 0, .bool false] 56) := ⟨_, rfl⟩
  have HM1 : Hid (MW w w1 [(g2, 56, Z), (g1, 56, T)]) := by
    show MW _ _ _
    have h := (((MW.start w).alloc 56 T).alloc 56 Z)
    try simp only [World.size_alloc] at h
    rw [hZ, hw1, hg1, hg2]
    rw [hZ] at h
    exact h
  go_enter Tryz.func37, Tryz.ntmps37
  go_upto_region 1 with fail
  rw [← hw1, ← hg2, ← hg1]
  clear hw1 hg1 hg2 hZ hY
  have HRW : Hid (w1.rangeAt g1 0 D) := HM1.out.part (.tail _ (.head _)) 0 D HTD.out
  go_wp2_with (first
    | ((with_reducible show wpList _ _ _ (⟨some 11, .load _ (.tmp 10), _, _, _, _⟩ :: _) _ _); refine wpList_load_mid rfl 53 (.tmp 10) rfl g1 0 rfl D _ HRW.out Tryz.underlying53 rfl HDF.out.info ?_))
  clear HRW
  refine (FRE.out w1).mono ?_
  rintro e0 w2 ⟨rfl, hbq⟩
  have HM2 : Hid (MW w w2 [(g2, 56, Z), (g1, 56, T)]) := HM1.out.call hbq
  clear hbq HM1
  have HTH : Hid (w2.there g1 0 E.toArray.size) := HM2.out.there (.tail _ (.head _)) 0 _ (by show 0 + E.length ≤ T.length; rw [HEF.out.len HDF.out]; have h1 := HEF.out.info; have h2 := HTF.out.info; have h3 := HDF.out.len HEF.out; rw [infoTb] at h1; rw [infoR] at h2; injection h1 with h1; injection h2 with h2; omega)
  go_upto_region 2 with (first
    | ((with_reducible show wpList _ _ _ (⟨none, .store _ (.tmp 16) _, _, _, _, _⟩ :: _) _ _); refine wpList_store_mid rfl 53 (.tmp 16) (.tmp 14) rfl g1 0 E.toArray rfl rfl HTH.out HEF.out.infos HEF.out.one ?_))
  clear HTH
  obtain ⟨w3, hw3⟩ : ∃ w3, w3 = w2.setCells g1 0 E := ⟨_, rfl⟩
  have HM3 : Hid (MW w w3 [(g2, 56, Z), (g1, 56, T1)]) := by show MW _ _ _; rw [hw3]; exact (by rw [HT1E.out, HEE.out, HR1E.out]; have h := HM2.out; rw [HTE.out] at h; exact MW.setT (pre := [(g2, 56, Z)]) (post := []) h HWR.out HQT.out)
  rw [← hw3]
  clear hw3 HM2
  have ck1 : w3.cell? ⟨g1, 22 + i, none⟩ = some (.int .i64 (seenAt r1 i)) := by rw [HM3.out.cell (.tail _ (.head _))]; exact HC1.out
  have fk1 : w3.frozen? ⟨g1, 22 + i, none⟩ = false := HM3.out.frozen (.tail _ (.head _)) _
  have HMa : Hid (MW w (w3.setCell ⟨g1, 22 + i, none⟩ (.int .i64 0)) [(g2, 56, Z), (g1, 56, T2)]) := by
    show MW _ _ _
    have h := MW.set1 (pre := [(g2, 56, Z)]) (post := []) HM3.out (22 + i) (.int .i64 0)
    rw [HS2.out] at h
    exact h
  have ck2 : (w3.setCell ⟨g1, 22 + i, none⟩ (.int .i64 0)).cell? ⟨g1, 30 + i, none⟩ = some (.int .i64 (sinceAt r2 i)) := by rw [HMa.out.cell (.tail _ (.head _))]; exact HC2.out
  have fk2 : (w3.setCell ⟨g1, 22 + i, none⟩ (.int .i64 0)).frozen? ⟨g1, 30 + i, none⟩ = false := HMa.out.frozen (.tail _ (.head _)) _
  go_upto_region 3 with fail
  obtain ⟨w4, hw4⟩ : ∃ w4, w4 = (w3.setCell ⟨g1, 22 + i, none⟩ (.int .i64 0)).setCell ⟨g1, 30 + i, none⟩ (.int .i64 0) := ⟨_, rfl⟩
  have HM4 : Hid (MW w w4 [(g2, 56, Z), (g1, 56, T3)]) := by show MW _ _ _; rw [hw4]; exact (by have h := MW.set1 (pre := [(g2, 56, Z)]) (post := []) HMa.out (30 + i) (.int .i64 0); rw [HS3.out] at h; exact h)
  rw [← hw4]
  clear hw4 HM3
  clear ck1 ck2 fk1 fk2 HMa
  go_cut [7, 8] (fun v7 v8 wx => ∃ gk, v7 = .pointer (some ⟨gk, 0, none⟩) ∧ v8 = .int .i64 k2 ∧ MW w wx [(gk, 49, K2), (g2, 56, Z), (g1, 56, T3)])
  case first =>
    obtain ⟨w5, hw5⟩ : ∃ w5, w5 = w4.drew := ⟨_, rfl⟩
    have HM5 : Hid (MW w w5 [(g2, 56, Z), (g1, 56, T3)]) := by show MW _ _ _; rw [hw5]; exact HM4.out.drew
    refine wp_region_held_drew (S := (fun w' => MW w w' [(g2, 56, Z), (g1, 56, T3)])) (by kernel_rfl) (by rw [← hw5]; exact (HM5.out.drop (List.Sublist.refl _))) (fun hHeld => ?_)
    rw [← hw5] at hHeld ⊢
    clear hw5 HM4
    refine wpAnyH_takeAt (i := 0) (v := (.pointer (some ⟨g1, 16, none⟩))) rfl (by kernel_rfl) (by kernel_rfl) (by kernel_rfl) (fun _ _ _ h => h) rfl (Or.inl ⟨by rfl, fun w' hS => ?_⟩) hHeld ?_
    · go_simp
    simp only [List.set_cons_zero, List.set_cons_succ]
    refine wpAnyH_takeAt (i := 1) (v := (.agg K.toArray)) rfl (by kernel_rfl) (by kernel_rfl) (by kernel_rfl) (fun _ _ _ h => h) rfl (yieldsIf_load_mid (by rfl) 49 _ rfl g1 16 rfl K _ (fun w' hS => (hS.part (.tail _ (.head _)) 16 K HTK3.out)) Tryz.underlying49 rfl HKF.out.info) hHeld ?_
    simp only [List.set_cons_zero, List.set_cons_succ]
    refine wpAnyH_takeAt (i := 2) (v := (.pointer (some ⟨g1, 0, none⟩))) rfl (by kernel_rfl) (by kernel_rfl) (by kernel_rfl) (fun _ _ _ h => h) rfl (Or.inl ⟨by rfl, fun w' hS => ?_⟩) hHeld ?_
    · go_simp
    simp only [List.set_cons_zero, List.set_cons_succ]
    refine wpAnyH_takeAt (i := 3) (v := (.agg E.toArray)) rfl (by kernel_rfl) (by kernel_rfl) (by kernel_rfl) (fun _ _ _ h => h) rfl (yieldsIf_load_mid (by rfl) 53 _ rfl g1 0 rfl E _ (fun w' hS => (hS.part (.tail _ (.head _)) 0 E HTE3.out)) Tryz.underlying53 rfl HEF.out.info) hHeld ?_
    simp only [List.set_cons_zero, List.set_cons_succ]
    refine wpAnyH_takeAt (i := 5) (v := (.int .i64 now)) rfl (by kernel_rfl) (by kernel_rfl) (by kernel_rfl) (fun _ _ _ h => h) rfl (Or.inl ⟨by rfl, fun w' hS => ?_⟩) hHeld ?_
    · go_simp
    simp only [List.set_cons_zero, List.set_cons_succ]
    refine wpAnyH_ready (rs := [4, 10]) (by kernel_rfl) (by simp) (AllReadyH.cons rfl (fun K' hK => ?_) (AllReadyH.cons rfl (fun K' hK => ?_) AllReadyH.nil))
    · go_simp
      go_at_call 64
      refine (MSK.out w5).mono ?_
      rintro e0 w6 ⟨rfl, hbq⟩
      have HM6 : Hid (MW w w6 [(g2, 56, Z), (g1, 56, T3)]) := HM5.out.call hbq
      clear hbq
      go_wp2_with fail
      refine hK.out _ _ (HM6.out.drop (List.Sublist.refl _)) (fun hHeld' => ?_)
      clear hK hHeld HM5
      have hHeld := hHeld'
      clear hHeld'
      refine wpAnyH_ready (rs := [6, 10]) (by kernel_rfl) (by simp) (AllReadyH.cons rfl (fun K' hK => ?_) (AllReadyH.cons rfl (fun K' hK => ?_) AllReadyH.nil))
      · go_simp
        go_at_call 17
        refine (RSE.out w6).mono ?_
        rintro e0 w7 ⟨rfl, hbq⟩
        have HM7 : Hid (MW w w7 [(g2, 56, Z), (g1, 56, T3)]) := HM6.out.call hbq
        clear hbq
        go_wp2_with fail
        refine hK.out _ _ (HM7.out.drop (List.Sublist.refl _)) (fun hHeld' => ?_)
        clear hK hHeld HM6
        have hHeld := hHeld'
        clear hHeld'
        refine wpAnyH_takeAt (i := 7) (v := (.tuple #[.agg K2.toArray, .int .i64 k2])) rfl (by kernel_rfl) (by kernel_rfl) (by kernel_rfl) (fun _ _ _ h => h) rfl (Or.inl ⟨by rfl, fun w' hS => ?_⟩) hHeld ?_
        · go_simp
        simp only [List.set_cons_zero, List.set_cons_succ]
        refine wpAnyH_takeAt (i := 8) (v := (.agg K2.toArray)) rfl (by kernel_rfl) (by kernel_rfl) (by kernel_rfl) (fun _ _ _ h => h) rfl (Or.inl ⟨by rfl, fun w' hS => ?_⟩) hHeld ?_
        · go_simp
        simp only [List.set_cons_zero, List.set_cons_succ]
        refine wpAnyH_takeAt (i := 9) (v := (.int .i64 k2)) rfl (by kernel_rfl) (by kernel_rfl) (by kernel_rfl) (fun _ _ _ h => h) rfl (Or.inl ⟨by rfl, fun w' hS => ?_⟩) hHeld ?_
        · go_simp
        simp only [List.set_cons_zero, List.set_cons_succ]
        refine wpAnyH_ready (rs := [10]) (by kernel_rfl) (by simp) (AllReadyH.cons rfl (fun K' hK => ?_) AllReadyH.nil)
        go_simp
        obtain ⟨g7, hg7⟩ : ∃ g7, g7 = w7.heap.size := ⟨_, rfl⟩
        obtain ⟨w8, hw8⟩ : ∃ w8, w8 = w7.alloc (.cells #[.int .i64 0, .bool false, .int .i64 0, .int .i64 0, .int .i64 0, .int .i64 0] 49) := ⟨_, rfl⟩
        have HM8 : Hid (MW w w8 [(g7, 49, Y), (g2, 56, Z), (g1, 56, T3)]) := by
          show MW _ _ _
          have h := HM7.out.alloc 49 [.int .i64 0, .bool false, .int .i64 0, .int .i64 0, .int .i64 0, .int .i64 0]
          rw [hw8, hg7, HYE.out]
          exact h
        rw [← hw8, ← hg7]
        clear hw8 hg7
        refine hK.out _ _ (HM8.out.drop (.cons _ (List.Sublist.refl _))) (fun hHeld' => ?_)
        clear hK hHeld HM7
        have hHeld := hHeld'
        clear hHeld'
        refine wpAnyH_ready (rs := [11]) (by kernel_rfl) (by simp) (AllReadyH.cons rfl (fun K' hK => ?_) AllReadyH.nil)
        rw [if_pos (by rfl)]
        refine wp_store_mid 49 (.tmp 7) (.tmp 31) (by rfl) g7 0 K2.toArray (by rfl) (by rfl) (HM8.out.there (.head _) 0 _ (by show 0 + K2.length ≤ Y.length; rw [HK2F.out.len HYF.out]; omega)) HK2F.out.infos HK2F.out.one ?_
        obtain ⟨w9, hw9⟩ : ∃ w9, w9 = w8.setCells g7 0 K2 := ⟨_, rfl⟩
        have HM9 : Hid (MW w w9 [(g7, 49, K2), (g2, 56, Z), (g1, 56, T3)]) := by show MW _ _ _; rw [hw9]; exact MW.set (pre := []) (post := [(g2, 56, Z), (g1, 56, T3)]) HM8.out (HK2F.out.len HYF.out)
        rw [← hw9]
        clear hw9
        refine hK.out _ _ (HM9.out.drop (.cons _ (List.Sublist.refl _))) (fun hHeld' => ?_)
        clear hK hHeld HM8
        have hHeld := hHeld'
        clear hHeld'
        refine wpAnyH_putNone rfl ?_
        refine wpAnyH_takeAt (i := 12) (v := (.int .i64 k2)) rfl (by kernel_rfl) (by kernel_rfl) (by kernel_rfl) (fun _ _ _ h => h) rfl (Or.inl ⟨by rfl, fun w' hS => ?_⟩) hHeld ?_
        · go_simp
        simp only [List.set_cons_zero, List.set_cons_succ]
        refine wpAnyH_done (by kernel_rfl) ?_ _
        go_wp2_with fail
        go_meet
        exact ⟨g7, rfl, rfl, HM9.out⟩
      · go_simp
        obtain ⟨g7, hg7⟩ : ∃ g7, g7 = w6.heap.size := ⟨_, rfl⟩
        obtain ⟨w7, hw7⟩ : ∃ w7, w7 = w6.alloc (.cells #[.int .i64 0, .bool false, .int .i64 0, .int .i64 0, .int .i64 0, .int .i64 0] 49) := ⟨_, rfl⟩
        have HM7 : Hid (MW w w7 [(g7, 49, Y), (g2, 56, Z), (g1, 56, T3)]) := by
          show MW _ _ _
          have h := HM6.out.alloc 49 [.int .i64 0, .bool false, .int .i64 0, .int .i64 0, .int .i64 0, .int .i64 0]
          rw [hw7, hg7, HYE.out]
          exact h
        rw [← hw7, ← hg7]
        clear hw7 hg7
        refine hK.out _ _ (HM7.out.drop (.cons _ (List.Sublist.refl _))) (fun hHeld' => ?_)
        clear hK hHeld HM6
        have hHeld := hHeld'
        clear hHeld'
        refine wpAnyH_ready (rs := [6]) (by kernel_rfl) (by simp) (AllReadyH.cons rfl (fun K' hK => ?_) AllReadyH.nil)
        go_simp
        go_at_call 17
        refine (RSE.out w7).mono ?_
        rintro e0 w8 ⟨rfl, hbq⟩
        have HM8 : Hid (MW w w8 [(g7, 49, Y), (g2, 56, Z), (g1, 56, T3)]) := HM7.out.call hbq
        clear hbq
        go_wp2_with fail
        refine hK.out _ _ (HM8.out.drop (.cons _ (List.Sublist.refl _))) (fun hHeld' => ?_)
        clear hK hHeld HM7
        have hHeld := hHeld'
        clear hHeld'
        refine wpAnyH_takeAt (i := 7) (v := (.tuple #[.agg K2.toArray, .int .i64 k2])) rfl (by kernel_rfl) (by kernel_rfl) (by kernel_rfl) (fun _ _ _ h => h) rfl (Or.inl ⟨by rfl, fun w' hS => ?_⟩) hHeld ?_
        · go_simp
        simp only [List.set_cons_zero, List.set_cons_succ]
        refine wpAnyH_takeAt (i := 8) (v := (.agg K2.toArray)) rfl (by kernel_rfl) (by kernel_rfl) (by kernel_rfl) (fun _ _ _ h => h) rfl (Or.inl ⟨by rfl, fun w' hS => ?_⟩) hHeld ?_
        · go_simp
        simp only [List.set_cons_zero, List.set_cons_succ]
        refine wpAnyH_takeAt (i := 9) (v := (.int .i64 k2)) rfl (by kernel_rfl) (by kernel_rfl) (by kernel_rfl) (fun _ _ _ h => h) rfl (Or.inl ⟨by rfl, fun w' hS => ?_⟩) hHeld ?_
        · go_simp
        simp only [List.set_cons_zero, List.set_cons_succ]
        refine wpAnyH_ready (rs := [11]) (by kernel_rfl) (by simp) (AllReadyH.cons rfl (fun K' hK => ?_) AllReadyH.nil)
        rw [if_pos (by rfl)]
        refine wp_store_mid 49 (.tmp 7) (.tmp 31) (by rfl) g7 0 K2.toArray (by rfl) (by rfl) (HM8.out.there (.head _) 0 _ (by show 0 + K2.length ≤ Y.length; rw [HK2F.out.len HYF.out]; omega)) HK2F.out.infos HK2F.out.one ?_
        obtain ⟨w9, hw9⟩ : ∃ w9, w9 = w8.setCells g7 0 K2 := ⟨_, rfl⟩
        have HM9 : Hid (MW w w9 [(g7, 49, K2), (g2, 56, Z), (g1, 56, T3)]) := by show MW _ _ _; rw [hw9]; exact MW.set (pre := []) (post := [(g2, 56, Z), (g1, 56, T3)]) HM8.out (HK2F.out.len HYF.out)
        rw [← hw9]
        clear hw9
        refine hK.out _ _ (HM9.out.drop (.cons _ (List.Sublist.refl _))) (fun hHeld' => ?_)
        clear hK hHeld HM8
        have hHeld := hHeld'
        clear hHeld'
        refine wpAnyH_putNone rfl ?_
        refine wpAnyH_takeAt (i := 12) (v := (.int .i64 k2)) rfl (by kernel_rfl) (by kernel_rfl) (by kernel_rfl) (fun _ _ _ h => h) rfl (Or.inl ⟨by rfl, fun w' hS => ?_⟩) hHeld ?_
        · go_simp
        simp only [List.set_cons_zero, List.set_cons_succ]
        refine wpAnyH_done (by kernel_rfl) ?_ _
        go_wp2_with fail
        go_meet
        exact ⟨g7, rfl, rfl, HM9.out⟩
    · go_simp
      obtain ⟨g7, hg7⟩ : ∃ g7, g7 = w5.heap.size := ⟨_, rfl⟩
      obtain ⟨w6, hw6⟩ : ∃ w6, w6 = w5.alloc (.cells #[.int .i64 0, .bool false, .int .i64 0, .int .i64 0, .int .i64 0, .int .i64 0] 49) := ⟨_, rfl⟩
      have HM6 : Hid (MW w w6 [(g7, 49, Y), (g2, 56, Z), (g1, 56, T3)]) := by
        show MW _ _ _
        have h := HM5.out.alloc 49 [.int .i64 0, .bool false, .int .i64 0, .int .i64 0, .int .i64 0, .int .i64 0]
        rw [hw6, hg7, HYE.out]
        exact h
      rw [← hw6, ← hg7]
      clear hw6 hg7
      refine hK.out _ _ (HM6.out.drop (.cons _ (List.Sublist.refl _))) (fun hHeld' => ?_)
      clear hK hHeld HM5
      have hHeld := hHeld'
      clear hHeld'
      refine wpAnyH_ready (rs := [4]) (by kernel_rfl) (by simp) (AllReadyH.cons rfl (fun K' hK => ?_) AllReadyH.nil)
      go_simp
      go_at_call 64
      refine (MSK.out w6).mono ?_
      rintro e0 w7 ⟨rfl, hbq⟩
      have HM7 : Hid (MW w w7 [(g7, 49, Y), (g2, 56, Z), (g1, 56, T3)]) := HM6.out.call hbq
      clear hbq
      go_wp2_with fail
      refine hK.out _ _ (HM7.out.drop (.cons _ (List.Sublist.refl _))) (fun hHeld' => ?_)
      clear hK hHeld HM6
      have hHeld := hHeld'
      clear hHeld'
      refine wpAnyH_ready (rs := [6]) (by kernel_rfl) (by simp) (AllReadyH.cons rfl (fun K' hK => ?_) AllReadyH.nil)
      go_simp
      go_at_call 17
      refine (RSE.out w7).mono ?_
      rintro e0 w8 ⟨rfl, hbq⟩
      have HM8 : Hid (MW w w8 [(g7, 49, Y), (g2, 56, Z), (g1, 56, T3)]) := HM7.out.call hbq
      clear hbq
      go_wp2_with fail
      refine hK.out _ _ (HM8.out.drop (.cons _ (List.Sublist.refl _))) (fun hHeld' => ?_)
      clear hK hHeld HM7
      have hHeld := hHeld'
      clear hHeld'
      refine wpAnyH_takeAt (i := 7) (v := (.tuple #[.agg K2.toArray, .int .i64 k2])) rfl (by kernel_rfl) (by kernel_rfl) (by kernel_rfl) (fun _ _ _ h => h) rfl (Or.inl ⟨by rfl, fun w' hS => ?_⟩) hHeld ?_
      · go_simp
      simp only [List.set_cons_zero, List.set_cons_succ]
      refine wpAnyH_takeAt (i := 8) (v := (.agg K2.toArray)) rfl (by kernel_rfl) (by kernel_rfl) (by kernel_rfl) (fun _ _ _ h => h) rfl (Or.inl ⟨by rfl, fun w' hS => ?_⟩) hHeld ?_
      · go_simp
      simp only [List.set_cons_zero, List.set_cons_succ]
      refine wpAnyH_takeAt (i := 9) (v := (.int .i64 k2)) rfl (by kernel_rfl) (by kernel_rfl) (by kernel_rfl) (fun _ _ _ h => h) rfl (Or.inl ⟨by rfl, fun w' hS => ?_⟩) hHeld ?_
      · go_simp
      simp only [List.set_cons_zero, List.set_cons_succ]
      refine wpAnyH_ready (rs := [11]) (by kernel_rfl) (by simp) (AllReadyH.cons rfl (fun K' hK => ?_) AllReadyH.nil)
      rw [if_pos (by rfl)]
      refine wp_store_mid 49 (.tmp 7) (.tmp 31) (by rfl) g7 0 K2.toArray (by rfl) (by rfl) (HM8.out.there (.head _) 0 _ (by show 0 + K2.length ≤ Y.length; rw [HK2F.out.len HYF.out]; omega)) HK2F.out.infos HK2F.out.one ?_
      obtain ⟨w9, hw9⟩ : ∃ w9, w9 = w8.setCells g7 0 K2 := ⟨_, rfl⟩
      have HM9 : Hid (MW w w9 [(g7, 49, K2), (g2, 56, Z), (g1, 56, T3)]) := by show MW _ _ _; rw [hw9]; exact MW.set (pre := []) (post := [(g2, 56, Z), (g1, 56, T3)]) HM8.out (HK2F.out.len HYF.out)
      rw [← hw9]
      clear hw9
      refine hK.out _ _ (HM9.out.drop (.cons _ (List.Sublist.refl _))) (fun hHeld' => ?_)
      clear hK hHeld HM8
      have hHeld := hHeld'
      clear hHeld'
      refine wpAnyH_putNone rfl ?_
      refine wpAnyH_takeAt (i := 12) (v := (.int .i64 k2)) rfl (by kernel_rfl) (by kernel_rfl) (by kernel_rfl) (fun _ _ _ h => h) rfl (Or.inl ⟨by rfl, fun w' hS => ?_⟩) hHeld ?_
      · go_simp
      simp only [List.set_cons_zero, List.set_cons_succ]
      refine wpAnyH_done (by kernel_rfl) ?_ _
      go_wp2_with fail
      go_meet
      exact ⟨g7, rfl, rfl, HM9.out⟩
  case rest =>
    obtain ⟨gk, rfl, rfl, hmc⟩ := hcut
    have HM50 := Lib.hid hmc
    clear hmc HM4
    by_cases hz : k2 = 0
    · subst hz
      have HV : Hid (tt = r4) := by show _ = _; rw [HTT.out, if_pos rfl]
      clear HTT
      have HRK : Hid (wc.rangeAt gk 0 K2) := HM50.out.range (.head _)
      have HTH : Hid (wc.there g1 16 K2.toArray.size) := HM50.out.there (.tail _ (.tail _ (.head _))) 16 _ (by show 16 + K2.length ≤ T3.length; have h1 := HK2F.out.info; have h2 := HT3F.out.info; rw [infoK] at h1; rw [infoR] at h2; injection h1 with h1; injection h2 with h2; omega)
      go_upto_region 7 with (first
        | ((with_reducible show wpList _ _ _ (⟨some 40, .load _ (.tmp 7), _, _, _, _⟩ :: _) _ _); refine wpList_load_mid rfl 49 (.tmp 7) rfl gk 0 rfl K2 _ HRK.out Tryz.underlying49 rfl HK2F.out.info ?_)
        | ((with_reducible show wpList _ _ _ (⟨none, .store _ (.tmp 41) _, _, _, _, _⟩ :: _) _ _); refine wpList_store_mid rfl 49 (.tmp 41) (.tmp 40) rfl g1 16 K2.toArray rfl rfl HTH.out HK2F.out.infos HK2F.out.one ?_))
      clear HTH HRK
      obtain ⟨w51, hw51⟩ : ∃ w51, w51 = wc.setCells g1 16 K2 := ⟨_, rfl⟩
      have HM51 : Hid (MW w w51 [(gk, 49, K2), (g2, 56, Z), (g1, 56, T4)]) := by show MW _ _ _; rw [hw51]; exact (by rw [HT4E.out, HK2E.out, HR4E.out]; have h := HM50.out; rw [HT3E.out, HK2E.out] at h; exact MW.setK (pre := [(gk, 49, kL k.1), (g2, 56, Z)]) (post := []) h HR3.out k.1)
      rw [← hw51]
      clear hw51 HM50
      have HRr : Hid (w51.rangeAt g1 0 T4) := HM51.out.range (.tail _ (.tail _ (.head _)))
      have HTr : Hid (w51.there g2 0 T4.toArray.size) := HM51.out.there (.tail _ (.head _)) 0 _ (by show 0 + T4.length ≤ Z.length; rw [HT4F.out.len HZF.out]; omega)
      go_wp2_with (first
        | ((with_reducible show wpList _ _ _ (⟨some 42, .load _ (.tmp 3), _, _, _, _⟩ :: _) _ _); refine wpList_load_mid rfl 56 (.tmp 3) rfl g1 0 rfl T4 _ HRr.out Tryz.underlying56 rfl HT4F.out.info ?_)
        | ((with_reducible show wpList _ _ _ (⟨none, .store _ (.tmp 6) _, _, _, _, _⟩ :: _) _ _); refine wpList_store_mid rfl 56 (.tmp 6) (.tmp 42) rfl g2 0 T4.toArray rfl rfl HTr.out HT4F.out.infos HT4F.out.one ?_))
      have HMr : Hid (MW w (w51.setCells g2 0 T4) [(gk, 49, K2), (g2, 56, T4), (g1, 56, T4)]) := MW.set (pre := [(gk, 49, K2)]) (post := [(g1, 56, T4)]) HM51.out (HT4F.out.len HZF.out)
      (try simp only [Exit.inBlock, Exit.then])
      refine bodyPost_ret (results_c1 rfl rfl (HMr.out.range (.tail _ (.head _))) Tryz.underlying56 rfl HT4F.out.info) rfl ?_
      refine ⟨?_, HMr.out.bel⟩
      rw [HV.out, HT4E.out]
    · have hz2 : (k2 != 0) = true := by simp [hz]
      have HV : Hid (tt = { rm0 ep with over := true }) := by show _ = _; rw [HTT.out, if_neg hz]
      clear HTT hz
      obtain ⟨U, hU⟩ : ∃ U : List Value, U = rL { rm0 ep with over := true } := ⟨_, rfl⟩
      have HUF : Hid (FitL 56 U) := by show FitL _ _; rw [hU]; exact fitR (WR.rm0 HEPW.out true)
      have HUE := Lib.hid hU
      have HUA : Hid (U.toArray = #[.bool false, .bool false, .bool false, .bool false, .bool false, .bool false, .bool false, .bool false, .int .i64 0, .int .i64 0, .int .i64 0, .int .i64 0, .int .i64 0, .int .i64 0, .int .i64 0, .int .i64 0, .int .i64 ep, .bool false, .int .i64 0, .int .i64 0, .int .i64 0, .int .i64 0, .int .i64 0, .int .i64 0, .int .i64 0, .int .i64 0, .int .i64 0, .int .i64 0, .int .i64 0, .int .i64 0, .int .i64 0, .int .i64 0, .int .i64 0, .int .i64 0, .int .i64 0, .int .i64 0, .int .i64 0, .int .i64 0, .bool true]) := by show _ = _; rw [hU]; rfl
      clear hU
      have ck1 : wc.cell? ⟨g1, 16, none⟩ = some (.int .i64 ep) := by rw [HM50.out.cell (.tail _ (.tail _ (.head _)))]; exact HC0.out
      have HTr : Hid (wc.there g2 0 U.toArray.size) := HM50.out.there (.tail _ (.head _)) 0 _ (by show 0 + U.length ≤ Z.length; rw [HUF.out.len HZF.out]; omega)
      go_wp2_with (first
        | ((with_reducible show wpList _ _ _ (⟨none, .store _ (.tmp 6) _, _, _, _, _⟩ :: _) _ _); refine wpList_store_mid rfl 56 (.tmp 6) (.tmp 39) rfl g2 0 U.toArray rfl (congrArg Value.agg HUA.out.symm) HTr.out HUF.out.infos HUF.out.one ?_))
      have HMr : Hid (MW w (wc.setCells g2 0 U) [(gk, 49, K2), (g2, 56, U), (g1, 56, T3)]) := MW.set (pre := [(gk, 49, K2)]) (post := [(g1, 56, T3)]) HM50.out (HUF.out.len HZF.out)
      (try simp only [Exit.inBlock, Exit.then])
      refine bodyPost_ret (results_c1 rfl rfl (HMr.out.range (.tail _ (.head _))) Tryz.underlying56 rfl HUF.out.info) rfl ?_
      refine ⟨?_, HMr.out.bel⟩
      rw [HV.out, HUE.out]
end Go.Proofs.YtmkifedcanmjoaaGreat
/- room.Leave (contract). Conditions: none. -/
set_option linter.unusedVariables false
set_option linter.unusedSimpArgs false
namespace Go.Proofs.YtmkifedcanmjoaaGreat
open Go.RowKit
attribute [local go_sem ↓] Go.wp_at_zero Go.wp_at_succ
set_option maxRecDepth 100000 in
set_option maxHeartbeats 6400000 in
theorem findR_lt {r : Rm} {a : Int} : (findR r a).1 < 8 := by
  unfold findR
  split
  · decide
  · split
    · rename_i i h
      have : ∀ f i j, findFrom r.t a f i = some j → j < i + f := by
        intro f
        induction f with
        | zero => intro i j h; cases h
        | succ f ih =>
          intro i j h
          unfold findFrom at h
          split at h
          · injection h with h; omega
          · have := ih (i + 1) j h; omega
      have := this 8 0 i h
      show i < 8
      omega
    · decide
set_option maxRecDepth 100000 in
set_option maxHeartbeats 6400000 in
theorem leave_c (r : Rm) (a now : Int) (w : World) (hr : WR r) (hnow : NowB now) :
    Calls Tryz.prog 15 #[.agg (rL r).toArray, .int .i64 a, .int .i64 now] w fun e w' => e = .returned (.tuple #[.agg (rL (leaveR r a now).1).toArray, .int .i64 (leaveR r a now).2]) ∧ Below w.heap.size w w' := by
  have HWR := Lib.hid hr
  obtain ⟨T, hT⟩ : ∃ T : List Value, T = rL r := ⟨_, rfl⟩
  have HTF : Hid (FitL 56 T) := by show FitL _ _; rw [hT]; exact fitR hr
  have HTE := Lib.hid hT
  obtain ⟨Z, hZ⟩ : ∃ Z : List Value, Z = [.bool false, .bool false, .bool false, .bool false, .bool false, .bool false, .bool false, .bool false, .int .i64 0, .int .i64 0, .int .i64 0, .int .i64 0, .int .i64 0, .int .i64 0, .int .i64 0, .int .i64 0, .int .i64 0, .bool false, .int .i64 0, .int .i64 0, .int .i64 0, .int .i64 0, .int .i64 0, .int .i64 0, .int .i64 0, .int .i64 0, .int .i64 0, .int .i64 0, .int .i64 0, .int .i64 0, .int .i64 0, .int .i64 0, .int .i64 0, .int .i64 0, .int .i64 0, .int .i64 0, .int .i64 0, .int .i64 0, .bool false] := ⟨_, rfl⟩
  have HZF : Hid (FitL 56 Z) := by show FitL _ _; rw [hZ]; exact fit0R
  have HZE := Lib.hid hZ
  obtain ⟨q, hq⟩ : ∃ q, q = findR r a := ⟨_, rfl⟩
  have HQE := Lib.hid hq
  have HQ8 : Hid (q.1 < 8) := by show _ < _; rw [hq]; exact findR_lt
  obtain ⟨i, hi⟩ : ∃ i, i = q.1 := ⟨_, rfl⟩
  obtain ⟨e2, he2⟩ : ∃ e2, e2 = q.2 := ⟨_, rfl⟩
  obtain ⟨r1, hr1⟩ : ∃ r1, r1 = goneR r i now := ⟨_, rfl⟩
  have HR1E := Lib.hid hr1
  have HR1 : Hid (WR r1) := by show WR _; rw [hr1]; exact hr.gone i hnow
  obtain ⟨T1, hT1⟩ : ∃ T1 : List Value, T1 = rL r1 := ⟨_, rfl⟩
  have HT1F : Hid (FitL 56 T1) := by show FitL _ _; rw [hT1]; exact fitR HR1.out
  have HT1E := Lib.hid hT1
  obtain ⟨tt, htt⟩ : ∃ tt, tt = leaveR r a now := ⟨_, rfl⟩
  have HTT : Hid (tt = if e2 = 0 then (r1, 0) else (r, e2)) := by
    show _ = _
    rw [htt, he2, hr1, hi, hq]
    unfold leaveR
    by_cases h : (findR r a).2 = 0
    · rw [if_neg (by simp [h]), if_pos h]
    · rw [if_pos h, if_neg h]
  have FND : Hid (∀ (wx : World), Calls Tryz.prog 36 #[.agg T.toArray, .int .i64 a] wx fun e w' => e = .returned (.tuple #[.int .i64 (i : Int), .int .i64 e2]) ∧ Below wx.heap.size wx w') := fun wx => by rw [HTE.out, he2, hi, hq]; exact findR_c r a wx HWR.out
  have GON : Hid (∀ (wx : World), Calls Tryz.prog 37 #[.agg T.toArray, .int .i64 (i : Int), .int .i64 now] wx fun e w' => e = .returned (.agg T1.toArray) ∧ Below wx.heap.size wx w') := fun wx => by rw [HTE.out, HT1E.out, HR1E.out]; exact gone_c r i now wx HWR.out (by rw [hi]; exact HQ8.out) hnow
  rw [← hT, ← htt]
  clear hT hT1 hq hr htt hr1 hi he2 hnow
  obtain ⟨g1, hg1⟩ : ∃ g1, g1 = w.heap.size := ⟨_, rfl⟩
  obtain ⟨g2, hg2⟩ : ∃ g2, g2 = w.heap.size + 1 := ⟨_, rfl⟩
  obtain ⟨w1, hw1⟩ : ∃ w1, w1 = (w.alloc (.cells T.toArray 56)).alloc (.cells #[.bool false, .bool false, .bool false, .bool false, .bool false, .bool false, .bool false, .bool false, .int .i64 0, .int .i64 0, .int .i64 0, .int .i64 0, .int .i64 0, .int .i64 0, .int .i64 0, .int .i64 0, .int .i64 0, .bool false, .int .i64 0, .int .i64 0, .int .i64 0, .int .i64 0, .int .i64 0, .int .i64 0, .int .i64 0, .int .i64 0, .int .i64 0, .int .i64 0, .int .i64 0, .int .i64 0, .int .i64 0, .int .i64 0, .int .i64 0, .int .i64 0, .int .i64 0, .int .i64 0, .int .i64 0, .int .i64 0, .bool false] 56) := ⟨_, rfl⟩
  have HM1 : Hid (MW w w1 [(g2, 56, Z), (g1, 56, T)]) := by
    show MW _ _ _
    have h := (((MW.start w).alloc 56 T).alloc 56 Z)
    try simp only [World.size_alloc] at h
    rw [hZ, hw1, hg1, hg2]
    rw [hZ] at h
    exact h
  go_enter Tryz.func15, Tryz.ntmps15
  go_upto_region 1 with fail
  rw [← hw1, ← hg2, ← hg1]
  clear hw1 hg1 hg2 hZ
  have HRW : Hid (w1.rangeAt g1 0 T) := HM1.out.range (.tail _ (.head _))
  go_wp2_with (first
    | ((with_reducible show wpList _ _ _ (⟨some 11, .load _ (.tmp 3), _, _, _, _⟩ :: _) _ _); refine wpList_load_mid rfl 56 (.tmp 3) rfl g1 0 rfl T _ HRW.out Tryz.underlying56 rfl HTF.out.info ?_))
  clear HRW
  refine (FND.out w1).mono ?_
  rintro e0 w2 ⟨rfl, hbq⟩
  have HM2 : Hid (MW w w2 [(g2, 56, Z), (g1, 56, T)]) := HM1.out.call hbq
  clear hbq HM1
  by_cases hz : e2 = 0
  · subst hz
    have HV : Hid (tt = (r1, 0)) := by show _ = _; rw [HTT.out, if_pos rfl]
    clear HTT
    have HRW : Hid (w2.rangeAt g1 0 T) := HM2.out.range (.tail _ (.head _))
    go_wp2_with (first
      | ((with_reducible show wpList _ _ _ (⟨some 20, .load _ (.tmp 3), _, _, _, _⟩ :: _) _ _); refine wpList_load_mid rfl 56 (.tmp 3) rfl g1 0 rfl T _ HRW.out Tryz.underlying56 rfl HTF.out.info ?_))
    clear HRW
    refine (GON.out w2).mono ?_
    rintro e0 w3 ⟨rfl, hbq⟩
    have HM3 : Hid (MW w w3 [(g2, 56, Z), (g1, 56, T)]) := HM2.out.call hbq
    clear hbq HM2
    have HTr : Hid (w3.there g2 0 T1.toArray.size) := HM3.out.there (.head _) 0 _ (by show 0 + T1.length ≤ Z.length; rw [HT1F.out.len HZF.out]; omega)
    go_wp2_with (first
      | ((with_reducible show wpList _ _ _ (⟨none, .store _ (.tmp 6) _, _, _, _, _⟩ :: _) _ _); refine wpList_store_mid rfl 56 (.tmp 6) (.tmp 23) rfl g2 0 T1.toArray rfl rfl HTr.out HT1F.out.infos HT1F.out.one ?_))
    have HMr : Hid (MW w (w3.setCells g2 0 T1) [(g2, 56, T1), (g1, 56, T)]) := MW.set (pre := []) (post := [(g1, 56, T)]) HM3.out (HT1F.out.len HZF.out)
    (try simp only [Exit.inBlock, Exit.then])
    refine bodyPost_ret (results_c2 rfl rfl (HMr.out.range (.head _)) Tryz.underlying56 rfl HT1F.out.info) rfl ?_
    refine ⟨?_, HMr.out.bel⟩
    rw [HV.out, HT1E.out]
    rfl
  · have hz2 : (e2 != 0) = true := by simp [hz]
    have HV : Hid (tt = (r, e2)) := by show _ = _; rw [HTT.out, if_neg hz]
    clear HTT hz
    have HRr : Hid (w2.rangeAt g1 0 T) := HM2.out.range (.tail _ (.head _))
    have HTr : Hid (w2.there g2 0 T.toArray.size) := HM2.out.there (.head _) 0 _ (by show 0 + T.length ≤ Z.length; rw [HTF.out.len HZF.out]; omega)
    go_wp2_with (first
      | ((with_reducible show wpList _ _ _ (⟨some 18, .load _ (.tmp 3), _, _, _, _⟩ :: _) _ _); refine wpList_load_mid rfl 56 (.tmp 3) rfl g1 0 rfl T _ HRr.out Tryz.underlying56 rfl HTF.out.info ?_)
      | ((with_reducible show wpList _ _ _ (⟨none, .store _ (.tmp 6) _, _, _, _, _⟩ :: _) _ _); refine wpList_store_mid rfl 56 (.tmp 6) (.tmp 18) rfl g2 0 T.toArray rfl rfl HTr.out HTF.out.infos HTF.out.one ?_))
    have HMr : Hid (MW w (w2.setCells g2 0 T) [(g2, 56, T), (g1, 56, T)]) := MW.set (pre := []) (post := [(g1, 56, T)]) HM2.out (HTF.out.len HZF.out)
    (try simp only [Exit.inBlock, Exit.then])
    refine bodyPost_ret (results_c2 rfl rfl (HMr.out.range (.head _)) Tryz.underlying56 rfl HTF.out.info) rfl ?_
    refine ⟨?_, HMr.out.bel⟩
    rw [HV.out, HTE.out]
    rfl
end Go.Proofs.YtmkifedcanmjoaaGreat
/- room.Alive (contract). Conditions: none. -/
set_option linter.unusedVariables false
set_option linter.unusedSimpArgs false
namespace Go.Proofs.YtmkifedcanmjoaaGreat
open Go.RowKit
attribute [local go_sem ↓] Go.wp_at_zero Go.wp_at_succ
set_option maxRecDepth 100000 in
set_option maxHeartbeats 6400000 in
theorem WR.alive {r : Rm} (h : WR r) (a : Int) {now : Int} (hb : NowB now) : WR (aliveR r a now).1 := by
  unfold aliveR
  split
  · exact h
  · exact h.setSeen _ hb
theorem alive_t (r : Rm) (a now : Int) : (aliveR r a now).1.t = r.t := by
  unfold aliveR
  split <;> rfl
set_option maxRecDepth 100000 in
set_option maxHeartbeats 6400000 in
theorem alive_c (r : Rm) (a now : Int) (w : World) (hr : WR r) (hnow : NowB now) :
    Calls Tryz.prog 88 #[.agg (rL r).toArray, .int .i64 a, .int .i64 now] w fun e w' => e = .returned (.tuple #[.agg (rL (aliveR r a now).1).toArray, .int .i64 (aliveR r a now).2]) ∧ Below w.heap.size w w' := by
  have HWR := Lib.hid hr
  obtain ⟨T, hT⟩ : ∃ T : List Value, T = rL r := ⟨_, rfl⟩
  have HTF : Hid (FitL 56 T) := by show FitL _ _; rw [hT]; exact fitR hr
  have HTE := Lib.hid hT
  obtain ⟨Z, hZ⟩ : ∃ Z : List Value, Z = [.bool false, .bool false, .bool false, .bool false, .bool false, .bool false, .bool false, .bool false, .int .i64 0, .int .i64 0, .int .i64 0, .int .i64 0, .int .i64 0, .int .i64 0, .int .i64 0, .int .i64 0, .int .i64 0, .bool false, .int .i64 0, .int .i64 0, .int .i64 0, .int .i64 0, .int .i64 0, .int .i64 0, .int .i64 0, .int .i64 0, .int .i64 0, .int .i64 0, .int .i64 0, .int .i64 0, .int .i64 0, .int .i64 0, .int .i64 0, .int .i64 0, .int .i64 0, .int .i64 0, .int .i64 0, .int .i64 0, .bool false] := ⟨_, rfl⟩
  have HZF : Hid (FitL 56 Z) := by show FitL _ _; rw [hZ]; exact fit0R
  have HZE := Lib.hid hZ
  obtain ⟨q, hq⟩ : ∃ q, q = findR r a := ⟨_, rfl⟩
  have HQ8 : Hid (q.1 < 8) := by show _ < _; rw [hq]; exact findR_lt
  obtain ⟨i, hi⟩ : ∃ i, i = q.1 := ⟨_, rfl⟩
  obtain ⟨e2, he2⟩ : ∃ e2, e2 = q.2 := ⟨_, rfl⟩
  obtain ⟨r1, hr1⟩ : ∃ r1, r1 = { r with seen := r.seen.set i now } := ⟨_, rfl⟩
  have HR1E := Lib.hid hr1
  have HR1 : Hid (WR r1) := by show WR _; rw [hr1]; exact hr.setSeen i hnow
  have hi8 : i < 8 := by rw [hi]; exact HQ8.out
  have HI8 := Lib.hid hi8
  have hin0 : (0 : Int) ≤ (i : Int) := by omega
  have hini : (i : Int) < 8 := by omega
  obtain ⟨T1, hT1⟩ : ∃ T1 : List Value, T1 = rL r1 := ⟨_, rfl⟩
  have HT1F : Hid (FitL 56 T1) := by show FitL _ _; rw [hT1]; exact fitR HR1.out
  have HT1E := Lib.hid hT1
  have HC1 : Hid (T[22 + i]? = some (.int .i64 (seenAt r i))) := by show _ = _; rw [hT]; exact rL_seen hr hi8
  have HS1 : Hid (T.set (22 + i) (.int .i64 now) = T1) := by show _ = _; rw [hT, hT1, hr1]; exact rL_setSeen hr hi8 now
  obtain ⟨tt, htt⟩ : ∃ tt, tt = aliveR r a now := ⟨_, rfl⟩
  have HTT : Hid (tt = if e2 = 0 then (r1, 0) else (r, e2)) := by
    show _ = _
    rw [htt, he2, hr1, hi, hq]
    unfold aliveR
    by_cases h : (findR r a).2 = 0
    · rw [if_neg (by simp [h]), if_pos h]
    · rw [if_pos h, if_neg h]
  have FND : Hid (∀ (wx : World), Calls Tryz.prog 36 #[.agg T.toArray, .int .i64 a] wx fun e w' => e = .returned (.tuple #[.int .i64 (i : Int), .int .i64 e2]) ∧ Below wx.heap.size wx w') := fun wx => by rw [HTE.out, he2, hi, hq]; exact findR_c r a wx HWR.out
  rw [← hT, ← htt]
  clear hT hT1 hq hr htt hr1 hi he2 hnow hi8
  obtain ⟨g1, hg1⟩ : ∃ g1, g1 = w.heap.size := ⟨_, rfl⟩
  obtain ⟨g2, hg2⟩ : ∃ g2, g2 = w.heap.size + 1 := ⟨_, rfl⟩
  obtain ⟨w1, hw1⟩ : ∃ w1, w1 = (w.alloc (.cells T.toArray 56)).alloc (.cells #[.bool false, .bool false, .bool false, .bool false, .bool false, .bool false, .bool false, .bool false, .int .i64 0, .int .i64 0, .int .i64 0, .int .i64 0, .int .i64 0, .int .i64 0, .int .i64 0, .int .i64 0, .int .i64 0, .bool false, .int .i64 0, .int .i64 0, .int .i64 0, .int .i64 0, .int .i64 0, .int .i64 0, .int .i64 0, .int .i64 0, .int .i64 0, .int .i64 0, .int .i64 0, .int .i64 0, .int .i64 0, .int .i64 0, .int .i64 0, .int .i64 0, .int .i64 0, .int .i64 0, .int .i64 0, .int .i64 0, .bool false] 56) := ⟨_, rfl⟩
  have HM1 : Hid (MW w w1 [(g2, 56, Z), (g1, 56, T)]) := by
    show MW _ _ _
    have h := (((MW.start w).alloc 56 T).alloc 56 Z)
    try simp only [World.size_alloc] at h
    rw [hZ, hw1, hg1, hg2]
    rw [hZ] at h
    exact h
  go_enter Tryz.func88, Tryz.ntmps88
  go_upto_region 1 with fail
  rw [← hw1, ← hg2, ← hg1]
  clear hw1 hg1 hg2 hZ
  have HRW : Hid (w1.rangeAt g1 0 T) := HM1.out.range (.tail _ (.head _))
  go_wp2_with (first
    | ((with_reducible show wpList _ _ _ (⟨some 11, .load _ (.tmp 3), _, _, _, _⟩ :: _) _ _); refine wpList_load_mid rfl 56 (.tmp 3) rfl g1 0 rfl T _ HRW.out Tryz.underlying56 rfl HTF.out.info ?_))
  clear HRW
  refine (FND.out w1).mono ?_
  rintro e0 w2 ⟨rfl, hbq⟩
  have HM2 : Hid (MW w w2 [(g2, 56, Z), (g1, 56, T)]) := HM1.out.call hbq
  clear hbq HM1
  by_cases hz : e2 = 0
  · subst hz
    have HV : Hid (tt = (r1, 0)) := by show _ = _; rw [HTT.out, if_pos rfl]
    clear HTT
    have ck1 : w2.cell? ⟨g1, 22 + i, none⟩ = some (.int .i64 (seenAt r i)) := by rw [HM2.out.cell (.tail _ (.head _))]; exact HC1.out
    have fk1 : w2.frozen? ⟨g1, 22 + i, none⟩ = false := HM2.out.frozen (.tail _ (.head _)) _
    go_upto_region 5 with fail
    obtain ⟨w3, hw3⟩ : ∃ w3, w3 = w2.setCell ⟨g1, 22 + i, none⟩ (.int .i64 now) := ⟨_, rfl⟩
    have HM3 : Hid (MW w w3 [(g2, 56, Z), (g1, 56, T1)]) := by show MW _ _ _; rw [hw3]; exact (by have h := MW.set1 (pre := [(g2, 56, Z)]) (post := []) HM2.out (22 + i) (.int .i64 now); rw [HS1.out] at h; exact h)
    rw [← hw3]
    clear hw3 HM2
    clear ck1 fk1
    have HRr : Hid (w3.rangeAt g1 0 T1) := HM3.out.range (.tail _ (.head _))
    have HTr : Hid (w3.there g2 0 T1.toArray.size) := HM3.out.there (.head _) 0 _ (by show 0 + T1.length ≤ Z.length; rw [HT1F.out.len HZF.out]; omega)
    go_wp2_with (first
      | ((with_reducible show wpList _ _ _ (⟨some 24, .load _ (.tmp 3), _, _, _, _⟩ :: _) _ _); refine wpList_load_mid rfl 56 (.tmp 3) rfl g1 0 rfl T1 _ HRr.out Tryz.underlying56 rfl HT1F.out.info ?_)
      | ((with_reducible show wpList _ _ _ (⟨none, .store _ (.tmp 6) _, _, _, _, _⟩ :: _) _ _); refine wpList_store_mid rfl 56 (.tmp 6) (.tmp 24) rfl g2 0 T1.toArray rfl rfl HTr.out HT1F.out.infos HT1F.out.one ?_))
    have HMr : Hid (MW w (w3.setCells g2 0 T1) [(g2, 56, T1), (g1, 56, T1)]) := MW.set (pre := []) (post := [(g1, 56, T1)]) HM3.out (HT1F.out.len HZF.out)
    (try simp only [Exit.inBlock, Exit.then])
    refine bodyPost_ret (results_c2 rfl rfl (HMr.out.range (.head _)) Tryz.underlying56 rfl HT1F.out.info) rfl ?_
    refine ⟨?_, HMr.out.bel⟩
    rw [HV.out, HT1E.out]
    rfl
  · have hz2 : (e2 != 0) = true := by simp [hz]
    have HV : Hid (tt = (r, e2)) := by show _ = _; rw [HTT.out, if_neg hz]
    clear HTT hz
    have HRr : Hid (w2.rangeAt g1 0 T) := HM2.out.range (.tail _ (.head _))
    have HTr : Hid (w2.there g2 0 T.toArray.size) := HM2.out.there (.head _) 0 _ (by show 0 + T.length ≤ Z.length; rw [HTF.out.len HZF.out]; omega)
    go_wp2_with (first
      | ((with_reducible show wpList _ _ _ (⟨some 18, .load _ (.tmp 3), _, _, _, _⟩ :: _) _ _); refine wpList_load_mid rfl 56 (.tmp 3) rfl g1 0 rfl T _ HRr.out Tryz.underlying56 rfl HTF.out.info ?_)
      | ((with_reducible show wpList _ _ _ (⟨none, .store _ (.tmp 6) _, _, _, _, _⟩ :: _) _ _); refine wpList_store_mid rfl 56 (.tmp 6) (.tmp 18) rfl g2 0 T.toArray rfl rfl HTr.out HTF.out.infos HTF.out.one ?_))
    have HMr : Hid (MW w (w2.setCells g2 0 T) [(g2, 56, T), (g1, 56, T)]) := MW.set (pre := []) (post := [(g1, 56, T)]) HM2.out (HTF.out.len HZF.out)
    (try simp only [Exit.inBlock, Exit.then])
    refine bodyPost_ret (results_c2 rfl rfl (HMr.out.range (.head _)) Tryz.underlying56 rfl HTF.out.info) rfl ?_
    refine ⟨?_, HMr.out.bel⟩
    rw [HV.out, HTE.out]
    rfl
end Go.Proofs.YtmkifedcanmjoaaGreat
/- desk.heard, desk.coming (contracts). Conditions: none. -/
set_option linter.unusedVariables false
set_option linter.unusedSimpArgs false
namespace Go.Proofs.YtmkifedcanmjoaaGreat
open Go.RowKit
attribute [local go_sem ↓] Go.wp_at_zero Go.wp_at_succ
set_option maxRecDepth 100000 in
set_option maxHeartbeats 3200000 in
theorem comingH_c {L : Lab} {w : World} {g : Nat} {P : Ptrs} {D : DeskD} (hd : DeskM L w g P D) {i : Nat} (hi : i < 4) :
    Calls Tryz.prog 108 #[.pointer (some ⟨g, i * 367, none⟩)] w fun e w' => e = .returned (.int .i64 (comingK (D.hall i).r.k)) ∧ Below w.heap.size w w' := by
  obtain ⟨K, hK⟩ : ∃ K, K = kL (D.hall i).r.k := ⟨_, rfl⟩
  have HKF : Hid (FitL 49 K) := by show FitL _ _; rw [hK]; exact fitK _
  have HRG : Hid (w.rangeAt g (i * 367 + 16) K) := by show World.rangeAt _ _ _ _; rw [hK, Nat.mul_comm]; exact hd.part _ _ fun C hC => hC.kpart hi
  have HCO : Hid (∀ (wx : World), Calls Tryz.prog 39 #[.agg K.toArray] wx fun e w' => e = .returned (.int .i64 (comingK (D.hall i).r.k)) ∧ Below wx.heap.size wx w') := fun wx => by rw [hK]; exact coming_c _ wx
  clear hK hd
  go_enter Tryz.func108, Tryz.ntmps108
  go_wp2_with (first
    | ((with_reducible show wpList _ _ _ (⟨some 7, .load _ (.tmp 6), _, _, _, _⟩ :: _) _ _); refine wpList_load_mid rfl 49 (.tmp 6) rfl g (i * 367 + 16) rfl K _ HRG.out Tryz.underlying49 rfl HKF.out.info ?_))
  refine (HCO.out w).mono ?_
  rintro e0 w2 ⟨rfl, hbq⟩
  have HB := Lib.hid hbq
  clear hbq
  go_wp2_with fail
  go_ret
  exact ⟨rfl, HB.out⟩
set_option maxRecDepth 100000 in
set_option maxHeartbeats 6400000 in
theorem heard_c {L : Lab} {w : World} {g : Nat} {P : Ptrs} {D : DeskD} (hd : DeskM L w g P D) {i : Nat} (hi : i < 4) (a : Int) :
    Calls Tryz.prog 53 #[.pointer (some ⟨g, 0, none⟩), .pointer (some ⟨g, i * 367, none⟩), .int .i64 a] w fun e w' => e = .returned (.tuple #[]) ∧ DeskM L w' g P (heardD D i a) ∧ Stp dskX L L w w' := by
  obtain ⟨T, hT⟩ : ∃ T, T = rL (D.hall i).r := ⟨_, rfl⟩
  have HTE := Lib.hid hT
  have HTF : Hid (FitL 56 T) := by show FitL _ _; rw [hT]; exact fitR (hd.wr hi)
  obtain ⟨q, hq⟩ : ∃ q, q = aliveR (D.hall i).r a D.now := ⟨_, rfl⟩
  have HQE := Lib.hid hq
  have HQ : Hid (WR q.1) := by show WR _; rw [hq]; exact (hd.wr hi).alive a hd.nowAt.2
  have HQG : Hid (goodT q.1.t = true) := by show _ = _; rw [hq, alive_t]; exact hd.tg hi
  obtain ⟨U, hU⟩ : ∃ U, U = rL q.1 := ⟨_, rfl⟩
  have HUE := Lib.hid hU
  have HUF : Hid (FitL 56 U) := by show FitL _ _; rw [hU]; exact fitR HQ.out
  obtain ⟨now, hnow⟩ : ∃ now, now = D.now := ⟨_, rfl⟩
  have HNE := Lib.hid hnow
  have ALV : Hid (∀ (wx : World), Calls Tryz.prog 88 #[.agg T.toArray, .int .i64 a, .int .i64 now] wx fun e w' => e = .returned (.tuple #[.agg U.toArray, .int .i64 q.2]) ∧ Below wx.heap.size wx w') := fun wx => by rw [HTE.out, HUE.out, HNE.out, HQE.out]; exact alive_c _ a _ wx (hd.wr hi) hd.nowAt.2
  have HD := Lib.hid hd
  have HI := Lib.hid hi
  have e1 : heardD D i a = D.setRoom i q.1 := by rw [hq]; rfl
  rw [e1]
  clear hd hi hT hq hU hnow e1
  go_enter Tryz.func53, Tryz.ntmps53
  go_upto_region 0 with fail
  obtain ⟨w1, hw1⟩ : ∃ w1, w1 = w.drew := ⟨_, rfl⟩
  have HM1 : Hid (DeskM L w1 g P D) := by show DeskM _ _ _ _ _; rw [hw1]; exact HD.out.below (bdrew (Below.refl _ _))
  have HB1 : Hid (Below w.heap.size w w1) := by show Below _ _ _; rw [hw1]; exact bdrew (Below.refl _ _)
  have HC1 : Hid (w1.cell? ⟨g, 1468, none⟩ = some (.int .i64 now)) := by show _ = _; rw [HNE.out]; exact HM1.out.nowAt.1
  refine wp_region_held_drew (S := (fun w' => w'.cell? ⟨g, 1468, none⟩ = some (.int .i64 now))) (by kernel_rfl) (by rw [← hw1]; exact HC1.out) (fun hHeld => ?_)
  rw [← hw1] at hHeld ⊢
  clear hw1
  refine wpAnyH_takeAt (i := 0) (v := (.pointer (some ⟨g, i * 367, none⟩))) rfl (by kernel_rfl) (by kernel_rfl) (by kernel_rfl) (fun _ _ _ h => h) rfl (Or.inl ⟨by rfl, fun w' hS => ?_⟩) hHeld ?_
  · go_simp
  simp only [List.set_cons_zero, List.set_cons_succ]
  refine wpAnyH_takeAt (i := 1) (v := (.pointer (some ⟨g, i * 367, none⟩))) rfl (by kernel_rfl) (by kernel_rfl) (by kernel_rfl) (fun _ _ _ h => h) rfl (Or.inl ⟨by rfl, fun w' hS => ?_⟩) hHeld ?_
  · go_simp
  simp only [List.set_cons_zero, List.set_cons_succ]
  refine wpAnyH_takeAt (i := 2) (v := (.pointer (some ⟨g, i * 367, none⟩))) rfl (by kernel_rfl) (by kernel_rfl) (by kernel_rfl) (fun _ _ _ h => h) rfl (Or.inl ⟨by rfl, fun w' hS => ?_⟩) hHeld ?_
  · go_simp
  simp only [List.set_cons_zero, List.set_cons_succ]
  refine wpAnyH_takeAt (i := 3) (v := (.pointer (some ⟨g, i * 367, none⟩))) rfl (by kernel_rfl) (by kernel_rfl) (by kernel_rfl) (fun _ _ _ h => h) rfl (Or.inl ⟨by rfl, fun w' hS => ?_⟩) hHeld ?_
  · go_simp
  simp only [List.set_cons_zero, List.set_cons_succ]
  refine wpAnyH_takeAt (i := 5) (v := (.int .i64 a)) rfl (by kernel_rfl) (by kernel_rfl) (by kernel_rfl) (fun _ _ _ h => h) rfl (Or.inl ⟨by rfl, fun w' hS => ?_⟩) hHeld ?_
  · go_simp
  simp only [List.set_cons_zero, List.set_cons_succ]
  refine wpAnyH_takeAt (i := 6) (v := (.pointer (some ⟨g, 0, none⟩))) rfl (by kernel_rfl) (by kernel_rfl) (by kernel_rfl) (fun _ _ _ h => h) rfl (Or.inl ⟨by rfl, fun w' hS => ?_⟩) hHeld ?_
  · go_simp
  simp only [List.set_cons_zero, List.set_cons_succ]
  refine wpAnyH_takeAt (i := 7) (v := (.pointer (some ⟨g, 0, none⟩))) rfl (by kernel_rfl) (by kernel_rfl) (by kernel_rfl) (fun _ _ _ h => h) rfl (Or.inl ⟨by rfl, fun w' hS => ?_⟩) hHeld ?_
  · go_simp
  simp only [List.set_cons_zero, List.set_cons_succ]
  refine wpAnyH_takeAt (i := 8) (v := (.pointer (some ⟨g, 1468, none⟩))) rfl (by kernel_rfl) (by kernel_rfl) (by kernel_rfl) (fun _ _ _ h => h) rfl (Or.inl ⟨by rfl, fun w' hS => ?_⟩) hHeld ?_
  · go_simp
  simp only [List.set_cons_zero, List.set_cons_succ]
  refine wpAnyH_takeAt (i := 9) (v := (.int .i64 now)) rfl (by kernel_rfl) (by kernel_rfl) (by kernel_rfl) (fun _ _ _ h => h) rfl (Or.inl ⟨by rfl, fun w' hS => ?_⟩) hHeld ?_
  · have q0 : w'.cell? ⟨g, 1468, none⟩ = _ := hS
    go_simp
  simp only [List.set_cons_zero, List.set_cons_succ]
  refine wpAnyH_ready (rs := [4]) (by kernel_rfl) (by simp) (AllReadyH.cons rfl (fun K' hK => ?_) AllReadyH.nil)
  rw [if_pos (by rfl)]
  refine wp_load_mid 56 (.tmp 10) (by rfl) g (i * 367) (by rfl) T _ (by rw [HTE.out]; exact HM1.out.roomAt HI.out) Tryz.underlying56 rfl HTF.out.info ?_
  refine hK.out _ _ HC1.out (fun hHeld' => ?_)
  clear hK hHeld 
  have hHeld := hHeld'
  clear hHeld'
  refine wpAnyH_putAt rfl ?_
  simp only [List.set_cons_zero, List.set_cons_succ]
  refine wpAnyH_ready (rs := [10]) (by kernel_rfl) (by simp) (AllReadyH.cons rfl (fun K' hK => ?_) AllReadyH.nil)
  go_simp
  go_at_call 88
  refine (ALV.out w1).mono ?_
  rintro e0 w2 ⟨rfl, hbq⟩
  have HM2 : Hid (DeskM L w2 g P D) := HM1.out.below hbq
  have HB2 : Hid (Below w.heap.size w w2) := bcall HB1.out hbq
  have HC2 : Hid (w2.cell? ⟨g, 1468, none⟩ = some (.int .i64 now)) := by show _ = _; rw [HNE.out]; exact HM2.out.nowAt.1
  clear hbq
  go_wp2_with fail
  refine hK.out _ _ HC2.out (fun hHeld' => ?_)
  clear hK hHeld 
  have hHeld := hHeld'
  clear hHeld'
  refine wpAnyH_takeAt (i := 11) (v := (.tuple #[.agg U.toArray, .int .i64 q.2])) rfl (by kernel_rfl) (by kernel_rfl) (by kernel_rfl) (fun _ _ _ h => h) rfl (Or.inl ⟨by rfl, fun w' hS => ?_⟩) hHeld ?_
  · go_simp
  simp only [List.set_cons_zero, List.set_cons_succ]
  refine wpAnyH_takeAt (i := 12) (v := (.agg U.toArray)) rfl (by kernel_rfl) (by kernel_rfl) (by kernel_rfl) (fun _ _ _ h => h) rfl (Or.inl ⟨by rfl, fun w' hS => ?_⟩) hHeld ?_
  · go_simp
  simp only [List.set_cons_zero, List.set_cons_succ]
  refine wpAnyH_takeAt (i := 13) (v := (.int .i64 q.2)) rfl (by kernel_rfl) (by kernel_rfl) (by kernel_rfl) (fun _ _ _ h => h) rfl (Or.inl ⟨by rfl, fun w' hS => ?_⟩) hHeld ?_
  · go_simp
  simp only [List.set_cons_zero, List.set_cons_succ]
  refine wpAnyH_takeAt (i := 14) (v := (.pointer (some ⟨g, i * 367, none⟩))) rfl (by kernel_rfl) (by kernel_rfl) (by kernel_rfl) (fun _ _ _ h => h) rfl (Or.inl ⟨by rfl, fun w' hS => ?_⟩) hHeld ?_
  · go_simp
  simp only [List.set_cons_zero, List.set_cons_succ]
  refine wpAnyH_takeAt (i := 15) (v := (.pointer (some ⟨g, i * 367, none⟩))) rfl (by kernel_rfl) (by kernel_rfl) (by kernel_rfl) (fun _ _ _ h => h) rfl (Or.inl ⟨by rfl, fun w' hS => ?_⟩) hHeld ?_
  · go_simp
  simp only [List.set_cons_zero, List.set_cons_succ]
  refine wpAnyH_ready (rs := [16]) (by kernel_rfl) (by simp) (AllReadyH.cons rfl (fun K' hK => ?_) AllReadyH.nil)
  rw [if_pos (by rfl)]
  refine wp_store_mid 56 (.tmp 21) (.tmp 18) (by rfl) g (i * 367) U.toArray (by rfl) (by rfl) (HM2.out.thereRoom HI.out (by show U.length ≤ 39; rw [HUE.out, rL_len HQ.out]; exact Nat.le_refl _)) HUF.out.infos HUF.out.one ?_
  obtain ⟨w3, hw3⟩ : ∃ w3, w3 = w2.setCells g (i * 367) U := ⟨_, rfl⟩
  have HMS : Hid (DeskM L w3 g P (D.setRoom i q.1) ∧ Stp dskX L L w2 w3) := by rw [hw3, HUE.out]; exact HM2.out.putRoom HI.out HQ.out HQG.out
  have HC3 : Hid (w3.cell? ⟨g, 1468, none⟩ = some (.int .i64 now)) := by show _ = _; rw [HNE.out]; exact HMS.out.1.nowAt.1
  rw [← hw3]
  clear hw3
  refine hK.out _ _ HC3.out (fun hHeld' => ?_)
  clear hK hHeld 
  have hHeld := hHeld'
  clear hHeld'
  refine wpAnyH_putNone rfl ?_
  refine wpAnyH_done (by kernel_rfl) ?_ _
  go_wp2_with fail
  go_end0
  exact ⟨rfl, HMS.out.1, (Stp.below HB2.out HD.out.top).trans HMS.out.2⟩
end Go.Proofs.YtmkifedcanmjoaaGreat
/- desk.all (contract). Conditions: the note's bytes read. -/
set_option linter.unusedVariables false
set_option linter.unusedSimpArgs false
namespace Go.Proofs.YtmkifedcanmjoaaGreat
open Go.RowKit
attribute [local go_sem ↓] Go.wp_at_zero Go.wp_at_succ
def postsX : Comp → Prop := fun c => (∃ a, c = .post a) ∨ c = .counts
theorem postsX_other : ¬ postsX .other := by unfold postsX; simp
theorem postsX_temp : ¬ postsX .temp := by unfold postsX; simp
theorem tellX_posts {a : Nat} : ∀ c, tellX a c → postsX c := fun c h => h.elim (fun h => .inl ⟨a, h⟩) .inr
theorem tellD_halls (D : DeskD) (a : Nat) (k : Int) (b : List UInt8) : (tellD D a k b).halls = D.halls ∧ (tellD D a k b).now = D.now ∧ (tellD D a k b).draws = D.draws := by
  unfold tellD
  split <;> exact ⟨rfl, rfl, rfl⟩
theorem sayD_halls (D : DeskD) (a : Nat) (n : Nt.NoteD) : (sayD D a n).halls = D.halls ∧ (sayD D a n).now = D.now ∧ (sayD D a n).draws = D.draws := by
  unfold sayD
  split
  · exact tellD_halls _ _ _ _
  · exact ⟨rfl, rfl, rfl⟩
theorem allFrom_step (r : Rm) (but : Int) (n : Nt.NoteD) (f i : Nat) (D : DeskD) : allFrom r but n (f + 1) i D = allFrom r but n f (i + 1) (if usedAt r.t i && ((i : Int) != but) then sayD D (addrAt r.t i).toNat n else D) := rfl
theorem allFrom_halls (r : Rm) (but : Int) (n : Nt.NoteD) : ∀ (f i : Nat) (D : DeskD), (allFrom r but n f i D).halls = D.halls ∧ (allFrom r but n f i D).now = D.now
  | 0, _, D => ⟨rfl, rfl⟩
  | f + 1, i, D => by
    rw [allFrom_step]
    have h := allFrom_halls r but n f (i + 1) (if usedAt r.t i && ((i : Int) != but) then sayD D (addrAt r.t i).toNat n else D)
    rw [h.1, h.2]
    split
    · exact ⟨(sayD_halls _ _ _).1, (sayD_halls _ _ _).2.1⟩
    · exact ⟨rfl, rfl⟩
theorem hall_of {D E : DeskD} (h : E.halls = D.halls) (i : Nat) : E.hall i = D.hall i := by unfold DeskD.hall; rw [h]
theorem DeskM.usedAt_ {L : Lab} {w : World} {g : Nat} {P : Ptrs} {D : DeskD} (h : DeskM L w g P D) {i : Nat} (hi : i < 4) : w.rangeAt g (i * 367) ((D.hall i).r.t.used.map Value.bool) := by
  rw [Nat.mul_comm]
  refine h.part _ _ fun C hC j v hv => hC.tpart hi j v ?_
  unfold tbL
  rw [List.getElem?_append_left (get_len hv)]
  exact hv
theorem DeskM.addrCell {L : Lab} {w : World} {g : Nat} {P : Ptrs} {D : DeskD} (h : DeskM L w g P D) {i s : Nat} (hi : i < 4) (hs : s < 8) : w.cell? ⟨g, i * 367 + 8 + s, none⟩ = some (.int .i64 (addrAt (D.hall i).r.t s)) := by
  obtain ⟨C, h1, _, h2⟩ := h.cell
  rw [h1, Nat.mul_comm, Nat.add_assoc, h2.tpart hi (8 + s) _ (tbL_addr (h2.wr i hi).1 hs)]
set_option maxRecDepth 100000 in
set_option maxHeartbeats 6400000 in
theorem all_c {L : Lab} {w : World} {g : Nat} {P : Ptrs} {D : DeskD} (hd : DeskM L w g P D) {i : Nat} (hi : i < 4) (but : Int) (d : Nt.NoteD) {A : Option Addr} {c : Nat} (hv : ByV L w (.slice A d.bs.length c) d.bs) (hlen : d.bs.length ≤ 9223372036854775807) :
    Calls Tryz.prog 109 #[.pointer (some ⟨g, 0, none⟩), .pointer (some ⟨g, i * 367, none⟩), .int .i64 but, Nt.noteV d A c] w fun e w' => e = .returned (.tuple #[]) ∧ ∃ L', DeskM L' w' g P (allD D i but d) ∧ Stp postsX L L' w w' := by
  obtain ⟨r, hr⟩ : ∃ r, r = (D.hall i).r := ⟨_, rfl⟩
  have HRE0 := Lib.hid hr
  have HWR : Hid (WR r) := by show WR _; rw [hr]; exact hd.wr hi
  have HTG : Hid (goodT r.t = true) := by show _ = _; rw [hr]; exact hd.tg hi
  obtain ⟨res, hres⟩ : ∃ res, res = allD D i but d := ⟨_, rfl⟩
  have HRE : Hid (res = allFrom r but d 8 0 D) := by show _ = _; rw [hres, hr]; rfl
  have HI := Lib.hid hi
  rw [← hres]
  have HV := Lib.hid hv
  have HSAY := Lib.hid (fun (Lx : Lab) (wx : World) (Dx : DeskD) (hdx : DeskM Lx wx g P Dx) (ad : Nat) (had : ad < 64) (hvx : ByV Lx wx (.slice A d.bs.length c) d.bs) => say_c hdx had d hvx hlen)
  obtain ⟨dd, hdd⟩ : ∃ dd, dd = d := ⟨_, rfl⟩
  have HDE := Lib.hid hdd
  rw [← hdd] at HRE HV HSAY
  obtain ⟨kind, room, slot, epoch, n, m, bs⟩ := d
  have HM0 : Hid (DW postsX w L w L g P D []) := DW.start postsX hd
  obtain ⟨nb, hnb⟩ : ∃ nb, nb = bs.length := ⟨_, rfl⟩
  have HDB : Hid (dd.bs.length = nb ∧ dd.bs = bs) := by show _ ∧ _; rw [hdd, hnb]; exact ⟨rfl, rfl⟩
  have HNV : Hid (Nt.noteV dd A c = .agg #[.int .i64 kind, .int .i64 room, .int .i64 slot, .int .i64 epoch, .int .i64 n, .int .i64 m, .slice A nb c]) := by show _ = _; rw [hdd, hnb]; rfl
  rw [← hdd, HNV.out]
  rw [HNV.out] at HSAY
  obtain ⟨q, hq⟩ : ∃ q, q = w.heap.size := ⟨_, rfl⟩
  obtain ⟨w1, hw1⟩ : ∃ w1, w1 = w.alloc (.cells #[.int .i64 kind, .int .i64 room, .int .i64 slot, .int .i64 epoch, .int .i64 n, .int .i64 m, .slice A nb c] 172) := ⟨_, rfl⟩
  obtain ⟨L1, hL1⟩ : ∃ L1, L1 = tempAt L w.heap.size := ⟨_, rfl⟩
  have HM1 : Hid (DW postsX w L w1 L1 g P D [(q, 172, [.int .i64 kind, .int .i64 room, .int .i64 slot, .int .i64 epoch, .int .i64 n, .int .i64 m, .slice A nb c])]) := by
    show DW _ _ _ _ _ _ _ _ _
    rw [hw1, hq, hL1]
    exact HM0.out.alloc _ [_, _, _, _, _, _, _]
  clear hd hv hres hr hnb hlen hL1 HM0 hi hdd
  go_enter Tryz.func109, Tryz.ntmps109
  go_upto_region 1 with fail
  rw [← hw1, ← hq]
  clear hw1 hq
  obtain ⟨M, hM⟩ : ∃ M, M = (r.t.used.map Value.bool).toArray := ⟨_, rfl⟩
  have HME := Lib.hid hM
  have HIB : Hid ((Tryz.prog.info? 50).map (·.size) = some (r.t.used.map Value.bool).length) := by show _ = _; rw [List.length_map, HWR.out.1.1]; exact infoB8
  have HRU : Hid (w1.rangeAt g (i * 367) (r.t.used.map Value.bool)) := by show World.rangeAt _ _ _ _; rw [HRE0.out]; exact HM1.out.dm.usedAt_ HI.out
  go_upto_region 2 with (first
    | ((with_reducible show wpList _ _ _ (⟨some 15, .load _ (.tmp 14), _, _, _, _⟩ :: _) _ _); refine wpList_load_mid rfl 50 (.tmp 14) rfl g (i * 367) rfl (r.t.used.map Value.bool) _ HRU.out Tryz.underlying50 rfl HIB.out ?_))
  rw [← hM]
  clear hM HRU
  go_loopg [16] 8 (fun gg v wx => ∃ (s : Nat) (Ds : DeskD) (Ls : Lab), gg = 8 - s ∧ s ≤ 8 ∧ v = .int .i64 (s : Int) ∧ allFrom r but dd (8 - s) s Ds = res ∧ Ds.halls = D.halls ∧ DW postsX w L wx Ls g P Ds [(q, 172, [.int .i64 kind, .int .i64 room, .int .i64 slot, .int .i64 epoch, .int .i64 n, .int .i64 m, .slice A nb c])])
  case atStart => exact ⟨0, D, L1, rfl, by omega, rfl, HRE.out.symm, rfl, HM1.out⟩
  case round =>
    obtain ⟨s, Ds, Ls, hgg, hs, rfl, hf, hh, hmw⟩ := hrel
    have HF := Lib.hid hf
    have HGG := Lib.hid hgg
    have HH := Lib.hid hh
    have HM6 := Lib.hid hmw
    clear hf hgg hh hmw
    by_cases hin : s < 8
    · have hini : (s : Int) < 8 := by omega
      have hin0 : (0 : Int) ≤ (s : Int) := by omega
      have hw1 : IntKind.i64.wrap ((s : Int) + 1) = ((s + 1 : Nat) : Int) := by rw [IntKind.wrap_i64]; omega
      obtain ⟨u, hu⟩ : ∃ u, u = usedAt r.t s := ⟨_, rfl⟩
      obtain ⟨ad, had⟩ : ∃ ad : Nat, addrAt r.t s = (ad : Int) := ⟨(addrAt r.t s).toNat, by have := addr_fits HTG.out hin; omega⟩
      have HAD : Hid (ad < 64) := by show ad < 64; have := addr_fits HTG.out hin; omega
      obtain ⟨bt, hbt⟩ : ∃ bt, ((s : Int) != but) = bt := ⟨_, rfl⟩
      have hidx : ∀ wx, (Instr.index 50 (.agg M) (.int .i64 (s : Int))).run Tryz.prog wx = .ok (.bool u) wx := fun wx => by
        rw [HME.out, hu]
        exact index_bools wx r.t.used s hin HWR.out.1.1
      have HS : Hid (res = allFrom r but dd (8 - (s + 1)) (s + 1) (if u && bt then sayD Ds ad dd else Ds)) := by
        show _ = _
        rw [← HF.out, show 8 - s = (8 - (s + 1)) + 1 by omega, allFrom_step, hu, hbt, had, Int.toNat_natCast]
      have HLT := Lib.hid hin
      have HADE := Lib.hid had
      clear hu hin hs HF had
      cases u
      · have HS2 : Hid (allFrom r but dd (8 - (s + 1)) (s + 1) Ds = res) := by show _ = _; rw [HS.out]; rfl
        clear HS
        go_wp2_with fail
        go_roundg (8 - (s + 1))
        case measure => have := HLT.out; have := HGG.out; omega
        case rel => have hlt := HLT.out; exact ⟨s + 1, Ds, Ls, rfl, by omega, by first | rfl | go_num, HS2.out, HH.out, HM6.out⟩
      · cases bt
        · have HS2 : Hid (allFrom r but dd (8 - (s + 1)) (s + 1) Ds = res) := by show _ = _; rw [HS.out]; rfl
          clear HS
          go_wp2_with fail
          go_roundg (8 - (s + 1))
          case measure => have := HLT.out; have := HGG.out; omega
          case rel => have hlt := HLT.out; exact ⟨s + 1, Ds, Ls, rfl, by omega, by first | rfl | go_num, HS2.out, HH.out, HM6.out⟩
        · have HS2 : Hid (allFrom r but dd (8 - (s + 1)) (s + 1) (sayD Ds ad dd) = res) := by show _ = _; rw [HS.out]; rfl
          clear HS
          go_upto_region 5 with fail
          obtain ⟨wq1, hwq1⟩ : ∃ wq1, wq1 = wr.drew := ⟨_, rfl⟩
          have HMq1 : Hid (DW postsX w L wq1 Ls g P Ds [(q, 172, [.int .i64 kind, .int .i64 room, .int .i64 slot, .int .i64 epoch, .int .i64 n, .int .i64 m, .slice A nb c])]) := by show DW _ _ _ _ _ _ _ _ _; rw [hwq1]; exact HM6.out.drew
          have HCq1 : Hid (wq1.cell? ⟨g, i * 367 + 8 + s, none⟩ = some (.int .i64 (ad : Int)) ∧ Blk wq1 q 172 #[.int .i64 kind, .int .i64 room, .int .i64 slot, .int .i64 epoch, .int .i64 n, .int .i64 m, .slice A nb c]) := by
            refine ⟨?_, HMq1.out.blk (.head _)⟩
            rw [← HADE.out, HRE0.out, ← hall_of HH.out]
            exact HMq1.out.dm.addrCell HI.out HLT.out
          refine wp_region_held_drew (S := (fun w' => w'.cell? ⟨g, i * 367 + 8 + s, none⟩ = some (.int .i64 (ad : Int)) ∧ Blk w' q 172 #[.int .i64 kind, .int .i64 room, .int .i64 slot, .int .i64 epoch, .int .i64 n, .int .i64 m, .slice A nb c])) (by kernel_rfl) (by rw [← hwq1]; exact HCq1.out) (fun hHeld => ?_)
          rw [← hwq1] at hHeld ⊢
          clear hwq1 HM6
          refine wpAnyH_takeAt (i := 0) (v := (.pointer (some ⟨g, 0, none⟩))) rfl (by kernel_rfl) (by kernel_rfl) (by kernel_rfl) (fun _ _ _ h => h) rfl (Or.inl ⟨by rfl, fun w' hS => ?_⟩) hHeld ?_
          · go_simp
          simp only [List.set_cons_zero, List.set_cons_succ]
          refine wpAnyH_takeAt (i := 1) (v := (.pointer (some ⟨g, i * 367, none⟩))) rfl (by kernel_rfl) (by kernel_rfl) (by kernel_rfl) (fun _ _ _ h => h) rfl (Or.inl ⟨by rfl, fun w' hS => ?_⟩) hHeld ?_
          · go_simp
          simp only [List.set_cons_zero, List.set_cons_succ]
          refine wpAnyH_takeAt (i := 2) (v := (.int .i64 (s : Int))) rfl (by kernel_rfl) (by kernel_rfl) (by kernel_rfl) (fun _ _ _ h => h) rfl (Or.inl ⟨by rfl, fun w' hS => ?_⟩) hHeld ?_
          · go_simp
          simp only [List.set_cons_zero, List.set_cons_succ]
          refine wpAnyH_takeAt (i := 3) (v := (.pointer (some ⟨g, i * 367, none⟩))) rfl (by kernel_rfl) (by kernel_rfl) (by kernel_rfl) (fun _ _ _ h => h) rfl (Or.inl ⟨by rfl, fun w' hS => ?_⟩) hHeld ?_
          · go_simp
          simp only [List.set_cons_zero, List.set_cons_succ]
          refine wpAnyH_takeAt (i := 4) (v := (.pointer (some ⟨g, i * 367, none⟩))) rfl (by kernel_rfl) (by kernel_rfl) (by kernel_rfl) (fun _ _ _ h => h) rfl (Or.inl ⟨by rfl, fun w' hS => ?_⟩) hHeld ?_
          · go_simp
          simp only [List.set_cons_zero, List.set_cons_succ]
          refine wpAnyH_takeAt (i := 5) (v := (.pointer (some ⟨g, i * 367, none⟩))) rfl (by kernel_rfl) (by kernel_rfl) (by kernel_rfl) (fun _ _ _ h => h) rfl (Or.inl ⟨by rfl, fun w' hS => ?_⟩) hHeld ?_
          · go_simp
          simp only [List.set_cons_zero, List.set_cons_succ]
          refine wpAnyH_takeAt (i := 6) (v := (.pointer (some ⟨g, i * 367 + 8, none⟩))) rfl (by kernel_rfl) (by kernel_rfl) (by kernel_rfl) (fun _ _ _ h => h) rfl (Or.inl ⟨by rfl, fun w' hS => ?_⟩) hHeld ?_
          · go_simp
          simp only [List.set_cons_zero, List.set_cons_succ]
          refine wpAnyH_takeAt (i := 7) (v := (.pointer (some ⟨g, i * 367 + 8 + s, none⟩))) rfl (by kernel_rfl) (by kernel_rfl) (by kernel_rfl) (fun _ _ _ h => h) rfl (Or.inl ⟨by rfl, fun w' hS => ?_⟩) hHeld ?_
          · go_simp
          simp only [List.set_cons_zero, List.set_cons_succ]
          refine wpAnyH_takeAt (i := 8) (v := (.int .i64 (ad : Int))) rfl (by kernel_rfl) (by kernel_rfl) (by kernel_rfl) (fun _ _ _ h => h) rfl (Or.inl ⟨by rfl, fun w' hS => ?_⟩) hHeld ?_
          · have q0 := hS.1
            go_simp
          simp only [List.set_cons_zero, List.set_cons_succ]
          refine wpAnyH_takeAt (i := 9) (v := (.agg #[.int .i64 kind, .int .i64 room, .int .i64 slot, .int .i64 epoch, .int .i64 n, .int .i64 m, .slice A nb c])) rfl (by kernel_rfl) (by kernel_rfl) (by kernel_rfl) (fun _ _ _ h => h) rfl (Or.inl ⟨by rfl, fun w' hS => ?_⟩) hHeld ?_
          · have q0 := hS.2.cell 0
            have q1 := hS.2.cell 1
            have q2 := hS.2.cell 2
            have q3 := hS.2.cell 3
            have q4 := hS.2.cell 4
            have q5 := hS.2.cell 5
            have q6 := hS.2.cell 6
            go_simp
          simp only [List.set_cons_zero, List.set_cons_succ]
          refine wpAnyH_ready (rs := [10]) (by kernel_rfl) (by simp) (AllReadyH.cons rfl (fun K' hK => ?_) AllReadyH.nil)
          go_simp
          go_at_call 107
          refine (HSAY.out Ls wq1 Ds HMq1.out.dm ad HAD.out (HMq1.out.stp.ot_ HV.out postsX_other)).mono ?_
          rintro e0 wq2 ⟨rfl, L2, hd2, hs2⟩
          have HMq2 : Hid (DW postsX w L wq2 L2 g P (sayD Ds ad dd) [(q, 172, [.int .i64 kind, .int .i64 room, .int .i64 slot, .int .i64 epoch, .int .i64 n, .int .i64 m, .slice A nb c])]) := HMq1.out.step (hs2.mono tellX_posts) hd2 postsX_temp
          have HH2 : Hid ((sayD Ds ad dd).halls = D.halls) := by show _ = _; rw [(sayD_halls _ _ _).1]; exact HH.out
          have HCq2 : Hid (wq2.cell? ⟨g, i * 367 + 8 + s, none⟩ = some (.int .i64 (ad : Int)) ∧ Blk wq2 q 172 #[.int .i64 kind, .int .i64 room, .int .i64 slot, .int .i64 epoch, .int .i64 n, .int .i64 m, .slice A nb c]) := by
            refine ⟨?_, HMq2.out.blk (.head _)⟩
            rw [← HADE.out, HRE0.out, ← hall_of HH2.out]
            exact HMq2.out.dm.addrCell HI.out HLT.out
          clear hd2 hs2
          go_wp2_with fail
          refine hK.out _ _ HCq2.out (fun hHeld' => ?_)
          clear hK hHeld 
          have hHeld := hHeld'
          clear hHeld'
          (try refine wpAnyH_putNone rfl ?_)
          refine wpAnyH_done (by kernel_rfl) ?_ _
          go_wp2_with fail
          go_roundg (8 - (s + 1))
          case measure => have := HLT.out; have := HGG.out; omega
          case rel => have hlt := HLT.out; exact ⟨s + 1, sayD Ds ad dd, L2, rfl, by omega, by first | rfl | go_num, HS2.out, HH2.out, HMq2.out⟩
    · have hini : ¬ (s : Int) < 8 := by omega
      have hie : s = 8 := by omega
      subst hie
      clear hin hs
      have HS2 : Hid (Ds = res) := HF.out
      go_wp2_with fail
      go_end0
      exact ⟨rfl, Ls, by rw [← HS2.out]; exact HM6.out.dm, HM6.out.stp⟩
end Go.Proofs.YtmkifedcanmjoaaGreat
