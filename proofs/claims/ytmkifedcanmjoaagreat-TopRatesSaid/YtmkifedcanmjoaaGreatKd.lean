/- Texts of this claim, one behind the other: RoomJ, DJoin, DNote. Each says ahead of itself what it proves, and its conditions. -/
import Derived.Test.YtmkifedcanmjoaaGreatKa
/- room.Join (contract). Conditions: none. -/
set_option linter.unusedVariables false
set_option linter.unusedSimpArgs false
namespace Go.Proofs.YtmkifedcanmjoaaGreat
open Go.RowKit
attribute [local go_sem ↓] Go.wp_at_zero Go.wp_at_succ
set_option maxRecDepth 100000 in
set_option maxHeartbeats 6400000 in
theorem take_slot {t : Tb} {a : Int} (h : (takeT t a).2.2 = 0) : (takeT t a).2.1 = ((takeT t a).2.1.toNat : Int) ∧ (takeT t a).2.1.toNat < 8 := by
  unfold takeT at h ⊢
  split at h
  · cases h
  · split at h
    · cases h
    · split at h
      · cases h
      · rename_i h1 h2 x i hi
        have h8 := idxT_lt hi
        rw [if_neg h1, if_neg h2]
        exact ⟨rfl, h8⟩
set_option maxRecDepth 100000 in
set_option maxHeartbeats 6400000 in
theorem join_c (r : Rm) (a now : Int) (w : World) (hr : WR r) (hnow : NowB now) :
    Calls Tryz.prog 14 #[.agg (rL r).toArray, .int .i64 a, .int .i64 now] w fun e w' => e = .returned (.tuple #[.agg (rL (joinR r a now).1).toArray, .int .i64 (joinR r a now).2.1, .int .i64 (joinR r a now).2.2]) ∧ Below w.heap.size w w' := by
  have HWR := Lib.hid hr
  obtain ⟨T, hT⟩ : ∃ T : List Value, T = rL r := ⟨_, rfl⟩
  have HTF : Hid (FitL 56 T) := by show FitL _ _; rw [hT]; exact fitR hr
  have HTE := Lib.hid hT
  obtain ⟨Z, hZ⟩ : ∃ Z : List Value, Z = [.bool false, .bool false, .bool false, .bool false, .bool false, .bool false, .bool false, .bool false, .int .i64 0, .int .i64 0, .int .i64 0, .int .i64 0, .int .i64 0, .int .i64 0, .int .i64 0, .int .i64 0, .int .i64 0, .bool false, .int .i64 0, .int .i64 0, .int .i64 0, .int .i64 0, .int .i64 0, .int .i64 0, .int .i64 0, .int .i64 0, .int .i64 0, .int .i64 0, .int .i64 0, .int .i64 0, .int .i64 0, .int .i64 0, .int .i64 0, .int .i64 0, .int .i64 0, .int .i64 0, .int .i64 0, .int .i64 0, .bool false] := ⟨_, rfl⟩
  have HZF : Hid (FitL 56 Z) := by show FitL _ _; rw [hZ]; exact fit0R
  have HZE := Lib.hid hZ
  obtain ⟨Y, hY⟩ : ∃ Y : List Value, Y = [.int .i64 0, .bool false, .int .i64 0, .int .i64 0, .int .i64 0, .int .i64 0] := ⟨_, rfl⟩
  have HYF : Hid (FitL 49 Y) := by show FitL _ _; rw [hY]; exact fit0K
  have HYE := Lib.hid hY
  obtain ⟨X, hX⟩ : ∃ X : List Value, X = [.bool false, .bool false, .bool false, .bool false, .bool false, .bool false, .bool false, .bool false, .int .i64 0, .int .i64 0, .int .i64 0, .int .i64 0, .int .i64 0, .int .i64 0, .int .i64 0, .int .i64 0] := ⟨_, rfl⟩
  have HXF : Hid (FitL 53 X) := by show FitL _ _; rw [hX]; exact fit0T
  have HXE := Lib.hid hX
  obtain ⟨D, hD⟩ : ∃ D : List Value, D = tbL r.t := ⟨_, rfl⟩
  have HDF : Hid (FitL 53 D) := by show FitL _ _; rw [hD]; exact fitT hr.1
  have HDE := Lib.hid hD
  obtain ⟨K, hK⟩ : ∃ K : List Value, K = kL r.k := ⟨_, rfl⟩
  have HKF : Hid (FitL 49 K) := by show FitL _ _; rw [hK]; exact fitK r.k
  have HKE := Lib.hid hK
  obtain ⟨q, hq⟩ : ∃ q, q = takeT r.t a := ⟨_, rfl⟩
  have HQE := Lib.hid hq
  have HQT : Hid (WT q.1) := by show WT _; rw [hq]; exact hr.1.take a
  obtain ⟨k, hk⟩ : ∃ k, k = joinK r.k q.2.1 := ⟨_, rfl⟩
  have HKE_ := Lib.hid hk
  have HWK : Hid (WK k.1) := by show WK _; rw [hk]; exact hr.2.1.joinK _
  obtain ⟨sl, hsl⟩ : ∃ sl, sl = q.2.1 := ⟨_, rfl⟩
  obtain ⟨e2, he2⟩ : ∃ e2, e2 = q.2.2 := ⟨_, rfl⟩
  obtain ⟨e3, he3⟩ : ∃ e3, e3 = k.2 := ⟨_, rfl⟩
  obtain ⟨i, hi⟩ : ∃ i, i = sl.toNat := ⟨_, rfl⟩
  have HSI : Hid (e2 = 0 → sl = (i : Int) ∧ i < 8) := by
    show _ → _
    intro h
    rw [he2, hq] at h
    rw [hi, hsl, hq]
    exact take_slot h
  obtain ⟨r1, hr1⟩ : ∃ r1, r1 = { r with t := q.1 } := ⟨_, rfl⟩
  have HR1E := Lib.hid hr1
  have HR1 : Hid (WR r1) := by show WR _; rw [hr1]; exact hr.setT HQT.out
  obtain ⟨r2, hr2⟩ : ∃ r2, r2 = { r1 with k := k.1 } := ⟨_, rfl⟩
  have HR2E := Lib.hid hr2
  have HR2 : Hid (WR r2) := by show WR _; rw [hr2]; exact HR1.out.setK HWK.out
  obtain ⟨r3, hr3⟩ : ∃ r3, r3 = { r2 with seen := r2.seen.set i now } := ⟨_, rfl⟩
  have HR3E := Lib.hid hr3
  have HR3 : Hid (WR r3) := by show WR _; rw [hr3]; exact HR2.out.setSeen i hnow
  obtain ⟨ep, hep⟩ : ∃ ep, ep = k.1.epoch := ⟨_, rfl⟩
  obtain ⟨r4, hr4⟩ : ∃ r4, r4 = { r3 with since := r3.since.set i ep } := ⟨_, rfl⟩
  have HR4E := Lib.hid hr4
  have HR4 : Hid (WR r4) := by show WR _; rw [hr4]; exact HR3.out.setSince i ep
  obtain ⟨E, hE⟩ : ∃ E : List Value, E = tbL q.1 := ⟨_, rfl⟩
  have HEF : Hid (FitL 53 E) := by show FitL _ _; rw [hE]; exact fitT HQT.out
  have HEE := Lib.hid hE
  obtain ⟨K2, hK2⟩ : ∃ K2 : List Value, K2 = kL k.1 := ⟨_, rfl⟩
  have HK2F : Hid (FitL 49 K2) := by show FitL _ _; rw [hK2]; exact fitK k.1
  have HK2E := Lib.hid hK2
  obtain ⟨T1, hT1⟩ : ∃ T1 : List Value, T1 = rL r1 := ⟨_, rfl⟩
  have HT1F : Hid (FitL 56 T1) := by show FitL _ _; rw [hT1]; exact fitR HR1.out
  have HT1E := Lib.hid hT1
  obtain ⟨T2, hT2⟩ : ∃ T2 : List Value, T2 = rL r2 := ⟨_, rfl⟩
  have HT2F : Hid (FitL 56 T2) := by show FitL _ _; rw [hT2]; exact fitR HR2.out
  have HT2E := Lib.hid hT2
  obtain ⟨T3, hT3⟩ : ∃ T3 : List Value, T3 = rL r3 := ⟨_, rfl⟩
  have HT3F : Hid (FitL 56 T3) := by show FitL _ _; rw [hT3]; exact fitR HR3.out
  have HT3E := Lib.hid hT3
  obtain ⟨T4, hT4⟩ : ∃ T4 : List Value, T4 = rL r4 := ⟨_, rfl⟩
  have HT4F : Hid (FitL 56 T4) := by show FitL _ _; rw [hT4]; exact fitR HR4.out
  have HT4E := Lib.hid hT4
  obtain ⟨tt, htt⟩ : ∃ tt, tt = joinR r a now := ⟨_, rfl⟩
  have HTT : Hid (tt = if !goodR r then (r, 0, 1) else if r.over then (r, 0, 12) else if e2 ≠ 0 then (r, 0, e2) else if e3 ≠ 0 then (r, 0, e3) else (r4, sl, 0)) := by
    show _ = _
    rw [htt, he3, he2, hr4, hr3, hr2, hr1, hep, hi, hsl, hk, hq]
    rfl
  have HTD : Hid (∀ j v, D[j]? = some v → T[0 + j]? = some v) := by show ∀ _ _, _; rw [hT, hD]; exact rL_tpart hr
  have HTK : Hid (∀ j v, K[j]? = some v → T[16 + j]? = some v) := by show ∀ _ _, _; rw [hT, hK]; exact rL_kpart hr
  have HOV : Hid (T[38]? = some (.bool r.over)) := by show _ = _; rw [hT]; exact rL_over hr
  have HKP : Hid (K2[0]? = some (.int .i64 ep)) := by show _ = _; rw [hK2, hep]; rfl
  have HC1 : Hid (i < 8 → T2[22 + i]? = some (.int .i64 (seenAt r2 i))) := by show _ → _; rw [hT2]; exact rL_seen HR2.out
  have HC2 : Hid (i < 8 → T3[30 + i]? = some (.int .i64 (sinceAt r3 i))) := by show _ → _; rw [hT3]; exact rL_since HR3.out
  have HS2 : Hid (i < 8 → T2.set (22 + i) (.int .i64 now) = T3) := by show _ → _; intro h; rw [hT2, hT3, hr3]; exact rL_setSeen HR2.out h now
  have HS3 : Hid (i < 8 → T3.set (30 + i) (.int .i64 ep) = T4) := by show _ → _; intro h; rw [hT3, hT4, hr4]; exact rL_setSince HR3.out h ep
  have GUD : Hid (∀ (wx : World), Calls Tryz.prog 33 #[.agg T.toArray] wx fun e w' => e = .returned (.bool (goodR r)) ∧ Below wx.heap.size wx w') := fun wx => by rw [HTE.out]; exact goodR_c r wx HWR.out
  have TAK : Hid (∀ (wx : World), Calls Tryz.prog 34 #[.agg D.toArray, .int .i64 a] wx fun e w' => e = .returned (.tuple #[.agg E.toArray, .int .i64 sl, .int .i64 e2]) ∧ Below wx.heap.size wx w') := fun wx => by rw [HDE.out, HEE.out, hsl, he2, HQE.out]; exact take_c r.t a wx HWR.out.1
  have JOI : Hid (∀ (wx : World), Calls Tryz.prog 35 #[.agg K.toArray, .int .i64 sl] wx fun e w' => e = .returned (.tuple #[.agg K2.toArray, .int .i64 e3]) ∧ Below wx.heap.size wx w') := fun wx => by rw [HKE.out, HK2E.out, he3, HKE_.out, hsl]; exact joinK_c r.k q.2.1 wx HWR.out.2.1
  rw [← hT, ← htt]
  clear hT hD hE hq hr htt hr1 hr2 hr3 hr4 hT1 hT2 hT3 hT4 hK hK2 hk he2 he3 hsl hep hi hnow
  obtain ⟨g1, hg1⟩ : ∃ g1, g1 = w.heap.size := ⟨_, rfl⟩
  obtain ⟨g2, hg2⟩ : ∃ g2, g2 = w.heap.size + 1 := ⟨_, rfl⟩
  obtain ⟨w1, hw1⟩ : ∃ w1, w1 = (w.alloc (.cells T.toArray 56)).alloc (.cells #[.bool false, .bool false, .bool false, .bool false, .bool false, .bool false, .bool false, .bool false, .int .i64 0, .int .i64 0, .int .i64 0, .int .i64 0, .int .i64 0, .int .i64 0, .int .i64 0, .int .i64 0, .int .i64 0, .bool false, .int .i64 0, .int .i64 0, .int .i64 0, .int .i64 0, .int .i64 0, .int .i64 0, .int .i64 0, .int .i64 0, .int .i64 0, .int .i64 0, .int .i64 0, .int .i64 0, .int .i64 0, .int .i64 0, .int .i64 0, .int .i64 0, .int .i64 0, .int .i64 0, .int .i64 0, .int .i64 0, .bool false] 56) := ⟨_, rfl⟩
  have HM1 : Hid (MW w w1 [(g2, 56, Z), (g1, 56, T)]) := by
    show MW _ _ _
    have h := (((MW.start w).alloc 56 T).alloc 56 Z)
    try simp only [World.size_alloc] at h
    rw [hZ, hw1, hg1, hg2]
    rw [hZ] at h
    exact h
  go_enter Tryz.func14, Tryz.ntmps14
  go_upto_region 1 with fail
  rw [← hw1, ← hg2, ← hg1]
  clear hw1 hg1 hg2 hZ hY hX
  have HRW : Hid (w1.rangeAt g1 0 T) := HM1.out.range (.tail _ (.head _))
  go_wp2_with (first
    | ((with_reducible show wpList _ _ _ (⟨some 14, .load _ (.tmp 3), _, _, _, _⟩ :: _) _ _); refine wpList_load_mid rfl 56 (.tmp 3) rfl g1 0 rfl T _ HRW.out Tryz.underlying56 rfl HTF.out.info ?_))
  clear HRW
  refine (GUD.out w1).mono ?_
  rintro e0 w2 ⟨rfl, hbq⟩
  have HM2 : Hid (MW w w2 [(g2, 56, Z), (g1, 56, T)]) := HM1.out.call hbq
  clear hbq HM1
  obtain ⟨gd, hgd⟩ : ∃ gd, gd = goodR r := ⟨_, rfl⟩
  rw [← hgd] at HTT ⊢
  clear hgd
  cases gd
  · have HV : Hid (tt = (r, 0, 1)) := by show _ = _; rw [HTT.out]; rfl
    clear HTT
    have HRr : Hid (w2.rangeAt g1 0 T) := HM2.out.range (.tail _ (.head _))
    have HTr : Hid (w2.there g2 0 T.toArray.size) := HM2.out.there (.head _) 0 _ (by show 0 + T.length ≤ Z.length; rw [HTF.out.len HZF.out]; omega)
    go_wp2_with (first
      | ((with_reducible show wpList _ _ _ (⟨some 17, .load _ (.tmp 3), _, _, _, _⟩ :: _) _ _); refine wpList_load_mid rfl 56 (.tmp 3) rfl g1 0 rfl T _ HRr.out Tryz.underlying56 rfl HTF.out.info ?_)
      | ((with_reducible show wpList _ _ _ (⟨none, .store _ (.tmp 6) _, _, _, _, _⟩ :: _) _ _); refine wpList_store_mid rfl 56 (.tmp 6) (.tmp 17) rfl g2 0 T.toArray rfl rfl HTr.out HTF.out.infos HTF.out.one ?_))
    have HMr : Hid (MW w (w2.setCells g2 0 T) [(g2, 56, T), (g1, 56, T)]) := MW.set (pre := []) (post := [(g1, 56, T)]) HM2.out (HTF.out.len HZF.out)
    (try simp only [Exit.inBlock, Exit.then])
    refine bodyPost_ret (results_c3 rfl rfl (HMr.out.range (.head _)) Tryz.underlying56 rfl HTF.out.info) rfl ?_
    refine ⟨?_, HMr.out.bel⟩
    rw [HV.out, HTE.out]
    rfl
  · obtain ⟨ov, hov⟩ : ∃ ov, ov = r.over := ⟨_, rfl⟩
    rw [← hov] at HTT HOV
    clear hov
    have ck38 : w2.cell? ⟨g1, 38, none⟩ = some (.bool ov) := by rw [HM2.out.cell (.tail _ (.head _))]; exact HOV.out
    cases ov
    rotate_left
    · have HV : Hid (tt = (r, 0, 12)) := by show _ = _; rw [HTT.out]; rfl
      clear HTT
      have HRr : Hid (w2.rangeAt g1 0 T) := HM2.out.range (.tail _ (.head _))
      have HTr : Hid (w2.there g2 0 T.toArray.size) := HM2.out.there (.head _) 0 _ (by show 0 + T.length ≤ Z.length; rw [HTF.out.len HZF.out]; omega)
      go_wp2_with (first
        | ((with_reducible show wpList _ _ _ (⟨some 21, .load _ (.tmp 3), _, _, _, _⟩ :: _) _ _); refine wpList_load_mid rfl 56 (.tmp 3) rfl g1 0 rfl T _ HRr.out Tryz.underlying56 rfl HTF.out.info ?_)
        | ((with_reducible show wpList _ _ _ (⟨none, .store _ (.tmp 6) _, _, _, _, _⟩ :: _) _ _); refine wpList_store_mid rfl 56 (.tmp 6) (.tmp 21) rfl g2 0 T.toArray rfl rfl HTr.out HTF.out.infos HTF.out.one ?_))
      have HMr : Hid (MW w (w2.setCells g2 0 T) [(g2, 56, T), (g1, 56, T)]) := MW.set (pre := []) (post := [(g1, 56, T)]) HM2.out (HTF.out.len HZF.out)
      (try simp only [Exit.inBlock, Exit.then])
      refine bodyPost_ret (results_c3 rfl rfl (HMr.out.range (.head _)) Tryz.underlying56 rfl HTF.out.info) rfl ?_
      refine ⟨?_, HMr.out.bel⟩
      rw [HV.out, HTE.out]
      rfl
    · have HTA : Hid (tt = if e2 ≠ 0 then (r, 0, e2) else if e3 ≠ 0 then (r, 0, e3) else (r4, sl, 0)) := by show _ = _; rw [HTT.out]; rfl
      clear HTT
      have HRW : Hid (w2.rangeAt g1 0 D) := HM2.out.part (.tail _ (.head _)) 0 D HTD.out
      go_wp2_with (first
        | ((with_reducible show wpList _ _ _ (⟨some 24, .load _ (.tmp 23), _, _, _, _⟩ :: _) _ _); refine wpList_load_mid rfl 53 (.tmp 23) rfl g1 0 rfl D _ HRW.out Tryz.underlying53 rfl HDF.out.info ?_))
      clear HRW ck38
      refine (TAK.out w2).mono ?_
      rintro e0 w3 ⟨rfl, hbq⟩
      have HM3 : Hid (MW w w3 [(g2, 56, Z), (g1, 56, T)]) := HM2.out.call hbq
      clear hbq HM2
      go_upto_region 6 with (first
        | ((with_reducible show wpList _ _ _ (⟨none, .store _ (.tmp 9) _, _, _, _, _⟩ :: _) _ _); refine wpList_store_mid rfl 53 (.tmp 9) (.tmp 27) rfl w3.heap.size 0 E.toArray rfl rfl (there_new w3 53 #[.bool false, .bool false, .bool false, .bool false, .bool false, .bool false, .bool false, .bool false, .int .i64 0, .int .i64 0, .int .i64 0, .int .i64 0, .int .i64 0, .int .i64 0, .int .i64 0, .int .i64 0] _ (by show E.length ≤ 16; have h := HEF.out.info; rw [infoTb] at h; injection h with h; omega)) HEF.out.infos HEF.out.one ?_))
      obtain ⟨g3, hg3⟩ : ∃ g3, g3 = w3.heap.size := ⟨_, rfl⟩
      have HMn : Hid (MW w ((w3.alloc (.cells #[.bool false, .bool false, .bool false, .bool false, .bool false, .bool false, .bool false, .bool false, .int .i64 0, .int .i64 0, .int .i64 0, .int .i64 0, .int .i64 0, .int .i64 0, .int .i64 0, .int .i64 0] 53)).setCells w3.heap.size 0 E) ((w3.heap.size, 53, E) :: [(g2, 56, Z), (g1, 56, T)])) := HM3.out.newset 53 #[.bool false, .bool false, .bool false, .bool false, .bool false, .bool false, .bool false, .bool false, .int .i64 0, .int .i64 0, .int .i64 0, .int .i64 0, .int .i64 0, .int .i64 0, .int .i64 0, .int .i64 0] E (by show E.length = 16; have h := HEF.out.info; rw [infoTb] at h; injection h with h; omega)
      rw [← hg3] at HMn ⊢
      obtain ⟨w4, hw4⟩ : ∃ w4, w4 = (w3.alloc (.cells #[.bool false, .bool false, .bool false, .bool false, .bool false, .bool false, .bool false, .bool false, .int .i64 0, .int .i64 0, .int .i64 0, .int .i64 0, .int .i64 0, .int .i64 0, .int .i64 0, .int .i64 0] 53)).setCells g3 0 E := ⟨_, rfl⟩
      have HM4 : Hid (MW w w4 [(g3, 53, E), (g2, 56, Z), (g1, 56, T)]) := by show MW _ _ _; rw [hw4]; exact HMn.out
      rw [← hw4]
      clear hw4 HM3
      clear hg3 HMn
      by_cases hz : e2 = 0
      rotate_left
      · have hz2 : (e2 != 0) = true := by simp [hz]
        have HV : Hid (tt = (r, 0, e2)) := by show _ = _; rw [HTA.out, if_pos hz]
        clear HTA hz
        have HRr : Hid (w4.rangeAt g1 0 T) := HM4.out.range (.tail _ (.tail _ (.head _)))
        have HTr : Hid (w4.there g2 0 T.toArray.size) := HM4.out.there (.tail _ (.head _)) 0 _ (by show 0 + T.length ≤ Z.length; rw [HTF.out.len HZF.out]; omega)
        go_wp2_with (first
          | ((with_reducible show wpList _ _ _ (⟨some 32, .load _ (.tmp 3), _, _, _, _⟩ :: _) _ _); refine wpList_load_mid rfl 56 (.tmp 3) rfl g1 0 rfl T _ HRr.out Tryz.underlying56 rfl HTF.out.info ?_)
          | ((with_reducible show wpList _ _ _ (⟨none, .store _ (.tmp 6) _, _, _, _, _⟩ :: _) _ _); refine wpList_store_mid rfl 56 (.tmp 6) (.tmp 32) rfl g2 0 T.toArray rfl rfl HTr.out HTF.out.infos HTF.out.one ?_))
        have HMr : Hid (MW w (w4.setCells g2 0 T) [(g3, 53, E), (g2, 56, T), (g1, 56, T)]) := MW.set (pre := [(g3, 53, E)]) (post := [(g1, 56, T)]) HM4.out (HTF.out.len HZF.out)
        (try simp only [Exit.inBlock, Exit.then])
        refine bodyPost_ret (results_c3 rfl rfl (HMr.out.range (.tail _ (.head _))) Tryz.underlying56 rfl HTF.out.info) rfl ?_
        refine ⟨?_, HMr.out.bel⟩
        rw [HV.out, HTE.out]
        rfl
      · subst hz
        have HTB : Hid (tt = if e3 ≠ 0 then (r, 0, e3) else (r4, sl, 0)) := by show _ = _; rw [HTA.out, if_neg (by simp)]
        obtain ⟨hsi, hi8⟩ := HSI.out rfl
        subst hsi
        have hini : (i : Int) < 8 := by omega
        have hin0 : (0 : Int) ≤ (i : Int) := by omega
        have HI8 := Lib.hid hi8
        clear HTA HSI hi8
        have HRW : Hid (w4.rangeAt g1 16 K) := HM4.out.part (.tail _ (.tail _ (.head _))) 16 K HTK.out
        go_wp2_with (first
          | ((with_reducible show wpList _ _ _ (⟨some 36, .load _ (.tmp 35), _, _, _, _⟩ :: _) _ _); refine wpList_load_mid rfl 49 (.tmp 35) rfl g1 16 rfl K _ HRW.out Tryz.underlying49 rfl HKF.out.info ?_))
        clear HRW
        refine (JOI.out w4).mono ?_
        rintro e0 w5 ⟨rfl, hbq⟩
        have HM5 : Hid (MW w w5 [(g3, 53, E), (g2, 56, Z), (g1, 56, T)]) := HM4.out.call hbq
        clear hbq HM4
        go_upto_region 9 with (first
          | ((with_reducible show wpList _ _ _ (⟨none, .store _ (.tmp 12) _, _, _, _, _⟩ :: _) _ _); refine wpList_store_mid rfl 49 (.tmp 12) (.tmp 39) rfl w5.heap.size 0 K2.toArray rfl rfl (there_new w5 49 #[.int .i64 0, .bool false, .int .i64 0, .int .i64 0, .int .i64 0, .int .i64 0] _ (by show K2.length ≤ 6; have h := HK2F.out.info; rw [infoK] at h; injection h with h; omega)) HK2F.out.infos HK2F.out.one ?_))
        obtain ⟨g4, hg4⟩ : ∃ g4, g4 = w5.heap.size := ⟨_, rfl⟩
        have HMn : Hid (MW w ((w5.alloc (.cells #[.int .i64 0, .bool false, .int .i64 0, .int .i64 0, .int .i64 0, .int .i64 0] 49)).setCells w5.heap.size 0 K2) ((w5.heap.size, 49, K2) :: [(g3, 53, E), (g2, 56, Z), (g1, 56, T)])) := HM5.out.newset 49 #[.int .i64 0, .bool false, .int .i64 0, .int .i64 0, .int .i64 0, .int .i64 0] K2 (by show K2.length = 6; have h := HK2F.out.info; rw [infoK] at h; injection h with h; omega)
        rw [← hg4] at HMn ⊢
        obtain ⟨w6, hw6⟩ : ∃ w6, w6 = (w5.alloc (.cells #[.int .i64 0, .bool false, .int .i64 0, .int .i64 0, .int .i64 0, .int .i64 0] 49)).setCells g4 0 K2 := ⟨_, rfl⟩
        have HM6 : Hid (MW w w6 [(g4, 49, K2), (g3, 53, E), (g2, 56, Z), (g1, 56, T)]) := by show MW _ _ _; rw [hw6]; exact HMn.out
        rw [← hw6]
        clear hw6 HM5
        clear hg4 HMn
        by_cases hz : e3 = 0
        rotate_left
        · have hz2 : (e3 != 0) = true := by simp [hz]
          have HV : Hid (tt = (r, 0, e3)) := by show _ = _; rw [HTB.out, if_pos hz]
          clear HTB hz
          have HRr : Hid (w6.rangeAt g1 0 T) := HM6.out.range (.tail _ (.tail _ (.tail _ (.head _))))
          have HTr : Hid (w6.there g2 0 T.toArray.size) := HM6.out.there (.tail _ (.tail _ (.head _))) 0 _ (by show 0 + T.length ≤ Z.length; rw [HTF.out.len HZF.out]; omega)
          go_wp2_with (first
            | ((with_reducible show wpList _ _ _ (⟨some 43, .load _ (.tmp 3), _, _, _, _⟩ :: _) _ _); refine wpList_load_mid rfl 56 (.tmp 3) rfl g1 0 rfl T _ HRr.out Tryz.underlying56 rfl HTF.out.info ?_)
            | ((with_reducible show wpList _ _ _ (⟨none, .store _ (.tmp 6) _, _, _, _, _⟩ :: _) _ _); refine wpList_store_mid rfl 56 (.tmp 6) (.tmp 43) rfl g2 0 T.toArray rfl rfl HTr.out HTF.out.infos HTF.out.one ?_))
          have HMr : Hid (MW w (w6.setCells g2 0 T) [(g4, 49, K2), (g3, 53, E), (g2, 56, T), (g1, 56, T)]) := MW.set (pre := [(g4, 49, K2), (g3, 53, E)]) (post := [(g1, 56, T)]) HM6.out (HTF.out.len HZF.out)
          (try simp only [Exit.inBlock, Exit.then])
          refine bodyPost_ret (results_c3 rfl rfl (HMr.out.range (.tail _ (.tail _ (.head _)))) Tryz.underlying56 rfl HTF.out.info) rfl ?_
          refine ⟨?_, HMr.out.bel⟩
          rw [HV.out, HTE.out]
          rfl
        · subst hz
          have HV : Hid (tt = (r4, (i : Int), 0)) := by show _ = _; rw [HTB.out, if_neg (by simp)]
          clear HTB
          go_upto_region 11 with fail
          go_cut [12] (fun v12 wx => v12 = .pointer (some ⟨g4, 0, none⟩) ∧ MW w wx [(g4, 49, K2), (g3, 53, E), (g2, 56, Z), (g1, 56, T2)])
          case first =>
            obtain ⟨w7, hw7⟩ : ∃ w7, w7 = w6.drew := ⟨_, rfl⟩
            have HM7 : Hid (MW w w7 [(g4, 49, K2), (g3, 53, E), (g2, 56, Z), (g1, 56, T)]) := by show MW _ _ _; rw [hw7]; exact HM6.out.drew
            refine wp_region_held_drew (S := (fun w' => MW w w' [(g4, 49, K2), (g3, 53, E)])) (by kernel_rfl) (by rw [← hw7]; exact (HM7.out.drop (.cons_cons _ (.cons_cons _ (.cons _ (.cons _ .slnil)))))) (fun hHeld => ?_)
            rw [← hw7] at hHeld ⊢
            clear hw7 HM6
            refine wpAnyH_takeAt (i := 0) (v := (.agg E.toArray)) rfl (by kernel_rfl) (by kernel_rfl) (by kernel_rfl) (fun _ _ _ h => h) rfl (yieldsIf_load_mid (by rfl) 53 _ rfl g3 0 rfl E _ (fun w' hS => (hS.range (.tail _ (.head _)))) Tryz.underlying53 rfl HEF.out.info) hHeld ?_
            simp only [List.set_cons_zero, List.set_cons_succ]
            refine wpAnyH_takeAt (i := 1) (v := (.agg K2.toArray)) rfl (by kernel_rfl) (by kernel_rfl) (by kernel_rfl) (fun _ _ _ h => h) rfl (yieldsIf_load_mid (by rfl) 49 _ rfl g4 0 rfl K2 _ (fun w' hS => (hS.range (.head _))) Tryz.underlying49 rfl HK2F.out.info) hHeld ?_
            simp only [List.set_cons_zero, List.set_cons_succ]
            refine wpAnyH_takeAt (i := 2) (v := (.pointer (some ⟨g1, 0, none⟩))) rfl (by kernel_rfl) (by kernel_rfl) (by kernel_rfl) (fun _ _ _ h => h) rfl (Or.inl ⟨by rfl, fun w' hS => ?_⟩) hHeld ?_
            · go_simp
            simp only [List.set_cons_zero, List.set_cons_succ]
            refine wpAnyH_ready (rs := [3]) (by kernel_rfl) (by simp) (AllReadyH.cons rfl (fun K' hK => ?_) AllReadyH.nil)
            rw [if_pos (by rfl)]
            refine wp_store_mid 53 (.tmp 47) (.tmp 45) (by rfl) g1 0 E.toArray (by rfl) (by rfl) (HM7.out.there (.tail _ (.tail _ (.tail _ (.head _)))) 0 _ (by show 0 + E.length ≤ T.length; have h1 := HEF.out.info; have h2 := HTF.out.info; rw [infoTb] at h1; rw [infoR] at h2; injection h1 with h1; injection h2 with h2; omega)) HEF.out.infos HEF.out.one ?_
            obtain ⟨w8, hw8⟩ : ∃ w8, w8 = w7.setCells g1 0 E := ⟨_, rfl⟩
            have HM8 : Hid (MW w w8 [(g4, 49, K2), (g3, 53, E), (g2, 56, Z), (g1, 56, T1)]) := by show MW _ _ _; rw [hw8]; exact (by have h := HM7.out; rw [HTE.out] at h; have h2 := MW.setT (pre := [(g4, 49, K2), (g3, 53, E), (g2, 56, Z)]) (post := []) h HWR.out HQT.out; rw [← HEE.out, ← HR1E.out, ← HT1E.out] at h2; exact h2)
            rw [← hw8]
            clear hw8
            refine hK.out _ _ (HM8.out.drop (.cons_cons _ (.cons_cons _ (.cons _ (.cons _ .slnil))))) (fun hHeld' => ?_)
            clear hK hHeld HM7
            have hHeld := hHeld'
            clear hHeld'
            refine wpAnyH_putNone rfl ?_
            refine wpAnyH_takeAt (i := 4) (v := (.pointer (some ⟨g1, 16, none⟩))) rfl (by kernel_rfl) (by kernel_rfl) (by kernel_rfl) (fun _ _ _ h => h) rfl (Or.inl ⟨by rfl, fun w' hS => ?_⟩) hHeld ?_
            · go_simp
            simp only [List.set_cons_zero, List.set_cons_succ]
            refine wpAnyH_ready (rs := [5]) (by kernel_rfl) (by simp) (AllReadyH.cons rfl (fun K' hK => ?_) AllReadyH.nil)
            rw [if_pos (by rfl)]
            refine wp_store_mid 49 (.tmp 48) (.tmp 46) (by rfl) g1 16 K2.toArray (by rfl) (by rfl) (HM8.out.there (.tail _ (.tail _ (.tail _ (.head _)))) 16 _ (by show 16 + K2.length ≤ T1.length; have h1 := HK2F.out.info; have h2 := HT1F.out.info; rw [infoK] at h1; rw [infoR] at h2; injection h1 with h1; injection h2 with h2; omega)) HK2F.out.infos HK2F.out.one ?_
            obtain ⟨w9, hw9⟩ : ∃ w9, w9 = w8.setCells g1 16 K2 := ⟨_, rfl⟩
            have HM9 : Hid (MW w w9 [(g4, 49, K2), (g3, 53, E), (g2, 56, Z), (g1, 56, T2)]) := by show MW _ _ _; rw [hw9]; exact (by have h := HM8.out; rw [HT1E.out] at h; have h2 := MW.setK (pre := [(g4, 49, K2), (g3, 53, E), (g2, 56, Z)]) (post := []) h HR1.out k.1; rw [← HK2E.out, ← HR2E.out, ← HT2E.out] at h2; exact h2)
            rw [← hw9]
            clear hw9
            refine hK.out _ _ (HM9.out.drop (.cons_cons _ (.cons_cons _ (.cons _ (.cons _ .slnil))))) (fun hHeld' => ?_)
            clear hK hHeld HM8
            have hHeld := hHeld'
            clear hHeld'
            refine wpAnyH_putNone rfl ?_
            refine wpAnyH_done (by kernel_rfl) ?_ _
            go_wp2_with fail
            go_meet
            exact ⟨rfl, HM9.out⟩
          case rest =>
            obtain ⟨rfl, hmc⟩ := hcut
            have HM7 := Lib.hid hmc
            clear hmc HM6
            go_upto_region 12 with fail
            go_cut [12] (fun v12 wx => v12 = .pointer (some ⟨g4, 0, none⟩) ∧ MW w wx [(g4, 49, K2), (g3, 53, E), (g2, 56, Z), (g1, 56, T4)])
            case first =>
              obtain ⟨w8, hw8⟩ : ∃ w8, w8 = wc.drew := ⟨_, rfl⟩
              have HM8 : Hid (MW w w8 [(g4, 49, K2), (g3, 53, E), (g2, 56, Z), (g1, 56, T2)]) := by show MW _ _ _; rw [hw8]; exact HM7.out.drew
              refine wp_region_held_drew (S := (fun w' => MW w w' [(g4, 49, K2)])) (by kernel_rfl) (by rw [← hw8]; exact (HM8.out.drop (.cons_cons _ (.cons _ (.cons _ (.cons _ .slnil)))))) (fun hHeld => ?_)
              rw [← hw8] at hHeld ⊢
              clear hw8 HM7
              refine wpAnyH_takeAt (i := 0) (v := (.int .i64 (i : Int))) rfl (by kernel_rfl) (by kernel_rfl) (by kernel_rfl) (fun _ _ _ h => h) rfl (Or.inl ⟨by rfl, fun w' hS => ?_⟩) hHeld ?_
              · go_simp
              simp only [List.set_cons_zero, List.set_cons_succ]
              refine wpAnyH_takeAt (i := 1) (v := (.int .i64 (i : Int))) rfl (by kernel_rfl) (by kernel_rfl) (by kernel_rfl) (fun _ _ _ h => h) rfl (Or.inl ⟨by rfl, fun w' hS => ?_⟩) hHeld ?_
              · go_simp
              simp only [List.set_cons_zero, List.set_cons_succ]
              refine wpAnyH_takeAt (i := 2) (v := (.int .i64 now)) rfl (by kernel_rfl) (by kernel_rfl) (by kernel_rfl) (fun _ _ _ h => h) rfl (Or.inl ⟨by rfl, fun w' hS => ?_⟩) hHeld ?_
              · go_simp
              simp only [List.set_cons_zero, List.set_cons_succ]
              refine wpAnyH_takeAt (i := 3) (v := (.pointer (some ⟨g4, 0, none⟩))) rfl (by kernel_rfl) (by kernel_rfl) (by kernel_rfl) (fun _ _ _ h => h) rfl (Or.inl ⟨by rfl, fun w' hS => ?_⟩) hHeld ?_
              · go_simp
              simp only [List.set_cons_zero, List.set_cons_succ]
              refine wpAnyH_takeAt (i := 4) (v := (.int .i64 ep)) rfl (by kernel_rfl) (by kernel_rfl) (by kernel_rfl) (fun _ _ _ h => h) rfl (Or.inl ⟨by rfl, fun w' hS => ?_⟩) hHeld ?_
              · have ck := hS.cell (.head _) 0
                rw [HKP.out] at ck
                go_simp
              simp only [List.set_cons_zero, List.set_cons_succ]
              refine wpAnyH_takeAt (i := 5) (v := (.pointer (some ⟨g1, 22, none⟩))) rfl (by kernel_rfl) (by kernel_rfl) (by kernel_rfl) (fun _ _ _ h => h) rfl (Or.inl ⟨by rfl, fun w' hS => ?_⟩) hHeld ?_
              · go_simp
              simp only [List.set_cons_zero, List.set_cons_succ]
              refine wpAnyH_takeAt (i := 6) (v := (.pointer (some ⟨g1, 22 + i, none⟩))) rfl (by kernel_rfl) (by kernel_rfl) (by kernel_rfl) (fun _ _ _ h => h) rfl (Or.inl ⟨by rfl, fun w' hS => ?_⟩) hHeld ?_
              · go_simp
              simp only [List.set_cons_zero, List.set_cons_succ]
              refine wpAnyH_takeAt (i := 8) (v := (.pointer (some ⟨g1, 30, none⟩))) rfl (by kernel_rfl) (by kernel_rfl) (by kernel_rfl) (fun _ _ _ h => h) rfl (Or.inl ⟨by rfl, fun w' hS => ?_⟩) hHeld ?_
              · go_simp
              simp only [List.set_cons_zero, List.set_cons_succ]
              refine wpAnyH_ready (rs := [7]) (by kernel_rfl) (by simp) (AllReadyH.cons rfl (fun K' hK => ?_) AllReadyH.nil)
              have ckw := HM8.out.cell (.tail _ (.tail _ (.tail _ (.head _)))) (22 + i)
              rw [HC1.out HI8.out] at ckw
              have fkw := HM8.out.frozen (.tail _ (.tail _ (.tail _ (.head _)))) (22 + i)
              go_simp
              obtain ⟨w9, hw9⟩ : ∃ w9, w9 = w8.setCell ⟨g1, 22 + i, none⟩ (.int .i64 now) := ⟨_, rfl⟩
              have HM9 : Hid (MW w w9 [(g4, 49, K2), (g3, 53, E), (g2, 56, Z), (g1, 56, T3)]) := by
                show MW _ _ _
                have h := MW.set1 (pre := [(g4, 49, K2), (g3, 53, E), (g2, 56, Z)]) (post := []) HM8.out (22 + i) (.int .i64 now)
                rw [HS2.out HI8.out] at h
                rw [hw9]
                exact h
              rw [← hw9]
              clear hw9 ckw fkw
              refine hK.out _ _ (HM9.out.drop (.cons_cons _ (.cons _ (.cons _ (.cons _ .slnil))))) (fun hHeld' => ?_)
              clear hK hHeld HM8
              have hHeld := hHeld'
              clear hHeld'
              refine wpAnyH_takeAt (i := 9) (v := (.pointer (some ⟨g1, 30 + i, none⟩))) rfl (by kernel_rfl) (by kernel_rfl) (by kernel_rfl) (fun _ _ _ h => h) rfl (Or.inl ⟨by rfl, fun w' hS => ?_⟩) hHeld ?_
              · go_simp
              simp only [List.set_cons_zero, List.set_cons_succ]
              refine wpAnyH_ready (rs := [10]) (by kernel_rfl) (by simp) (AllReadyH.cons rfl (fun K' hK => ?_) AllReadyH.nil)
              have ckw := HM9.out.cell (.tail _ (.tail _ (.tail _ (.head _)))) (30 + i)
              rw [HC2.out HI8.out] at ckw
              have fkw := HM9.out.frozen (.tail _ (.tail _ (.tail _ (.head _)))) (30 + i)
              go_simp
              obtain ⟨w10, hw10⟩ : ∃ w10, w10 = w9.setCell ⟨g1, 30 + i, none⟩ (.int .i64 ep) := ⟨_, rfl⟩
              have HM10 : Hid (MW w w10 [(g4, 49, K2), (g3, 53, E), (g2, 56, Z), (g1, 56, T4)]) := by
                show MW _ _ _
                have h := MW.set1 (pre := [(g4, 49, K2), (g3, 53, E), (g2, 56, Z)]) (post := []) HM9.out (30 + i) (.int .i64 ep)
                rw [HS3.out HI8.out] at h
                rw [hw10]
                exact h
              rw [← hw10]
              clear hw10 ckw fkw
              refine hK.out _ _ (HM10.out.drop (.cons_cons _ (.cons _ (.cons _ (.cons _ .slnil))))) (fun hHeld' => ?_)
              clear hK hHeld HM9
              have hHeld := hHeld'
              clear hHeld'
              refine wpAnyH_done (by kernel_rfl) ?_ _
              go_wp2_with fail
              go_meet
              exact ⟨rfl, HM10.out⟩
            case rest =>
              obtain ⟨rfl, hmc⟩ := hcut
              obtain ⟨wd, hwd⟩ : ∃ wd, wd = wc := ⟨_, rfl⟩
              rw [← hwd] at hmc ⊢
              clear hwd
              have HM8 := Lib.hid hmc
              clear hmc HM7
              have HRr : Hid (wd.rangeAt g1 0 T4) := HM8.out.range (.tail _ (.tail _ (.tail _ (.head _))))
              have HTr : Hid (wd.there g2 0 T4.toArray.size) := HM8.out.there (.tail _ (.tail _ (.head _))) 0 _ (by show 0 + T4.length ≤ Z.length; rw [HT4F.out.len HZF.out]; omega)
              go_wp2_with (first
                | ((with_reducible show wpList _ _ _ (⟨some 58, .load _ (.tmp 3), _, _, _, _⟩ :: _) _ _); refine wpList_load_mid rfl 56 (.tmp 3) rfl g1 0 rfl T4 _ HRr.out Tryz.underlying56 rfl HT4F.out.info ?_)
                | ((with_reducible show wpList _ _ _ (⟨none, .store _ (.tmp 6) _, _, _, _, _⟩ :: _) _ _); refine wpList_store_mid rfl 56 (.tmp 6) (.tmp 58) rfl g2 0 T4.toArray rfl rfl HTr.out HT4F.out.infos HT4F.out.one ?_))
              have HMr : Hid (MW w (wd.setCells g2 0 T4) [(g4, 49, K2), (g3, 53, E), (g2, 56, T4), (g1, 56, T4)]) := MW.set (pre := [(g4, 49, K2), (g3, 53, E)]) (post := [(g1, 56, T4)]) HM8.out (HT4F.out.len HZF.out)
              (try simp only [Exit.inBlock, Exit.then])
              refine bodyPost_ret (results_c3 rfl rfl (HMr.out.range (.tail _ (.tail _ (.head _)))) Tryz.underlying56 rfl HT4F.out.info) rfl ?_
              refine ⟨?_, HMr.out.bel⟩
              rw [HV.out, HT4E.out]
              rfl
end Go.Proofs.YtmkifedcanmjoaaGreat
/- desk.join (contract). Conditions: none. -/
set_option linter.unusedVariables false
set_option linter.unusedSimpArgs false
namespace Go.Proofs.YtmkifedcanmjoaaGreat
open Go.RowKit
attribute [local go_sem ↓] Go.wp_at_zero Go.wp_at_succ
theorem dskX_mut : ∀ c, dskX c → mutX c := fun c h => by unfold dskX at h; subst h; unfold mutX; simp
theorem postsX_mut : ∀ c, postsX c → mutX c := fun c h => by
  rcases h with ⟨a, rfl⟩ | rfl <;> (unfold mutX; simp)
theorem tellX_mut {a : Nat} : ∀ c, tellX a c → mutX c := fun c h => postsX_mut c (tellX_posts c h)
theorem mutX_temp : ¬ mutX .temp := by unfold mutX; simp
theorem mutX_other : ¬ mutX .other := by unfold mutX; simp
def addrsTo (t : Tb) (s : Nat) : List UInt8 := (List.range s).map (addrB t)
theorem addrsTo_8 (t : Tb) : addrsTo t 8 = addrsB t := rfl
theorem addrsTo_len (t : Tb) (s : Nat) : (addrsTo t s).length = s := by simp [addrsTo]
theorem addrsTo_step (t : Tb) (s : Nat) : addrsTo t (s + 1) = addrsTo t s ++ [addrB t s] := by
  unfold addrsTo
  rw [List.range_succ, List.map_append]
  rfl
set_option maxRecDepth 100000 in
set_option maxHeartbeats 12800000 in
theorem djoin_c {L : Lab} {w : World} {g : Nat} {P : Ptrs} {D : DeskD} (hd : DeskM L w g P D) {a : Nat} (ha : a < 64) (d : Nt.NoteD) {h : Nat} (hh : h < 4) (hroom : d.room = (h : Int)) (A : Option Addr) (c : Nat) :
    Calls Tryz.prog 59 #[.pointer (some ⟨g, 0, none⟩), .int .i64 (a : Int), Nt.noteV d A c] w fun e w' => e = .returned (.int .i64 (joinD D a d).2) ∧ ∃ L', DeskM L' w' g P (joinD D a d).1 ∧ Stp mutX L L' w w' := by
  obtain ⟨iB, hiB, hz0, hz1, hz2⟩ := info_parts infoByte
  obtain ⟨J, hJ⟩ : ∃ J, J = joinR (D.hall h).r a D.now := ⟨_, rfl⟩
  have HJE := Lib.hid hJ
  have HWJ : Hid (WR J.1) := by show WR _; rw [hJ]; exact (hd.wr hh).join a hd.nowAt.2
  have HGJ : Hid (goodT J.1.t = true) := by show _ = _; rw [hJ]; exact goodT_join (hd.tg hh) (hd.wr hh).1 a D.now
  obtain ⟨sl, hsl⟩ : ∃ sl, sl = J.2.1 := ⟨_, rfl⟩
  obtain ⟨e3, he3⟩ : ∃ e3, e3 = J.2.2 := ⟨_, rfl⟩
  obtain ⟨ep, hep⟩ : ∃ ep, ep = J.1.k.epoch := ⟨_, rfl⟩
  obtain ⟨mk, hmk⟩ : ∃ mk, mk = maskT J.1.t := ⟨_, rfl⟩
  obtain ⟨cm, hcm⟩ : ∃ cm, cm = comingK J.1.k := ⟨_, rfl⟩
  obtain ⟨D1, hD1⟩ : ∃ D1, D1 = D.setRoom h J.1 := ⟨_, rfl⟩
  obtain ⟨d1, hd1⟩ : ∃ d1 : Nt.NoteD, d1 = ⟨17, (h : Int), sl, ep, (mk : Int), cm, addrsB J.1.t⟩ := ⟨_, rfl⟩
  obtain ⟨D2, hD2⟩ : ∃ D2, D2 = sayD D1 a d1 := ⟨_, rfl⟩
  obtain ⟨d2, hd2⟩ : ∃ d2 : Nt.NoteD, d2 = ⟨19, 0, sl, ep, (mk : Int), (a : Int), []⟩ := ⟨_, rfl⟩
  obtain ⟨res, hres⟩ : ∃ res, res = joinD D a d := ⟨_, rfl⟩
  have HRE : Hid (res = if e3 ≠ 0 then (D, e3) else (allD D2 h sl d2, 0)) := by
    show _ = _
    rw [hres, he3, hD2, hd2, hd1, hD1, hcm, hmk, hep, hsl, hJ]
    unfold joinD
    rw [hroom, Int.toNat_natCast]
  have HD1E := Lib.hid hD1
  have HD2E := Lib.hid hD2
  have Hd1E := Lib.hid hd1
  have Hd2E := Lib.hid hd2
  have HA := Lib.hid ha
  have HH := Lib.hid hh
  have HMKE := Lib.hid hmk
  have HCME := Lib.hid hcm
  have hh0 : (0 : Int) ≤ (h : Int) := by omega
  have hh1 : (h : Int) < 4 := by omega
  rw [← hres]
  obtain ⟨kind, room, slot, epoch, n, m, bs⟩ := d
  simp only at hroom
  subst hroom
  obtain ⟨nb, hnb⟩ : ∃ nb, nb = bs.length := ⟨_, rfl⟩
  have HNV : Hid (Nt.noteV ⟨kind, (h : Int), slot, epoch, n, m, bs⟩ A c = .agg #[.int .i64 kind, .int .i64 (h : Int), .int .i64 slot, .int .i64 epoch, .int .i64 n, .int .i64 m, .slice A nb c]) := by show _ = _; rw [hnb]; rfl
  rw [HNV.out]
  obtain ⟨T, hT⟩ : ∃ T : List Value, T = rL (D.hall h).r := ⟨_, rfl⟩
  have HTF : Hid (FitL 56 T) := by show FitL _ _; rw [hT]; exact fitR (hd.wr hh)
  have HTE := Lib.hid hT
  obtain ⟨U, hU⟩ : ∃ U : List Value, U = rL J.1 := ⟨_, rfl⟩
  have HUF : Hid (FitL 56 U) := by show FitL _ _; rw [hU]; exact fitR HWJ.out
  have HUE := Lib.hid hU
  obtain ⟨E, hE⟩ : ∃ E : List Value, E = tbL J.1.t := ⟨_, rfl⟩
  have HEF : Hid (FitL 53 E) := by show FitL _ _; rw [hE]; exact fitT HWJ.out.1
  have HEE := Lib.hid hE
  obtain ⟨Y, hY⟩ : ∃ Y : List Value, Y = [.bool false, .bool false, .bool false, .bool false, .bool false, .bool false, .bool false, .bool false, .int .i64 0, .int .i64 0, .int .i64 0, .int .i64 0, .int .i64 0, .int .i64 0, .int .i64 0, .int .i64 0, .int .i64 0, .bool false, .int .i64 0, .int .i64 0, .int .i64 0, .int .i64 0, .int .i64 0, .int .i64 0, .int .i64 0, .int .i64 0, .int .i64 0, .int .i64 0, .int .i64 0, .int .i64 0, .int .i64 0, .int .i64 0, .int .i64 0, .int .i64 0, .int .i64 0, .int .i64 0, .int .i64 0, .int .i64 0, .bool false] := ⟨_, rfl⟩
  have HYF : Hid (FitL 56 Y) := by show FitL _ _; rw [hY]; exact fit0R
  have HYE := Lib.hid hY
  obtain ⟨now, hnow⟩ : ∃ now, now = D.now := ⟨_, rfl⟩
  have HNE := Lib.hid hnow
  have JOI : Hid (∀ (wx : World), Calls Tryz.prog 14 #[.agg T.toArray, .int .i64 (a : Int), .int .i64 now] wx fun e w' => e = .returned (.tuple #[.agg U.toArray, .int .i64 sl, .int .i64 e3]) ∧ Below wx.heap.size wx w') := fun wx => by rw [HTE.out, HUE.out, HNE.out, hsl, he3, HJE.out]; exact join_c _ a _ wx (hd.wr hh) hd.nowAt.2
  have MSK : Hid (∀ (wx : World), Calls Tryz.prog 64 #[.agg E.toArray] wx fun e w' => e = .returned (.int .i64 (mk : Int)) ∧ Below wx.heap.size wx w') := fun wx => by rw [HEE.out, hmk]; exact mask_c J.1.t wx HWJ.out.1
  have HUT : Hid (∀ j v, E[j]? = some v → U[0 + j]? = some v) := by show ∀ _ _, _; rw [hU, hE]; exact rL_tpart HWJ.out
  have HU16 : Hid (U[16]? = some (.int .i64 ep)) := by show _ = _; rw [hU, hep]; exact rL_k HWJ.out (i := 0) (by decide)
  have HUA : Hid (∀ i, i < 8 → U[8 + i]? = some (.int .i64 (addrAt J.1.t i))) := by show ∀ _, _; intro i hi; rw [hU, rL_t HWJ.out (by omega)]; exact tbL_addr HWJ.out.1 hi
  have HUU : Hid (∀ j v, (J.1.t.used.map Value.bool)[j]? = some v → U[0 + j]? = some v) := fun j v hv => by
    refine HUT.out j v ?_
    rw [HEE.out]
    unfold tbL
    rw [List.getElem?_append_left (get_len hv)]
    exact hv
  have HD := Lib.hid hd
  have HM0 : Hid (DW mutX w L w L g P D []) := DW.start mutX hd
  obtain ⟨q, hq⟩ : ∃ q, q = w.heap.size := ⟨_, rfl⟩
  obtain ⟨w1, hw1⟩ : ∃ w1, w1 = w.alloc (.cells #[.int .i64 kind, .int .i64 (h : Int), .int .i64 slot, .int .i64 epoch, .int .i64 n, .int .i64 m, .slice A nb c] 172) := ⟨_, rfl⟩
  obtain ⟨L1, hL1⟩ : ∃ L1, L1 = tempAt L w.heap.size := ⟨_, rfl⟩
  have HM1 : Hid (DW mutX w L w1 L1 g P D [(q, 172, [.int .i64 kind, .int .i64 (h : Int), .int .i64 slot, .int .i64 epoch, .int .i64 n, .int .i64 m, .slice A nb c])]) := by
    show DW _ _ _ _ _ _ _ _ _
    rw [hw1, hq, hL1]
    exact HM0.out.alloc _ [_, _, _, _, _, _, _]
  clear hd hJ hsl he3 hep hmk hcm hD1 hd1 hD2 hd2 hres hT hU hE hY hnow hL1 HM0 ha hh hnb HNV
  go_enter Tryz.func59, Tryz.ntmps59
  go_upto_region 1 with fail
  rw [← hw1, ← hq]
  clear hw1 hq
  obtain ⟨q0, q1, q2, q3, q4, q5, q6⟩ := HM1.out.cell7 (.head _)
  go_quiet (fail)
  go_upto_region 2 with fail
  obtain ⟨w2, hw2⟩ : ∃ w2, w2 = w1.drewN nq := ⟨_, rfl⟩
  have HM2 : Hid (DW mutX w L w2 L1 g P D [(q, 172, [.int .i64 kind, .int .i64 (h : Int), .int .i64 slot, .int .i64 epoch, .int .i64 n, .int .i64 m, .slice A nb c])]) := by show DW _ _ _ _ _ _ _ _ _; rw [hw2]; exact HM1.out.drewN nq
  rw [← hw2]
  clear hw2 HM1
  clear q0 q1 q2 q3 q4 q5 q6
  go_cut [8, 9, 10] (fun v8 v9 v10 wx => ∃ g8 Lx, v8 = .pointer (some ⟨g8, 0, none⟩) ∧ v9 = .int .i64 sl ∧ v10 = .int .i64 e3 ∧ DW mutX w L wx Lx g P D [(g8, 56, U), (q, 172, [.int .i64 kind, .int .i64 (h : Int), .int .i64 slot, .int .i64 epoch, .int .i64 n, .int .i64 m, .slice A nb c])])
  case first =>
    obtain ⟨wd3, hwd3⟩ : ∃ wd3, wd3 = w2.drew := ⟨_, rfl⟩
    have HM3 : Hid (DW mutX w L wd3 L1 g P D [(q, 172, [.int .i64 kind, .int .i64 (h : Int), .int .i64 slot, .int .i64 epoch, .int .i64 n, .int .i64 m, .slice A nb c])]) := by show DW _ _ _ _ _ _ _ _ _; rw [hwd3]; exact HM2.out.drew
    have HC3 : Hid (World.rangeAt wd3 g (h * 367) T ∧ wd3.cell? ⟨g, 1468, none⟩ = some (.int .i64 now)) := by
      exact ⟨by rw [HTE.out]; exact HM3.out.dm.roomAt HH.out, by rw [HNE.out]; exact HM3.out.dm.nowAt.1⟩
    refine wp_region_held_drew (S := (fun w' => World.rangeAt w' g (h * 367) T ∧ w'.cell? ⟨g, 1468, none⟩ = some (.int .i64 now))) (by kernel_rfl) (by rw [← hwd3]; exact HC3.out) (fun hHeld => ?_)
    rw [← hwd3] at hHeld ⊢
    clear hwd3
    refine wpAnyH_takeAt (i := 0) (v := (.pointer (some ⟨g, h * 367, none⟩))) rfl (by kernel_rfl) (by kernel_rfl) (by kernel_rfl) (fun _ _ _ h => h) rfl (Or.inl ⟨by rfl, fun w' hS => ?_⟩) hHeld ?_
    · go_simp
    simp only [List.set_cons_zero, List.set_cons_succ]
    refine wpAnyH_takeAt (i := 1) (v := (.pointer (some ⟨g, h * 367, none⟩))) rfl (by kernel_rfl) (by kernel_rfl) (by kernel_rfl) (fun _ _ _ h => h) rfl (Or.inl ⟨by rfl, fun w' hS => ?_⟩) hHeld ?_
    · go_simp
    simp only [List.set_cons_zero, List.set_cons_succ]
    refine wpAnyH_takeAt (i := 2) (v := (.pointer (some ⟨g, h * 367, none⟩))) rfl (by kernel_rfl) (by kernel_rfl) (by kernel_rfl) (fun _ _ _ h => h) rfl (Or.inl ⟨by rfl, fun w' hS => ?_⟩) hHeld ?_
    · go_simp
    simp only [List.set_cons_zero, List.set_cons_succ]
    refine wpAnyH_takeAt (i := 3) (v := (.agg T.toArray)) rfl (by kernel_rfl) (by kernel_rfl) (by kernel_rfl) (fun _ _ _ h => h) rfl (yieldsIf_load_mid (by rfl) 56 _ rfl g (h * 367) rfl T _ (fun w' hS => hS.1) Tryz.underlying56 rfl HTF.out.info) hHeld ?_
    simp only [List.set_cons_zero, List.set_cons_succ]
    refine wpAnyH_takeAt (i := 4) (v := (.int .i64 (a : Int))) rfl (by kernel_rfl) (by kernel_rfl) (by kernel_rfl) (fun _ _ _ h => h) rfl (Or.inl ⟨by rfl, fun w' hS => ?_⟩) hHeld ?_
    · go_simp
    simp only [List.set_cons_zero, List.set_cons_succ]
    refine wpAnyH_takeAt (i := 5) (v := (.pointer (some ⟨g, 0, none⟩))) rfl (by kernel_rfl) (by kernel_rfl) (by kernel_rfl) (fun _ _ _ h => h) rfl (Or.inl ⟨by rfl, fun w' hS => ?_⟩) hHeld ?_
    · go_simp
    simp only [List.set_cons_zero, List.set_cons_succ]
    refine wpAnyH_takeAt (i := 6) (v := (.pointer (some ⟨g, 0, none⟩))) rfl (by kernel_rfl) (by kernel_rfl) (by kernel_rfl) (fun _ _ _ h => h) rfl (Or.inl ⟨by rfl, fun w' hS => ?_⟩) hHeld ?_
    · go_simp
    simp only [List.set_cons_zero, List.set_cons_succ]
    refine wpAnyH_takeAt (i := 7) (v := (.pointer (some ⟨g, 1468, none⟩))) rfl (by kernel_rfl) (by kernel_rfl) (by kernel_rfl) (fun _ _ _ h => h) rfl (Or.inl ⟨by rfl, fun w' hS => ?_⟩) hHeld ?_
    · go_simp
    simp only [List.set_cons_zero, List.set_cons_succ]
    refine wpAnyH_takeAt (i := 8) (v := (.int .i64 now)) rfl (by kernel_rfl) (by kernel_rfl) (by kernel_rfl) (fun _ _ _ h => h) rfl (Or.inl ⟨by rfl, fun w' hS => ?_⟩) hHeld ?_
    · have q0 := hS.2
      go_simp
    simp only [List.set_cons_zero, List.set_cons_succ]
    refine wpAnyH_ready (rs := [9, 14]) (by kernel_rfl) (by simp) (AllReadyH.cons rfl (fun K' hK => ?_) (AllReadyH.cons rfl (fun K' hK => ?_) AllReadyH.nil))
    · go_simp
      go_at_call 14
      refine (JOI.out wd3).mono ?_
      rintro e0 wd4 ⟨rfl, hbq⟩
      have HM4 : Hid (DW mutX w L wd4 L1 g P D [(q, 172, [.int .i64 kind, .int .i64 (h : Int), .int .i64 slot, .int .i64 epoch, .int .i64 n, .int .i64 m, .slice A nb c])]) := HM3.out.call hbq
      have HC4 : Hid (World.rangeAt wd4 g (h * 367) T ∧ wd4.cell? ⟨g, 1468, none⟩ = some (.int .i64 now)) := by
        exact ⟨by rw [HTE.out]; exact HM4.out.dm.roomAt HH.out, by rw [HNE.out]; exact HM4.out.dm.nowAt.1⟩
      clear hbq
      go_wp2_with fail
      refine hK.out _ _ HC4.out (fun hHeld' => ?_)
      clear hK hHeld 
      have hHeld := hHeld'
      clear hHeld'
      refine wpAnyH_takeAt (i := 10) (v := (.tuple #[.agg U.toArray, .int .i64 sl, .int .i64 e3])) rfl (by kernel_rfl) (by kernel_rfl) (by kernel_rfl) (fun _ _ _ h => h) rfl (Or.inl ⟨by rfl, fun w' hS => ?_⟩) hHeld ?_
      · go_simp
      simp only [List.set_cons_zero, List.set_cons_succ]
      refine wpAnyH_takeAt (i := 11) (v := (.agg U.toArray)) rfl (by kernel_rfl) (by kernel_rfl) (by kernel_rfl) (fun _ _ _ h => h) rfl (Or.inl ⟨by rfl, fun w' hS => ?_⟩) hHeld ?_
      · go_simp
      simp only [List.set_cons_zero, List.set_cons_succ]
      refine wpAnyH_takeAt (i := 12) (v := (.int .i64 sl)) rfl (by kernel_rfl) (by kernel_rfl) (by kernel_rfl) (fun _ _ _ h => h) rfl (Or.inl ⟨by rfl, fun w' hS => ?_⟩) hHeld ?_
      · go_simp
      simp only [List.set_cons_zero, List.set_cons_succ]
      refine wpAnyH_takeAt (i := 13) (v := (.int .i64 e3)) rfl (by kernel_rfl) (by kernel_rfl) (by kernel_rfl) (fun _ _ _ h => h) rfl (Or.inl ⟨by rfl, fun w' hS => ?_⟩) hHeld ?_
      · go_simp
      simp only [List.set_cons_zero, List.set_cons_succ]
      refine wpAnyH_ready (rs := [14]) (by kernel_rfl) (by simp) (AllReadyH.cons rfl (fun K' hK => ?_) AllReadyH.nil)
      go_simp
      obtain ⟨g8, hg8⟩ : ∃ g8, g8 = wd4.heap.size := ⟨_, rfl⟩
      obtain ⟨wd5, hwd5⟩ : ∃ wd5, wd5 = wd4.alloc (.cells #[.bool false, .bool false, .bool false, .bool false, .bool false, .bool false, .bool false, .bool false, .int .i64 0, .int .i64 0, .int .i64 0, .int .i64 0, .int .i64 0, .int .i64 0, .int .i64 0, .int .i64 0, .int .i64 0, .bool false, .int .i64 0, .int .i64 0, .int .i64 0, .int .i64 0, .int .i64 0, .int .i64 0, .int .i64 0, .int .i64 0, .int .i64 0, .int .i64 0, .int .i64 0, .int .i64 0, .int .i64 0, .int .i64 0, .int .i64 0, .int .i64 0, .int .i64 0, .int .i64 0, .int .i64 0, .int .i64 0, .bool false] 56) := ⟨_, rfl⟩
      obtain ⟨La5, hLa5⟩ : ∃ La5, La5 = tempAt L1 wd4.heap.size := ⟨_, rfl⟩
      have HM5 : Hid (DW mutX w L wd5 La5 g P D [(g8, 56, Y), (q, 172, [.int .i64 kind, .int .i64 (h : Int), .int .i64 slot, .int .i64 epoch, .int .i64 n, .int .i64 m, .slice A nb c])]) := by
        show DW _ _ _ _ _ _ _ _ _
        have h := HM4.out.alloc 56 [.bool false, .bool false, .bool false, .bool false, .bool false, .bool false, .bool false, .bool false, .int .i64 0, .int .i64 0, .int .i64 0, .int .i64 0, .int .i64 0, .int .i64 0, .int .i64 0, .int .i64 0, .int .i64 0, .bool false, .int .i64 0, .int .i64 0, .int .i64 0, .int .i64 0, .int .i64 0, .int .i64 0, .int .i64 0, .int .i64 0, .int .i64 0, .int .i64 0, .int .i64 0, .int .i64 0, .int .i64 0, .int .i64 0, .int .i64 0, .int .i64 0, .int .i64 0, .int .i64 0, .int .i64 0, .int .i64 0, .bool false]
        rw [hwd5, hg8, hLa5, HYE.out]
        exact h
      have HC5 : Hid (World.rangeAt wd5 g (h * 367) T ∧ wd5.cell? ⟨g, 1468, none⟩ = some (.int .i64 now)) := by
        exact ⟨by rw [HTE.out]; exact HM5.out.dm.roomAt HH.out, by rw [HNE.out]; exact HM5.out.dm.nowAt.1⟩
      rw [← hwd5, ← hg8]
      clear hwd5 hg8 hLa5
      refine hK.out _ _ HC5.out (fun hHeld' => ?_)
      clear hK hHeld 
      have hHeld := hHeld'
      clear hHeld'
      refine wpAnyH_ready (rs := [15]) (by kernel_rfl) (by simp) (AllReadyH.cons rfl (fun K' hK => ?_) AllReadyH.nil)
      rw [if_pos (by rfl)]
      refine wp_store_mid 56 (.tmp 8) (.tmp 32) (by rfl) g8 0 U.toArray (by rfl) (by rfl) (HM5.out.there (.head _) 0 _ (by show 0 + U.length ≤ Y.length; rw [HUF.out.len HYF.out]; omega)) HUF.out.infos HUF.out.one ?_
      obtain ⟨wd6, hwd6⟩ : ∃ wd6, wd6 = wd5.setCells g8 0 U := ⟨_, rfl⟩
      have HM6 : Hid (DW mutX w L wd6 La5 g P D [(g8, 56, U), (q, 172, [.int .i64 kind, .int .i64 (h : Int), .int .i64 slot, .int .i64 epoch, .int .i64 n, .int .i64 m, .slice A nb c])]) := by show DW _ _ _ _ _ _ _ _ _; rw [hwd6]; exact DW.set (pre := []) (post := [(q, 172, [.int .i64 kind, .int .i64 (h : Int), .int .i64 slot, .int .i64 epoch, .int .i64 n, .int .i64 m, .slice A nb c])]) HM5.out (HUF.out.len HYF.out)
      have HC6 : Hid (World.rangeAt wd6 g (h * 367) T ∧ wd6.cell? ⟨g, 1468, none⟩ = some (.int .i64 now)) := by
        exact ⟨by rw [HTE.out]; exact HM6.out.dm.roomAt HH.out, by rw [HNE.out]; exact HM6.out.dm.nowAt.1⟩
      rw [← hwd6]
      clear hwd6
      refine hK.out _ _ HC6.out (fun hHeld' => ?_)
      clear hK hHeld 
      have hHeld := hHeld'
      clear hHeld'
      refine wpAnyH_putNone rfl ?_
      refine wpAnyH_takeAt (i := 16) (v := (.int .i64 sl)) rfl (by kernel_rfl) (by kernel_rfl) (by kernel_rfl) (fun _ _ _ h => h) rfl (Or.inl ⟨by rfl, fun w' hS => ?_⟩) hHeld ?_
      · go_simp
      simp only [List.set_cons_zero, List.set_cons_succ]
      refine wpAnyH_takeAt (i := 17) (v := (.int .i64 e3)) rfl (by kernel_rfl) (by kernel_rfl) (by kernel_rfl) (fun _ _ _ h => h) rfl (Or.inl ⟨by rfl, fun w' hS => ?_⟩) hHeld ?_
      · go_simp
      simp only [List.set_cons_zero, List.set_cons_succ]
      refine wpAnyH_done (by kernel_rfl) ?_ _
      go_wp2_with fail
      go_meet
      exact ⟨g8, La5, rfl, rfl, rfl, HM6.out⟩
    · go_simp
      obtain ⟨g8, hg8⟩ : ∃ g8, g8 = wd3.heap.size := ⟨_, rfl⟩
      obtain ⟨wd4, hwd4⟩ : ∃ wd4, wd4 = wd3.alloc (.cells #[.bool false, .bool false, .bool false, .bool false, .bool false, .bool false, .bool false, .bool false, .int .i64 0, .int .i64 0, .int .i64 0, .int .i64 0, .int .i64 0, .int .i64 0, .int .i64 0, .int .i64 0, .int .i64 0, .bool false, .int .i64 0, .int .i64 0, .int .i64 0, .int .i64 0, .int .i64 0, .int .i64 0, .int .i64 0, .int .i64 0, .int .i64 0, .int .i64 0, .int .i64 0, .int .i64 0, .int .i64 0, .int .i64 0, .int .i64 0, .int .i64 0, .int .i64 0, .int .i64 0, .int .i64 0, .int .i64 0, .bool false] 56) := ⟨_, rfl⟩
      obtain ⟨La4, hLa4⟩ : ∃ La4, La4 = tempAt L1 wd3.heap.size := ⟨_, rfl⟩
      have HM4 : Hid (DW mutX w L wd4 La4 g P D [(g8, 56, Y), (q, 172, [.int .i64 kind, .int .i64 (h : Int), .int .i64 slot, .int .i64 epoch, .int .i64 n, .int .i64 m, .slice A nb c])]) := by
        show DW _ _ _ _ _ _ _ _ _
        have h := HM3.out.alloc 56 [.bool false, .bool false, .bool false, .bool false, .bool false, .bool false, .bool false, .bool false, .int .i64 0, .int .i64 0, .int .i64 0, .int .i64 0, .int .i64 0, .int .i64 0, .int .i64 0, .int .i64 0, .int .i64 0, .bool false, .int .i64 0, .int .i64 0, .int .i64 0, .int .i64 0, .int .i64 0, .int .i64 0, .int .i64 0, .int .i64 0, .int .i64 0, .int .i64 0, .int .i64 0, .int .i64 0, .int .i64 0, .int .i64 0, .int .i64 0, .int .i64 0, .int .i64 0, .int .i64 0, .int .i64 0, .int .i64 0, .bool false]
        rw [hwd4, hg8, hLa4, HYE.out]
        exact h
      have HC4 : Hid (World.rangeAt wd4 g (h * 367) T ∧ wd4.cell? ⟨g, 1468, none⟩ = some (.int .i64 now)) := by
        exact ⟨by rw [HTE.out]; exact HM4.out.dm.roomAt HH.out, by rw [HNE.out]; exact HM4.out.dm.nowAt.1⟩
      rw [← hwd4, ← hg8]
      clear hwd4 hg8 hLa4
      refine hK.out _ _ HC4.out (fun hHeld' => ?_)
      clear hK hHeld 
      have hHeld := hHeld'
      clear hHeld'
      refine wpAnyH_ready (rs := [9]) (by kernel_rfl) (by simp) (AllReadyH.cons rfl (fun K' hK => ?_) AllReadyH.nil)
      go_simp
      go_at_call 14
      refine (JOI.out wd4).mono ?_
      rintro e0 wd5 ⟨rfl, hbq⟩
      have HM5 : Hid (DW mutX w L wd5 La4 g P D [(g8, 56, Y), (q, 172, [.int .i64 kind, .int .i64 (h : Int), .int .i64 slot, .int .i64 epoch, .int .i64 n, .int .i64 m, .slice A nb c])]) := HM4.out.call hbq
      have HC5 : Hid (World.rangeAt wd5 g (h * 367) T ∧ wd5.cell? ⟨g, 1468, none⟩ = some (.int .i64 now)) := by
        exact ⟨by rw [HTE.out]; exact HM5.out.dm.roomAt HH.out, by rw [HNE.out]; exact HM5.out.dm.nowAt.1⟩
      clear hbq
      go_wp2_with fail
      refine hK.out _ _ HC5.out (fun hHeld' => ?_)
      clear hK hHeld 
      have hHeld := hHeld'
      clear hHeld'
      refine wpAnyH_takeAt (i := 10) (v := (.tuple #[.agg U.toArray, .int .i64 sl, .int .i64 e3])) rfl (by kernel_rfl) (by kernel_rfl) (by kernel_rfl) (fun _ _ _ h => h) rfl (Or.inl ⟨by rfl, fun w' hS => ?_⟩) hHeld ?_
      · go_simp
      simp only [List.set_cons_zero, List.set_cons_succ]
      refine wpAnyH_takeAt (i := 11) (v := (.agg U.toArray)) rfl (by kernel_rfl) (by kernel_rfl) (by kernel_rfl) (fun _ _ _ h => h) rfl (Or.inl ⟨by rfl, fun w' hS => ?_⟩) hHeld ?_
      · go_simp
      simp only [List.set_cons_zero, List.set_cons_succ]
      refine wpAnyH_takeAt (i := 12) (v := (.int .i64 sl)) rfl (by kernel_rfl) (by kernel_rfl) (by kernel_rfl) (fun _ _ _ h => h) rfl (Or.inl ⟨by rfl, fun w' hS => ?_⟩) hHeld ?_
      · go_simp
      simp only [List.set_cons_zero, List.set_cons_succ]
      refine wpAnyH_takeAt (i := 13) (v := (.int .i64 e3)) rfl (by kernel_rfl) (by kernel_rfl) (by kernel_rfl) (fun _ _ _ h => h) rfl (Or.inl ⟨by rfl, fun w' hS => ?_⟩) hHeld ?_
      · go_simp
      simp only [List.set_cons_zero, List.set_cons_succ]
      refine wpAnyH_ready (rs := [15]) (by kernel_rfl) (by simp) (AllReadyH.cons rfl (fun K' hK => ?_) AllReadyH.nil)
      rw [if_pos (by rfl)]
      refine wp_store_mid 56 (.tmp 8) (.tmp 32) (by rfl) g8 0 U.toArray (by rfl) (by rfl) (HM5.out.there (.head _) 0 _ (by show 0 + U.length ≤ Y.length; rw [HUF.out.len HYF.out]; omega)) HUF.out.infos HUF.out.one ?_
      obtain ⟨wd6, hwd6⟩ : ∃ wd6, wd6 = wd5.setCells g8 0 U := ⟨_, rfl⟩
      have HM6 : Hid (DW mutX w L wd6 La4 g P D [(g8, 56, U), (q, 172, [.int .i64 kind, .int .i64 (h : Int), .int .i64 slot, .int .i64 epoch, .int .i64 n, .int .i64 m, .slice A nb c])]) := by show DW _ _ _ _ _ _ _ _ _; rw [hwd6]; exact DW.set (pre := []) (post := [(q, 172, [.int .i64 kind, .int .i64 (h : Int), .int .i64 slot, .int .i64 epoch, .int .i64 n, .int .i64 m, .slice A nb c])]) HM5.out (HUF.out.len HYF.out)
      have HC6 : Hid (World.rangeAt wd6 g (h * 367) T ∧ wd6.cell? ⟨g, 1468, none⟩ = some (.int .i64 now)) := by
        exact ⟨by rw [HTE.out]; exact HM6.out.dm.roomAt HH.out, by rw [HNE.out]; exact HM6.out.dm.nowAt.1⟩
      rw [← hwd6]
      clear hwd6
      refine hK.out _ _ HC6.out (fun hHeld' => ?_)
      clear hK hHeld 
      have hHeld := hHeld'
      clear hHeld'
      refine wpAnyH_putNone rfl ?_
      refine wpAnyH_takeAt (i := 16) (v := (.int .i64 sl)) rfl (by kernel_rfl) (by kernel_rfl) (by kernel_rfl) (fun _ _ _ h => h) rfl (Or.inl ⟨by rfl, fun w' hS => ?_⟩) hHeld ?_
      · go_simp
      simp only [List.set_cons_zero, List.set_cons_succ]
      refine wpAnyH_takeAt (i := 17) (v := (.int .i64 e3)) rfl (by kernel_rfl) (by kernel_rfl) (by kernel_rfl) (fun _ _ _ h => h) rfl (Or.inl ⟨by rfl, fun w' hS => ?_⟩) hHeld ?_
      · go_simp
      simp only [List.set_cons_zero, List.set_cons_succ]
      refine wpAnyH_done (by kernel_rfl) ?_ _
      go_wp2_with fail
      go_meet
      exact ⟨g8, La4, rfl, rfl, rfl, HM6.out⟩
  case rest =>
    obtain ⟨g8, L5, rfl, rfl, rfl, hmc⟩ := hcut
    obtain ⟨w5, hw5⟩ : ∃ w5, w5 = wc := ⟨_, rfl⟩
    rw [← hw5] at hmc ⊢
    clear hw5
    have HM5 := Lib.hid hmc
    clear hmc HM2
    by_cases hz : e3 = 0
    rotate_left
    · have hz2 : (e3 != 0) = true := by simp [hz]
      have HV : Hid (res = (D, e3)) := by show _ = _; rw [HRE.out, if_pos hz]
      clear HRE hz
      go_wp2_with fail
      go_ret
      exact ⟨by rw [HV.out]; rfl, L5, by rw [HV.out]; exact HM5.out.dm, HM5.out.stp⟩
    subst hz
    have HV : Hid (res = (allD D2 h sl d2, 0)) := by show _ = _; rw [HRE.out, if_neg (by simp)]
    clear HRE
    have HRW : Hid (w5.rangeAt g8 0 U) := HM5.out.range (.head _)
    have HTH : Hid (w5.there g (h * 367) U.toArray.size) := HM5.out.dm.thereRoom HH.out (by show U.length ≤ 39; rw [HUE.out, rL_len HWJ.out]; exact Nat.le_refl _)
    go_upto_region 6 with (first
      | ((with_reducible show wpList _ _ _ (⟨some 39, .load _ (.tmp 8), _, _, _, _⟩ :: _) _ _); refine wpList_load_mid rfl 56 (.tmp 8) rfl g8 0 rfl U _ HRW.out Tryz.underlying56 rfl HUF.out.info ?_)
      | ((with_reducible show wpList _ _ _ (⟨none, .store _ (.tmp 41) _, _, _, _, _⟩ :: _) _ _); refine wpList_store_mid rfl 56 (.tmp 41) (.tmp 39) rfl g (h * 367) U.toArray rfl rfl HTH.out HUF.out.infos HUF.out.one ?_))
    obtain ⟨w6, hw6⟩ : ∃ w6, w6 = w5.setCells g (h * 367) U := ⟨_, rfl⟩
    have HM6 : Hid (DW mutX w L w6 L5 g P D1 [(g8, 56, U), (q, 172, [.int .i64 kind, .int .i64 (h : Int), .int .i64 slot, .int .i64 epoch, .int .i64 n, .int .i64 m, .slice A nb c])]) := by
      have h1 := HM5.out.dm.putRoom HH.out HWJ.out HGJ.out
      rw [← HUE.out, ← hw6, ← HD1E.out] at h1
      exact HM5.out.step (h1.2.mono dskX_mut) h1.1 mutX_temp
    rw [← hw6]
    clear hw6 HRW HTH HM5
    have HRW : Hid (w6.rangeAt g8 0 E) := HM6.out.part (.head _) 0 E HUT.out
    go_wp2_with (first
      | ((with_reducible show wpList _ _ _ (⟨some 43, .load _ (.tmp 42), _, _, _, _⟩ :: _) _ _); refine wpList_load_mid rfl 53 (.tmp 42) rfl g8 0 rfl E _ HRW.out Tryz.underlying53 rfl HEF.out.info ?_))
    clear HRW
    refine (MSK.out w6).mono ?_
    rintro e0 w7 ⟨rfl, hbq⟩
    have HM7 : Hid (DW mutX w L w7 L5 g P D1 [(g8, 56, U), (q, 172, [.int .i64 kind, .int .i64 (h : Int), .int .i64 slot, .int .i64 epoch, .int .i64 n, .int .i64 m, .slice A nb c])]) := HM6.out.call hbq
    clear hbq
    obtain ⟨M, hM⟩ : ∃ M, M = (J.1.t.used.map Value.bool).toArray := ⟨_, rfl⟩
    have HME := Lib.hid hM
    have HIB : Hid ((Tryz.prog.info? 50).map (·.size) = some (J.1.t.used.map Value.bool).length) := by show _ = _; rw [List.length_map, HWJ.out.1.1]; exact infoB8
    have HRU : Hid (w7.rangeAt g8 0 (J.1.t.used.map Value.bool)) := HM7.out.part (.head _) 0 _ HUU.out
    go_upto_region 9 with (first
      | ((with_reducible show wpList _ _ _ (⟨some 47, .load _ (.tmp 46), _, _, _, _⟩ :: _) _ _); refine wpList_load_mid rfl 50 (.tmp 46) rfl g8 0 rfl (J.1.t.used.map Value.bool) _ HRU.out Tryz.underlying50 rfl HIB.out ?_))
    rw [← hM]
    clear hM HRU
    go_loopg [12, 48] 8 (fun gg v12 v wx => ∃ (s : Nat), gg = 8 - s ∧ s ≤ 8 ∧ v = .int .i64 (s : Int) ∧ Below w7.heap.size w7 wx ∧ wx.ownsRow w7.heap.size 5 1 v12 s ((addrsTo J.1.t s).map u8v))
    case atStart => exact ⟨0, rfl, by omega, rfl, Below.refl _ _, World.ownsRow_nil _ _ _ _⟩
    case round =>
      obtain ⟨s, hgg, hs, rfl, hbel, hown⟩ := hrel
      have HGG := Lib.hid hgg
      have HM8 := Lib.hid (HM7.out.call hbel)
      have HBE := Lib.hid hbel
      have HOW := Lib.hid hown
      clear hgg hbel hown
      by_cases hin : s < 8
      · have hini : (s : Int) < 8 := by omega
        have hin0 : (0 : Int) ≤ (s : Int) := by omega
        have hw1 : IntKind.i64.wrap ((s : Int) + 1) = ((s + 1 : Nat) : Int) := by rw [IntKind.wrap_i64]; omega
        obtain ⟨u, hu⟩ : ∃ u, u = usedAt J.1.t s := ⟨_, rfl⟩
        obtain ⟨ad, had⟩ : ∃ ad : Nat, addrAt J.1.t s = (ad : Int) := ⟨(addrAt J.1.t s).toNat, by have := addr_fits HGJ.out hin; omega⟩
        have HAD : Hid (ad < 64) := by show ad < 64; have := addr_fits HGJ.out hin; omega
        have hidx : ∀ wx, (Instr.index 50 (.agg M) (.int .i64 (s : Int))).run Tryz.prog wx = .ok (.bool u) wx := fun wx => by
          rw [HME.out, hu]
          exact index_bools wx J.1.t.used s hin HWJ.out.1.1
        have ck1 : wr.cell? ⟨g8, 8 + s, none⟩ = some (.int .i64 (ad : Int)) := by rw [HM8.out.cell (.head _), ← had]; exact HUA.out s hin
        have HST : Hid (addrsTo J.1.t (s + 1) = addrsTo J.1.t s ++ [if u then UInt8.ofNat ad else 255]) := by
          show _ = _
          rw [addrsTo_step, hu]
          unfold addrB
          rw [had, Int.toNat_natCast]
        have HLT := Lib.hid hin
        obtain ⟨xs, hxs⟩ : ∃ xs, xs = addrsTo J.1.t s := ⟨_, rfl⟩
        rw [← hxs] at HOW HST
        clear hu had hin hs hxs
        cases u
        · have HS2 : Hid (addrsTo J.1.t (s + 1) = xs ++ [255]) := by show _ = _; rw [HST.out]; rfl
          clear HST ck1
          go_wp2_with (first
            | ((with_reducible show wpList _ _ _ (⟨some 64, .call _, _, _, _, _⟩ :: _) _ _)
               at_builtin
               refine wpList_append_any _ rfl (.tmp 62) (.tmp 63) _ rfl w7.heap.size 5 iB _ 1 1 Tryz.underlying28 hiB hz0 hz1 hz2 rfl (by omega) _ s (xs.map u8v) rfl (HOW.out.alloc _)
                 (wr.alloc (.cells #[.int .u8 255] 5)).heap.size (some ⟨wr.heap.size, 0, none⟩) 1 1 [.int .u8 255] rfl (Reads.of_own (own_one wr _ _)) (by simp [Value.oneCell']) (by have := HLT.out; simp only [maxLen]; omega) (by have := HLT.out; omega) (Nat.le_trans HBE.out.size (by simp)) ?_
               intro v2 w9 hown2 hg2 hat2
               have HB9 := Lib.hid (own_grow_below (balloc HBE.out _) (HOW.out.alloc _) hg2)
               have HO9 := Lib.hid hown2
               clear hown2 hg2 hat2))
          go_roundg (8 - (s + 1))
          case measure => have := HLT.out; have := HGG.out; omega
          case rel =>
            have hlt := HLT.out
            refine ⟨s + 1, rfl, by omega, by first | rfl | go_num, HB9.out, ?_⟩
            rw [HS2.out, List.map_append]
            exact HO9.out
        · have HS2 : Hid (addrsTo J.1.t (s + 1) = xs ++ [UInt8.ofNat ad]) := by show _ = _; rw [HST.out]; rfl
          have hwp : IntKind.u8.wrap (ad : Int) = ((UInt8.ofNat ad).toNat : Int) := u8_wrap ad
          obtain ⟨y, hy⟩ : ∃ y, y = ((UInt8.ofNat ad).toNat : Int) := ⟨_, rfl⟩
          have HYE := Lib.hid hy
          rw [← hy] at hwp
          clear HST hy
          go_wp2_with (first
            | ((with_reducible show wpList _ _ _ (⟨some 61, .call _, _, _, _, _⟩ :: _) _ _)
               at_builtin
               refine wpList_append_any _ rfl (.tmp 53) (.tmp 60) _ rfl w7.heap.size 5 iB _ 1 1 Tryz.underlying28 hiB hz0 hz1 hz2 rfl (by omega) _ s (xs.map u8v) rfl (HOW.out.alloc _)
                 (wr.alloc (.cells #[.int .u8 y] 5)).heap.size (some ⟨wr.heap.size, 0, none⟩) 1 1 [.int .u8 y] rfl (Reads.of_own (own_one wr _ _)) (by simp [Value.oneCell']) (by have := HLT.out; simp only [maxLen]; omega) (by have := HLT.out; omega) (Nat.le_trans HBE.out.size (by simp)) ?_
               intro v2 w9 hown2 hg2 hat2
               have HB9 := Lib.hid (own_grow_below (balloc HBE.out _) (HOW.out.alloc _) hg2)
               have HO9 := Lib.hid hown2
               clear hown2 hg2 hat2))
          go_roundg (8 - (s + 1))
          case measure => have := HLT.out; have := HGG.out; omega
          case rel =>
            have hlt := HLT.out
            refine ⟨s + 1, rfl, by omega, by first | rfl | go_num, HB9.out, ?_⟩
            rw [HS2.out, List.map_append]
            have h := HO9.out
            rw [HYE.out] at h
            exact h
      · have hini : ¬ (s : Int) < 8 := by omega
        have hie : s = 8 := by omega
        subst hie
        clear hin hs
        obtain ⟨Av, cv, rfl⟩ := own_slice HOW.out
        have HBY : Hid (ByV L5 wr (.slice Av 8 cv) (addrsB J.1.t)) := by
          have h := HOW.out
          rw [addrsTo_8] at h
          have hl : (addrsB J.1.t).length = 8 := by rw [← addrsTo_8]; exact addrsTo_len _ _
          refine ByV.ofRow (B := w7.heap.size) (by unfold ByteRow; rw [hl]; exact h) HM7.out.top
        go_upto_region 15 with fail
        have HRD : Hid ((D1.hall h).r = J.1) := by show _ = _; rw [HD1E.out]; unfold DeskD.setRoom; rw [DeskD.hall_set _ _ _ _ (by have := HD.out.mem; obtain ⟨C, _, hC⟩ := this; rw [hC.halls]; exact HH.out), if_pos rfl]
        have HD1B : Hid (d1.bs = addrsB J.1.t ∧ d1.bs.length = 8) := by
          show _ ∧ _
          rw [Hd1E.out]
          exact ⟨rfl, by show (addrsB J.1.t).length = 8; rw [← addrsTo_8]; exact addrsTo_len _ _⟩
        have HNV1 : Hid (Nt.noteV d1 Av cv = .agg #[.int .i64 17, .int .i64 (h : Int), .int .i64 sl, .int .i64 ep, .int .i64 (mk : Int), .int .i64 cm, .slice Av 8 cv]) := by show _ = _; unfold Nt.noteV; rw [HD1B.out.2, Hd1E.out]
        have HNV2 : Hid (Nt.noteV d2 none 0 = .agg #[.int .i64 19, .int .i64 0, .int .i64 sl, .int .i64 ep, .int .i64 (mk : Int), .int .i64 (a : Int), .slice none 0 0]) := by show _ = _; rw [Hd2E.out]; rfl
        obtain ⟨wd9, hwd9⟩ : ∃ wd9, wd9 = wr.drew := ⟨_, rfl⟩
        have HM9 : Hid (DW mutX w L wd9 L5 g P D1 [(g8, 56, U), (q, 172, [.int .i64 kind, .int .i64 (h : Int), .int .i64 slot, .int .i64 epoch, .int .i64 n, .int .i64 m, .slice A nb c])]) := by show DW _ _ _ _ _ _ _ _ _; rw [hwd9]; exact HM8.out.drew
        have HC9 : Hid (wd9.cell? ⟨q, 1, none⟩ = some (.int .i64 (h : Int)) ∧ wd9.cell? ⟨g8, 16, none⟩ = some (.int .i64 ep)) := by
          exact ⟨HM9.out.cell (.tail _ (.head _)) 1, by rw [HM9.out.cell (.head _) 16]; exact HU16.out⟩
        refine wp_region_held_drew (S := (fun w' => w'.cell? ⟨q, 1, none⟩ = some (.int .i64 (h : Int)) ∧ w'.cell? ⟨g8, 16, none⟩ = some (.int .i64 ep))) (by kernel_rfl) (by rw [← hwd9]; exact HC9.out) (fun hHeld => ?_)
        rw [← hwd9] at hHeld ⊢
        have HWD := Lib.hid hwd9
        clear hwd9
        refine wpAnyH_takeAt (i := 0) (v := (.pointer (some ⟨g, 0, none⟩))) rfl (by kernel_rfl) (by kernel_rfl) (by kernel_rfl) (fun _ _ _ h => h) rfl (Or.inl ⟨by rfl, fun w' hS => ?_⟩) hHeld ?_
        · go_simp
        simp only [List.set_cons_zero, List.set_cons_succ]
        refine wpAnyH_takeAt (i := 1) (v := (.int .i64 (a : Int))) rfl (by kernel_rfl) (by kernel_rfl) (by kernel_rfl) (fun _ _ _ h => h) rfl (Or.inl ⟨by rfl, fun w' hS => ?_⟩) hHeld ?_
        · go_simp
        simp only [List.set_cons_zero, List.set_cons_succ]
        refine wpAnyH_takeAt (i := 2) (v := (.pointer (some ⟨q, 1, none⟩))) rfl (by kernel_rfl) (by kernel_rfl) (by kernel_rfl) (fun _ _ _ h => h) rfl (Or.inl ⟨by rfl, fun w' hS => ?_⟩) hHeld ?_
        · go_simp
        simp only [List.set_cons_zero, List.set_cons_succ]
        refine wpAnyH_takeAt (i := 3) (v := (.int .i64 (h : Int))) rfl (by kernel_rfl) (by kernel_rfl) (by kernel_rfl) (fun _ _ _ h => h) rfl (Or.inl ⟨by rfl, fun w' hS => ?_⟩) hHeld ?_
        · have q0 := hS.1
          go_simp
        simp only [List.set_cons_zero, List.set_cons_succ]
        refine wpAnyH_takeAt (i := 4) (v := (.int .i64 sl)) rfl (by kernel_rfl) (by kernel_rfl) (by kernel_rfl) (fun _ _ _ h => h) rfl (Or.inl ⟨by rfl, fun w' hS => ?_⟩) hHeld ?_
        · go_simp
        simp only [List.set_cons_zero, List.set_cons_succ]
        refine wpAnyH_takeAt (i := 5) (v := (.pointer (some ⟨g8, 16, none⟩))) rfl (by kernel_rfl) (by kernel_rfl) (by kernel_rfl) (fun _ _ _ h => h) rfl (Or.inl ⟨by rfl, fun w' hS => ?_⟩) hHeld ?_
        · go_simp
        simp only [List.set_cons_zero, List.set_cons_succ]
        refine wpAnyH_takeAt (i := 6) (v := (.pointer (some ⟨g8, 16, none⟩))) rfl (by kernel_rfl) (by kernel_rfl) (by kernel_rfl) (fun _ _ _ h => h) rfl (Or.inl ⟨by rfl, fun w' hS => ?_⟩) hHeld ?_
        · go_simp
        simp only [List.set_cons_zero, List.set_cons_succ]
        refine wpAnyH_takeAt (i := 7) (v := (.int .i64 ep)) rfl (by kernel_rfl) (by kernel_rfl) (by kernel_rfl) (fun _ _ _ h => h) rfl (Or.inl ⟨by rfl, fun w' hS => ?_⟩) hHeld ?_
        · have q0 := hS.2
          go_simp
        simp only [List.set_cons_zero, List.set_cons_succ]
        refine wpAnyH_takeAt (i := 8) (v := (.int .i64 (mk : Int))) rfl (by kernel_rfl) (by kernel_rfl) (by kernel_rfl) (fun _ _ _ h => h) rfl (Or.inl ⟨by rfl, fun w' hS => ?_⟩) hHeld ?_
        · go_simp
        simp only [List.set_cons_zero, List.set_cons_succ]
        refine wpAnyH_takeAt (i := 9) (v := (.pointer (some ⟨g, h * 367, none⟩))) rfl (by kernel_rfl) (by kernel_rfl) (by kernel_rfl) (fun _ _ _ h => h) rfl (Or.inl ⟨by rfl, fun w' hS => ?_⟩) hHeld ?_
        · go_simp
        simp only [List.set_cons_zero, List.set_cons_succ]
        refine wpAnyH_takeAt (i := 11) (v := (.slice Av 8 cv)) rfl (by kernel_rfl) (by kernel_rfl) (by kernel_rfl) (fun _ _ _ h => h) rfl (Or.inl ⟨by rfl, fun w' hS => ?_⟩) hHeld ?_
        · go_simp
        simp only [List.set_cons_zero, List.set_cons_succ]
        refine wpAnyH_ready (rs := [10]) (by kernel_rfl) (by simp) (AllReadyH.cons rfl (fun K' hK => ?_) AllReadyH.nil)
        go_simp
        go_at_call 108
        refine (comingH_c HM9.out.dm HH.out).mono ?_
        rintro e0 wd10 ⟨rfl, hbq⟩
        have HM10 : Hid (DW mutX w L wd10 L5 g P D1 [(g8, 56, U), (q, 172, [.int .i64 kind, .int .i64 (h : Int), .int .i64 slot, .int .i64 epoch, .int .i64 n, .int .i64 m, .slice A nb c])]) := HM9.out.call hbq
        have HBY2 : Hid (ByV L5 wd10 (.slice Av 8 cv) (addrsB J.1.t)) := (HBY.out.below (bdrew (Below.refl _ _))).below (by rw [← HWD.out]; exact hbq)
        rw [HRD.out, ← HCME.out]
        have HC10 : Hid (wd10.cell? ⟨q, 1, none⟩ = some (.int .i64 (h : Int)) ∧ wd10.cell? ⟨g8, 16, none⟩ = some (.int .i64 ep)) := by
          exact ⟨HM10.out.cell (.tail _ (.head _)) 1, by rw [HM10.out.cell (.head _) 16]; exact HU16.out⟩
        clear hbq
        go_wp2_with fail
        refine hK.out _ _ HC10.out (fun hHeld' => ?_)
        clear hK hHeld 
        have hHeld := hHeld'
        clear hHeld'
        refine wpAnyH_takeAt (i := 12) (v := (.agg #[.int .i64 17, .int .i64 (h : Int), .int .i64 sl, .int .i64 ep, .int .i64 (mk : Int), .int .i64 cm, .slice Av 8 cv])) rfl (by kernel_rfl) (by kernel_rfl) (by kernel_rfl) (fun _ _ _ h => h) rfl (Or.inl ⟨by rfl, fun w' hS => ?_⟩) hHeld ?_
        · go_simp
        simp only [List.set_cons_zero, List.set_cons_succ]
        refine wpAnyH_ready (rs := [13]) (by kernel_rfl) (by simp) (AllReadyH.cons rfl (fun K' hK => ?_) AllReadyH.nil)
        go_simp
        go_at_call 107
        have HCS : Hid (Calls Tryz.prog 107 #[(.pointer (some ⟨g, 0, none⟩)), .int .i64 (a : Int), (.agg #[.int .i64 17, .int .i64 (h : Int), .int .i64 sl, .int .i64 ep, .int .i64 (mk : Int), .int .i64 cm, .slice Av 8 cv])] wd10 fun e w' => e = .returned (.tuple #[]) ∧ ∃ L', DeskM L' w' g P D2 ∧ Stp (tellX a) L5 L' wd10 w') := by
          have h := say_c HM10.out.dm HA.out d1 (A := Av) (c := cv) (by rw [HD1B.out.2, HD1B.out.1]; exact HBY2.out) (by rw [HD1B.out.2]; decide)
          rw [HNV1.out, ← HD2E.out] at h
          exact h
        refine HCS.out.mono ?_
        rintro e0 wd11 ⟨rfl, L11, hdq, hsq⟩
        have HM11 : Hid (DW mutX w L wd11 L11 g P D2 [(g8, 56, U), (q, 172, [.int .i64 kind, .int .i64 (h : Int), .int .i64 slot, .int .i64 epoch, .int .i64 n, .int .i64 m, .slice A nb c])]) := HM10.out.step (hsq.mono tellX_mut) hdq mutX_temp
        have HC11 : Hid (wd11.cell? ⟨q, 1, none⟩ = some (.int .i64 (h : Int)) ∧ wd11.cell? ⟨g8, 16, none⟩ = some (.int .i64 ep)) := by
          exact ⟨HM11.out.cell (.tail _ (.head _)) 1, by rw [HM11.out.cell (.head _) 16]; exact HU16.out⟩
        clear hdq hsq
        go_wp2_with fail
        refine hK.out _ _ HC11.out (fun hHeld' => ?_)
        clear hK hHeld 
        have hHeld := hHeld'
        clear hHeld'
        (try refine wpAnyH_putNone rfl ?_)
        refine wpAnyH_done (by kernel_rfl) ?_ _
        have ck16 : wd11.cell? ⟨g8, 16, none⟩ = some (.int .i64 ep) := HC11.out.2
        have HCA : Hid (Calls Tryz.prog 109 #[.pointer (some ⟨g, 0, none⟩), .pointer (some ⟨g, h * 367, none⟩), .int .i64 sl, .agg #[.int .i64 19, .int .i64 0, .int .i64 sl, .int .i64 ep, .int .i64 (mk : Int), .int .i64 (a : Int), .slice none 0 0]] wd11 fun e w' => e = .returned (.tuple #[]) ∧ ∃ L', DeskM L' w' g P (allD D2 h sl d2) ∧ Stp postsX L11 L' wd11 w') := by
          have h := all_c HM11.out.dm HH.out sl d2 (A := none) (c := 0) (by rw [Hd2E.out]; exact ⟨SlV.nil _, fun g hg => by cases hg⟩) (by rw [Hd2E.out]; show (0 : Nat) ≤ 9223372036854775807; decide)
          rw [HNV2.out] at h
          exact h
        go_wp2_with fail
        refine HCA.out.mono ?_
        rintro e0 w12 ⟨rfl, L12, hdq, hsq⟩
        have HM12 : Hid (DW mutX w L w12 L12 g P (allD D2 h sl d2) [(g8, 56, U), (q, 172, [.int .i64 kind, .int .i64 (h : Int), .int .i64 slot, .int .i64 epoch, .int .i64 n, .int .i64 m, .slice A nb c])]) := HM11.out.step (hsq.mono postsX_mut) hdq mutX_temp
        clear hdq hsq ck16
        go_wp2_with fail
        go_ret
        exact ⟨by rw [HV.out]; rfl, L12, by rw [HV.out]; exact HM12.out.dm, HM12.out.stp⟩
end Go.Proofs.YtmkifedcanmjoaaGreat
/- desk.note (contract). Conditions: the bytes read; said is known where it is called. -/
set_option linter.unusedVariables false
set_option linter.unusedSimpArgs false
namespace Go.Proofs.YtmkifedcanmjoaaGreat
open Go.RowKit
attribute [local go_sem ↓] Go.wp_at_zero Go.wp_at_succ
theorem infoN : (Tryz.prog.info? 172).map (·.size) = some 7 := by kernel_rfl
theorem where_some {D : DeskD} {a : Int} {p : Nat × Nat} (h : whereD D a = some p) : p.1 < 4 ∧ p.2 < 8 ∧ FindB (D.hall p.1).r.t a = some p.2 := by
  have hf : ∀ f i, whereFrom D a f i = some p → p.1 < i + f ∧ FindB (D.hall p.1).r.t a = some p.2 := by
    intro f
    induction f with
    | zero => intro i h; cases h
    | succ f ih =>
      intro i h
      unfold whereFrom at h
      split at h
      · rename_i s hs
        injection h with h
        subst h
        exact ⟨by show i < _; omega, hs⟩
      · have := ih (i + 1) h
        exact ⟨by omega, this.2⟩
  have h2 := hf 4 0 h
  refine ⟨by omega, ?_, h2.2⟩
  have h3 := h2.2
  unfold FindB at h3
  split at h3
  · have := (findFrom_some _ _ 8 0 p.2).1 h3
    omega
  · cases h3
/-- What is known of said. -/
def SaidC (g : Nat) (I : DeskD → Nat → Nat → Prop) (sd : DeskD → Nat → Nat → Nt.NoteD → DeskD × Int) (n : Nt.NoteD) : Prop :=
  ∀ (L : Lab) (w : World) (P : Ptrs) (D : DeskD) (i s a : Nat) (A : Option Addr) (c : Nat), DeskM L w g P D → I D i s → i < 4 → s < 8 → FindB (D.hall i).r.t (a : Int) = some s → Nt.good n = true → n.kind ≤ 9 → n.kind ≠ 1 → ByV L w (.slice A n.bs.length c) n.bs →
    Calls Tryz.prog 60 #[.pointer (some ⟨g, 0, none⟩), .pointer (some ⟨g, i * 367, none⟩), .int .i64 (s : Int), Nt.noteV n A c] w fun e w' => e = .returned (.int .i64 (sd D i s n).2) ∧ ∃ L' P', DeskM L' w' g P' (sd D i s n).1 ∧ Stp mutX L L' w w'
theorem heard_find {D : DeskD} {i a : Nat} (hi : i < D.halls.length) : ((heardD D i a).hall i).r.t = (D.hall i).r.t := by
  unfold heardD DeskD.setRoom
  rw [DeskD.hall_set _ _ _ _ hi, if_pos rfl]
  exact alive_t _ _ _
theorem DeskM.halls {L : Lab} {w : World} {g : Nat} {P : Ptrs} {D : DeskD} (h : DeskM L w g P D) : D.halls.length = 4 := by
  obtain ⟨_, _, C, _, hC⟩ := h
  exact hC.halls
set_option maxRecDepth 100000 in
set_option maxHeartbeats 12800000 in
theorem note_c {L : Lab} {w : World} {g : Nat} {P : Ptrs} {D : DeskD} (hd : DeskM L w g P D) {a : Nat} (ha : a < 64) {vb : Value} {b : List UInt8} (hb : SlV w vb b) (hl : b.length ≤ 140737488355328) (sd : DeskD → Nat → Nat → Nt.NoteD → DeskD × Int) (hs : (Nt.noteS b).kind ≠ 1 → SaidC g (fun X i s => X = heardD D i a ∧ whereD D a = some (i, s)) sd (Nt.noteS b)) :
    Calls Tryz.prog 30 #[.pointer (some ⟨g, 0, none⟩), .int .i64 (a : Int), vb] w fun e w' => e = .returned (.tuple #[]) ∧ ∃ L' P', DeskM L' w' g P' (noteD sd D a b) ∧ Stp mutX L L' w w' := by
  obtain ⟨A, c, rfl, hc, hr⟩ := hb
  have HPA := Lib.hid (Nt.parse_c b A c w hr hl hc)
  obtain ⟨nl, hnl⟩ : ∃ nl, nl = b.length := ⟨_, rfl⟩
  rw [← hnl] at HPA ⊢
  obtain ⟨res, hres⟩ : ∃ res, res = noteD sd D a b := ⟨_, rfl⟩
  have HRE : Hid (res = noteD sd D a b) := hres
  obtain ⟨d, hdd⟩ : ∃ d, d = Nt.noteS b := ⟨_, rfl⟩
  obtain ⟨er, her⟩ : ∃ er, er = Nt.errS b := ⟨_, rfl⟩
  have HGOOD : Hid (er = 0 → Nt.good d = true) := by show _ → _; intro h; rw [hdd]; exact (Nt.note_good (by rw [← her]; exact h)).1
  have HRE2 : Hid (res = if er ≠ 0 then noD D a er 0 else if 9 < d.kind then noD D a 1 0 else noteR sd D a d (whereD D a)) := by show _ = _; rw [hres, hdd, her]; rfl
  unfold Nt.ParseRet at HPA
  rw [← hdd, ← her] at HPA
  rw [← hdd] at hs
  have HS := Lib.hid hs
  have HA := Lib.hid ha
  have HD := Lib.hid hd
  have HM0 : Hid (DW mutX w L w L g P D []) := DW.start mutX hd
  obtain ⟨wh, hwh⟩ : ∃ wh, wh = whereD D a := ⟨_, rfl⟩
  have HWH := Lib.hid hwh
  rw [← hwh] at HRE2
  rw [← hres]
  have HDD : Hid (d = d) := rfl
  clear hd hc hr hl hnl hres hdd her hs ha HRE hwh
  go_enter Tryz.func30, Tryz.ntmps30
  go_wp2_with fail
  refine HPA.out.mono ?_
  rintro e0 w1 ⟨A2, c2, rfl, hrow, hbq⟩
  have HM1 : Hid (DW mutX w L w1 L g P D []) := HM0.out.call hbq
  have HBY1 : Hid (ByV L w1 (.slice A2 d.bs.length c2) d.bs) := ByV.ofRow hrow HD.out.top
  clear hrow hbq HM0 HPA
  obtain ⟨kind, hkind⟩ : ∃ kind, kind = d.kind := ⟨_, rfl⟩
  obtain ⟨NV, hNV⟩ : ∃ NV : List Value, NV = [.int .i64 d.kind, .int .i64 d.room, .int .i64 d.slot, .int .i64 d.epoch, .int .i64 d.n, .int .i64 d.m, .slice A2 d.bs.length c2] := ⟨_, rfl⟩
  have HNVE : Hid (Nt.noteV d A2 c2 = .agg NV.toArray) := by show _ = _; rw [hNV]; rfl
  have HNVF : Hid (FitL 172 NV) := by show FitL _ _; rw [hNV]; exact ⟨infoN, by simp [Value.oneCell']⟩
  have HNV0 : Hid (NV[0]? = some (.int .i64 kind)) := by show _ = _; rw [hNV, hkind]; rfl
  rw [HNVE.out]
  rw [← hkind] at HRE2 HS
  have HKE := Lib.hid hkind
  clear hNV hkind
  go_upto_region 1 with (first
    | ((with_reducible show wpList _ _ _ (⟨none, .store _ (.tmp 6) _, _, _, _, _⟩ :: _) _ _); refine wpList_store_mid rfl 172 (.tmp 6) (.tmp 14) rfl w1.heap.size 0 NV.toArray rfl rfl (there_new w1 172 #[.int .i64 0, .int .i64 0, .int .i64 0, .int .i64 0, .int .i64 0, .int .i64 0, .slice none 0 0] _ (by show NV.length ≤ 7; have h := HNVF.out.info; rw [infoN] at h; injection h with h; omega)) HNVF.out.infos HNVF.out.one ?_))
  obtain ⟨q, hq⟩ : ∃ q, q = w1.heap.size := ⟨_, rfl⟩
  obtain ⟨w2, hw2⟩ : ∃ w2, w2 = (w1.alloc (.cells #[.int .i64 0, .int .i64 0, .int .i64 0, .int .i64 0, .int .i64 0, .int .i64 0, .slice none 0 0] 172)).setCells w1.heap.size 0 NV := ⟨_, rfl⟩
  obtain ⟨L2, hL2⟩ : ∃ L2, L2 = tempAt L w1.heap.size := ⟨_, rfl⟩
  have HM2 : Hid (DW mutX w L w2 L2 g P D [(q, 172, NV)]) := by
    show DW _ _ _ _ _ _ _ _ _
    rw [hw2, hq, hL2]
    exact HM1.out.newset 172 #[.int .i64 0, .int .i64 0, .int .i64 0, .int .i64 0, .int .i64 0, .int .i64 0, .slice none 0 0] NV (by show NV.length = 7; have h := HNVF.out.info; rw [infoN] at h; injection h with h; omega)
  have HBY2 : Hid (ByV L2 w2 (.slice A2 d.bs.length c2) d.bs) := by
    have hst : Stp noX L L2 w1 (w1.alloc (.cells #[.int .i64 0, .int .i64 0, .int .i64 0, .int .i64 0, .int .i64 0, .int .i64 0, .slice none 0 0] 172)) := ⟨Sv.of_below (balloc (Below.refl _ _) _), fun k hk => by rw [hL2]; unfold tempAt; rw [if_neg (by omega)], fun k hk => by
      rw [World.size_alloc] at hk
      rw [hL2]
      unfold tempAt
      rw [if_neg (by omega)]
      exact HM1.out.top k (by omega)⟩
    have h1 := HBY1.out.stp hst (fun h => h)
    have hst2 : Stp tmpX L2 L2 (w1.alloc (.cells #[.int .i64 0, .int .i64 0, .int .i64 0, .int .i64 0, .int .i64 0, .int .i64 0, .slice none 0 0] 172)) w2 := by
      rw [hw2]
      exact ⟨Sv.setCells (M := fun k => tmpX (L2 k)) (Sv.refl _ _) (.inl (by rw [hL2]; unfold tempAt tmpX; rw [if_pos rfl])) _ _, fun _ _ => rfl, fun k hk => by rw [size_setCells] at hk; exact hst.top k hk⟩
    exact h1.stp hst2 (by unfold tmpX; simp)
  rw [← hw2, ← hq]
  clear hw2 hq hL2 HM1 HBY1 HD
  have ck0 : w2.cell? ⟨q, 0, none⟩ = some (.int .i64 kind) := by rw [HM2.out.cell (.head _) 0]; exact HNV0.out
  by_cases he : er = 0
  rotate_left
  · have HV : Hid (res = noD D a er 0) := by show _ = _; rw [HRE2.out, if_pos he]
    have he1 : ((er : Int) == 0) = false := by simp [he]
    have he2 : ((er : Int) != 0) = true := by simp [he]
    clear HRE2 he
    go_wp2_with fail
    refine (no_c HM2.out.dm HA.out er 0).mono ?_
    rintro e0 w3 ⟨rfl, L3, hdq, hsq⟩
    have HM3 : Hid (DW mutX w L w3 L3 g P (noD D a er 0) [(q, 172, NV)]) := HM2.out.step (hsq.mono tellX_mut) hdq mutX_temp
    clear hdq hsq
    go_wp2_with fail
    first
      | go_end0
      | refine bodyPost_ret (results_none rfl _ _ _) rfl ?_
    exact ⟨rfl, L3, P, by rw [HV.out]; exact HM3.out.dm, HM3.out.stp⟩
  subst he
  have HGD : Hid (Nt.good d = true) := HGOOD.out rfl
  by_cases hk9 : 9 < kind
  · have HV : Hid (res = noD D a 1 0) := by show _ = _; rw [HRE2.out, if_neg (by simp), if_pos hk9]
    clear HRE2
    go_wp2_with fail
    refine (no_c HM2.out.dm HA.out 1 0).mono ?_
    rintro e0 w3 ⟨rfl, L3, hdq, hsq⟩
    have HM3 : Hid (DW mutX w L w3 L3 g P (noD D a 1 0) [(q, 172, NV)]) := HM2.out.step (hsq.mono tellX_mut) hdq mutX_temp
    clear hdq hsq
    go_wp2_with fail
    first
      | go_end0
      | refine bodyPost_ret (results_none rfl _ _ _) rfl ?_
    exact ⟨rfl, L3, P, by rw [HV.out]; exact HM3.out.dm, HM3.out.stp⟩
  have HRE3 : Hid (res = noteR sd D a d wh) := by show _ = _; rw [HRE2.out, if_neg (by simp), if_neg hk9]
  clear HRE2
  go_wp2_with fail
  refine (where_c HM2.out.dm (a : Int)).mono ?_
  rintro e0 w3 ⟨rfl, hbq⟩
  have HM3 : Hid (DW mutX w L w3 L2 g P D [(q, 172, NV)]) := HM2.out.call hbq
  have HBY3 : Hid (ByV L2 w3 (.slice A2 d.bs.length c2) d.bs) := HBY2.out.below hbq
  clear hbq ck0 HBY2
  rw [← HWH.out]
  have ck0 : w3.cell? ⟨q, 0, none⟩ = some (.int .i64 kind) := by rw [HM3.out.cell (.head _) 0]; exact HNV0.out
  cases wh with
  | none =>
    by_cases hk1 : kind = 1
    rotate_left
    · have hkb : (kind == 1) = false := by simp [hk1]
      have HV : Hid (res = noD D a 6 kind) := by show _ = _; rw [HRE3.out]; unfold noteR; rw [← HKE.out, if_neg hk1]
      clear HRE3 hk1
      unfold whereV
      go_wp2_with fail
      refine (no_c HM3.out.dm HA.out 6 kind).mono ?_
      rintro e0 w4 ⟨rfl, L4, hdq, hsq⟩
      have HM4 : Hid (DW mutX w L w4 L4 g P (noD D a 6 kind) [(q, 172, NV)]) := HM3.out.step (hsq.mono tellX_mut) hdq mutX_temp
      clear hdq hsq
      go_wp2_with fail
      first
        | go_end0
        | refine bodyPost_ret (results_none rfl _ _ _) rfl ?_
      exact ⟨rfl, L4, P, by rw [HV.out]; exact HM4.out.dm, HM4.out.stp⟩
    subst hk1
    have HV : Hid (res = if (joinD D a d).2 ≠ 0 then noD (joinD D a d).1 a (joinD D a d).2 1 else (joinD D a d).1) := by show _ = _; rw [HRE3.out]; unfold noteR; rw [← HKE.out, if_pos rfl]
    clear HRE3
    unfold whereV
    have HRO : Hid (∃ h : Nat, h < 4 ∧ d.room = (h : Int)) := by
      have h := Nt.good_fit HGD.out
      exact ⟨d.room.toNat, by omega, by omega⟩
    obtain ⟨h, hh, hrm⟩ := HRO.out
    have HJC : Hid (Calls Tryz.prog 59 #[.pointer (some ⟨g, 0, none⟩), .int .i64 (a : Int), .agg NV.toArray] w3 fun e w' => e = .returned (.int .i64 (joinD D a d).2) ∧ ∃ L', DeskM L' w' g P (joinD D a d).1 ∧ Stp mutX L2 L' w3 w') := by
      rw [← HNVE.out]
      exact djoin_c HM3.out.dm HA.out d hh hrm A2 c2
    have HRN : Hid (w3.rangeAt q 0 NV) := HM3.out.range (.head _)
    clear hh hrm HRO
    go_wp2_with (first
      | ((with_reducible show wpList _ _ _ (⟨some 59, .load _ (.tmp 6), _, _, _, _⟩ :: _) _ _); refine wpList_load_mid rfl 172 (.tmp 6) rfl q 0 rfl NV _ HRN.out Tryz.underlying172 rfl HNVF.out.info ?_))
    refine HJC.out.mono ?_
    rintro e0 w4 ⟨rfl, L4, hdq, hsq⟩
    obtain ⟨e5, he5⟩ : ∃ e5, e5 = (joinD D a d).2 := ⟨_, rfl⟩
    obtain ⟨DJ, hDJ⟩ : ∃ DJ, DJ = (joinD D a d).1 := ⟨_, rfl⟩
    rw [← hDJ] at hdq HV
    rw [← he5] at HV ⊢
    have HM4 : Hid (DW mutX w L w4 L4 g P DJ [(q, 172, NV)]) := HM3.out.step hsq hdq mutX_temp
    clear hdq hsq ck0 HJC HRN he5 hDJ
    have ck0 : w4.cell? ⟨q, 0, none⟩ = some (.int .i64 1) := by rw [HM4.out.cell (.head _) 0]; exact HNV0.out
    by_cases hz : e5 = 0
    · subst hz
      have HV2 : Hid (res = DJ) := by show _ = _; rw [HV.out, if_neg (by simp)]
      go_wp2_with fail
      first
        | go_end0
        | refine bodyPost_ret (results_none rfl _ _ _) rfl ?_
      exact ⟨rfl, L4, P, by rw [HV2.out]; exact HM4.out.dm, HM4.out.stp⟩
    · have hz2 : (e5 != 0) = true := by simp [hz]
      have HV2 : Hid (res = noD DJ a e5 1) := by show _ = _; rw [HV.out, if_pos hz]
      clear hz
      go_wp2_with fail
      refine (no_c HM4.out.dm HA.out e5 1).mono ?_
      rintro e0 w5 ⟨rfl, L5, hdq, hsq⟩
      have HM5 : Hid (DW mutX w L w5 L5 g P (noD DJ a e5 1) [(q, 172, NV)]) := HM4.out.step (hsq.mono tellX_mut) hdq mutX_temp
      clear hdq hsq
      go_wp2_with fail
      first
        | go_end0
        | refine bodyPost_ret (results_none rfl _ _ _) rfl ?_
      exact ⟨rfl, L5, P, by rw [HV2.out]; exact HM5.out.dm, HM5.out.stp⟩
  | some p =>
    obtain ⟨hi4, hs8, hfd⟩ := where_some HWH.out.symm
    obtain ⟨i, s⟩ := p
    unfold whereV hallV
    simp only at hi4 hs8 hfd
    have HI := Lib.hid hi4
    have HS8 := Lib.hid hs8
    obtain ⟨DH, hDH⟩ : ∃ DH, DH = heardD D i a := ⟨_, rfl⟩
    have HDH := Lib.hid hDH
    have HFD : Hid (FindB (DH.hall i).r.t (a : Int) = some s) := by show _ = _; rw [hDH, heard_find (by rw [HM3.out.dm.halls]; exact hi4)]; exact hfd
    have HRE4 : Hid (res = if kind = 1 then noD DH a 7 kind else (if (sd DH i s d).2 ≠ 0 then noD (sd DH i s d).1 a (sd DH i s d).2 kind else (sd DH i s d).1)) := by show _ = _; rw [HRE3.out, hDH, HKE.out]; rfl
    have HHC : Hid (Calls Tryz.prog 53 #[.pointer (some ⟨g, 0, none⟩), .pointer (some ⟨g, i * 367, none⟩), .int .i64 (a : Int)] w3 fun e w' => e = .returned (.tuple #[]) ∧ DeskM L2 w' g P DH ∧ Stp dskX L2 L2 w3 w') := by rw [hDH]; exact heard_c HM3.out.dm hi4 (a : Int)
    clear hi4 hs8 hfd hDH HRE3
    go_wp2_with fail
    refine HHC.out.mono ?_
    rintro e0 w4 ⟨rfl, hdq, hsq⟩
    have HM4 : Hid (DW mutX w L w4 L2 g P DH [(q, 172, NV)]) := HM3.out.step (hsq.mono dskX_mut) hdq mutX_temp
    have HBY4 : Hid (ByV L2 w4 (.slice A2 d.bs.length c2) d.bs) := HBY3.out.stp hsq (by unfold dskX; simp)
    clear hdq hsq ck0 HBY3 HHC
    have ck0 : w4.cell? ⟨q, 0, none⟩ = some (.int .i64 kind) := by rw [HM4.out.cell (.head _) 0]; exact HNV0.out
    by_cases hk1 : kind = 1
    · subst hk1
      have HV : Hid (res = noD DH a 7 1) := by show _ = _; rw [HRE4.out, if_pos rfl]
      clear HRE4
      go_wp2_with fail
      refine (no_c HM4.out.dm HA.out 7 1).mono ?_
      rintro e0 w5 ⟨rfl, L5, hdq, hsq⟩
      have HM5 : Hid (DW mutX w L w5 L5 g P (noD DH a 7 1) [(q, 172, NV)]) := HM4.out.step (hsq.mono tellX_mut) hdq mutX_temp
      clear hdq hsq
      go_wp2_with fail
      first
        | go_end0
        | refine bodyPost_ret (results_none rfl _ _ _) rfl ?_
      exact ⟨rfl, L5, P, by rw [HV.out]; exact HM5.out.dm, HM5.out.stp⟩
    have hkb : (kind == 1) = false := by simp [hk1]
    have HV : Hid (res = if (sd DH i s d).2 ≠ 0 then noD (sd DH i s d).1 a (sd DH i s d).2 kind else (sd DH i s d).1) := by show _ = _; rw [HRE4.out, if_neg hk1]
    have HSC : Hid (Calls Tryz.prog 60 #[.pointer (some ⟨g, 0, none⟩), .pointer (some ⟨g, i * 367, none⟩), .int .i64 (s : Int), .agg NV.toArray] w4 fun e w' => e = .returned (.int .i64 (sd DH i s d).2) ∧ ∃ L' P', DeskM L' w' g P' (sd DH i s d).1 ∧ Stp mutX L2 L' w4 w') := by
      rw [← HNVE.out]
      exact HS.out hk1 L2 w4 P DH i s a A2 c2 HM4.out.dm ⟨HDH.out, HWH.out.symm⟩ HI.out HS8.out HFD.out HGD.out (by rw [← HKE.out]; omega) (by rw [← HKE.out]; exact hk1) HBY4.out
    have HRN : Hid (w4.rangeAt q 0 NV) := HM4.out.range (.head _)
    clear HRE4 hk1
    go_wp2_with (first
      | ((with_reducible show wpList _ _ _ (⟨some 44, .load _ (.tmp 6), _, _, _, _⟩ :: _) _ _); refine wpList_load_mid rfl 172 (.tmp 6) rfl q 0 rfl NV _ HRN.out Tryz.underlying172 rfl HNVF.out.info ?_))
    refine HSC.out.mono ?_
    rintro e0 w5 ⟨rfl, L5, P5, hdq, hsq⟩
    obtain ⟨e5, he5⟩ : ∃ e5, e5 = (sd DH i s d).2 := ⟨_, rfl⟩
    obtain ⟨DS, hDS⟩ : ∃ DS, DS = (sd DH i s d).1 := ⟨_, rfl⟩
    rw [← hDS] at hdq HV
    rw [← he5] at HV ⊢
    have HM5 : Hid (DW mutX w L w5 L5 g P5 DS [(q, 172, NV)]) := HM4.out.step hsq hdq mutX_temp
    clear hdq hsq ck0 HSC HRN he5 hDS
    have ck0 : w5.cell? ⟨q, 0, none⟩ = some (.int .i64 kind) := by rw [HM5.out.cell (.head _) 0]; exact HNV0.out
    by_cases hz : e5 = 0
    · subst hz
      have HV2 : Hid (res = DS) := by show _ = _; rw [HV.out, if_neg (by simp)]
      go_wp2_with fail
      first
        | go_end0
        | refine bodyPost_ret (results_none rfl _ _ _) rfl ?_
      exact ⟨rfl, L5, P5, by rw [HV2.out]; exact HM5.out.dm, HM5.out.stp⟩
    · have hz2 : (e5 != 0) = true := by simp [hz]
      have HV2 : Hid (res = noD DS a e5 kind) := by show _ = _; rw [HV.out, if_pos hz]
      clear hz
      go_wp2_with fail
      refine (no_c HM5.out.dm HA.out e5 kind).mono ?_
      rintro e0 w6 ⟨rfl, L6, hdq, hsq⟩
      have HM6 : Hid (DW mutX w L w6 L6 g P5 (noD DS a e5 kind) [(q, 172, NV)]) := HM5.out.step (hsq.mono tellX_mut) hdq mutX_temp
      clear hdq hsq
      go_wp2_with fail
      first
        | go_end0
        | refine bodyPost_ret (results_none rfl _ _ _) rfl ?_
      exact ⟨rfl, L6, P5, by rw [HV2.out]; exact HM6.out.dm, HM6.out.stp⟩
end Go.Proofs.YtmkifedcanmjoaaGreat
