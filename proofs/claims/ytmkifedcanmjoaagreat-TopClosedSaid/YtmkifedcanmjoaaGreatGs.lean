/- room.Tick (contract). Conditions: none. -/
import Derived.Test.YtmkifedcanmjoaaGreatGq
set_option linter.unusedVariables false
set_option linter.unusedSimpArgs false
namespace Go.Proofs.YtmkifedcanmjoaaGreat
open Go.RowKit
attribute [local go_sem ↓] Go.wp_at_zero Go.wp_at_succ
theorem infoInt : (Tryz.prog.info? 3).map (fun i => (i.zero, i.size, i.bytes)) = some (some (.int .i64 0), 1, 8) := by kernel_rfl
def goneTo (was r : Rm) (n : Nat) : List Int := ((List.range n).filter fun i => usedAt was.t i && !usedAt r.t i).map fun i : Nat => (i : Int)
theorem goneTo_8 (was r : Rm) : goneTo was r 8 = goneL was r := rfl
theorem goneTo_step (was r : Rm) (n : Nat) : goneTo was r (n + 1) = goneTo was r n ++ (if usedAt was.t n && !usedAt r.t n then [(n : Int)] else []) := by
  unfold goneTo
  rw [List.range_succ, List.filter_append, List.map_append]
  congr 1
  cases h : (usedAt was.t n && !usedAt r.t n) <;> simp [h]
theorem goneTo_len (was r : Rm) (n : Nat) : (goneTo was r n).length ≤ n := by
  unfold goneTo
  rw [List.length_map]
  exact Nat.le_trans (List.length_filter_le _ _) (by rw [List.length_range]; exact Nat.le_refl _)
theorem lateK_nat {s : Ks} (h : WK s) (now : Int) : ∃ n : Nat, lateK s now = (n : Int) ∧ n < 256 := by
  unfold lateK
  split
  · exact ⟨0, rfl, by omega⟩
  · refine ⟨_, rfl, ?_⟩
    obtain ⟨_, _, hd, _⟩ := h
    have : exN s.need.toNat s.hv.toNat ≤ s.need.toNat := Nat.and_le_left
    omega
theorem WR.tickFrom {was : Rm} {late now : Int} (hb : NowB now) : ∀ (f i : Nat) (r : Rm), WR r → WR (tickFrom was late now f i r)
  | 0, _, r, h => h
  | f + 1, i, r, h => by
    unfold Proofs.YtmkifedcanmjoaaGreat.tickFrom
    refine WR.tickFrom hb f (i + 1) _ ?_
    split
    · exact h.gone i hb
    · exact h
theorem WR.tick {r : Rm} (h : WR r) {now : Int} (hb : NowB now) : WR (tickR r now).1 := by
  unfold tickR
  split
  · exact h
  · exact WR.tickFrom hb 8 0 r h
theorem tickFrom_step (was : Rm) (late now : Int) (f i : Nat) (r : Rm) : tickFrom was late now (f + 1) i r = tickFrom was late now f (i + 1) (if usedAt was.t i && !r.over && (silentB was i now || bitK late i) then goneR r i now else r) := rfl
set_option maxRecDepth 100000 in
set_option maxHeartbeats 12800000 in
theorem tick_c (r : Rm) (now : Int) (w : World) (hr : WR r) (hnow : NowB now) :
    Calls Tryz.prog 16 #[.agg (rL r).toArray, .int .i64 now] w fun e w' => ∃ v, e = .returned (.tuple #[.agg (rL (tickR r now).1).toArray, v]) ∧ Row w' 3 1 v (tickR r now).2.length ((tickR r now).2.map (Value.int .i64)) ∧ Below w.heap.size w w' := by
  obtain ⟨iI, hiI, hz0, hz1, hz2⟩ := info_parts infoInt
  have HWR := Lib.hid hr
  have HNOW := Lib.hid hnow
  obtain ⟨T, hT⟩ : ∃ T : List Value, T = rL r := ⟨_, rfl⟩
  have HTF : Hid (FitL 56 T) := by show FitL _ _; rw [hT]; exact fitR hr
  have HTE := Lib.hid hT
  obtain ⟨Z, hZ⟩ : ∃ Z : List Value, Z = [.bool false, .bool false, .bool false, .bool false, .bool false, .bool false, .bool false, .bool false, .int .i64 0, .int .i64 0, .int .i64 0, .int .i64 0, .int .i64 0, .int .i64 0, .int .i64 0, .int .i64 0, .int .i64 0, .bool false, .int .i64 0, .int .i64 0, .int .i64 0, .int .i64 0, .int .i64 0, .int .i64 0, .int .i64 0, .int .i64 0, .int .i64 0, .int .i64 0, .int .i64 0, .int .i64 0, .int .i64 0, .int .i64 0, .int .i64 0, .int .i64 0, .int .i64 0, .int .i64 0, .int .i64 0, .int .i64 0, .bool false] := ⟨_, rfl⟩
  have HZF : Hid (FitL 56 Z) := by show FitL _ _; rw [hZ]; exact fit0R
  have HZE := Lib.hid hZ
  obtain ⟨Y, hY⟩ : ∃ Y : List Value, Y = [.bool false, .bool false, .bool false, .bool false, .bool false, .bool false, .bool false, .bool false, .int .i64 0, .int .i64 0, .int .i64 0, .int .i64 0, .int .i64 0, .int .i64 0, .int .i64 0, .int .i64 0, .int .i64 0, .bool false, .int .i64 0, .int .i64 0, .int .i64 0, .int .i64 0, .int .i64 0, .int .i64 0, .int .i64 0, .int .i64 0, .int .i64 0, .int .i64 0, .int .i64 0, .int .i64 0, .int .i64 0, .int .i64 0, .int .i64 0, .int .i64 0, .int .i64 0, .int .i64 0, .int .i64 0, .int .i64 0, .bool false] := ⟨_, rfl⟩
  have HYF : Hid (FitL 56 Y) := by show FitL _ _; rw [hY]; exact fit0R
  have HYE := Lib.hid hY
  obtain ⟨K, hK⟩ : ∃ K : List Value, K = kL r.k := ⟨_, rfl⟩
  have HKF : Hid (FitL 49 K) := by show FitL _ _; rw [hK]; exact fitK r.k
  have HKE := Lib.hid hK
  obtain ⟨lt, hlt, hlt8⟩ := lateK_nat hr.2.1 now
  obtain ⟨q, hq⟩ : ∃ q, q = tickFrom r (lt : Int) now 8 0 r := ⟨_, rfl⟩
  have HQE := Lib.hid hq
  have HQ : Hid (WR q) := by show WR _; rw [hq]; exact WR.tickFrom hnow 8 0 r hr
  obtain ⟨tt, htt⟩ : ∃ tt, tt = tickR r now := ⟨_, rfl⟩
  have HTT : Hid (tt = if !goodR r then (r, []) else (q, goneL r q)) := by
    show _ = _
    rw [htt, hq, ← hlt]
    rfl
  have HTK : Hid (∀ j v, K[j]? = some v → T[16 + j]? = some v) := by show ∀ _ _, _; rw [hT, hK]; exact rL_kpart hr
  have GUD : Hid (∀ (wx : World), Calls Tryz.prog 33 #[.agg T.toArray] wx fun e w' => e = .returned (.bool (goodR r)) ∧ Below wx.heap.size wx w') := fun wx => by rw [HTE.out]; exact goodR_c r wx HWR.out
  have LAT : Hid (∀ (wx : World), Calls Tryz.prog 38 #[.agg K.toArray, .int .i64 now] wx fun e w' => e = .returned (.int .i64 (lt : Int)) ∧ Below wx.heap.size wx w') := fun wx => by rw [HKE.out, ← hlt]; exact late_c r.k now wx HWR.out.2.1 hnow
  rw [← hT, ← htt]
  have hn0 := hnow.1
  have hn1 := hnow.2
  clear hT hK hq hr htt hlt hnow
  obtain ⟨g1, hg1⟩ : ∃ g1, g1 = w.heap.size := ⟨_, rfl⟩
  obtain ⟨g2, hg2⟩ : ∃ g2, g2 = w.heap.size + 1 := ⟨_, rfl⟩
  obtain ⟨w1, hw1⟩ : ∃ w1, w1 = (w.alloc (.cells T.toArray 56)).alloc (.cells #[.bool false, .bool false, .bool false, .bool false, .bool false, .bool false, .bool false, .bool false, .int .i64 0, .int .i64 0, .int .i64 0, .int .i64 0, .int .i64 0, .int .i64 0, .int .i64 0, .int .i64 0, .int .i64 0, .bool false, .int .i64 0, .int .i64 0, .int .i64 0, .int .i64 0, .int .i64 0, .int .i64 0, .int .i64 0, .int .i64 0, .int .i64 0, .int .i64 0, .int .i64 0, .int .i64 0, .int .i64 0, .int .i64 0, .int .i64 0, .int .i64 0, .int .i64 0, .int .i64 0, .int .i64 0, .int .i64 0, .bool false] 56) := ⟨_, rfl⟩
  have HM1 : Hid (MW w w1 [(g2, 56, Z), (g1, 56, T)]) := by
    show MW _ _ _
    have h := (((MW.start w).alloc 56 T).alloc 56 Z)
    try simp only [World.size_alloc] at h
    rw [hZ, hw1, hg1, hg2]
    rw [hZ] at h
    exact h
  go_enter Tryz.func16, Tryz.ntmps16
  go_upto_region 1 with fail
  rw [← hw1, ← hg2, ← hg1]
  clear hw1 hg1 hg2 hZ hY
  have HRW : Hid (w1.rangeAt g1 0 T) := HM1.out.range (.tail _ (.head _))
  go_wp2_with (first
    | ((with_reducible show wpList _ _ _ (⟨some 14, .load _ (.tmp 2), _, _, _, _⟩ :: _) _ _); refine wpList_load_mid rfl 56 (.tmp 2) rfl g1 0 rfl T _ HRW.out Tryz.underlying56 rfl HTF.out.info ?_))
  clear HRW
  refine (GUD.out w1).mono ?_
  rintro e0 w2 ⟨rfl, hbq⟩
  have HM2 : Hid (MW w w2 [(g2, 56, Z), (g1, 56, T)]) := HM1.out.call hbq
  clear hbq HM1
  obtain ⟨gd, hgd⟩ : ∃ gd, gd = goodR r := ⟨_, rfl⟩
  rw [← hgd] at HTT ⊢
  clear hgd
  cases gd
  · have HV : Hid (tt = (r, [])) := by show _ = _; rw [HTT.out]; rfl
    clear HTT
    have HRr : Hid (w2.rangeAt g1 0 T) := HM2.out.range (.tail _ (.head _))
    have HTr : Hid (w2.there g2 0 T.toArray.size) := HM2.out.there (.head _) 0 _ (by show 0 + T.length ≤ Z.length; rw [HTF.out.len HZF.out]; omega)
    go_wp2_with (first
      | ((with_reducible show wpList _ _ _ (⟨some 17, .load _ (.tmp 2), _, _, _, _⟩ :: _) _ _); refine wpList_load_mid rfl 56 (.tmp 2) rfl g1 0 rfl T _ HRr.out Tryz.underlying56 rfl HTF.out.info ?_)
      | ((with_reducible show wpList _ _ _ (⟨none, .store _ (.tmp 4) _, _, _, _, _⟩ :: _) _ _); refine wpList_store_mid rfl 56 (.tmp 4) (.tmp 17) rfl g2 0 T.toArray rfl rfl HTr.out HTF.out.infos HTF.out.one ?_))
    have HMr : Hid (MW w (w2.setCells g2 0 T) [(g2, 56, T), (g1, 56, T)]) := MW.set (pre := []) (post := [(g1, 56, T)]) HM2.out (HTF.out.len HZF.out)
    (try simp only [Exit.inBlock, Exit.then])
    refine bodyPost_ret (results_c2 rfl rfl (HMr.out.range (.head _)) Tryz.underlying56 rfl HTF.out.info) rfl ?_
    refine ⟨_, by rw [HV.out, HTE.out], ?_, HMr.out.bel⟩
    rw [HV.out]; exact Row.nil _ _ _
  · have HV : Hid (tt = (q, goneL r q)) := by show _ = _; rw [HTT.out]; rfl
    clear HTT
    go_upto_region 3 with fail
    go_cut [6, 7] (fun v6 v7 wx => ∃ g6, v6 = .pointer (some ⟨g6, 0, none⟩) ∧ v7 = .int .i64 (lt : Int) ∧ MW w wx [(g6, 56, T), (g2, 56, Z), (g1, 56, T)])
    case first =>
      obtain ⟨w3, hw3⟩ : ∃ w3, w3 = w2.drew := ⟨_, rfl⟩
      have HM3 : Hid (MW w w3 [(g2, 56, Z), (g1, 56, T)]) := by show MW _ _ _; rw [hw3]; exact HM2.out.drew
      refine wp_region_held_drew (S := (fun w' => MW w w' [(g2, 56, Z), (g1, 56, T)])) (by kernel_rfl) (by rw [← hw3]; exact (HM3.out.drop (.cons_cons _ (.cons_cons _ .slnil)))) (fun hHeld => ?_)
      rw [← hw3] at hHeld ⊢
      clear hw3 HM2
      refine wpAnyH_takeAt (i := 0) (v := (.agg T.toArray)) rfl (by kernel_rfl) (by kernel_rfl) (by kernel_rfl) (fun _ _ _ h => h) rfl (yieldsIf_load_mid (by rfl) 56 _ rfl g1 0 rfl T _ (fun w' hS => (hS.range (.tail _ (.head _)))) Tryz.underlying56 rfl HTF.out.info) hHeld ?_
      simp only [List.set_cons_zero, List.set_cons_succ]
      refine wpAnyH_takeAt (i := 1) (v := (.pointer (some ⟨g1, 16, none⟩))) rfl (by kernel_rfl) (by kernel_rfl) (by kernel_rfl) (fun _ _ _ h => h) rfl (Or.inl ⟨by rfl, fun w' hS => ?_⟩) hHeld ?_
      · go_simp
      simp only [List.set_cons_zero, List.set_cons_succ]
      refine wpAnyH_takeAt (i := 2) (v := (.agg K.toArray)) rfl (by kernel_rfl) (by kernel_rfl) (by kernel_rfl) (fun _ _ _ h => h) rfl (yieldsIf_load_mid (by rfl) 49 _ rfl g1 16 rfl K _ (fun w' hS => (hS.part (.tail _ (.head _)) 16 K HTK.out)) Tryz.underlying49 rfl HKF.out.info) hHeld ?_
      simp only [List.set_cons_zero, List.set_cons_succ]
      refine wpAnyH_takeAt (i := 3) (v := (.int .i64 now)) rfl (by kernel_rfl) (by kernel_rfl) (by kernel_rfl) (fun _ _ _ h => h) rfl (Or.inl ⟨by rfl, fun w' hS => ?_⟩) hHeld ?_
      · go_simp
      simp only [List.set_cons_zero, List.set_cons_succ]
      refine wpAnyH_ready (rs := [4, 5]) (by kernel_rfl) (by simp) (AllReadyH.cons rfl (fun K' hK => ?_) (AllReadyH.cons rfl (fun K' hK => ?_) AllReadyH.nil))
      · go_simp
        go_at_call 38
        refine (LAT.out w3).mono ?_
        rintro e0 w4 ⟨rfl, hbq⟩
        have HM4 : Hid (MW w w4 [(g2, 56, Z), (g1, 56, T)]) := HM3.out.call hbq
        clear hbq
        go_wp2_with fail
        refine hK.out _ _ (HM4.out.drop (.cons_cons _ (.cons_cons _ .slnil))) (fun hHeld' => ?_)
        clear hK hHeld HM3
        have hHeld := hHeld'
        clear hHeld'
        refine wpAnyH_ready (rs := [5]) (by kernel_rfl) (by simp) (AllReadyH.cons rfl (fun K' hK => ?_) AllReadyH.nil)
        go_simp
        obtain ⟨g6, hg6⟩ : ∃ g6, g6 = w4.heap.size := ⟨_, rfl⟩
        obtain ⟨w5, hw5⟩ : ∃ w5, w5 = w4.alloc (.cells #[.bool false, .bool false, .bool false, .bool false, .bool false, .bool false, .bool false, .bool false, .int .i64 0, .int .i64 0, .int .i64 0, .int .i64 0, .int .i64 0, .int .i64 0, .int .i64 0, .int .i64 0, .int .i64 0, .bool false, .int .i64 0, .int .i64 0, .int .i64 0, .int .i64 0, .int .i64 0, .int .i64 0, .int .i64 0, .int .i64 0, .int .i64 0, .int .i64 0, .int .i64 0, .int .i64 0, .int .i64 0, .int .i64 0, .int .i64 0, .int .i64 0, .int .i64 0, .int .i64 0, .int .i64 0, .int .i64 0, .bool false] 56) := ⟨_, rfl⟩
        have HM5 : Hid (MW w w5 [(g6, 56, Y), (g2, 56, Z), (g1, 56, T)]) := by
          show MW _ _ _
          have h := HM4.out.alloc 56 [.bool false, .bool false, .bool false, .bool false, .bool false, .bool false, .bool false, .bool false, .int .i64 0, .int .i64 0, .int .i64 0, .int .i64 0, .int .i64 0, .int .i64 0, .int .i64 0, .int .i64 0, .int .i64 0, .bool false, .int .i64 0, .int .i64 0, .int .i64 0, .int .i64 0, .int .i64 0, .int .i64 0, .int .i64 0, .int .i64 0, .int .i64 0, .int .i64 0, .int .i64 0, .int .i64 0, .int .i64 0, .int .i64 0, .int .i64 0, .int .i64 0, .int .i64 0, .int .i64 0, .int .i64 0, .int .i64 0, .bool false]
          rw [hw5, hg6, HYE.out]
          exact h
        rw [← hw5, ← hg6]
        clear hw5 hg6
        refine hK.out _ _ (HM5.out.drop (.cons _ (.cons_cons _ (.cons_cons _ .slnil)))) (fun hHeld' => ?_)
        clear hK hHeld HM4
        have hHeld := hHeld'
        clear hHeld'
        refine wpAnyH_ready (rs := [6]) (by kernel_rfl) (by simp) (AllReadyH.cons rfl (fun K' hK => ?_) AllReadyH.nil)
        rw [if_pos (by rfl)]
        refine wp_store_mid 56 (.tmp 6) (.tmp 18) (by rfl) g6 0 T.toArray (by rfl) (by rfl) (HM5.out.there (.head _) 0 _ (by show 0 + T.length ≤ Y.length; rw [HTF.out.len HYF.out]; omega)) HTF.out.infos HTF.out.one ?_
        obtain ⟨w6, hw6⟩ : ∃ w6, w6 = w5.setCells g6 0 T := ⟨_, rfl⟩
        have HM6 : Hid (MW w w6 [(g6, 56, T), (g2, 56, Z), (g1, 56, T)]) := by show MW _ _ _; rw [hw6]; exact MW.set (pre := []) (post := [(g2, 56, Z), (g1, 56, T)]) HM5.out (HTF.out.len HYF.out)
        rw [← hw6]
        clear hw6
        refine hK.out _ _ (HM6.out.drop (.cons _ (.cons_cons _ (.cons_cons _ .slnil)))) (fun hHeld' => ?_)
        clear hK hHeld HM5
        have hHeld := hHeld'
        clear hHeld'
        refine wpAnyH_putNone rfl ?_
        refine wpAnyH_takeAt (i := 7) (v := (.int .i64 (lt : Int))) rfl (by kernel_rfl) (by kernel_rfl) (by kernel_rfl) (fun _ _ _ h => h) rfl (Or.inl ⟨by rfl, fun w' hS => ?_⟩) hHeld ?_
        · go_simp
        simp only [List.set_cons_zero, List.set_cons_succ]
        refine wpAnyH_done (by kernel_rfl) ?_ _
        go_wp2_with fail
        go_meet
        exact ⟨g6, rfl, rfl, HM6.out⟩
      · go_simp
        obtain ⟨g6, hg6⟩ : ∃ g6, g6 = w3.heap.size := ⟨_, rfl⟩
        obtain ⟨w4, hw4⟩ : ∃ w4, w4 = w3.alloc (.cells #[.bool false, .bool false, .bool false, .bool false, .bool false, .bool false, .bool false, .bool false, .int .i64 0, .int .i64 0, .int .i64 0, .int .i64 0, .int .i64 0, .int .i64 0, .int .i64 0, .int .i64 0, .int .i64 0, .bool false, .int .i64 0, .int .i64 0, .int .i64 0, .int .i64 0, .int .i64 0, .int .i64 0, .int .i64 0, .int .i64 0, .int .i64 0, .int .i64 0, .int .i64 0, .int .i64 0, .int .i64 0, .int .i64 0, .int .i64 0, .int .i64 0, .int .i64 0, .int .i64 0, .int .i64 0, .int .i64 0, .bool false] 56) := ⟨_, rfl⟩
        have HM4 : Hid (MW w w4 [(g6, 56, Y), (g2, 56, Z), (g1, 56, T)]) := by
          show MW _ _ _
          have h := HM3.out.alloc 56 [.bool false, .bool false, .bool false, .bool false, .bool false, .bool false, .bool false, .bool false, .int .i64 0, .int .i64 0, .int .i64 0, .int .i64 0, .int .i64 0, .int .i64 0, .int .i64 0, .int .i64 0, .int .i64 0, .bool false, .int .i64 0, .int .i64 0, .int .i64 0, .int .i64 0, .int .i64 0, .int .i64 0, .int .i64 0, .int .i64 0, .int .i64 0, .int .i64 0, .int .i64 0, .int .i64 0, .int .i64 0, .int .i64 0, .int .i64 0, .int .i64 0, .int .i64 0, .int .i64 0, .int .i64 0, .int .i64 0, .bool false]
          rw [hw4, hg6, HYE.out]
          exact h
        rw [← hw4, ← hg6]
        clear hw4 hg6
        refine hK.out _ _ (HM4.out.drop (.cons _ (.cons_cons _ (.cons_cons _ .slnil)))) (fun hHeld' => ?_)
        clear hK hHeld HM3
        have hHeld := hHeld'
        clear hHeld'
        refine wpAnyH_ready (rs := [4]) (by kernel_rfl) (by simp) (AllReadyH.cons rfl (fun K' hK => ?_) AllReadyH.nil)
        go_simp
        go_at_call 38
        refine (LAT.out w4).mono ?_
        rintro e0 w5 ⟨rfl, hbq⟩
        have HM5 : Hid (MW w w5 [(g6, 56, Y), (g2, 56, Z), (g1, 56, T)]) := HM4.out.call hbq
        clear hbq
        go_wp2_with fail
        refine hK.out _ _ (HM5.out.drop (.cons _ (.cons_cons _ (.cons_cons _ .slnil)))) (fun hHeld' => ?_)
        clear hK hHeld HM4
        have hHeld := hHeld'
        clear hHeld'
        refine wpAnyH_ready (rs := [6]) (by kernel_rfl) (by simp) (AllReadyH.cons rfl (fun K' hK => ?_) AllReadyH.nil)
        rw [if_pos (by rfl)]
        refine wp_store_mid 56 (.tmp 6) (.tmp 18) (by rfl) g6 0 T.toArray (by rfl) (by rfl) (HM5.out.there (.head _) 0 _ (by show 0 + T.length ≤ Y.length; rw [HTF.out.len HYF.out]; omega)) HTF.out.infos HTF.out.one ?_
        obtain ⟨w6, hw6⟩ : ∃ w6, w6 = w5.setCells g6 0 T := ⟨_, rfl⟩
        have HM6 : Hid (MW w w6 [(g6, 56, T), (g2, 56, Z), (g1, 56, T)]) := by show MW _ _ _; rw [hw6]; exact MW.set (pre := []) (post := [(g2, 56, Z), (g1, 56, T)]) HM5.out (HTF.out.len HYF.out)
        rw [← hw6]
        clear hw6
        refine hK.out _ _ (HM6.out.drop (.cons _ (.cons_cons _ (.cons_cons _ .slnil)))) (fun hHeld' => ?_)
        clear hK hHeld HM5
        have hHeld := hHeld'
        clear hHeld'
        refine wpAnyH_putNone rfl ?_
        refine wpAnyH_takeAt (i := 7) (v := (.int .i64 (lt : Int))) rfl (by kernel_rfl) (by kernel_rfl) (by kernel_rfl) (fun _ _ _ h => h) rfl (Or.inl ⟨by rfl, fun w' hS => ?_⟩) hHeld ?_
        · go_simp
        simp only [List.set_cons_zero, List.set_cons_succ]
        refine wpAnyH_done (by kernel_rfl) ?_ _
        go_wp2_with fail
        go_meet
        exact ⟨g6, rfl, rfl, HM6.out⟩
    case rest =>
      obtain ⟨g6, rfl, rfl, hmc⟩ := hcut
      obtain ⟨w5, hw5⟩ : ∃ w5, w5 = wc := ⟨_, rfl⟩
      rw [← hw5] at hmc ⊢
      clear hw5
      have HM5 := Lib.hid hmc
      clear hmc HM2
      obtain ⟨M, hM⟩ : ∃ M, M = (r.t.used.map Value.bool).toArray := ⟨_, rfl⟩
      have HME := Lib.hid hM
      have HIB : Hid ((Tryz.prog.info? 50).map (·.size) = some (r.t.used.map Value.bool).length) := by show _ = _; rw [List.length_map, HWR.out.1.1]; exact infoB8
      have HTU : Hid (∀ j v, (r.t.used.map Value.bool)[j]? = some v → T[0 + j]? = some v) := fun j v hv => by
        rw [HTE.out, Nat.zero_add]
        unfold rL tbL
        have := get_len hv
        rw [List.append_assoc, List.getElem?_append_left this]
        exact hv
      have HRU : Hid (w5.rangeAt g6 0 (r.t.used.map Value.bool)) := HM5.out.part (.head _) 0 _ HTU.out
      go_upto_region 5 with (first
        | ((with_reducible show wpList _ _ _ (⟨some 25, .load _ (.tmp 24), _, _, _, _⟩ :: _) _ _); refine wpList_load_mid rfl 50 (.tmp 24) rfl g6 0 rfl (r.t.used.map Value.bool) _ HRU.out Tryz.underlying50 rfl HIB.out ?_))
      rw [← hM]
      clear hM HRU
      go_loopg [26] 8 (fun gg v wx => ∃ (i : Nat) (ri : Rm), gg = 8 - i ∧ i ≤ 8 ∧ v = .int .i64 (i : Int) ∧ tickFrom r (lt : Int) now (8 - i) i ri = q ∧ WR ri ∧ MW w wx [(g6, 56, T), (g2, 56, Z), (g1, 56, rL ri)])
      case atStart => exact ⟨0, r, rfl, by omega, rfl, HQE.out.symm, HWR.out, by have h := HM5.out; rw [HTE.out] at h ⊢; exact h⟩
      case round =>
        obtain ⟨i, ri, hgg, hi, rfl, hf, hwri, hmw⟩ := hrel
        have HF := Lib.hid hf
        have HGG := Lib.hid hgg
        have HWI := Lib.hid hwri
        obtain ⟨Ti, hTi⟩ : ∃ Ti, Ti = rL ri := ⟨_, rfl⟩
        have HTiF : Hid (FitL 56 Ti) := by show FitL _ _; rw [hTi]; exact fitR hwri
        have HTiE := Lib.hid hTi
        rw [← hTi] at hmw
        have HM6 := Lib.hid hmw
        clear hf hgg hwri hmw hTi
        by_cases hin : i < 8
        · have hini : (i : Int) < 8 := by omega
          have hin0 : (0 : Int) ≤ (i : Int) := by omega
          have hw1 : IntKind.i64.wrap ((i : Int) + 1) = ((i + 1 : Nat) : Int) := by rw [IntKind.wrap_i64]; omega
          obtain ⟨u, hu⟩ : ∃ u, u = usedAt r.t i := ⟨_, rfl⟩
          obtain ⟨sn, hsn⟩ : ∃ sn, sn = seenAt r i := ⟨_, rfl⟩
          obtain ⟨ov, hov⟩ : ∃ ov, ov = ri.over := ⟨_, rfl⟩
          obtain ⟨sl, hsl⟩ : ∃ sl, sl = silentB r i now := ⟨_, rfl⟩
          obtain ⟨bt, hbt⟩ : ∃ bt, bt = bitK (lt : Int) i := ⟨_, rfl⟩
          have HSN : Hid (NowB sn) := by show NowB _; rw [hsn]; exact HWR.out.2.2.2.2 i hin
          have HSL : Hid (sl = (decide (sn ≤ now) && decide (500 ≤ now - sn))) := by show _ = _; rw [hsl, hsn]; rfl
          have hidx : ∀ wx, (Instr.index 50 (.agg M) (.int .i64 (i : Int))).run Tryz.prog wx = .ok (.bool u) wx := fun wx => by
            rw [HME.out, hu]
            exact index_bools wx r.t.used i hin HWR.out.1.1
          have ck1 : wr.cell? ⟨g6, 22 + i, none⟩ = some (.int .i64 sn) := by rw [HM6.out.cell (.head _), HTE.out, hsn]; exact rL_seen HWR.out hin
          have ck2 : wr.cell? ⟨g1, 38, none⟩ = some (.bool ov) := by rw [HM6.out.cell (.tail _ (.tail _ (.head _))), HTiE.out, hov]; exact rL_over HWI.out
          have hbit : (Go.bits .and .i64 ((lt : Int) / 2 ^ i) 1 == 1) = bt := by rw [hbt]; exact i64_bit lt i hlt8
          have HS : Hid (q = tickFrom r (lt : Int) now (8 - (i + 1)) (i + 1) (if u && !ov && (sl || bt) then goneR ri i now else ri)) := by
            show _ = _
            rw [← HF.out, show 8 - i = (8 - (i + 1)) + 1 by omega, tickFrom_step, hu, hov, hsl, hbt]
          have HLT := Lib.hid hin
          have hs0 := HSN.out.1
          have hs1 := HSN.out.2
          clear hu hsn hov hsl hbt hin hi HF
          go_upto_region 7 with fail
          go_cut [10] (fun v10 wx => v10 = .bool sl ∧ wx = wr)
          case first =>
            by_cases h1 : sn ≤ now
            · have hu : IntKind.u64.wrap (IntKind.u64.wrap now - IntKind.u64.wrap sn) = now - sn := by simp only [IntKind.wrap_u64]; omega
              by_cases h2 : 500 ≤ now - sn
              · have HP : Hid (sl = true) := by show _ = _; rw [HSL.out, decide_eq_true h1, decide_eq_true h2]; rfl
                clear HSL
                go_wp2_with fail
                go_meet
                exact ⟨by rw [HP.out], rfl⟩
              · have HP : Hid (sl = false) := by show _ = _; rw [HSL.out, decide_eq_false h2, Bool.and_false]
                clear HSL
                go_wp2_with fail
                go_meet
                exact ⟨by rw [HP.out], rfl⟩
            · have HP : Hid (sl = false) := by show _ = _; rw [HSL.out, decide_eq_false h1]; rfl
              clear HSL
              go_wp2_with fail
              go_meet
              exact ⟨by rw [HP.out], rfl⟩
          case rest =>
            obtain ⟨rfl, hwc⟩ := hcut
            subst hwc
            obtain ⟨cd, hcd⟩ : ∃ cd, cd = (u && !ov && (sl || bt)) := ⟨_, rfl⟩
            rw [← hcd] at HS
            go_upto_region 8 with fail
            go_cut [62] (fun v62 wy => v62 = .bool cd ∧ wy = wc)
            case first =>
              have HCD := Lib.hid hcd
              clear hcd HSL HSN hs0 hs1 ck1
              cases u <;> cases ov <;> cases sl <;> cases bt
              all_goals
                go_wp2_with fail
                go_meet
                exact ⟨by rw [HCD.out]; rfl, rfl⟩
            case rest =>
              obtain ⟨rfl, hwd⟩ := hcut
              subst hwd
              clear hcd HSL HSN hs0 hs1 ck1 ck2 hbit
              cases cd
              · have HS2 : Hid (tickFrom r (lt : Int) now (8 - (i + 1)) (i + 1) ri = q) := by show _ = _; rw [HS.out]; rfl
                clear HS
                go_wp2_with fail
                go_roundg (8 - (i + 1))
                case measure => have := HLT.out; have := HGG.out; omega
                case rel => have hlt := HLT.out; exact ⟨i + 1, ri, rfl, by omega, by first | rfl | go_num, HS2.out, HWI.out, by have h := HM6.out; rw [HTiE.out] at h; exact h⟩
              · obtain ⟨r9, hr9⟩ : ∃ r9, r9 = goneR ri i now := ⟨_, rfl⟩
                have HR9E := Lib.hid hr9
                have HS2 : Hid (tickFrom r (lt : Int) now (8 - (i + 1)) (i + 1) r9 = q) := by show _ = _; rw [HS.out, hr9]; rfl
                have HR9 : Hid (WR r9) := by show WR _; rw [hr9]; exact HWI.out.gone i HNOW.out
                obtain ⟨T9, hT9⟩ : ∃ T9, T9 = rL r9 := ⟨_, rfl⟩
                have HT9F : Hid (FitL 56 T9) := by show FitL _ _; rw [hT9]; exact fitR HR9.out
                have HT9E := Lib.hid hT9
                have GON : Hid (∀ (wx : World), Calls Tryz.prog 37 #[.agg Ti.toArray, .int .i64 (i : Int), .int .i64 now] wx fun e w' => e = .returned (.agg T9.toArray) ∧ Below wx.heap.size wx w') := fun wx => by rw [HTiE.out, HT9E.out, HR9E.out]; exact gone_c ri i now wx HWI.out HLT.out HNOW.out
                clear HS hr9 hT9
                have HRW : Hid (wc.rangeAt g1 0 Ti) := HM6.out.range (.tail _ (.tail _ (.head _)))
                go_wp2_with (first
                  | ((with_reducible show wpList _ _ _ (⟨some 63, .load _ (.tmp 2), _, _, _, _⟩ :: _) _ _); refine wpList_load_mid rfl 56 (.tmp 2) rfl g1 0 rfl Ti _ HRW.out Tryz.underlying56 rfl HTiF.out.info ?_))
                clear HRW
                refine (GON.out wc).mono ?_
                rintro e0 w7 ⟨rfl, hbq⟩
                have HM7 := Lib.hid (HM6.out.call hbq)
                clear hbq HM6
                have HTHr : Hid (w7.there g1 0 T9.toArray.size) := HM7.out.there (.tail _ (.tail _ (.head _))) 0 _ (by show 0 + T9.length ≤ Ti.length; rw [HT9F.out.len HTiF.out]; omega)
                go_wp2_with (first
                  | ((with_reducible show wpList _ _ _ (⟨none, .store _ (.tmp 2) _, _, _, _, _⟩ :: _) _ _); refine wpList_store_mid rfl 56 (.tmp 2) (.tmp 66) rfl g1 0 T9.toArray rfl rfl HTHr.out HT9F.out.infos HT9F.out.one ?_))
                have HM8 : Hid (MW w (w7.setCells g1 0 T9) [(g6, 56, T), (g2, 56, Z), (g1, 56, T9)]) := MW.set (pre := [(g6, 56, T), (g2, 56, Z)]) (post := []) HM7.out (HT9F.out.len HTiF.out)
                go_roundg (8 - (i + 1))
                case measure => have := HLT.out; have := HGG.out; omega
                case rel => have hlt := HLT.out; exact ⟨i + 1, r9, rfl, by omega, by first | rfl | go_num, HS2.out, HR9.out, by have h := HM8.out; rw [HT9E.out] at h ⊢; exact h⟩
        · have hini : ¬ (i : Int) < 8 := by omega
          have hie : i = 8 := by omega
          subst hie
          clear hin hi
          have HRQ : Hid (ri = q) := by have := HF.out; rw [show 8 - 8 = 0 from rfl] at this; exact this
          have HTQ : Hid (Ti = rL q) := by show _ = _; rw [HTiE.out, HRQ.out]
          have HUQ : Hid (∀ i, i < 8 → Ti[i]? = some (.bool (usedAt q.t i))) := fun i hi => by rw [HTQ.out, rL_t HQ.out (by omega)]; exact tbL_used HQ.out.1 hi
          clear HF HWI HRQ HTiE
          have HRU : Hid (wr.rangeAt g6 0 (r.t.used.map Value.bool)) := HM6.out.part (.head _) 0 _ HTU.out
          go_upto_region 13 with (first
            | ((with_reducible show wpList _ _ _ (⟨some 70, .load _ (.tmp 69), _, _, _, _⟩ :: _) _ _); refine wpList_load_mid rfl 50 (.tmp 69) rfl g6 0 rfl (r.t.used.map Value.bool) _ HRU.out Tryz.underlying50 rfl HIB.out ?_))
          obtain ⟨M2, hM2⟩ : ∃ M2, M2 = (r.t.used.map Value.bool).toArray := ⟨_, rfl⟩
          have HM2E := Lib.hid hM2
          rw [← hM2]
          clear hM2 HRU
          obtain ⟨w6, hw6⟩ : ∃ w6, w6 = wr := ⟨_, rfl⟩
          rw [← hw6] at HM6 ⊢
          clear hw6
          go_loopg [11, 71] 8 (fun gg v11 v wx => ∃ (i : Nat), gg = 8 - i ∧ i ≤ 8 ∧ v = .int .i64 (i : Int) ∧ Below w6.heap.size w6 wx ∧ wx.ownsRow w6.heap.size 3 1 v11 (goneTo r q i).length ((goneTo r q i).map (Value.int .i64)))
          case atStart => exact ⟨0, rfl, by omega, rfl, Below.refl _ _, World.ownsRow_nil _ _ _ _⟩
          case round =>
            obtain ⟨i, hgg, hi, rfl, hbel, hown⟩ := hrel
            have HGG := Lib.hid hgg
            have HM7 := Lib.hid (HM6.out.call hbel)
            have HBE := Lib.hid hbel
            have HOW := Lib.hid hown
            clear hgg hbel hown
            by_cases hin : i < 8
            · have hini : (i : Int) < 8 := by omega
              have hin0 : (0 : Int) ≤ (i : Int) := by omega
              have hw1 : IntKind.i64.wrap ((i : Int) + 1) = ((i + 1 : Nat) : Int) := by rw [IntKind.wrap_i64]; omega
              obtain ⟨u, hu⟩ : ∃ u, u = usedAt r.t i := ⟨_, rfl⟩
              obtain ⟨u2, hu2⟩ : ∃ u2, u2 = usedAt q.t i := ⟨_, rfl⟩
              have hidx : ∀ wx, (Instr.index 50 (.agg M2) (.int .i64 (i : Int))).run Tryz.prog wx = .ok (.bool u) wx := fun wx => by
                rw [HM2E.out, hu]
                exact index_bools wx r.t.used i hin HWR.out.1.1
              have ck1 : wr.cell? ⟨g1, i, none⟩ = some (.bool u2) := by rw [HM7.out.cell (.tail _ (.tail _ (.head _))), hu2]; exact HUQ.out i hin
              have HS : Hid (goneTo r q (i + 1) = goneTo r q i ++ (if u && !u2 then [(i : Int)] else [])) := by show _ = _; rw [goneTo_step, hu, hu2]
              have HLT := Lib.hid hin
              clear hu hu2 hin hi
              go_upto_region 15 with fail
              by_cases hc : (u && !u2) = true
              · have hcu : u = true ∧ u2 = false := by
                  clear HS ck1 hidx
                  cases u <;> cases u2 <;> first | exact ⟨rfl, rfl⟩ | exact absurd hc (by decide)
                obtain ⟨rfl, rfl⟩ := hcu
                have HS2 : Hid (goneTo r q (i + 1) = goneTo r q i ++ [(i : Int)]) := by show _ = _; rw [HS.out]; rfl
                have hlen := goneTo_len r q i
                have hlt8 := HLT.out
                obtain ⟨xs, hxs⟩ : ∃ xs, xs = goneTo r q i := ⟨_, rfl⟩
                rw [← hxs] at HOW HS2 hlen
                obtain ⟨n, hn⟩ : ∃ n, n = xs.length := ⟨_, rfl⟩
                rw [← hn] at HOW hlen
                have HNE := Lib.hid hn
                have HN9 : Hid (n ≤ 8) := by show n ≤ 8; omega
                clear hc HS hxs hn hlt8 hlen
                go_wp2_with (first
                  | ((with_reducible show wpList _ _ _ (⟨some 87, .call _, _, _, _, _⟩ :: _) _ _)
                     at_builtin
                     refine wpList_append_any _ rfl (.tmp 84) (.tmp 86) _ rfl w6.heap.size 3 iI _ 1 8 Tryz.underlying61 hiI hz0 hz1 hz2 rfl (by omega) _ n (xs.map (Value.int .i64)) rfl (HOW.out.alloc _)
                       (wr.alloc (.cells #[.int .i64 (i : Int)] 3)).heap.size (some ⟨wr.heap.size, 0, none⟩) 1 1 [.int .i64 (i : Int)] rfl (Reads.of_own (own_one wr _ _)) (by simp [Value.oneCell']) (by have := HN9.out; simp only [maxLen]; omega) (by have := HN9.out; omega) (Nat.le_trans HBE.out.size (by simp)) ?_
                     intro v2 w8 hown2 hg2 hat2
                     have HB8 := Lib.hid (own_grow_below (balloc HBE.out _) (HOW.out.alloc _) hg2)
                     have HO8 := Lib.hid hown2
                     clear hown2 hg2 hat2))
                go_roundg (8 - (i + 1))
                case measure => have := HLT.out; have := HGG.out; omega
                case rel =>
                  have hlt := HLT.out
                  refine ⟨i + 1, rfl, by omega, by first | rfl | go_num, HB8.out, ?_⟩
                  have h := HO8.out
                  rw [HS2.out, List.length_append, List.map_append, ← HNE.out]
                  exact h
              · have HS2 : Hid (goneTo r q (i + 1) = goneTo r q i) := by show _ = _; rw [HS.out, if_neg hc, List.append_nil]
                have hq : u = false ∨ (u = true ∧ u2 = true) := by
                  clear HS2 HS ck1 hidx
                  cases u <;> cases u2 <;> first | exact .inl rfl | exact .inr ⟨rfl, rfl⟩ | exact absurd rfl hc
                clear hc HS
                rcases hq with hq | ⟨hq, hq2⟩
                · subst hq
                  go_wp2_with fail
                  go_roundg (8 - (i + 1))
                  case measure => have := HLT.out; have := HGG.out; omega
                  case rel => have hlt := HLT.out; exact ⟨i + 1, rfl, by omega, by first | rfl | go_num, HBE.out, by rw [HS2.out]; exact HOW.out⟩
                · subst hq hq2
                  go_wp2_with fail
                  go_roundg (8 - (i + 1))
                  case measure => have := HLT.out; have := HGG.out; omega
                  case rel => have hlt := HLT.out; exact ⟨i + 1, rfl, by omega, by first | rfl | go_num, HBE.out, by rw [HS2.out]; exact HOW.out⟩
            · have hini : ¬ (i : Int) < 8 := by omega
              have hie : i = 8 := by omega
              subst hie
              clear hin hi
              obtain ⟨xs, hxs⟩ : ∃ xs, xs = goneTo r q 8 := ⟨_, rfl⟩
              have HXE : Hid (xs = goneL r q) := by show _ = _; rw [hxs, goneTo_8]
              rw [← hxs] at HOW
              obtain ⟨n, hn⟩ : ∃ n, n = xs.length := ⟨_, rfl⟩
              rw [← hn] at HOW
              have HNE := Lib.hid hn
              clear hxs hn
              obtain ⟨Av, cv, rfl⟩ := own_slice HOW.out
              have HROW := Lib.hid (Row.of_own (own_lower HOW.out (Nat.zero_le _)))
              have HRr : Hid (wr.rangeAt g1 0 Ti) := HM7.out.range (.tail _ (.tail _ (.head _)))
              have HTr : Hid (wr.there g2 0 Ti.toArray.size) := HM7.out.there (.tail _ (.head _)) 0 _ (by show 0 + Ti.length ≤ Z.length; rw [HTiF.out.len HZF.out]; omega)
              go_wp2_with (first
                | ((with_reducible show wpList _ _ _ (⟨some 89, .load _ (.tmp 2), _, _, _, _⟩ :: _) _ _); refine wpList_load_mid rfl 56 (.tmp 2) rfl g1 0 rfl Ti _ HRr.out Tryz.underlying56 rfl HTiF.out.info ?_)
                | ((with_reducible show wpList _ _ _ (⟨none, .store _ (.tmp 4) _, _, _, _, _⟩ :: _) _ _); refine wpList_store_mid rfl 56 (.tmp 4) (.tmp 89) rfl g2 0 Ti.toArray rfl rfl HTr.out HTiF.out.infos HTiF.out.one ?_))
              have HMr : Hid (MW w (wr.setCells g2 0 Ti) [(g6, 56, T), (g2, 56, Ti), (g1, 56, Ti)]) := MW.set (pre := [(g6, 56, T)]) (post := [(g1, 56, Ti)]) HM7.out (HTiF.out.len HZF.out)
              (try simp only [Exit.inBlock, Exit.then])
              refine bodyPost_ret (results_c2 rfl rfl (HMr.out.range (.tail _ (.head _))) Tryz.underlying56 rfl HTiF.out.info) rfl ?_
              refine ⟨_, by rw [HV.out, ← HTQ.out], ?_, HMr.out.bel⟩
              rw [HV.out]
              show Row _ _ _ _ (goneL r q).length ((goneL r q).map (Value.int .i64))
              rw [← HXE.out, ← HNE.out]
              exact HROW.out.sv (Sv.setCells (M := fun k => k = g2) (Sv.refl _ _) (.inl rfl) _ _) (fun g hg e => by
                have h1 := (HOW.out.lt g hg).1
                have h2 := (HM6.out.blk (.tail _ (.head _))).lt
                omega)
end Go.Proofs.YtmkifedcanmjoaaGreat
