/- Texts of this claim, one behind the other: Alive, Heard, All2. Each says ahead of itself what it proves, and its conditions. -/
import Derived.Test.YtmkifedcanmjoaaGreatGo
import Derived.Test.YtmkifedcanmjoaaGreatGb
import Derived.Test.YtmkifedcanmjoaaGreatGn
/- room.Alive (contract). Conditions: none. -/
set_option linter.unusedVariables false
set_option linter.unusedSimpArgs false
namespace Go.Proofs.YtmkifedcanmjoaaGreat
open Go.RowKit
attribute [local go_sem ↓] Go.wp_at_zero Go.wp_at_succ
set_option maxRecDepth 100000 in
set_option maxHeartbeats 6400000 in
theorem WR.alive {r : Rm} (h : WR r) (a : Int) {now : Int} (hb : NowB now) : WR (aliveR r a now).1 := by
  unfold aliveR
  split
  · exact h
  · exact h.setSeen _ hb
theorem alive_t (r : Rm) (a now : Int) : (aliveR r a now).1.t = r.t := by
  unfold aliveR
  split <;> rfl
set_option maxRecDepth 100000 in
set_option maxHeartbeats 6400000 in
theorem alive_c (r : Rm) (a now : Int) (w : World) (hr : WR r) (hnow : NowB now) :
    Calls Tryz.prog 88 #[.agg (rL r).toArray, .int .i64 a, .int .i64 now] w fun e w' => e = .returned (.tuple #[.agg (rL (aliveR r a now).1).toArray, .int .i64 (aliveR r a now).2]) ∧ Below w.heap.size w w' := by
  have HWR := Lib.hid hr
  obtain ⟨T, hT⟩ : ∃ T : List Value, T = rL r := ⟨_, rfl⟩
  have HTF : Hid (FitL 56 T) := by show FitL _ _; rw [hT]; exact fitR hr
  have HTE := Lib.hid hT
  obtain ⟨Z, hZ⟩ : ∃ Z : List Value, Z = [.bool false, .bool false, .bool false, .bool false, .bool false, .bool false, .bool false, .bool false, .int .i64 0, .int .i64 0, .int .i64 0, .int .i64 0, .int .i64 0, .int .i64 0, .int .i64 0, .int .i64 0, .int .i64 0, .bool false, .int .i64 0, .int .i64 0, .int .i64 0, .int .i64 0, .int .i64 0, .int .i64 0, .int .i64 0, .int .i64 0, .int .i64 0, .int .i64 0, .int .i64 0, .int .i64 0, .int .i64 0, .int .i64 0, .int .i64 0, .int .i64 0, .int .i64 0, .int .i64 0, .int .i64 0, .int .i64 0, .bool false] := ⟨_, rfl⟩
  have HZF : Hid (FitL 56 Z) := by show FitL _ _; rw [hZ]; exact fit0R
  have HZE := Lib.hid hZ
  obtain ⟨q, hq⟩ : ∃ q, q = findR r a := ⟨_, rfl⟩
  have HQ8 : Hid (q.1 < 8) := by show _ < _; rw [hq]; exact findR_lt
  obtain ⟨i, hi⟩ : ∃ i, i = q.1 := ⟨_, rfl⟩
  obtain ⟨e2, he2⟩ : ∃ e2, e2 = q.2 := ⟨_, rfl⟩
  obtain ⟨r1, hr1⟩ : ∃ r1, r1 = { r with seen := r.seen.set i now } := ⟨_, rfl⟩
  have HR1E := Lib.hid hr1
  have HR1 : Hid (WR r1) := by show WR _; rw [hr1]; exact hr.setSeen i hnow
  have hi8 : i < 8 := by rw [hi]; exact HQ8.out
  have HI8 := Lib.hid hi8
  have hin0 : (0 : Int) ≤ (i : Int) := by omega
  have hini : (i : Int) < 8 := by omega
  obtain ⟨T1, hT1⟩ : ∃ T1 : List Value, T1 = rL r1 := ⟨_, rfl⟩
  have HT1F : Hid (FitL 56 T1) := by show FitL _ _; rw [hT1]; exact fitR HR1.out
  have HT1E := Lib.hid hT1
  have HC1 : Hid (T[22 + i]? = some (.int .i64 (seenAt r i))) := by show _ = _; rw [hT]; exact rL_seen hr hi8
  have HS1 : Hid (T.set (22 + i) (.int .i64 now) = T1) := by show _ = _; rw [hT, hT1, hr1]; exact rL_setSeen hr hi8 now
  obtain ⟨tt, htt⟩ : ∃ tt, tt = aliveR r a now := ⟨_, rfl⟩
  have HTT : Hid (tt = if e2 = 0 then (r1, 0) else (r, e2)) := by
    show _ = _
    rw [htt, he2, hr1, hi, hq]
    unfold aliveR
    by_cases h : (findR r a).2 = 0
    · rw [if_neg (by simp [h]), if_pos h]
    · rw [if_pos h, if_neg h]
  have FND : Hid (∀ (wx : World), Calls Tryz.prog 36 #[.agg T.toArray, .int .i64 a] wx fun e w' => e = .returned (.tuple #[.int .i64 (i : Int), .int .i64 e2]) ∧ Below wx.heap.size wx w') := fun wx => by rw [HTE.out, he2, hi, hq]; exact findR_c r a wx HWR.out
  rw [← hT, ← htt]
  clear hT hT1 hq hr htt hr1 hi he2 hnow hi8
  obtain ⟨g1, hg1⟩ : ∃ g1, g1 = w.heap.size := ⟨_, rfl⟩
  obtain ⟨g2, hg2⟩ : ∃ g2, g2 = w.heap.size + 1 := ⟨_, rfl⟩
  obtain ⟨w1, hw1⟩ : ∃ w1, w1 = (w.alloc (.cells T.toArray 56)).alloc (.cells #[.bool false, .bool false, .bool false, .bool false, .bool false, .bool false, .bool false, .bool false, .int .i64 0, .int .i64 0, .int .i64 0, .int .i64 0, .int .i64 0, .int .i64 0, .int .i64 0, .int .i64 0, .int .i64 0, .bool false, .int .i64 0, .int .i64 0, .int .i64 0, .int .i64 0, .int .i64 0, .int .i64 0, .int .i64 0, .int .i64 0, .int .i64 0, .int .i64 0, .int .i64 0, .int .i64 0, .int .i64 0, .int .i64 0, .int .i64 0, .int .i64 0, .int .i64 0, .int .i64 0, .int .i64 0, .int .i64 0, .bool false] 56) := ⟨_, rfl⟩
  have HM1 : Hid (MW w w1 [(g2, 56, Z), (g1, 56, T)]) := by
    show MW _ _ _
    have h := (((MW.start w).alloc 56 T).alloc 56 Z)
    try simp only [World.size_alloc] at h
    rw [hZ, hw1, hg1, hg2]
    rw [hZ] at h
    exact h
  go_enter Tryz.func88, Tryz.ntmps88
  go_upto_region 1 with fail
  rw [← hw1, ← hg2, ← hg1]
  clear hw1 hg1 hg2 hZ
  have HRW : Hid (w1.rangeAt g1 0 T) := HM1.out.range (.tail _ (.head _))
  go_wp2_with (first
    | ((with_reducible show wpList _ _ _ (⟨some 11, .load _ (.tmp 3), _, _, _, _⟩ :: _) _ _); refine wpList_load_mid rfl 56 (.tmp 3) rfl g1 0 rfl T _ HRW.out Tryz.underlying56 rfl HTF.out.info ?_))
  clear HRW
  refine (FND.out w1).mono ?_
  rintro e0 w2 ⟨rfl, hbq⟩
  have HM2 : Hid (MW w w2 [(g2, 56, Z), (g1, 56, T)]) := HM1.out.call hbq
  clear hbq HM1
  by_cases hz : e2 = 0
  · subst hz
    have HV : Hid (tt = (r1, 0)) := by show _ = _; rw [HTT.out, if_pos rfl]
    clear HTT
    have ck1 : w2.cell? ⟨g1, 22 + i, none⟩ = some (.int .i64 (seenAt r i)) := by rw [HM2.out.cell (.tail _ (.head _))]; exact HC1.out
    have fk1 : w2.frozen? ⟨g1, 22 + i, none⟩ = false := HM2.out.frozen (.tail _ (.head _)) _
    go_upto_region 5 with fail
    obtain ⟨w3, hw3⟩ : ∃ w3, w3 = w2.setCell ⟨g1, 22 + i, none⟩ (.int .i64 now) := ⟨_, rfl⟩
    have HM3 : Hid (MW w w3 [(g2, 56, Z), (g1, 56, T1)]) := by show MW _ _ _; rw [hw3]; exact (by have h := MW.set1 (pre := [(g2, 56, Z)]) (post := []) HM2.out (22 + i) (.int .i64 now); rw [HS1.out] at h; exact h)
    rw [← hw3]
    clear hw3 HM2
    clear ck1 fk1
    have HRr : Hid (w3.rangeAt g1 0 T1) := HM3.out.range (.tail _ (.head _))
    have HTr : Hid (w3.there g2 0 T1.toArray.size) := HM3.out.there (.head _) 0 _ (by show 0 + T1.length ≤ Z.length; rw [HT1F.out.len HZF.out]; omega)
    go_wp2_with (first
      | ((with_reducible show wpList _ _ _ (⟨some 24, .load _ (.tmp 3), _, _, _, _⟩ :: _) _ _); refine wpList_load_mid rfl 56 (.tmp 3) rfl g1 0 rfl T1 _ HRr.out Tryz.underlying56 rfl HT1F.out.info ?_)
      | ((with_reducible show wpList _ _ _ (⟨none, .store _ (.tmp 6) _, _, _, _, _⟩ :: _) _ _); refine wpList_store_mid rfl 56 (.tmp 6) (.tmp 24) rfl g2 0 T1.toArray rfl rfl HTr.out HT1F.out.infos HT1F.out.one ?_))
    have HMr : Hid (MW w (w3.setCells g2 0 T1) [(g2, 56, T1), (g1, 56, T1)]) := MW.set (pre := []) (post := [(g1, 56, T1)]) HM3.out (HT1F.out.len HZF.out)
    (try simp only [Exit.inBlock, Exit.then])
    refine bodyPost_ret (results_c2 rfl rfl (HMr.out.range (.head _)) Tryz.underlying56 rfl HT1F.out.info) rfl ?_
    refine ⟨?_, HMr.out.bel⟩
    rw [HV.out, HT1E.out]
    rfl
  · have hz2 : (e2 != 0) = true := by simp [hz]
    have HV : Hid (tt = (r, e2)) := by show _ = _; rw [HTT.out, if_neg hz]
    clear HTT hz
    have HRr : Hid (w2.rangeAt g1 0 T) := HM2.out.range (.tail _ (.head _))
    have HTr : Hid (w2.there g2 0 T.toArray.size) := HM2.out.there (.head _) 0 _ (by show 0 + T.length ≤ Z.length; rw [HTF.out.len HZF.out]; omega)
    go_wp2_with (first
      | ((with_reducible show wpList _ _ _ (⟨some 18, .load _ (.tmp 3), _, _, _, _⟩ :: _) _ _); refine wpList_load_mid rfl 56 (.tmp 3) rfl g1 0 rfl T _ HRr.out Tryz.underlying56 rfl HTF.out.info ?_)
      | ((with_reducible show wpList _ _ _ (⟨none, .store _ (.tmp 6) _, _, _, _, _⟩ :: _) _ _); refine wpList_store_mid rfl 56 (.tmp 6) (.tmp 18) rfl g2 0 T.toArray rfl rfl HTr.out HTF.out.infos HTF.out.one ?_))
    have HMr : Hid (MW w (w2.setCells g2 0 T) [(g2, 56, T), (g1, 56, T)]) := MW.set (pre := []) (post := [(g1, 56, T)]) HM2.out (HTF.out.len HZF.out)
    (try simp only [Exit.inBlock, Exit.then])
    refine bodyPost_ret (results_c2 rfl rfl (HMr.out.range (.head _)) Tryz.underlying56 rfl HTF.out.info) rfl ?_
    refine ⟨?_, HMr.out.bel⟩
    rw [HV.out, HTE.out]
    rfl
end Go.Proofs.YtmkifedcanmjoaaGreat
/- desk.heard, desk.coming (contracts). Conditions: none. -/
set_option linter.unusedVariables false
set_option linter.unusedSimpArgs false
namespace Go.Proofs.YtmkifedcanmjoaaGreat
open Go.RowKit
attribute [local go_sem ↓] Go.wp_at_zero Go.wp_at_succ
set_option maxRecDepth 100000 in
set_option maxHeartbeats 3200000 in
theorem comingH_c {L : Lab} {w : World} {g : Nat} {P : Ptrs} {D : DeskD} (hd : DeskM L w g P D) {i : Nat} (hi : i < 4) :
    Calls Tryz.prog 108 #[.pointer (some ⟨g, i * 367, none⟩)] w fun e w' => e = .returned (.int .i64 (comingK (D.hall i).r.k)) ∧ Below w.heap.size w w' := by
  obtain ⟨K, hK⟩ : ∃ K, K = kL (D.hall i).r.k := ⟨_, rfl⟩
  have HKF : Hid (FitL 49 K) := by show FitL _ _; rw [hK]; exact fitK _
  have HRG : Hid (w.rangeAt g (i * 367 + 16) K) := by show World.rangeAt _ _ _ _; rw [hK, Nat.mul_comm]; exact hd.part _ _ fun C hC => hC.kpart hi
  have HCO : Hid (∀ (wx : World), Calls Tryz.prog 39 #[.agg K.toArray] wx fun e w' => e = .returned (.int .i64 (comingK (D.hall i).r.k)) ∧ Below wx.heap.size wx w') := fun wx => by rw [hK]; exact coming_c _ wx
  clear hK hd
  go_enter Tryz.func108, Tryz.ntmps108
  go_wp2_with (first
    | ((with_reducible show wpList _ _ _ (⟨some 7, .load _ (.tmp 6), _, _, _, _⟩ :: _) _ _); refine wpList_load_mid rfl 49 (.tmp 6) rfl g (i * 367 + 16) rfl K _ HRG.out Tryz.underlying49 rfl HKF.out.info ?_))
  refine (HCO.out w).mono ?_
  rintro e0 w2 ⟨rfl, hbq⟩
  have HB := Lib.hid hbq
  clear hbq
  go_wp2_with fail
  go_ret
  exact ⟨rfl, HB.out⟩
set_option maxRecDepth 100000 in
set_option maxHeartbeats 6400000 in
theorem heard_c {L : Lab} {w : World} {g : Nat} {P : Ptrs} {D : DeskD} (hd : DeskM L w g P D) {i : Nat} (hi : i < 4) (a : Int) :
    Calls Tryz.prog 53 #[.pointer (some ⟨g, 0, none⟩), .pointer (some ⟨g, i * 367, none⟩), .int .i64 a] w fun e w' => e = .returned (.tuple #[]) ∧ DeskM L w' g P (heardD D i a) ∧ Stp dskX L L w w' := by
  obtain ⟨T, hT⟩ : ∃ T, T = rL (D.hall i).r := ⟨_, rfl⟩
  have HTE := Lib.hid hT
  have HTF : Hid (FitL 56 T) := by show FitL _ _; rw [hT]; exact fitR (hd.wr hi)
  obtain ⟨q, hq⟩ : ∃ q, q = aliveR (D.hall i).r a D.now := ⟨_, rfl⟩
  have HQE := Lib.hid hq
  have HQ : Hid (WR q.1) := by show WR _; rw [hq]; exact (hd.wr hi).alive a hd.nowAt.2
  have HQG : Hid (goodT q.1.t = true) := by show _ = _; rw [hq, alive_t]; exact hd.tg hi
  obtain ⟨U, hU⟩ : ∃ U, U = rL q.1 := ⟨_, rfl⟩
  have HUE := Lib.hid hU
  have HUF : Hid (FitL 56 U) := by show FitL _ _; rw [hU]; exact fitR HQ.out
  obtain ⟨now, hnow⟩ : ∃ now, now = D.now := ⟨_, rfl⟩
  have HNE := Lib.hid hnow
  have ALV : Hid (∀ (wx : World), Calls Tryz.prog 88 #[.agg T.toArray, .int .i64 a, .int .i64 now] wx fun e w' => e = .returned (.tuple #[.agg U.toArray, .int .i64 q.2]) ∧ Below wx.heap.size wx w') := fun wx => by rw [HTE.out, HUE.out, HNE.out, HQE.out]; exact alive_c _ a _ wx (hd.wr hi) hd.nowAt.2
  have HD := Lib.hid hd
  have HI := Lib.hid hi
  have e1 : heardD D i a = D.setRoom i q.1 := by rw [hq]; rfl
  rw [e1]
  clear hd hi hT hq hU hnow e1
  go_enter Tryz.func53, Tryz.ntmps53
  go_upto_region 0 with fail
  obtain ⟨w1, hw1⟩ : ∃ w1, w1 = w.drew := ⟨_, rfl⟩
  have HM1 : Hid (DeskM L w1 g P D) := by show DeskM _ _ _ _ _; rw [hw1]; exact HD.out.below (bdrew (Below.refl _ _))
  have HB1 : Hid (Below w.heap.size w w1) := by show Below _ _ _; rw [hw1]; exact bdrew (Below.refl _ _)
  have HC1 : Hid (w1.cell? ⟨g, 1468, none⟩ = some (.int .i64 now)) := by show _ = _; rw [HNE.out]; exact HM1.out.nowAt.1
  refine wp_region_held_drew (S := (fun w' => w'.cell? ⟨g, 1468, none⟩ = some (.int .i64 now))) (by kernel_rfl) (by rw [← hw1]; exact HC1.out) (fun hHeld => ?_)
  rw [← hw1] at hHeld ⊢
  clear hw1
  refine wpAnyH_takeAt (i := 0) (v := (.pointer (some ⟨g, i * 367, none⟩))) rfl (by kernel_rfl) (by kernel_rfl) (by kernel_rfl) (fun _ _ _ h => h) rfl (Or.inl ⟨by rfl, fun w' hS => ?_⟩) hHeld ?_
  · go_simp
  simp only [List.set_cons_zero, List.set_cons_succ]
  refine wpAnyH_takeAt (i := 1) (v := (.pointer (some ⟨g, i * 367, none⟩))) rfl (by kernel_rfl) (by kernel_rfl) (by kernel_rfl) (fun _ _ _ h => h) rfl (Or.inl ⟨by rfl, fun w' hS => ?_⟩) hHeld ?_
  · go_simp
  simp only [List.set_cons_zero, List.set_cons_succ]
  refine wpAnyH_takeAt (i := 2) (v := (.pointer (some ⟨g, i * 367, none⟩))) rfl (by kernel_rfl) (by kernel_rfl) (by kernel_rfl) (fun _ _ _ h => h) rfl (Or.inl ⟨by rfl, fun w' hS => ?_⟩) hHeld ?_
  · go_simp
  simp only [List.set_cons_zero, List.set_cons_succ]
  refine wpAnyH_takeAt (i := 3) (v := (.pointer (some ⟨g, i * 367, none⟩))) rfl (by kernel_rfl) (by kernel_rfl) (by kernel_rfl) (fun _ _ _ h => h) rfl (Or.inl ⟨by rfl, fun w' hS => ?_⟩) hHeld ?_
  · go_simp
  simp only [List.set_cons_zero, List.set_cons_succ]
  refine wpAnyH_takeAt (i := 5) (v := (.int .i64 a)) rfl (by kernel_rfl) (by kernel_rfl) (by kernel_rfl) (fun _ _ _ h => h) rfl (Or.inl ⟨by rfl, fun w' hS => ?_⟩) hHeld ?_
  · go_simp
  simp only [List.set_cons_zero, List.set_cons_succ]
  refine wpAnyH_takeAt (i := 6) (v := (.pointer (some ⟨g, 0, none⟩))) rfl (by kernel_rfl) (by kernel_rfl) (by kernel_rfl) (fun _ _ _ h => h) rfl (Or.inl ⟨by rfl, fun w' hS => ?_⟩) hHeld ?_
  · go_simp
  simp only [List.set_cons_zero, List.set_cons_succ]
  refine wpAnyH_takeAt (i := 7) (v := (.pointer (some ⟨g, 0, none⟩))) rfl (by kernel_rfl) (by kernel_rfl) (by kernel_rfl) (fun _ _ _ h => h) rfl (Or.inl ⟨by rfl, fun w' hS => ?_⟩) hHeld ?_
  · go_simp
  simp only [List.set_cons_zero, List.set_cons_succ]
  refine wpAnyH_takeAt (i := 8) (v := (.pointer (some ⟨g, 1468, none⟩))) rfl (by kernel_rfl) (by kernel_rfl) (by kernel_rfl) (fun _ _ _ h => h) rfl (Or.inl ⟨by rfl, fun w' hS => ?_⟩) hHeld ?_
  · go_simp
  simp only [List.set_cons_zero, List.set_cons_succ]
  refine wpAnyH_takeAt (i := 9) (v := (.int .i64 now)) rfl (by kernel_rfl) (by kernel_rfl) (by kernel_rfl) (fun _ _ _ h => h) rfl (Or.inl ⟨by rfl, fun w' hS => ?_⟩) hHeld ?_
  · have q0 : w'.cell? ⟨g, 1468, none⟩ = _ := hS
    go_simp
  simp only [List.set_cons_zero, List.set_cons_succ]
  refine wpAnyH_ready (rs := [4]) (by kernel_rfl) (by simp) (AllReadyH.cons rfl (fun K' hK => ?_) AllReadyH.nil)
  rw [if_pos (by rfl)]
  refine wp_load_mid 56 (.tmp 10) (by rfl) g (i * 367) (by rfl) T _ (by rw [HTE.out]; exact HM1.out.roomAt HI.out) Tryz.underlying56 rfl HTF.out.info ?_
  refine hK.out _ _ HC1.out (fun hHeld' => ?_)
  clear hK hHeld 
  have hHeld := hHeld'
  clear hHeld'
  refine wpAnyH_putAt rfl ?_
  simp only [List.set_cons_zero, List.set_cons_succ]
  refine wpAnyH_ready (rs := [10]) (by kernel_rfl) (by simp) (AllReadyH.cons rfl (fun K' hK => ?_) AllReadyH.nil)
  go_simp
  go_at_call 88
  refine (ALV.out w1).mono ?_
  rintro e0 w2 ⟨rfl, hbq⟩
  have HM2 : Hid (DeskM L w2 g P D) := HM1.out.below hbq
  have HB2 : Hid (Below w.heap.size w w2) := bcall HB1.out hbq
  have HC2 : Hid (w2.cell? ⟨g, 1468, none⟩ = some (.int .i64 now)) := by show _ = _; rw [HNE.out]; exact HM2.out.nowAt.1
  clear hbq
  go_wp2_with fail
  refine hK.out _ _ HC2.out (fun hHeld' => ?_)
  clear hK hHeld 
  have hHeld := hHeld'
  clear hHeld'
  refine wpAnyH_takeAt (i := 11) (v := (.tuple #[.agg U.toArray, .int .i64 q.2])) rfl (by kernel_rfl) (by kernel_rfl) (by kernel_rfl) (fun _ _ _ h => h) rfl (Or.inl ⟨by rfl, fun w' hS => ?_⟩) hHeld ?_
  · go_simp
  simp only [List.set_cons_zero, List.set_cons_succ]
  refine wpAnyH_takeAt (i := 12) (v := (.agg U.toArray)) rfl (by kernel_rfl) (by kernel_rfl) (by kernel_rfl) (fun _ _ _ h => h) rfl (Or.inl ⟨by rfl, fun w' hS => ?_⟩) hHeld ?_
  · go_simp
  simp only [List.set_cons_zero, List.set_cons_succ]
  refine wpAnyH_takeAt (i := 13) (v := (.int .i64 q.2)) rfl (by kernel_rfl) (by kernel_rfl) (by kernel_rfl) (fun _ _ _ h => h) rfl (Or.inl ⟨by rfl, fun w' hS => ?_⟩) hHeld ?_
  · go_simp
  simp only [List.set_cons_zero, List.set_cons_succ]
  refine wpAnyH_takeAt (i := 14) (v := (.pointer (some ⟨g, i * 367, none⟩))) rfl (by kernel_rfl) (by kernel_rfl) (by kernel_rfl) (fun _ _ _ h => h) rfl (Or.inl ⟨by rfl, fun w' hS => ?_⟩) hHeld ?_
  · go_simp
  simp only [List.set_cons_zero, List.set_cons_succ]
  refine wpAnyH_takeAt (i := 15) (v := (.pointer (some ⟨g, i * 367, none⟩))) rfl (by kernel_rfl) (by kernel_rfl) (by kernel_rfl) (fun _ _ _ h => h) rfl (Or.inl ⟨by rfl, fun w' hS => ?_⟩) hHeld ?_
  · go_simp
  simp only [List.set_cons_zero, List.set_cons_succ]
  refine wpAnyH_ready (rs := [16]) (by kernel_rfl) (by simp) (AllReadyH.cons rfl (fun K' hK => ?_) AllReadyH.nil)
  rw [if_pos (by rfl)]
  refine wp_store_mid 56 (.tmp 21) (.tmp 18) (by rfl) g (i * 367) U.toArray (by rfl) (by rfl) (HM2.out.thereRoom HI.out (by show U.length ≤ 39; rw [HUE.out, rL_len HQ.out]; exact Nat.le_refl _)) HUF.out.infos HUF.out.one ?_
  obtain ⟨w3, hw3⟩ : ∃ w3, w3 = w2.setCells g (i * 367) U := ⟨_, rfl⟩
  have HMS : Hid (DeskM L w3 g P (D.setRoom i q.1) ∧ Stp dskX L L w2 w3) := by rw [hw3, HUE.out]; exact HM2.out.putRoom HI.out HQ.out HQG.out
  have HC3 : Hid (w3.cell? ⟨g, 1468, none⟩ = some (.int .i64 now)) := by show _ = _; rw [HNE.out]; exact HMS.out.1.nowAt.1
  rw [← hw3]
  clear hw3
  refine hK.out _ _ HC3.out (fun hHeld' => ?_)
  clear hK hHeld 
  have hHeld := hHeld'
  clear hHeld'
  refine wpAnyH_putNone rfl ?_
  refine wpAnyH_done (by kernel_rfl) ?_ _
  go_wp2_with fail
  go_end0
  exact ⟨rfl, HMS.out.1, (Stp.below HB2.out HD.out.top).trans HMS.out.2⟩
end Go.Proofs.YtmkifedcanmjoaaGreat
/- desk.all (contract). Conditions: the note's bytes read. -/
set_option linter.unusedVariables false
set_option linter.unusedSimpArgs false
namespace Go.Proofs.YtmkifedcanmjoaaGreat
open Go.RowKit
attribute [local go_sem ↓] Go.wp_at_zero Go.wp_at_succ
def postsX : Comp → Prop := fun c => (∃ a, c = .post a) ∨ c = .counts
theorem postsX_other : ¬ postsX .other := by unfold postsX; simp
theorem postsX_temp : ¬ postsX .temp := by unfold postsX; simp
theorem tellX_posts {a : Nat} : ∀ c, tellX a c → postsX c := fun c h => h.elim (fun h => .inl ⟨a, h⟩) .inr
theorem tellD_halls (D : DeskD) (a : Nat) (k : Int) (b : List UInt8) : (tellD D a k b).halls = D.halls ∧ (tellD D a k b).now = D.now ∧ (tellD D a k b).draws = D.draws := by
  unfold tellD
  split <;> exact ⟨rfl, rfl, rfl⟩
theorem sayD_halls (D : DeskD) (a : Nat) (n : Nt.NoteD) : (sayD D a n).halls = D.halls ∧ (sayD D a n).now = D.now ∧ (sayD D a n).draws = D.draws := by
  unfold sayD
  split
  · exact tellD_halls _ _ _ _
  · exact ⟨rfl, rfl, rfl⟩
theorem allFrom_step (r : Rm) (but : Int) (n : Nt.NoteD) (f i : Nat) (D : DeskD) : allFrom r but n (f + 1) i D = allFrom r but n f (i + 1) (if usedAt r.t i && ((i : Int) != but) then sayD D (addrAt r.t i).toNat n else D) := rfl
theorem allFrom_halls (r : Rm) (but : Int) (n : Nt.NoteD) : ∀ (f i : Nat) (D : DeskD), (allFrom r but n f i D).halls = D.halls ∧ (allFrom r but n f i D).now = D.now
  | 0, _, D => ⟨rfl, rfl⟩
  | f + 1, i, D => by
    rw [allFrom_step]
    have h := allFrom_halls r but n f (i + 1) (if usedAt r.t i && ((i : Int) != but) then sayD D (addrAt r.t i).toNat n else D)
    rw [h.1, h.2]
    split
    · exact ⟨(sayD_halls _ _ _).1, (sayD_halls _ _ _).2.1⟩
    · exact ⟨rfl, rfl⟩
theorem hall_of {D E : DeskD} (h : E.halls = D.halls) (i : Nat) : E.hall i = D.hall i := by unfold DeskD.hall; rw [h]
theorem DeskM.usedAt_ {L : Lab} {w : World} {g : Nat} {P : Ptrs} {D : DeskD} (h : DeskM L w g P D) {i : Nat} (hi : i < 4) : w.rangeAt g (i * 367) ((D.hall i).r.t.used.map Value.bool) := by
  rw [Nat.mul_comm]
  refine h.part _ _ fun C hC j v hv => hC.tpart hi j v ?_
  unfold tbL
  rw [List.getElem?_append_left (get_len hv)]
  exact hv
theorem DeskM.addrCell {L : Lab} {w : World} {g : Nat} {P : Ptrs} {D : DeskD} (h : DeskM L w g P D) {i s : Nat} (hi : i < 4) (hs : s < 8) : w.cell? ⟨g, i * 367 + 8 + s, none⟩ = some (.int .i64 (addrAt (D.hall i).r.t s)) := by
  obtain ⟨C, h1, _, h2⟩ := h.cell
  rw [h1, Nat.mul_comm, Nat.add_assoc, h2.tpart hi (8 + s) _ (tbL_addr (h2.wr i hi).1 hs)]
set_option maxRecDepth 100000 in
set_option maxHeartbeats 6400000 in
theorem all_c {L : Lab} {w : World} {g : Nat} {P : Ptrs} {D : DeskD} (hd : DeskM L w g P D) {i : Nat} (hi : i < 4) (but : Int) (d : Nt.NoteD) {A : Option Addr} {c : Nat} (hv : ByV L w (.slice A d.bs.length c) d.bs) (hlen : d.bs.length ≤ 9223372036854775807) :
    Calls Tryz.prog 109 #[.pointer (some ⟨g, 0, none⟩), .pointer (some ⟨g, i * 367, none⟩), .int .i64 but, Nt.noteV d A c] w fun e w' => e = .returned (.tuple #[]) ∧ ∃ L', DeskM L' w' g P (allD D i but d) ∧ Stp postsX L L' w w' := by
  obtain ⟨r, hr⟩ : ∃ r, r = (D.hall i).r := ⟨_, rfl⟩
  have HRE0 := Lib.hid hr
  have HWR : Hid (WR r) := by show WR _; rw [hr]; exact hd.wr hi
  have HTG : Hid (goodT r.t = true) := by show _ = _; rw [hr]; exact hd.tg hi
  obtain ⟨res, hres⟩ : ∃ res, res = allD D i but d := ⟨_, rfl⟩
  have HRE : Hid (res = allFrom r but d 8 0 D) := by show _ = _; rw [hres, hr]; rfl
  have HI := Lib.hid hi
  rw [← hres]
  have HV := Lib.hid hv
  have HSAY := Lib.hid (fun (Lx : Lab) (wx : World) (Dx : DeskD) (hdx : DeskM Lx wx g P Dx) (ad : Nat) (had : ad < 64) (hvx : ByV Lx wx (.slice A d.bs.length c) d.bs) => say_c hdx had d hvx hlen)
  obtain ⟨dd, hdd⟩ : ∃ dd, dd = d := ⟨_, rfl⟩
  have HDE := Lib.hid hdd
  rw [← hdd] at HRE HV HSAY
  obtain ⟨kind, room, slot, epoch, n, m, bs⟩ := d
  have HM0 : Hid (DW postsX w L w L g P D []) := DW.start postsX hd
  obtain ⟨nb, hnb⟩ : ∃ nb, nb = bs.length := ⟨_, rfl⟩
  have HDB : Hid (dd.bs.length = nb ∧ dd.bs = bs) := by show _ ∧ _; rw [hdd, hnb]; exact ⟨rfl, rfl⟩
  have HNV : Hid (Nt.noteV dd A c = .agg #[.int .i64 kind, .int .i64 room, .int .i64 slot, .int .i64 epoch, .int .i64 n, .int .i64 m, .slice A nb c]) := by show _ = _; rw [hdd, hnb]; rfl
  rw [← hdd, HNV.out]
  rw [HNV.out] at HSAY
  obtain ⟨q, hq⟩ : ∃ q, q = w.heap.size := ⟨_, rfl⟩
  obtain ⟨w1, hw1⟩ : ∃ w1, w1 = w.alloc (.cells #[.int .i64 kind, .int .i64 room, .int .i64 slot, .int .i64 epoch, .int .i64 n, .int .i64 m, .slice A nb c] 172) := ⟨_, rfl⟩
  obtain ⟨L1, hL1⟩ : ∃ L1, L1 = tempAt L w.heap.size := ⟨_, rfl⟩
  have HM1 : Hid (DW postsX w L w1 L1 g P D [(q, 172, [.int .i64 kind, .int .i64 room, .int .i64 slot, .int .i64 epoch, .int .i64 n, .int .i64 m, .slice A nb c])]) := by
    show DW _ _ _ _ _ _ _ _ _
    rw [hw1, hq, hL1]
    exact HM0.out.alloc _ [_, _, _, _, _, _, _]
  clear hd hv hres hr hnb hlen hL1 HM0 hi hdd
  go_enter Tryz.func109, Tryz.ntmps109
  go_upto_region 1 with fail
  rw [← hw1, ← hq]
  clear hw1 hq
  obtain ⟨M, hM⟩ : ∃ M, M = (r.t.used.map Value.bool).toArray := ⟨_, rfl⟩
  have HME := Lib.hid hM
  have HIB : Hid ((Tryz.prog.info? 50).map (·.size) = some (r.t.used.map Value.bool).length) := by show _ = _; rw [List.length_map, HWR.out.1.1]; exact infoB8
  have HRU : Hid (w1.rangeAt g (i * 367) (r.t.used.map Value.bool)) := by show World.rangeAt _ _ _ _; rw [HRE0.out]; exact HM1.out.dm.usedAt_ HI.out
  go_upto_region 2 with (first
    | ((with_reducible show wpList _ _ _ (⟨some 15, .load _ (.tmp 14), _, _, _, _⟩ :: _) _ _); refine wpList_load_mid rfl 50 (.tmp 14) rfl g (i * 367) rfl (r.t.used.map Value.bool) _ HRU.out Tryz.underlying50 rfl HIB.out ?_))
  rw [← hM]
  clear hM HRU
  go_loopg [16] 8 (fun gg v wx => ∃ (s : Nat) (Ds : DeskD) (Ls : Lab), gg = 8 - s ∧ s ≤ 8 ∧ v = .int .i64 (s : Int) ∧ allFrom r but dd (8 - s) s Ds = res ∧ Ds.halls = D.halls ∧ DW postsX w L wx Ls g P Ds [(q, 172, [.int .i64 kind, .int .i64 room, .int .i64 slot, .int .i64 epoch, .int .i64 n, .int .i64 m, .slice A nb c])])
  case atStart => exact ⟨0, D, L1, rfl, by omega, rfl, HRE.out.symm, rfl, HM1.out⟩
  case round =>
    obtain ⟨s, Ds, Ls, hgg, hs, rfl, hf, hh, hmw⟩ := hrel
    have HF := Lib.hid hf
    have HGG := Lib.hid hgg
    have HH := Lib.hid hh
    have HM6 := Lib.hid hmw
    clear hf hgg hh hmw
    by_cases hin : s < 8
    · have hini : (s : Int) < 8 := by omega
      have hin0 : (0 : Int) ≤ (s : Int) := by omega
      have hw1 : IntKind.i64.wrap ((s : Int) + 1) = ((s + 1 : Nat) : Int) := by rw [IntKind.wrap_i64]; omega
      obtain ⟨u, hu⟩ : ∃ u, u = usedAt r.t s := ⟨_, rfl⟩
      obtain ⟨ad, had⟩ : ∃ ad : Nat, addrAt r.t s = (ad : Int) := ⟨(addrAt r.t s).toNat, by have := addr_fits HTG.out hin; omega⟩
      have HAD : Hid (ad < 64) := by show ad < 64; have := addr_fits HTG.out hin; omega
      obtain ⟨bt, hbt⟩ : ∃ bt, ((s : Int) != but) = bt := ⟨_, rfl⟩
      have hidx : ∀ wx, (Instr.index 50 (.agg M) (.int .i64 (s : Int))).run Tryz.prog wx = .ok (.bool u) wx := fun wx => by
        rw [HME.out, hu]
        exact index_bools wx r.t.used s hin HWR.out.1.1
      have HS : Hid (res = allFrom r but dd (8 - (s + 1)) (s + 1) (if u && bt then sayD Ds ad dd else Ds)) := by
        show _ = _
        rw [← HF.out, show 8 - s = (8 - (s + 1)) + 1 by omega, allFrom_step, hu, hbt, had, Int.toNat_natCast]
      have HLT := Lib.hid hin
      have HADE := Lib.hid had
      clear hu hin hs HF had
      cases u
      · have HS2 : Hid (allFrom r but dd (8 - (s + 1)) (s + 1) Ds = res) := by show _ = _; rw [HS.out]; rfl
        clear HS
        go_wp2_with fail
        go_roundg (8 - (s + 1))
        case measure => have := HLT.out; have := HGG.out; omega
        case rel => have hlt := HLT.out; exact ⟨s + 1, Ds, Ls, rfl, by omega, by first | rfl | go_num, HS2.out, HH.out, HM6.out⟩
      · cases bt
        · have HS2 : Hid (allFrom r but dd (8 - (s + 1)) (s + 1) Ds = res) := by show _ = _; rw [HS.out]; rfl
          clear HS
          go_wp2_with fail
          go_roundg (8 - (s + 1))
          case measure => have := HLT.out; have := HGG.out; omega
          case rel => have hlt := HLT.out; exact ⟨s + 1, Ds, Ls, rfl, by omega, by first | rfl | go_num, HS2.out, HH.out, HM6.out⟩
        · have HS2 : Hid (allFrom r but dd (8 - (s + 1)) (s + 1) (sayD Ds ad dd) = res) := by show _ = _; rw [HS.out]; rfl
          clear HS
          go_upto_region 5 with fail
          obtain ⟨wq1, hwq1⟩ : ∃ wq1, wq1 = wr.drew := ⟨_, rfl⟩
          have HMq1 : Hid (DW postsX w L wq1 Ls g P Ds [(q, 172, [.int .i64 kind, .int .i64 room, .int .i64 slot, .int .i64 epoch, .int .i64 n, .int .i64 m, .slice A nb c])]) := by show DW _ _ _ _ _ _ _ _ _; rw [hwq1]; exact HM6.out.drew
          have HCq1 : Hid (wq1.cell? ⟨g, i * 367 + 8 + s, none⟩ = some (.int .i64 (ad : Int)) ∧ Blk wq1 q 172 #[.int .i64 kind, .int .i64 room, .int .i64 slot, .int .i64 epoch, .int .i64 n, .int .i64 m, .slice A nb c]) := by
            refine ⟨?_, HMq1.out.blk (.head _)⟩
            rw [← HADE.out, HRE0.out, ← hall_of HH.out]
            exact HMq1.out.dm.addrCell HI.out HLT.out
          refine wp_region_held_drew (S := (fun w' => w'.cell? ⟨g, i * 367 + 8 + s, none⟩ = some (.int .i64 (ad : Int)) ∧ Blk w' q 172 #[.int .i64 kind, .int .i64 room, .int .i64 slot, .int .i64 epoch, .int .i64 n, .int .i64 m, .slice A nb c])) (by kernel_rfl) (by rw [← hwq1]; exact HCq1.out) (fun hHeld => ?_)
          rw [← hwq1] at hHeld ⊢
          clear hwq1 HM6
          refine wpAnyH_takeAt (i := 0) (v := (.pointer (some ⟨g, 0, none⟩))) rfl (by kernel_rfl) (by kernel_rfl) (by kernel_rfl) (fun _ _ _ h => h) rfl (Or.inl ⟨by rfl, fun w' hS => ?_⟩) hHeld ?_
          · go_simp
          simp only [List.set_cons_zero, List.set_cons_succ]
          refine wpAnyH_takeAt (i := 1) (v := (.pointer (some ⟨g, i * 367, none⟩))) rfl (by kernel_rfl) (by kernel_rfl) (by kernel_rfl) (fun _ _ _ h => h) rfl (Or.inl ⟨by rfl, fun w' hS => ?_⟩) hHeld ?_
          · go_simp
          simp only [List.set_cons_zero, List.set_cons_succ]
          refine wpAnyH_takeAt (i := 2) (v := (.int .i64 (s : Int))) rfl (by kernel_rfl) (by kernel_rfl) (by kernel_rfl) (fun _ _ _ h => h) rfl (Or.inl ⟨by rfl, fun w' hS => ?_⟩) hHeld ?_
          · go_simp
          simp only [List.set_cons_zero, List.set_cons_succ]
          refine wpAnyH_takeAt (i := 3) (v := (.pointer (some ⟨g, i * 367, none⟩))) rfl (by kernel_rfl) (by kernel_rfl) (by kernel_rfl) (fun _ _ _ h => h) rfl (Or.inl ⟨by rfl, fun w' hS => ?_⟩) hHeld ?_
          · go_simp
          simp only [List.set_cons_zero, List.set_cons_succ]
          refine wpAnyH_takeAt (i := 4) (v := (.pointer (some ⟨g, i * 367, none⟩))) rfl (by kernel_rfl) (by kernel_rfl) (by kernel_rfl) (fun _ _ _ h => h) rfl (Or.inl ⟨by rfl, fun w' hS => ?_⟩) hHeld ?_
          · go_simp
          simp only [List.set_cons_zero, List.set_cons_succ]
          refine wpAnyH_takeAt (i := 5) (v := (.pointer (some ⟨g, i * 367, none⟩))) rfl (by kernel_rfl) (by kernel_rfl) (by kernel_rfl) (fun _ _ _ h => h) rfl (Or.inl ⟨by rfl, fun w' hS => ?_⟩) hHeld ?_
          · go_simp
          simp only [List.set_cons_zero, List.set_cons_succ]
          refine wpAnyH_takeAt (i := 6) (v := (.pointer (some ⟨g, i * 367 + 8, none⟩))) rfl (by kernel_rfl) (by kernel_rfl) (by kernel_rfl) (fun _ _ _ h => h) rfl (Or.inl ⟨by rfl, fun w' hS => ?_⟩) hHeld ?_
          · go_simp
          simp only [List.set_cons_zero, List.set_cons_succ]
          refine wpAnyH_takeAt (i := 7) (v := (.pointer (some ⟨g, i * 367 + 8 + s, none⟩))) rfl (by kernel_rfl) (by kernel_rfl) (by kernel_rfl) (fun _ _ _ h => h) rfl (Or.inl ⟨by rfl, fun w' hS => ?_⟩) hHeld ?_
          · go_simp
          simp only [List.set_cons_zero, List.set_cons_succ]
          refine wpAnyH_takeAt (i := 8) (v := (.int .i64 (ad : Int))) rfl (by kernel_rfl) (by kernel_rfl) (by kernel_rfl) (fun _ _ _ h => h) rfl (Or.inl ⟨by rfl, fun w' hS => ?_⟩) hHeld ?_
          · have q0 := hS.1
            go_simp
          simp only [List.set_cons_zero, List.set_cons_succ]
          refine wpAnyH_takeAt (i := 9) (v := (.agg #[.int .i64 kind, .int .i64 room, .int .i64 slot, .int .i64 epoch, .int .i64 n, .int .i64 m, .slice A nb c])) rfl (by kernel_rfl) (by kernel_rfl) (by kernel_rfl) (fun _ _ _ h => h) rfl (Or.inl ⟨by rfl, fun w' hS => ?_⟩) hHeld ?_
          · have q0 := hS.2.cell 0
            have q1 := hS.2.cell 1
            have q2 := hS.2.cell 2
            have q3 := hS.2.cell 3
            have q4 := hS.2.cell 4
            have q5 := hS.2.cell 5
            have q6 := hS.2.cell 6
            go_simp
          simp only [List.set_cons_zero, List.set_cons_succ]
          refine wpAnyH_ready (rs := [10]) (by kernel_rfl) (by simp) (AllReadyH.cons rfl (fun K' hK => ?_) AllReadyH.nil)
          go_simp
          go_at_call 107
          refine (HSAY.out Ls wq1 Ds HMq1.out.dm ad HAD.out (HMq1.out.stp.ot_ HV.out postsX_other)).mono ?_
          rintro e0 wq2 ⟨rfl, L2, hd2, hs2⟩
          have HMq2 : Hid (DW postsX w L wq2 L2 g P (sayD Ds ad dd) [(q, 172, [.int .i64 kind, .int .i64 room, .int .i64 slot, .int .i64 epoch, .int .i64 n, .int .i64 m, .slice A nb c])]) := HMq1.out.step (hs2.mono tellX_posts) hd2 postsX_temp
          have HH2 : Hid ((sayD Ds ad dd).halls = D.halls) := by show _ = _; rw [(sayD_halls _ _ _).1]; exact HH.out
          have HCq2 : Hid (wq2.cell? ⟨g, i * 367 + 8 + s, none⟩ = some (.int .i64 (ad : Int)) ∧ Blk wq2 q 172 #[.int .i64 kind, .int .i64 room, .int .i64 slot, .int .i64 epoch, .int .i64 n, .int .i64 m, .slice A nb c]) := by
            refine ⟨?_, HMq2.out.blk (.head _)⟩
            rw [← HADE.out, HRE0.out, ← hall_of HH2.out]
            exact HMq2.out.dm.addrCell HI.out HLT.out
          clear hd2 hs2
          go_wp2_with fail
          refine hK.out _ _ HCq2.out (fun hHeld' => ?_)
          clear hK hHeld 
          have hHeld := hHeld'
          clear hHeld'
          (try refine wpAnyH_putNone rfl ?_)
          refine wpAnyH_done (by kernel_rfl) ?_ _
          go_wp2_with fail
          go_roundg (8 - (s + 1))
          case measure => have := HLT.out; have := HGG.out; omega
          case rel => have hlt := HLT.out; exact ⟨s + 1, sayD Ds ad dd, L2, rfl, by omega, by first | rfl | go_num, HS2.out, HH2.out, HMq2.out⟩
    · have hini : ¬ (s : Int) < 8 := by omega
      have hie : s = 8 := by omega
      subst hie
      clear hin hs
      have HS2 : Hid (Ds = res) := HF.out
      go_wp2_with fail
      go_end0
      exact ⟨rfl, Ls, by rw [← HS2.out]; exact HM6.out.dm, HM6.out.stp⟩
end Go.Proofs.YtmkifedcanmjoaaGreat
