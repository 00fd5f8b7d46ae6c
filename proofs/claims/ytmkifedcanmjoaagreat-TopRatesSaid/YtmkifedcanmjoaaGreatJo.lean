/- Texts of this claim, one behind the other: RekA, RekB, RekC, RekD, RoomM. Each says ahead of itself what it proves, and its conditions. -/
import Derived.Test.YtmkifedcanmjoaaGreatJn
import Derived.StillTailTactics
/- rekey.slot, rekey.Coming, rekey.Good (contracts). Conditions: none. -/
set_option linter.unusedVariables false
set_option linter.unusedSimpArgs false
namespace Go.Proofs.YtmkifedcanmjoaaGreat
open Go.RowKit
attribute [local go_sem ↓] Go.wp_at_zero Go.wp_at_succ

/-- A state's cells. -/
def kL (s : Ks) : List Value := [.int .i64 s.epoch, .bool s.opn, .int .i64 s.next, .int .i64 s.need, .int .i64 s.hv, .int .i64 s.born]
def WK (s : Ks) : Prop := (0 ≤ s.epoch ∧ s.epoch < 65536) ∧ (0 ≤ s.next ∧ s.next < 65536) ∧ (0 ≤ s.need ∧ s.need < 256) ∧ (0 ≤ s.hv ∧ s.hv < 256) ∧ (-4611686018427387904 < s.born ∧ s.born < 4611686018427387904)
theorem infoK : (Tryz.prog.info? 49).map (·.size) = some 6 := by kernel_rfl
theorem kL_one (s : Ks) : (kL s).toArray.all (·.oneCell') = true := all_oneCell_toArray fun v hv => by
  simp only [kL, List.mem_cons, List.not_mem_nil, or_false] at hv
  rcases hv with rfl | rfl | rfl | rfl | rfl | rfl <;> rfl
set_option maxRecDepth 100000 in
set_option maxHeartbeats 3200000 in
theorem slotK_c (a : Int) (w : World) :
    Calls Tryz.prog 68 #[.int .i64 a] w fun e w' => e = .returned (.bool (sltB a)) ∧ Below w.heap.size w w' := by
  go_enter Tryz.func68, Tryz.ntmps68
  by_cases h1 : 0 ≤ a
  · by_cases h2 : a < 8
    · go_wp2_with fail
      go_ret
      refine ⟨?_, Below.refl _ _⟩
      unfold sltB
      rw [decide_eq_true h1, decide_eq_true h2]
      rfl
    · go_wp2_with fail
      go_ret
      refine ⟨?_, Below.refl _ _⟩
      unfold sltB
      rw [decide_eq_true h1, decide_eq_false (by omega)]
      rfl
  · go_wp2_with fail
    go_ret
    refine ⟨?_, Below.refl _ _⟩
    unfold sltB
    rw [decide_eq_false (by omega)]
    rfl

set_option maxRecDepth 100000 in
set_option maxHeartbeats 3200000 in
theorem coming_c (s : Ks) (w : World) :
    Calls Tryz.prog 39 #[.agg (kL s).toArray] w fun e w' => e = .returned (.int .i64 (comingK s)) ∧ Below w.heap.size w w' := by
  obtain ⟨e, o, n, d, hv, b⟩ := s
  show Calls _ _ #[.agg #[.int .i64 e, .bool o, .int .i64 n, .int .i64 d, .int .i64 hv, .int .i64 b]] _ _
  go_enter Tryz.func39, Tryz.ntmps39
  cases o
  · go_wp2_with fail
    go_ret
    exact ⟨rfl, balloc (Below.refl _ _) _⟩
  · go_wp2_with fail
    go_ret
    exact ⟨rfl, balloc (Below.refl _ _) _⟩

set_option maxRecDepth 100000 in
set_option maxHeartbeats 6400000 in
theorem goodK_c (s : Ks) (w : World) (hw : WK s) :
    Calls Tryz.prog 40 #[.agg (kL s).toArray] w fun e w' => e = .returned (.bool (goodK s)) ∧ Below w.heap.size w w' := by
  obtain ⟨e, o, n, d, hv, b⟩ := s
  obtain ⟨⟨he0, he1⟩, ⟨hn0, hn1⟩, ⟨hd0, hd1⟩, ⟨hh0, hh1⟩, hb0, hb1⟩ := hw
  simp only at he0 he1 hn0 hn1 hd0 hd1 hh0 hh1 hb0 hb1
  obtain ⟨d, rfl⟩ := Int.eq_ofNat_of_zero_le hd0
  obtain ⟨hv, rfl⟩ := Int.eq_ofNat_of_zero_le hh0
  have hd9 : d < 256 := by omega
  have hh9 : hv < 256 := by omega
  have hbn : Go.bits .andNot .i64 (hv : Int) (d : Int) = ((exN hv d : Nat) : Int) := i64_andNot_nat hv d (by omega) (by omega)
  show Calls _ _ #[.agg #[.int .i64 e, .bool o, .int .i64 n, .int .i64 d, .int .i64 hv, .int .i64 b]] _ _
  have q1 : ¬ e < 0 := by omega
  have q2 : ¬ 65535 < e := by omega
  have q3 : n ≤ 65535 := by omega
  have q4 : (d : Int) ≤ 255 := by omega
  go_enter Tryz.func40, Tryz.ntmps40
  cases o
  · go_wp2_with fail
    all_goals
      go_ret
      refine ⟨?_, balloc (Below.refl _ _) _⟩
      congr 1
      simp [goodK, q1, q2]
      try omega
  · by_cases h1 : e < n
    · by_cases h2 : 1 ≤ d
      · have h2' : (1 : Int) ≤ (d : Int) := by omega
        by_cases h3 : exN hv d = 0
        · have h3' : ((exN hv d : Nat) : Int) = 0 := by omega
          have h4 := (exN_zero hv d (by omega) (by omega)).1 h3
          by_cases h5 : hv = d
          · subst h5
            have hne : ((hv : Int) != (hv : Int)) = false := by simp
            go_wp2_with fail
            all_goals
              go_ret
              refine ⟨?_, balloc (Below.refl _ _) _⟩
              simp [goodK, q1, q2, q3, q4, h1, h2, h2', h4]
          · have hne : ((hv : Int) != (d : Int)) = true := by simp; omega
            have hne2 : ¬ ((hv : Int) = (d : Int)) := by omega
            go_wp2_with fail
            all_goals
              go_ret
              refine ⟨?_, balloc (Below.refl _ _) _⟩
              simp [goodK, q1, q2, q3, q4, h1, h2, h2', h4, h5]
              try exact hne2
        · have h3' : ¬ ((exN hv d : Nat) : Int) = 0 := by omega
          have h4 : ¬ (hv &&& d = hv) := fun h => h3 ((exN_zero hv d (by omega) (by omega)).2 h)
          go_wp2_with fail
          all_goals
            go_ret
            refine ⟨?_, balloc (Below.refl _ _) _⟩
            simp [goodK, q1, q2, q3, q4, h1, h2, h2', h4]
      · have h2' : ¬ (1 : Int) ≤ (d : Int) := by omega
        go_wp2_with fail
        all_goals
          go_ret
          refine ⟨?_, balloc (Below.refl _ _) _⟩
          simp [goodK, q1, q2, q3, q4, h1, h2, h2']
          try (intro h; omega)
    · have h1' : ¬ n > e := by omega
      go_wp2_with fail
      all_goals
        go_ret
        refine ⟨?_, balloc (Below.refl _ _) _⟩
        simp [goodK, q1, q2, q3, q4, h1]
        try (intro h; omega)
end Go.Proofs.YtmkifedcanmjoaaGreat
/- rekey.Raise (contract). Conditions: none. -/
set_option linter.unusedVariables false
set_option linter.unusedSimpArgs false
namespace Go.Proofs.YtmkifedcanmjoaaGreat
open Go.RowKit
attribute [local go_sem ↓] Go.wp_at_zero Go.wp_at_succ

theorem comingK_lt {s : Ks} (h : WK s) : 0 ≤ comingK s ∧ comingK s < 65536 := by
  unfold comingK
  obtain ⟨h1, h2, _⟩ := h
  split <;> omega
set_option maxRecDepth 100000 in
set_option maxHeartbeats 6400000 in
theorem raise_c (s : Ks) (need now : Int) (w : World) (hw : WK s) :
    Calls Tryz.prog 17 #[.agg (kL s).toArray, .int .i64 need, .int .i64 now] w fun e w' => e = .returned (.tuple #[.agg (kL (raiseK s need now).1).toArray, .int .i64 (raiseK s need now).2]) ∧ Below w.heap.size w w' := by
  obtain ⟨T, hT⟩ : ∃ T, T = kL s := ⟨_, rfl⟩
  obtain ⟨g1, hg1⟩ : ∃ g1, g1 = w.heap.size := ⟨_, rfl⟩

  obtain ⟨g2, hg2⟩ : ∃ g2, g2 = w.heap.size + 1 := ⟨_, rfl⟩
  obtain ⟨Z, hZ⟩ : ∃ Z : List Value, Z = [.int .i64 0, .bool false, .int .i64 0, .int .i64 0, .int .i64 0, .int .i64 0] := ⟨_, rfl⟩
  obtain ⟨w2, hw2⟩ : ∃ w2, w2 = (w.alloc (.cells T.toArray 49)).alloc (.cells #[.int .i64 0, .bool false, .int .i64 0, .int .i64 0, .int .i64 0, .int .i64 0] 49) := ⟨_, rfl⟩
  have hq := two_blks w 49 49 T.toArray #[.int .i64 0, .bool false, .int .i64 0, .int .i64 0, .int .i64 0, .int .i64 0]
  rw [← hw2, ← hg2] at hq
  have HX21 : Hid (Blk w2 g1 49 T.toArray) := by show Blk _ _ _ _; rw [hg1]; exact hq.1
  have HX22 : Hid (Blk w2 g2 49 Z.toArray) := by show Blk _ _ _ _; rw [hZ]; exact hq.2.1
  have HB2 : Hid (Below w.heap.size w w2) := hq.2.2
  clear hq
  have HL1 : Hid (w.heap.size ≤ g1) := by show _ ≤ _; omega
  have HL2 : Hid (w.heap.size ≤ g2) := by show _ ≤ _; omega
  have HNE : Hid (g1 ≠ g2) := by show _ ≠ _; omega
  have HNE' : Hid (g2 ≠ g1) := by show _ ≠ _; omega
  have HZL : Hid (Z.length = 6) := by show _ = _; rw [hZ]; rfl

  have HTE := Lib.hid hT
  have HTL : Hid (T.length = 6) := by show _ = _; rw [hT]; exact rfl
  have HTO : Hid (T.toArray.all (·.oneCell') = true) := by show _ = _; rw [hT]; exact kL_one s
  have HIT : Hid ((Tryz.prog.info? 49).map (·.size) = some T.length) := by show _ = _; rw [HTL.out]; exact infoK
  have HITs : Hid ((Tryz.prog.info? 49).map (·.size) = some T.toArray.size) := HIT.out
  have HW := Lib.hid hw
  have CMG : Hid (∀ (wx : World), Calls Tryz.prog 39 #[.agg T.toArray] wx fun e w' => e = .returned (.int .i64 (comingK s)) ∧ Below wx.heap.size wx w') := fun wx => by rw [HTE.out]; exact coming_c s wx
  have GUD : Hid (∀ (wx : World), Calls Tryz.prog 40 #[.agg T.toArray] wx fun e w' => e = .returned (.bool (goodK s)) ∧ Below wx.heap.size wx w') := fun wx => by rw [HTE.out]; exact goodK_c s wx HW.out
  have HE0 : Hid (T[0]? = some (.int .i64 s.epoch)) := by show _ = _; rw [hT]; rfl
  obtain ⟨tt, htt⟩ : ∃ tt, tt = raiseK s need now := ⟨_, rfl⟩
  have HTT := Lib.hid htt
  obtain ⟨c, hc⟩ : ∃ c, c = comingK s := ⟨_, rfl⟩
  have HC := Lib.hid hc
  have hc0 : 0 ≤ c := by rw [hc]; exact (comingK_lt hw).1
  have hc1 : c < 65536 := by rw [hc]; exact (comingK_lt hw).2
  have hwr : IntKind.i64.wrap (c + 1) = c + 1 := by rw [IntKind.wrap_i64]; omega
  rw [← hT, ← htt]
  rw [← hc] at CMG
  clear hT hw htt hZ hc
  go_enter Tryz.func17, Tryz.ntmps17
  go_upto_region 1 with fail
  rw [← hw2, ← hg2, ← hg1]
  clear hw2 hg1 hg2
  have HRW : Hid (w2.rangeAt g1 0 T) := blk_range HX21.out
  go_wp2_with (first
    | ((with_reducible show wpList _ _ _ (⟨some 9, .load _ (.tmp 3), _, _, _, _⟩ :: _) _ _); refine wpList_load_mid rfl 49 (.tmp 3) rfl g1 0 rfl T _ HRW.out Tryz.underlying49 rfl HIT.out ?_))
  clear HRW
  refine (CMG.out w2).mono ?_
  rintro e0 w3 ⟨rfl, hbq⟩
  have HB3 : Hid (Below w.heap.size w w3) := by show Below _ _ _; exact bcall HB2.out hbq
  have HX31 : Hid (Blk w3 g1 49 T.toArray) := by show Blk _ _ _ _; exact HX21.out.below hbq

  have HX32 : Hid (Blk w3 g2 49 Z.toArray) := by show Blk _ _ _ _; exact HX22.out.below hbq
  clear hbq HB2 HX21 HX22
  have HRW : Hid (w3.rangeAt g1 0 T) := blk_range HX31.out
  go_wp2_with (first
    | ((with_reducible show wpList _ _ _ (⟨some 13, .load _ (.tmp 3), _, _, _, _⟩ :: _) _ _); refine wpList_load_mid rfl 49 (.tmp 3) rfl g1 0 rfl T _ HRW.out Tryz.underlying49 rfl HIT.out ?_))
  clear HRW
  refine (GUD.out w3).mono ?_
  rintro e0 w4 ⟨rfl, hbq⟩
  have HB4 : Hid (Below w.heap.size w w4) := by show Below _ _ _; exact bcall HB3.out hbq
  have HX41 : Hid (Blk w4 g1 49 T.toArray) := by show Blk _ _ _ _; exact HX31.out.below hbq

  have HX42 : Hid (Blk w4 g2 49 Z.toArray) := by show Blk _ _ _ _; exact HX32.out.below hbq
  clear hbq HB3 HX31 HX32
  obtain ⟨gd, hgd⟩ : ∃ gd, gd = goodK s := ⟨_, rfl⟩
  have HGD := Lib.hid hgd
  rw [← hgd]
  clear hgd
  have HTA : Hid (tt = if !gd || decide (need < 0) || decide (255 < need) then ((s, 1) : Ks × Int) else if 65535 < c + 1 then (s, 11) else if need = 0 then (ks0 (c + 1), 0) else (⟨s.epoch, true, c + 1, need, 0, now⟩, 0)) := by show _ = _; rw [HTT.out, HC.out, HGD.out]; rfl
  clear HTT HC
  by_cases hbad : (!gd || decide (need < 0) || decide (255 < need)) = true
  · have HV : Hid (tt = (s, 1)) := by show _ = _; rw [HTA.out, if_pos hbad]
    clear HTA HGD
    cases gd
    · clear hbad
      have HRWr : Hid (w4.rangeAt g1 0 T) := blk_range HX41.out

      have HTHr : Hid (w4.there g2 0 T.toArray.size) := blk_there HX42.out 0 _ (by rw [HZL.out]; show 0 + T.length ≤ 6; rw [HTL.out]; decide)
      go_wp2_with (first
        | ((with_reducible show wpList _ _ _ (⟨some 24, .load _ (.tmp 3), _, _, _, _⟩ :: _) _ _); refine wpList_load_mid rfl 49 (.tmp 3) rfl g1 0 rfl T _ HRWr.out Tryz.underlying49 rfl HIT.out ?_)
        | ((with_reducible show wpList _ _ _ (⟨none, .store _ (.tmp 6) _, _, _, _, _⟩ :: _) _ _); refine wpList_store_mid rfl 49 (.tmp 6) (.tmp 24) rfl g2 0 T.toArray rfl rfl HTHr.out HITs.out HTO.out ?_))
      have HXr : Hid (Blk (w4.setCells g2 0 T) g2 49 T.toArray) := blk_setAll HX42.out (by rw [HTL.out, HZL.out])
      have HBr : Hid (Below w.heap.size w (w4.setCells g2 0 T)) := below_setCells HB4.out HL2.out _ _
      (try simp only [Exit.inBlock, Exit.then])
      refine bodyPost_ret (results_c2 rfl rfl (blk_range HXr.out) Tryz.underlying49 rfl HIT.out) rfl ?_
      refine ⟨?_, HBr.out⟩
      rw [HV.out, HTE.out]
      rfl
    · by_cases hn0 : need < 0
      · clear hbad
        have HRWr : Hid (w4.rangeAt g1 0 T) := blk_range HX41.out

        have HTHr : Hid (w4.there g2 0 T.toArray.size) := blk_there HX42.out 0 _ (by rw [HZL.out]; show 0 + T.length ≤ 6; rw [HTL.out]; decide)
        go_wp2_with (first
          | ((with_reducible show wpList _ _ _ (⟨some 24, .load _ (.tmp 3), _, _, _, _⟩ :: _) _ _); refine wpList_load_mid rfl 49 (.tmp 3) rfl g1 0 rfl T _ HRWr.out Tryz.underlying49 rfl HIT.out ?_)
          | ((with_reducible show wpList _ _ _ (⟨none, .store _ (.tmp 6) _, _, _, _, _⟩ :: _) _ _); refine wpList_store_mid rfl 49 (.tmp 6) (.tmp 24) rfl g2 0 T.toArray rfl rfl HTHr.out HITs.out HTO.out ?_))
        have HXr : Hid (Blk (w4.setCells g2 0 T) g2 49 T.toArray) := blk_setAll HX42.out (by rw [HTL.out, HZL.out])
        have HBr : Hid (Below w.heap.size w (w4.setCells g2 0 T)) := below_setCells HB4.out HL2.out _ _
        (try simp only [Exit.inBlock, Exit.then])
        refine bodyPost_ret (results_c2 rfl rfl (blk_range HXr.out) Tryz.underlying49 rfl HIT.out) rfl ?_
        refine ⟨?_, HBr.out⟩
        rw [HV.out, HTE.out]
        rfl
      · have hn1 : 255 < need := by simpa [hn0] using hbad
        clear hbad
        have HRWr : Hid (w4.rangeAt g1 0 T) := blk_range HX41.out

        have HTHr : Hid (w4.there g2 0 T.toArray.size) := blk_there HX42.out 0 _ (by rw [HZL.out]; show 0 + T.length ≤ 6; rw [HTL.out]; decide)
        go_wp2_with (first
          | ((with_reducible show wpList _ _ _ (⟨some 24, .load _ (.tmp 3), _, _, _, _⟩ :: _) _ _); refine wpList_load_mid rfl 49 (.tmp 3) rfl g1 0 rfl T _ HRWr.out Tryz.underlying49 rfl HIT.out ?_)
          | ((with_reducible show wpList _ _ _ (⟨none, .store _ (.tmp 6) _, _, _, _, _⟩ :: _) _ _); refine wpList_store_mid rfl 49 (.tmp 6) (.tmp 24) rfl g2 0 T.toArray rfl rfl HTHr.out HITs.out HTO.out ?_))
        have HXr : Hid (Blk (w4.setCells g2 0 T) g2 49 T.toArray) := blk_setAll HX42.out (by rw [HTL.out, HZL.out])
        have HBr : Hid (Below w.heap.size w (w4.setCells g2 0 T)) := below_setCells HB4.out HL2.out _ _
        (try simp only [Exit.inBlock, Exit.then])
        refine bodyPost_ret (results_c2 rfl rfl (blk_range HXr.out) Tryz.underlying49 rfl HIT.out) rfl ?_
        refine ⟨?_, HBr.out⟩
        rw [HV.out, HTE.out]
        rfl
  · have hg : gd = true := by cases gd <;> simp_all
    subst hg
    have hn0 : ¬ need < 0 := fun h => hbad (by simp [h])
    have hn1 : ¬ 255 < need := fun h => hbad (by simp [h])
    have HTB : Hid (tt = if 65535 < c + 1 then ((s, 11) : Ks × Int) else if need = 0 then (ks0 (c + 1), 0) else (⟨s.epoch, true, c + 1, need, 0, now⟩, 0)) := by show _ = _; rw [HTA.out, if_neg hbad]
    clear HTA hbad HGD
    by_cases hov : 65535 < c + 1
    · have HV : Hid (tt = (s, 11)) := by show _ = _; rw [HTB.out, if_pos hov]
      clear HTB
      have HRWr : Hid (w4.rangeAt g1 0 T) := blk_range HX41.out

      have HTHr : Hid (w4.there g2 0 T.toArray.size) := blk_there HX42.out 0 _ (by rw [HZL.out]; show 0 + T.length ≤ 6; rw [HTL.out]; decide)
      go_wp2_with (first
        | ((with_reducible show wpList _ _ _ (⟨some 28, .load _ (.tmp 3), _, _, _, _⟩ :: _) _ _); refine wpList_load_mid rfl 49 (.tmp 3) rfl g1 0 rfl T _ HRWr.out Tryz.underlying49 rfl HIT.out ?_)
        | ((with_reducible show wpList _ _ _ (⟨none, .store _ (.tmp 6) _, _, _, _, _⟩ :: _) _ _); refine wpList_store_mid rfl 49 (.tmp 6) (.tmp 28) rfl g2 0 T.toArray rfl rfl HTHr.out HITs.out HTO.out ?_))
      have HXr : Hid (Blk (w4.setCells g2 0 T) g2 49 T.toArray) := blk_setAll HX42.out (by rw [HTL.out, HZL.out])
      have HBr : Hid (Below w.heap.size w (w4.setCells g2 0 T)) := below_setCells HB4.out HL2.out _ _
      (try simp only [Exit.inBlock, Exit.then])
      refine bodyPost_ret (results_c2 rfl rfl (blk_range HXr.out) Tryz.underlying49 rfl HIT.out) rfl ?_
      refine ⟨?_, HBr.out⟩
      rw [HV.out, HTE.out]
      rfl
    · by_cases hnz : need = 0
      · have HV : Hid (tt = (ks0 (c + 1), 0)) := by show _ = _; rw [HTB.out, if_neg hov, if_pos hnz]
        clear HTB
        subst hnz
        obtain ⟨U, hU⟩ : ∃ U, U = kL (ks0 (c + 1)) := ⟨_, rfl⟩
        have hUa : U.toArray = #[.int .i64 (c + 1), .bool false, .int .i64 0, .int .i64 0, .int .i64 0, .int .i64 0] := by rw [hU]; rfl
        have HUE := Lib.hid hU
        have HUL : Hid (U.length = 6) := by show _ = _; rw [hU]; rfl
        have HUO : Hid (U.toArray.all (·.oneCell') = true) := by show _ = _; rw [hU]; exact kL_one _
        have HIU : Hid ((Tryz.prog.info? 49).map (·.size) = some U.length) := by show _ = _; rw [HUL.out]; exact infoK
        have HIUs : Hid ((Tryz.prog.info? 49).map (·.size) = some U.toArray.size) := HIU.out
        have HUA := Lib.hid hUa
        have HTHr : Hid (w4.there g2 0 U.toArray.size) := blk_there HX42.out 0 _ (by rw [HZL.out]; show 0 + U.length ≤ 6; rw [HUL.out]; decide)
        clear hU hUa
        go_wp2_with (first
          | ((with_reducible show wpList _ _ _ (⟨none, .store _ (.tmp 6) _, _, _, _, _⟩ :: _) _ _); refine wpList_store_mid rfl 49 (.tmp 6) (.tmp 33) rfl g2 0 U.toArray rfl (congrArg Value.agg HUA.out.symm) HTHr.out HIUs.out HUO.out ?_))
        have HXr : Hid (Blk (w4.setCells g2 0 U) g2 49 U.toArray) := blk_setAll HX42.out (by rw [HUL.out, HZL.out])
        have HBr : Hid (Below w.heap.size w (w4.setCells g2 0 U)) := below_setCells HB4.out HL2.out _ _
        (try simp only [Exit.inBlock, Exit.then])
        refine bodyPost_ret (results_c2 rfl rfl (blk_range HXr.out) Tryz.underlying49 rfl HIU.out) rfl ?_
        refine ⟨?_, HBr.out⟩
        rw [HV.out, HUE.out]
        rfl
      · have HV : Hid (tt = (⟨s.epoch, true, c + 1, need, 0, now⟩, 0)) := by show _ = _; rw [HTB.out, if_neg hov, if_neg hnz]
        clear HTB
        have ck0 : w4.cell? ⟨g1, 0, none⟩ = some (.int .i64 s.epoch) := by rw [HX41.out.cell 0, List.getElem?_toArray]; exact HE0.out
        obtain ⟨U, hU⟩ : ∃ U, U = kL ⟨s.epoch, true, c + 1, need, 0, now⟩ := ⟨_, rfl⟩
        have hUa : U.toArray = #[.int .i64 s.epoch, .bool true, .int .i64 (c + 1), .int .i64 need, .int .i64 0, .int .i64 now] := by rw [hU]; rfl
        have HUE := Lib.hid hU
        have HUL : Hid (U.length = 6) := by show _ = _; rw [hU]; rfl
        have HUO : Hid (U.toArray.all (·.oneCell') = true) := by show _ = _; rw [hU]; exact kL_one _
        have HIU : Hid ((Tryz.prog.info? 49).map (·.size) = some U.length) := by show _ = _; rw [HUL.out]; exact infoK
        have HIUs : Hid ((Tryz.prog.info? 49).map (·.size) = some U.toArray.size) := HIU.out
        have HUA := Lib.hid hUa
        have HTHr : Hid (w4.there g2 0 U.toArray.size) := blk_there HX42.out 0 _ (by rw [HZL.out]; show 0 + U.length ≤ 6; rw [HUL.out]; decide)
        clear hU hUa
        go_wp2_with (first
          | ((with_reducible show wpList _ _ _ (⟨none, .store _ (.tmp 6) _, _, _, _, _⟩ :: _) _ _); refine wpList_store_mid rfl 49 (.tmp 6) (.tmp 39) rfl g2 0 U.toArray rfl (congrArg Value.agg HUA.out.symm) HTHr.out HIUs.out HUO.out ?_))
        have HXr : Hid (Blk (w4.setCells g2 0 U) g2 49 U.toArray) := blk_setAll HX42.out (by rw [HUL.out, HZL.out])
        have HBr : Hid (Below w.heap.size w (w4.setCells g2 0 U)) := below_setCells HB4.out HL2.out _ _
        (try simp only [Exit.inBlock, Exit.then])
        refine bodyPost_ret (results_c2 rfl rfl (blk_range HXr.out) Tryz.underlying49 rfl HIU.out) rfl ?_
        refine ⟨?_, HBr.out⟩
        rw [HV.out, HUE.out]
        rfl
end Go.Proofs.YtmkifedcanmjoaaGreat
/- rekey.Join (contract). Conditions: none. -/
set_option linter.unusedVariables false
set_option linter.unusedSimpArgs false
namespace Go.Proofs.YtmkifedcanmjoaaGreat
open Go.RowKit
attribute [local go_sem ↓] Go.wp_at_zero Go.wp_at_succ

theorem i64_bit (d k : Nat) (hd : d < 256) : (Go.bits .and .i64 ((d : Int) / 2 ^ k) 1 == 1) = d.testBit k := by
  have h1 : ((d : Int) / 2 ^ k) = ((d / 2 ^ k : Nat) : Int) := by norm_cast
  have h0 : d / 2 ^ k ≤ d := Nat.div_le_self _ _
  have h2 : Go.bits .and .i64 ((d / 2 ^ k : Nat) : Int) 1 = (((d / 2 ^ k) &&& 1 : Nat) : Int) := i64_and_nat (d / 2 ^ k) 1 (by omega) (by omega)
  rw [h1, h2, Nat.and_one_is_mod, Nat.testBit_eq_decide_div_mod_eq]
  by_cases h : d / 2 ^ k % 2 = 1
  · rw [h]; rfl
  · have h3 : d / 2 ^ k % 2 = 0 := by omega
    rw [h3]; rfl
theorem kL_needset (s : Ks) (v : Int) : (kL s).set 3 (.int .i64 v) = kL { s with need := v } := rfl
theorem WK.joinK {s : Ks} (h : WK s) (i : Int) : WK (joinK s i).1 := by
  unfold Proofs.YtmkifedcanmjoaaGreat.joinK
  split
  · exact h
  · split
    · exact h
    · split
      · exact h
      · rename_i h1 h2 h3
        obtain ⟨a, b, c, d, e⟩ := h
        refine ⟨a, b, ⟨Int.natCast_nonneg _, ?_⟩, d, e⟩
        have hi : sltB i = true := by cases hs : sltB i <;> simp_all
        have hi8 : i < 8 := by unfold sltB at hi; rw [Bool.and_eq_true] at hi; exact of_decide_eq_true hi.2
        have : s.need.toNat ||| 2 ^ i.toNat < 2 ^ 8 := Nat.or_lt_two_pow (by omega) (Nat.pow_lt_pow_right (by decide) (by omega))
        show ((s.need.toNat ||| 2 ^ i.toNat : Nat) : Int) < 256
        omega
set_option maxRecDepth 100000 in
set_option maxHeartbeats 6400000 in
theorem joinK_c (s : Ks) (i : Int) (w : World) (hw : WK s) :
    Calls Tryz.prog 35 #[.agg (kL s).toArray, .int .i64 i] w fun e w' => e = .returned (.tuple #[.agg (kL (joinK s i).1).toArray, .int .i64 (joinK s i).2]) ∧ Below w.heap.size w w' := by
  obtain ⟨T, hT⟩ : ∃ T, T = kL s := ⟨_, rfl⟩
  obtain ⟨g1, hg1⟩ : ∃ g1, g1 = w.heap.size := ⟨_, rfl⟩

  obtain ⟨g2, hg2⟩ : ∃ g2, g2 = w.heap.size + 1 := ⟨_, rfl⟩
  obtain ⟨Z, hZ⟩ : ∃ Z : List Value, Z = [.int .i64 0, .bool false, .int .i64 0, .int .i64 0, .int .i64 0, .int .i64 0] := ⟨_, rfl⟩
  obtain ⟨w2, hw2⟩ : ∃ w2, w2 = (w.alloc (.cells T.toArray 49)).alloc (.cells #[.int .i64 0, .bool false, .int .i64 0, .int .i64 0, .int .i64 0, .int .i64 0] 49) := ⟨_, rfl⟩
  have hq := two_blks w 49 49 T.toArray #[.int .i64 0, .bool false, .int .i64 0, .int .i64 0, .int .i64 0, .int .i64 0]
  rw [← hw2, ← hg2] at hq
  have HX21 : Hid (Blk w2 g1 49 T.toArray) := by show Blk _ _ _ _; rw [hg1]; exact hq.1
  have HX22 : Hid (Blk w2 g2 49 Z.toArray) := by show Blk _ _ _ _; rw [hZ]; exact hq.2.1
  have HB2 : Hid (Below w.heap.size w w2) := hq.2.2
  clear hq
  have HL1 : Hid (w.heap.size ≤ g1) := by show _ ≤ _; omega
  have HL2 : Hid (w.heap.size ≤ g2) := by show _ ≤ _; omega
  have HNE : Hid (g1 ≠ g2) := by show _ ≠ _; omega
  have HNE' : Hid (g2 ≠ g1) := by show _ ≠ _; omega
  have HZL : Hid (Z.length = 6) := by show _ = _; rw [hZ]; rfl

  have HTE := Lib.hid hT
  have HTL : Hid (T.length = 6) := by show _ = _; rw [hT]; exact rfl
  have HTO : Hid (T.toArray.all (·.oneCell') = true) := by show _ = _; rw [hT]; exact kL_one s
  have HIT : Hid ((Tryz.prog.info? 49).map (·.size) = some T.length) := by show _ = _; rw [HTL.out]; exact infoK
  have HITs : Hid ((Tryz.prog.info? 49).map (·.size) = some T.toArray.size) := HIT.out
  have HW := Lib.hid hw
  have GUD : Hid (∀ (wx : World), Calls Tryz.prog 40 #[.agg T.toArray] wx fun e w' => e = .returned (.bool (goodK s)) ∧ Below wx.heap.size wx w') := fun wx => by rw [HTE.out]; exact goodK_c s wx HW.out
  have HE1 : Hid (T[1]? = some (.bool s.opn)) := by show _ = _; rw [hT]; rfl
  have HE3 : Hid (T[3]? = some (.int .i64 s.need)) := by show _ = _; rw [hT]; rfl
  obtain ⟨tt, htt⟩ : ∃ tt, tt = joinK s i := ⟨_, rfl⟩
  have HTT := Lib.hid htt
  rw [← hT, ← htt]
  clear hT hw htt hZ
  go_enter Tryz.func35, Tryz.ntmps35
  go_upto_region 1 with fail
  rw [← hw2, ← hg2, ← hg1]
  clear hw2 hg1 hg2
  have HRW : Hid (w2.rangeAt g1 0 T) := blk_range HX21.out
  go_wp2_with (first
    | ((with_reducible show wpList _ _ _ (⟨some 7, .load _ (.tmp 2), _, _, _, _⟩ :: _) _ _); refine wpList_load_mid rfl 49 (.tmp 2) rfl g1 0 rfl T _ HRW.out Tryz.underlying49 rfl HIT.out ?_))
  clear HRW
  refine (GUD.out w2).mono ?_
  rintro e0 w3 ⟨rfl, hbq⟩
  have HB3 : Hid (Below w.heap.size w w3) := by show Below _ _ _; exact bcall HB2.out hbq
  have HX31 : Hid (Blk w3 g1 49 T.toArray) := by show Blk _ _ _ _; exact HX21.out.below hbq

  have HX32 : Hid (Blk w3 g2 49 Z.toArray) := by show Blk _ _ _ _; exact HX22.out.below hbq
  clear hbq HB2 HX21 HX22
  obtain ⟨gd, hgd⟩ : ∃ gd, gd = goodK s := ⟨_, rfl⟩
  have HGD := Lib.hid hgd
  rw [← hgd]
  clear hgd
  cases gd
  · have HV : Hid (tt = (s, 1)) := by show _ = _; rw [HTT.out]; unfold joinK; rw [← HGD.out]; rfl
    clear HTT HGD
    have HRWr : Hid (w3.rangeAt g1 0 T) := blk_range HX31.out

    have HTHr : Hid (w3.there g2 0 T.toArray.size) := blk_there HX32.out 0 _ (by rw [HZL.out]; show 0 + T.length ≤ 6; rw [HTL.out]; decide)
    go_wp2_with (first
      | ((with_reducible show wpList _ _ _ (⟨some 15, .load _ (.tmp 2), _, _, _, _⟩ :: _) _ _); refine wpList_load_mid rfl 49 (.tmp 2) rfl g1 0 rfl T _ HRWr.out Tryz.underlying49 rfl HIT.out ?_)
      | ((with_reducible show wpList _ _ _ (⟨none, .store _ (.tmp 4) _, _, _, _, _⟩ :: _) _ _); refine wpList_store_mid rfl 49 (.tmp 4) (.tmp 15) rfl g2 0 T.toArray rfl rfl HTHr.out HITs.out HTO.out ?_))
    have HXr : Hid (Blk (w3.setCells g2 0 T) g2 49 T.toArray) := blk_setAll HX32.out (by rw [HTL.out, HZL.out])
    have HBr : Hid (Below w.heap.size w (w3.setCells g2 0 T)) := below_setCells HB3.out HL2.out _ _
    (try simp only [Exit.inBlock, Exit.then])
    refine bodyPost_ret (results_c2 rfl rfl (blk_range HXr.out) Tryz.underlying49 rfl HIT.out) rfl ?_
    refine ⟨?_, HBr.out⟩
    rw [HV.out, HTE.out]
    rfl
  · go_wp2_with fail
    refine (slotK_c i w3).mono ?_
    rintro e0 w4 ⟨rfl, hbq⟩
    have HB4 : Hid (Below w.heap.size w w4) := by show Below _ _ _; exact bcall HB3.out hbq
    have HX41 : Hid (Blk w4 g1 49 T.toArray) := by show Blk _ _ _ _; exact HX31.out.below hbq

    have HX42 : Hid (Blk w4 g2 49 Z.toArray) := by show Blk _ _ _ _; exact HX32.out.below hbq
    clear hbq HB3 HX31 HX32
    by_cases had : sltB i = true
    · have HTA : Hid (tt = if !s.opn then ((s, 0) : Ks × Int) else if bitK s.need i.toNat then (s, 7) else (⟨s.epoch, s.opn, s.next, ((s.need.toNat ||| 2 ^ i.toNat : Nat) : Int), s.hv, s.born⟩, 0)) := by show _ = _; rw [HTT.out]; unfold joinK; rw [← HGD.out, had]; rfl
      rw [had]
      have hin0 : 0 ≤ i := by unfold sltB at had; rw [Bool.and_eq_true] at had; exact of_decide_eq_true had.1
      have hini : i < 8 := by unfold sltB at had; rw [Bool.and_eq_true] at had; exact of_decide_eq_true had.2
      clear HTT HGD had
      obtain ⟨k, hk⟩ : ∃ k : Nat, i = (k : Int) := ⟨i.toNat, by omega⟩
      subst hk
      rw [Int.toNat_natCast] at HTA
      have hi8 : k < 8 := by omega
      have ck1 : w4.cell? ⟨g1, 1, none⟩ = some (.bool s.opn) := by rw [HX41.out.cell 1, List.getElem?_toArray]; exact HE1.out
      obtain ⟨d, hd⟩ : ∃ d : Nat, s.need = (d : Int) := ⟨s.need.toNat, by have := HW.out.2.2.1; omega⟩
      have ck3 : w4.cell? ⟨g1, 3, none⟩ = some (.int .i64 (d : Int)) := by rw [HX41.out.cell 3, List.getElem?_toArray, ← hd]; exact HE3.out
      have hd9 : d < 256 := by have := HW.out.2.2.1; omega
      obtain ⟨op, hop⟩ : ∃ op, op = s.opn := ⟨_, rfl⟩
      rw [← hop] at HTA ck1
      rw [hd] at HTA
      have HD := Lib.hid hd
      have HOP := Lib.hid hop
      clear hop hd
      cases op
      · have HV : Hid (tt = (s, 0)) := by show _ = _; rw [HTA.out]; rfl
        clear HTA
        have HRWr : Hid (w4.rangeAt g1 0 T) := blk_range HX41.out

        have HTHr : Hid (w4.there g2 0 T.toArray.size) := blk_there HX42.out 0 _ (by rw [HZL.out]; show 0 + T.length ≤ 6; rw [HTL.out]; decide)
        go_wp2_with (first
          | ((with_reducible show wpList _ _ _ (⟨some 20, .load _ (.tmp 2), _, _, _, _⟩ :: _) _ _); refine wpList_load_mid rfl 49 (.tmp 2) rfl g1 0 rfl T _ HRWr.out Tryz.underlying49 rfl HIT.out ?_)
          | ((with_reducible show wpList _ _ _ (⟨none, .store _ (.tmp 4) _, _, _, _, _⟩ :: _) _ _); refine wpList_store_mid rfl 49 (.tmp 4) (.tmp 20) rfl g2 0 T.toArray rfl rfl HTHr.out HITs.out HTO.out ?_))
        have HXr : Hid (Blk (w4.setCells g2 0 T) g2 49 T.toArray) := blk_setAll HX42.out (by rw [HTL.out, HZL.out])
        have HBr : Hid (Below w.heap.size w (w4.setCells g2 0 T)) := below_setCells HB4.out HL2.out _ _
        (try simp only [Exit.inBlock, Exit.then])
        refine bodyPost_ret (results_c2 rfl rfl (blk_range HXr.out) Tryz.underlying49 rfl HIT.out) rfl ?_
        refine ⟨?_, HBr.out⟩
        rw [HV.out, HTE.out]
        rfl
      · have HTB : Hid (tt = if d.testBit k then ((s, 7) : Ks × Int) else (⟨s.epoch, true, s.next, ((d ||| 2 ^ k : Nat) : Int), s.hv, s.born⟩, 0)) := by show _ = _; rw [HTA.out]; rfl
        clear HTA
        obtain ⟨tb, htb⟩ : ∃ tb, tb = d.testBit k := ⟨_, rfl⟩
        have hbit : (Go.bits .and .i64 ((d : Int) / 2 ^ k) 1 == 1) = tb := by rw [htb]; exact i64_bit d k hd9
        rw [← htb] at HTB
        clear htb
        cases tb
        · have HV : Hid (tt = (⟨s.epoch, true, s.next, ((d ||| 2 ^ k : Nat) : Int), s.hv, s.born⟩, 0)) := by show _ = _; rw [HTB.out]; rfl
          clear HTB
          obtain ⟨p, hp⟩ : ∃ p, p = 2 ^ k := ⟨_, rfl⟩
          have hp2 : p < 256 := by rw [hp]; exact Nat.pow_lt_pow_right (a := 2) (by decide) hi8
          have hsh : RowKit.wrap64 ((2 : Int) ^ k) = (p : Int) := by
            have h2 : ((2 : Int) ^ k) = ((2 ^ k : Nat) : Int) := by norm_cast
            rw [h2, ← hp]
            exact IntWalk.wrap64_in _ ⟨by omega, by omega⟩
          have hor : Go.bits .or .i64 (d : Int) (p : Int) = ((d ||| p : Nat) : Int) := i64_or_nat d p (by omega) (by omega)
          rw [← hp] at HV
          have fk3 : w4.frozen? ⟨g1, 3, none⟩ = false := Blk.frozen HX41.out 3
          go_upto_region 7 with fail
          go_still_tail 6, (by kernel_rfl)
          change wpList _ _ _ _ _ w4.drew
          go_upto_region 8 with fail
          rw [hsh, hor]
          obtain ⟨w8, hw8⟩ : ∃ w8, w8 = (w4.setCell ⟨g1, 3, none⟩ (.int .i64 ((d ||| p : Nat) : Int))).drew := ⟨_, rfl⟩
          obtain ⟨U, hU⟩ : ∃ U, U = kL ⟨s.epoch, true, s.next, ((d ||| p : Nat) : Int), s.hv, s.born⟩ := ⟨_, rfl⟩
          have HUE := Lib.hid hU
          have HUL : Hid (U.length = 6) := by show _ = _; rw [hU]; rfl
          have HUO : Hid (U.toArray.all (·.oneCell') = true) := by show _ = _; rw [hU]; exact kL_one _
          have HIU : Hid ((Tryz.prog.info? 49).map (·.size) = some U.length) := by show _ = _; rw [HUL.out]; exact infoK
          have HIUs : Hid ((Tryz.prog.info? 49).map (·.size) = some U.toArray.size) := HIU.out
          have HX81 : Hid (Blk w8 g1 49 U.toArray) := by
            show Blk _ _ _ _
            have h := (Blk.set_ HX41.out 3 (.int .i64 ((d ||| p : Nat) : Int))).drew
            rw [List.setIfInBounds_toArray, HTE.out, kL_needset, ← hw8] at h
            rw [hU, HOP.out]
            exact h
          have HX82 : Hid (Blk w8 g2 49 Z.toArray) := by show Blk _ _ _ _; rw [hw8]; exact (Blk.far HX42.out HNE'.out _).drew
          have HB8 : Hid (Below w.heap.size w w8) := by show Below _ _ _; rw [hw8]; exact bdrew (bset HB4.out HL1.out _)
          rw [← hw8]
          clear hw8 hU ck1 ck3 fk3 hsh hor
          have HRWr : Hid (w8.rangeAt g1 0 U) := blk_range HX81.out

          have HTHr : Hid (w8.there g2 0 U.toArray.size) := blk_there HX82.out 0 _ (by rw [HZL.out]; show 0 + U.length ≤ 6; rw [HUL.out]; decide)
          go_wp2_with (first
            | ((with_reducible show wpList _ _ _ (⟨some 35, .load _ (.tmp 2), _, _, _, _⟩ :: _) _ _); refine wpList_load_mid rfl 49 (.tmp 2) rfl g1 0 rfl U _ HRWr.out Tryz.underlying49 rfl HIU.out ?_)
            | ((with_reducible show wpList _ _ _ (⟨none, .store _ (.tmp 4) _, _, _, _, _⟩ :: _) _ _); refine wpList_store_mid rfl 49 (.tmp 4) (.tmp 35) rfl g2 0 U.toArray rfl rfl HTHr.out HIUs.out HUO.out ?_))
          have HXr : Hid (Blk (w8.setCells g2 0 U) g2 49 U.toArray) := blk_setAll HX82.out (by rw [HUL.out, HZL.out])
          have HBr : Hid (Below w.heap.size w (w8.setCells g2 0 U)) := below_setCells HB8.out HL2.out _ _
          (try simp only [Exit.inBlock, Exit.then])
          refine bodyPost_ret (results_c2 rfl rfl (blk_range HXr.out) Tryz.underlying49 rfl HIU.out) rfl ?_
          refine ⟨?_, HBr.out⟩
          rw [HV.out, HUE.out]
          rfl
        · have HV : Hid (tt = (s, 7)) := by show _ = _; rw [HTB.out]; rfl
          clear HTB
          have HRWr : Hid (w4.rangeAt g1 0 T) := blk_range HX41.out

          have HTHr : Hid (w4.there g2 0 T.toArray.size) := blk_there HX42.out 0 _ (by rw [HZL.out]; show 0 + T.length ≤ 6; rw [HTL.out]; decide)
          go_wp2_with (first
            | ((with_reducible show wpList _ _ _ (⟨some 28, .load _ (.tmp 2), _, _, _, _⟩ :: _) _ _); refine wpList_load_mid rfl 49 (.tmp 2) rfl g1 0 rfl T _ HRWr.out Tryz.underlying49 rfl HIT.out ?_)
            | ((with_reducible show wpList _ _ _ (⟨none, .store _ (.tmp 4) _, _, _, _, _⟩ :: _) _ _); refine wpList_store_mid rfl 49 (.tmp 4) (.tmp 28) rfl g2 0 T.toArray rfl rfl HTHr.out HITs.out HTO.out ?_))
          have HXr : Hid (Blk (w4.setCells g2 0 T) g2 49 T.toArray) := blk_setAll HX42.out (by rw [HTL.out, HZL.out])
          have HBr : Hid (Below w.heap.size w (w4.setCells g2 0 T)) := below_setCells HB4.out HL2.out _ _
          (try simp only [Exit.inBlock, Exit.then])
          refine bodyPost_ret (results_c2 rfl rfl (blk_range HXr.out) Tryz.underlying49 rfl HIT.out) rfl ?_
          refine ⟨?_, HBr.out⟩
          rw [HV.out, HTE.out]
          rfl
    · have had' : sltB i = false := Bool.eq_false_iff.2 had
      have HV : Hid (tt = (s, 1)) := by show _ = _; rw [HTT.out]; unfold joinK; rw [← HGD.out, had']; rfl
      rw [had']
      clear had had' HTT HGD
      have HRWr : Hid (w4.rangeAt g1 0 T) := blk_range HX41.out

      have HTHr : Hid (w4.there g2 0 T.toArray.size) := blk_there HX42.out 0 _ (by rw [HZL.out]; show 0 + T.length ≤ 6; rw [HTL.out]; decide)
      go_wp2_with (first
        | ((with_reducible show wpList _ _ _ (⟨some 15, .load _ (.tmp 2), _, _, _, _⟩ :: _) _ _); refine wpList_load_mid rfl 49 (.tmp 2) rfl g1 0 rfl T _ HRWr.out Tryz.underlying49 rfl HIT.out ?_)
        | ((with_reducible show wpList _ _ _ (⟨none, .store _ (.tmp 4) _, _, _, _, _⟩ :: _) _ _); refine wpList_store_mid rfl 49 (.tmp 4) (.tmp 15) rfl g2 0 T.toArray rfl rfl HTHr.out HITs.out HTO.out ?_))
      have HXr : Hid (Blk (w4.setCells g2 0 T) g2 49 T.toArray) := blk_setAll HX42.out (by rw [HTL.out, HZL.out])
      have HBr : Hid (Below w.heap.size w (w4.setCells g2 0 T)) := below_setCells HB4.out HL2.out _ _
      (try simp only [Exit.inBlock, Exit.then])
      refine bodyPost_ret (results_c2 rfl rfl (blk_range HXr.out) Tryz.underlying49 rfl HIT.out) rfl ?_
      refine ⟨?_, HBr.out⟩
      rw [HV.out, HTE.out]
      rfl
end Go.Proofs.YtmkifedcanmjoaaGreat
/- rekey.Late (contract). Conditions: none. -/
set_option linter.unusedVariables false
set_option linter.unusedSimpArgs false
namespace Go.Proofs.YtmkifedcanmjoaaGreat
open Go.RowKit
attribute [local go_sem ↓] Go.wp_at_zero Go.wp_at_succ
def NowB (now : Int) : Prop := -4611686018427387904 < now ∧ now < 4611686018427387904
set_option maxRecDepth 100000 in
set_option maxHeartbeats 6400000 in
theorem late_c (s : Ks) (now : Int) (w : World) (hw : WK s) (hnow : NowB now) :
    Calls Tryz.prog 38 #[.agg (kL s).toArray, .int .i64 now] w fun e w' => e = .returned (.int .i64 (lateK s now)) ∧ Below w.heap.size w w' := by
  obtain ⟨g1, hg1⟩ : ∃ g1, g1 = w.heap.size := ⟨_, rfl⟩
  have HW := Lib.hid hw
  have HN := Lib.hid hnow
  have GUD : Hid (∀ (wx : World), Calls Tryz.prog 40 #[.agg (kL s).toArray] wx fun e w' => e = .returned (.bool (goodK s)) ∧ Below wx.heap.size wx w') := fun wx => goodK_c s wx HW.out
  obtain ⟨T, hT⟩ : ∃ T, T = kL s := ⟨_, rfl⟩
  have HTE := Lib.hid hT
  have HIT : Hid ((Tryz.prog.info? 49).map (·.size) = some T.length) := by show _ = _; rw [hT]; exact infoK
  rw [← hT] at GUD ⊢
  obtain ⟨w2, hw2⟩ : ∃ w2, w2 = w.alloc (.cells T.toArray 49) := ⟨_, rfl⟩
  have HX21 : Hid (Blk w2 g1 49 T.toArray) := by show Blk _ _ _ _; rw [hw2]; exact Blk.newAt hg1 _ _
  have HB2 : Hid (Below w.heap.size w w2) := by show Below _ _ _; rw [hw2]; exact balloc (Below.refl _ _) _
  obtain ⟨v, hv⟩ : ∃ v, v = lateK s now := ⟨_, rfl⟩
  have HV : Hid (v = if !goodK s || !s.opn || decide (now < s.born) || decide (now - s.born < 200) then (0 : Int) else ((exN s.need.toNat s.hv.toNat : Nat) : Int)) := hv
  rw [← hv]
  clear hv
  clear hT hw hnow
  go_enter Tryz.func38, Tryz.ntmps38
  go_upto_region 1 with fail
  rw [← hw2, ← hg1]
  clear hw2 hg1
  have HRW : Hid (w2.rangeAt g1 0 T) := blk_range HX21.out
  go_wp2_with (first
    | ((with_reducible show wpList _ _ _ (⟨some 5, .load _ (.tmp 2), _, _, _, _⟩ :: _) _ _); refine wpList_load_mid rfl 49 (.tmp 2) rfl g1 0 rfl T _ HRW.out Tryz.underlying49 rfl HIT.out ?_))
  refine (GUD.out w2).mono ?_
  rintro e0 w3 ⟨rfl, hb3⟩
  have HB3 : Hid (Below w.heap.size w w3) := by show Below _ _ _; exact bcall HB2.out hb3
  have HX31 : Hid (Blk w3 g1 49 T.toArray) := by show Blk _ _ _ _; exact HX21.out.below hb3
  clear hb3 HB2 HX21 HRW
  have ck1 : w3.cell? ⟨g1, 1, none⟩ = some (.bool s.opn) := by rw [HX31.out.cell 1, List.getElem?_toArray, HTE.out]; rfl
  have ck3 : w3.cell? ⟨g1, 3, none⟩ = some (.int .i64 s.need) := by rw [HX31.out.cell 3, List.getElem?_toArray, HTE.out]; rfl
  have ck4 : w3.cell? ⟨g1, 4, none⟩ = some (.int .i64 s.hv) := by rw [HX31.out.cell 4, List.getElem?_toArray, HTE.out]; rfl
  have ck5 : w3.cell? ⟨g1, 5, none⟩ = some (.int .i64 s.born) := by rw [HX31.out.cell 5, List.getElem?_toArray, HTE.out]; rfl
  obtain ⟨gd, hgd⟩ : ∃ gd, gd = goodK s := ⟨_, rfl⟩
  rw [← hgd] at HV ⊢
  clear hgd
  cases gd
  · have HV0 : Hid (v = 0) := by show _ = _; rw [HV.out]; rfl
    clear HV
    go_wp2_with fail
    go_ret
    exact ⟨by rw [HV0.out]; rfl, HB3.out⟩
  · obtain ⟨e, o, n, d, hvv, b⟩ := s
    simp only at ck1 ck3 ck4 ck5
    have hb0 := HW.out.2.2.2.2.1
    have hb1 := HW.out.2.2.2.2.2
    have hd0 := HW.out.2.2.1.1
    have hd1 := HW.out.2.2.1.2
    have hh0 := HW.out.2.2.2.1.1
    have hh1 := HW.out.2.2.2.1.2
    have hn0 := HN.out.1
    have hn1 := HN.out.2
    simp only at hb0 hb1 hd0 hd1 hh0 hh1
    obtain ⟨d, rfl⟩ := Int.eq_ofNat_of_zero_le hd0
    obtain ⟨hvv, rfl⟩ := Int.eq_ofNat_of_zero_le hh0
    have hbn : Go.bits .andNot .i64 (d : Int) (hvv : Int) = ((exN d hvv : Nat) : Int) := i64_andNot_nat d hvv (by omega) (by omega)
    cases o
    · have HV0 : Hid (v = 0) := by show _ = _; rw [HV.out]; rfl
      clear HV
      go_wp2_with fail
      go_ret
      exact ⟨by rw [HV0.out]; rfl, HB3.out⟩
    · by_cases h1 : now < b
      · have HV0 : Hid (v = 0) := by show _ = _; rw [HV.out, decide_eq_true h1]; rfl
        clear HV
        go_wp2_with fail
        go_ret
        exact ⟨by rw [HV0.out]; rfl, HB3.out⟩
      · have hu : IntKind.u64.wrap (IntKind.u64.wrap now - IntKind.u64.wrap b) = now - b := by
          have wu : ∀ n : Int, IntKind.u64.wrap n = n % 18446744073709551616 := fun n => by simp [IntKind.wrap, IntKind.bits, IntKind.signed]
          rw [wu, wu, wu]
          omega
        by_cases h2 : now - b < 200
        · have HV0 : Hid (v = 0) := by show _ = _; rw [HV.out, decide_eq_false h1, decide_eq_true h2]; rfl
          clear HV
          go_wp2_with fail
          all_goals (go_ret; exact ⟨by rw [HV0.out]; rfl, HB3.out⟩)
        · have HV0 : Hid (v = ((exN d hvv : Nat) : Int)) := by show _ = _; rw [HV.out, decide_eq_false h1, decide_eq_false h2]; rfl
          clear HV
          go_wp2_with fail
          all_goals (go_ret; exact ⟨by rw [HV0.out]; rfl, HB3.out⟩)
end Go.Proofs.YtmkifedcanmjoaaGreat
/- A room's cells. Conditions: none. -/
set_option linter.unusedVariables false
set_option linter.unusedSimpArgs false
namespace Go.Proofs.YtmkifedcanmjoaaGreat
open Go.RowKit
def rL (r : Rm) : List Value := tbL r.t ++ (kL r.k ++ (r.seen.map (Value.int .i64) ++ (r.since.map (Value.int .i64) ++ [.bool r.over])))
def WR (r : Rm) : Prop := WT r.t ∧ WK r.k ∧ r.seen.length = 8 ∧ r.since.length = 8 ∧ ∀ i, i < 8 → NowB (seenAt r i)
theorem kL_len (s : Ks) : (kL s).length = 6 := rfl
section
variable {r : Rm}
theorem rL_len (h : WR r) : (rL r).length = 39 := by
  obtain ⟨h1, h2, h3, h4, _⟩ := h
  simp [rL, tbL_len h1, kL_len, h3, h4]
theorem rL_t (h : WR r) {i : Nat} (hi : i < 16) : (rL r)[i]? = (tbL r.t)[i]? := by
  unfold rL
  rw [List.getElem?_append_left (by rw [tbL_len h.1]; exact hi)]
theorem rL_k (h : WR r) {i : Nat} (hi : i < 6) : (rL r)[16 + i]? = (kL r.k)[i]? := by
  unfold rL
  rw [List.getElem?_append_right (by rw [tbL_len h.1]; omega), tbL_len h.1, List.getElem?_append_left (by rw [kL_len]; omega), show 16 + i - 16 = i by omega]
theorem rL_seen (h : WR r) {i : Nat} (hi : i < 8) : (rL r)[22 + i]? = some (.int .i64 (seenAt r i)) := by
  unfold rL seenAt
  rw [List.getElem?_append_right (by rw [tbL_len h.1]; omega), tbL_len h.1, List.getElem?_append_right (by rw [kL_len]; omega), kL_len, List.getElem?_append_left (by rw [List.length_map, h.2.2.1]; omega), show 22 + i - 16 - 6 = i by omega, List.getElem?_map, List.getD_eq_getElem?_getD, List.getElem?_eq_getElem (by rw [h.2.2.1]; exact hi)]
  rfl
theorem rL_since (h : WR r) {i : Nat} (hi : i < 8) : (rL r)[30 + i]? = some (.int .i64 (sinceAt r i)) := by
  unfold rL sinceAt
  rw [List.getElem?_append_right (by rw [tbL_len h.1]; omega), tbL_len h.1, List.getElem?_append_right (by rw [kL_len]; omega), kL_len, List.getElem?_append_right (by rw [List.length_map, h.2.2.1]; omega), List.length_map, h.2.2.1, List.getElem?_append_left (by rw [List.length_map, h.2.2.2.1]; omega), show 30 + i - 16 - 6 - 8 = i by omega, List.getElem?_map, List.getD_eq_getElem?_getD, List.getElem?_eq_getElem (by rw [h.2.2.2.1]; exact hi)]
  rfl
theorem rL_over (h : WR r) : (rL r)[38]? = some (.bool r.over) := by
  unfold rL
  rw [List.getElem?_append_right (by rw [tbL_len h.1]; omega), tbL_len h.1, List.getElem?_append_right (by rw [kL_len]; omega), kL_len, List.getElem?_append_right (by rw [List.length_map, h.2.2.1]; omega), List.length_map, h.2.2.1, List.getElem?_append_right (by rw [List.length_map, h.2.2.2.1]; omega), List.length_map, h.2.2.2.1]
  rfl
theorem rL_one (r : Rm) : (rL r).toArray.all (·.oneCell') = true := all_oneCell_toArray fun v hv => by
  unfold rL at hv
  simp only [List.mem_append, List.mem_map, List.mem_singleton] at hv
  rcases hv with h | h | ⟨a, _, rfl⟩ | ⟨a, _, rfl⟩ | rfl
  · exact (Array.all_eq_true_iff_forall_mem.1 (tbL_one r.t)) v (by simpa using h)
  · exact (Array.all_eq_true_iff_forall_mem.1 (kL_one r.k)) v (by simpa using h)
  · rfl
  · rfl
  · rfl
end
section
variable {w : World} {g : Nat} {t : TypeId} {r : Rm}
theorem rg_t (hb : Blk w g t (rL r).toArray) : w.rangeAt g 0 (tbL r.t) := blk_part (a := []) hb rfl
theorem rg_k (hb : Blk w g t (rL r).toArray) (h : WR r) : w.rangeAt g 16 (kL r.k) := by
  refine blk_part (t := t) (a := tbL r.t) (b := r.seen.map (Value.int .i64) ++ (r.since.map (Value.int .i64) ++ [.bool r.over])) ?_ (tbL_len h.1)
  rw [List.append_assoc]
  exact hb
theorem rg_used (hb : Blk w g t (rL r).toArray) : w.rangeAt g 0 (r.t.used.map Value.bool) := by
  refine blk_part (t := t) (a := []) (b := r.t.addr.map (Value.int .i64) ++ (kL r.k ++ (r.seen.map (Value.int .i64) ++ (r.since.map (Value.int .i64) ++ [.bool r.over])))) ?_ rfl
  rw [List.nil_append, ← List.append_assoc]
  exact hb
end
theorem infoR : (Tryz.prog.info? 56).map (·.size) = some 39 := by kernel_rfl
end Go.Proofs.YtmkifedcanmjoaaGreat
