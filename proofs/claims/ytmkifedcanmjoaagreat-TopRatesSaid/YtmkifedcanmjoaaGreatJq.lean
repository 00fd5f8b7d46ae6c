/- Texts of this claim, one behind the other: RoomG, RoomF, RoomW, CastA. Each says ahead of itself what it proves, and its conditions. -/
import Derived.Test.YtmkifedcanmjoaaGreatJo
import Derived.Test.YtmkifedcanmjoaaGreatJb
import Derived.Test.YtmkifedcanmjoaaGreatJp
import Derived.Deep.QuietTactic
import Derived.BigQuiet
/- room.Good (contract). Conditions: none. -/
set_option linter.unusedVariables false
set_option linter.unusedSimpArgs false
namespace Go.Proofs.YtmkifedcanmjoaaGreat
open Go.RowKit
attribute [local go_sem ↓] Go.wp_at_zero Go.wp_at_succ
theorem rL_kcells {w : World} {g : Nat} {t : TypeId} {r : Rm} (hb : Blk w g t (rL r).toArray) (h : WR r) : w.cell? ⟨g, 16, none⟩ = some (.int .i64 r.k.epoch) ∧ w.cell? ⟨g, 17, none⟩ = some (.bool r.k.opn) ∧ w.cell? ⟨g, 18, none⟩ = some (.int .i64 r.k.next) ∧ w.cell? ⟨g, 19, none⟩ = some (.int .i64 r.k.need) ∧ w.cell? ⟨g, 20, none⟩ = some (.int .i64 r.k.hv) ∧ w.cell? ⟨g, 21, none⟩ = some (.int .i64 r.k.born) := by
  refine ⟨?_, ?_, ?_, ?_, ?_, ?_⟩
  · rw [hb.cell 16, List.getElem?_toArray, rL_k h (i := 0) (by decide)]; rfl
  · rw [hb.cell 17, List.getElem?_toArray, rL_k h (i := 1) (by decide)]; rfl
  · rw [hb.cell 18, List.getElem?_toArray, rL_k h (i := 2) (by decide)]; rfl
  · rw [hb.cell 19, List.getElem?_toArray, rL_k h (i := 3) (by decide)]; rfl
  · rw [hb.cell 20, List.getElem?_toArray, rL_k h (i := 4) (by decide)]; rfl
  · rw [hb.cell 21, List.getElem?_toArray, rL_k h (i := 5) (by decide)]; rfl
set_option maxRecDepth 100000 in
set_option maxHeartbeats 6400000 in
theorem goodR_c (r : Rm) (w : World) (hr : WR r) :
    Calls Tryz.prog 33 #[.agg (rL r).toArray] w fun e w' => e = .returned (.bool (goodR r)) ∧ Below w.heap.size w w' := by
  obtain ⟨T, hT⟩ : ∃ T, T = rL r := ⟨_, rfl⟩
  obtain ⟨g1, hg1⟩ : ∃ g1, g1 = w.heap.size := ⟨_, rfl⟩

  obtain ⟨w2, hw2⟩ : ∃ w2, w2 = w.alloc (.cells T.toArray 56) := ⟨_, rfl⟩
  have HX21 : Hid (Blk w2 g1 56 T.toArray) := by show Blk _ _ _ _; rw [hw2]; exact Blk.newAt hg1 _ _
  have HB2 : Hid (Below w.heap.size w w2) := by show Below _ _ _; rw [hw2]; exact balloc (Below.refl _ _) _
  have HL1 : Hid (w.heap.size ≤ g1) := by show _ ≤ _; omega

  have HTE := Lib.hid hT
  have HTL : Hid (T.length = 39) := by show _ = _; rw [hT]; exact rL_len hr
  have HTO : Hid (T.toArray.all (·.oneCell') = true) := by show _ = _; rw [hT]; exact rL_one r
  have HIT : Hid ((Tryz.prog.info? 56).map (·.size) = some T.length) := by show _ = _; rw [HTL.out]; exact infoR
  have HITs : Hid ((Tryz.prog.info? 56).map (·.size) = some T.toArray.size) := HIT.out
  have HWR := Lib.hid hr
  obtain ⟨D, hD⟩ : ∃ D, D = tbL r.t := ⟨_, rfl⟩
  have HDE := Lib.hid hD
  have HID : Hid ((Tryz.prog.info? 53).map (·.size) = some D.length) := by show _ = _; rw [hD, tbL_len hr.1]; exact infoTb
  have HRT : Hid (∀ wx : World, Blk wx g1 56 T.toArray → wx.rangeAt g1 0 D) := fun wx hb => by rw [HDE.out]; rw [HTE.out] at hb; exact rg_t hb
  have HIB : Hid ((Tryz.prog.info? 50).map (·.size) = some (r.t.used.map Value.bool).length) := by show _ = _; rw [List.length_map, HWR.out.1.1]; exact infoB8
  have GUD : Hid (∀ (wx : World), Calls Tryz.prog 63 #[.agg D.toArray] wx fun e w' => e = .returned (.bool (goodT r.t)) ∧ Below wx.heap.size wx w') := fun wx => by rw [HDE.out]; exact good_c r.t wx HWR.out.1
  have MSK : Hid (∀ (wx : World), Calls Tryz.prog 64 #[.agg D.toArray] wx fun e w' => e = .returned (.int .i64 (maskT r.t)) ∧ Below wx.heap.size wx w') := fun wx => by rw [HDE.out]; exact mask_c r.t wx HWR.out.1
  have GUK : Hid (∀ (wx : World), Calls Tryz.prog 40 #[.agg #[.int .i64 r.k.epoch, .bool r.k.opn, .int .i64 r.k.next, .int .i64 r.k.need, .int .i64 r.k.hv, .int .i64 r.k.born]] wx fun e w' => e = .returned (.bool (goodK r.k)) ∧ Below wx.heap.size wx w') := fun wx => goodK_c r.k wx HWR.out.2.1
  obtain ⟨tt, htt⟩ : ∃ tt, tt = goodR r := ⟨_, rfl⟩
  have HTT := Lib.hid htt
  rw [← hT, ← htt]
  clear hT hr htt hD
  go_enter Tryz.func33, Tryz.ntmps33
  go_upto_region 1 with fail
  rw [← hw2, ← hg1]
  clear hw2 hg1
  have HRW : Hid (w2.rangeAt g1 0 D) := HRT.out w2 HX21.out
  go_wp2_with (first
    | ((with_reducible show wpList _ _ _ (⟨some 7, .load _ (.tmp 6), _, _, _, _⟩ :: _) _ _); refine wpList_load_mid rfl 53 (.tmp 6) rfl g1 0 rfl D _ HRW.out Tryz.underlying53 rfl HID.out ?_))
  clear HRW
  refine (GUD.out w2).mono ?_
  rintro e0 w3 ⟨rfl, hbq⟩
  have HB3 : Hid (Below w.heap.size w w3) := by show Below _ _ _; exact bcall HB2.out hbq
  have HX31 : Hid (Blk w3 g1 56 T.toArray) := by show Blk _ _ _ _; exact HX21.out.below hbq
  clear hbq HB2 HX21
  obtain ⟨gd, hgd⟩ : ∃ gd, gd = goodT r.t := ⟨_, rfl⟩
  have HGD := Lib.hid hgd
  rw [← hgd]
  clear hgd
  cases gd
  · have HV : Hid (tt = false) := by show _ = _; rw [HTT.out]; unfold goodR; rw [← HGD.out]; rfl
    clear HTT HGD
    go_wp2_with fail
    go_ret
    exact ⟨by rw [HV.out]; rfl, HB3.out⟩
  · obtain ⟨ck16, ck17, ck18, ck19, ck20, ck21⟩ := rL_kcells (t := 56) (by have h := HX31.out; rw [HTE.out] at h; exact h) HWR.out
    go_wp2_with fail
    refine (GUK.out w3).mono ?_
    rintro e0 w4 ⟨rfl, hbq⟩
    have HB4 : Hid (Below w.heap.size w w4) := by show Below _ _ _; exact bcall HB3.out hbq
    have HX41 : Hid (Blk w4 g1 56 T.toArray) := by show Blk _ _ _ _; exact HX31.out.below hbq
    clear hbq HB3 HX31
    clear ck16 ck17 ck18 ck19 ck20 ck21
    obtain ⟨gk, hgk⟩ : ∃ gk, gk = goodK r.k := ⟨_, rfl⟩
    have HGK := Lib.hid hgk
    rw [← hgk]
    clear hgk
    cases gk
    · have HV : Hid (tt = false) := by show _ = _; rw [HTT.out]; unfold goodR; rw [← HGD.out, ← HGK.out]; rfl
      clear HTT HGD HGK
      go_wp2_with fail
      go_ret
      exact ⟨by rw [HV.out]; rfl, HB4.out⟩
    · have HTA : Hid (tt = (okFrom r 8 0 && (!r.k.opn || decide (r.k.need.toNat &&& maskT r.t = r.k.need.toNat)) && (!r.over || maskT r.t == 0))) := by show _ = _; rw [HTT.out]; unfold goodR; rw [← HGD.out, ← HGK.out]; rfl
      clear HTT HGD
      have HRU : Hid (w4.rangeAt g1 0 (r.t.used.map Value.bool)) := by have h := HX41.out; rw [HTE.out] at h; exact rg_used h
      go_upto_region 4 with (first
        | ((with_reducible show wpList _ _ _ (⟨some 18, .load _ (.tmp 17), _, _, _, _⟩ :: _) _ _); refine wpList_load_mid rfl 50 (.tmp 17) rfl g1 0 rfl (r.t.used.map Value.bool) _ HRU.out Tryz.underlying50 rfl HIB.out ?_))
      clear HRU
      obtain ⟨M, hM⟩ : ∃ M, M = (r.t.used.map Value.bool).toArray := ⟨_, rfl⟩
      have HME := Lib.hid hM
      rw [← hM]
      clear hM
      go_loopg [19] 8 (fun gg v wx => ∃ i : Nat, gg = 8 - i ∧ i ≤ 8 ∧ v = .int .i64 (i : Int) ∧ okFrom r (8 - i) i = okFrom r 8 0 ∧ Below w.heap.size w wx ∧ Blk wx g1 56 T.toArray)
      case atStart => exact ⟨0, rfl, by omega, rfl, rfl, HB4.out, HX41.out⟩
      case round =>
        obtain ⟨i, hgg, hi, rfl, hf, hbl, hbk⟩ := hrel
        have HF := Lib.hid hf
        have HGG := Lib.hid hgg
        have HBL := Lib.hid hbl
        have HBK := Lib.hid hbk
        clear hf hgg hbl hbk
        by_cases hin : i < 8
        · have hini : (i : Int) < 8 := by omega
          have hin0 : (0 : Int) ≤ (i : Int) := by omega
          have hw1 : IntKind.i64.wrap ((i : Int) + 1) = ((i + 1 : Nat) : Int) := by rw [IntKind.wrap_i64]; omega
          obtain ⟨u, hu⟩ : ∃ u, u = usedAt r.t i := ⟨_, rfl⟩
          obtain ⟨sn, hsn⟩ : ∃ sn, sn = seenAt r i := ⟨_, rfl⟩
          obtain ⟨si, hsi⟩ : ∃ si, si = sinceAt r i := ⟨_, rfl⟩
          obtain ⟨ep, hep⟩ : ∃ ep, ep = r.k.epoch := ⟨_, rfl⟩
          have hidx : ∀ wx, (Instr.index 50 (.agg M) (.int .i64 (i : Int))).run Tryz.prog wx = .ok (.bool u) wx := fun wx => by
            rw [HME.out, hu]
            exact index_bools wx r.t.used i hin HWR.out.1.1
          have ck1 : wr.cell? ⟨g1, 22 + i, none⟩ = some (.int .i64 sn) := by rw [HBK.out.cell (22 + i), List.getElem?_toArray, HTE.out, hsn]; exact rL_seen HWR.out hin
          have ck2 : wr.cell? ⟨g1, 30 + i, none⟩ = some (.int .i64 si) := by rw [HBK.out.cell (30 + i), List.getElem?_toArray, HTE.out, hsi]; exact rL_since HWR.out hin
          have ck3 : wr.cell? ⟨g1, 16, none⟩ = some (.int .i64 ep) := by rw [HBK.out.cell 16, List.getElem?_toArray, HTE.out, hep]; exact rL_k HWR.out (i := 0) (by decide)
          have HS : Hid (okFrom r 8 0 = (!((!u && ((sn != 0) || (si != 0))) || decide (si < 0) || decide (ep < si)) && okFrom r (8 - (i + 1)) (i + 1))) := by
            show _ = _
            rw [← HF.out, show 8 - i = (8 - (i + 1)) + 1 by omega, hu, hsn, hsi, hep]
            rfl
          have HLT := Lib.hid hin
          clear hu hsn hsi hep hin hi
          obtain ⟨b1, hb1⟩ : ∃ b, (sn != 0) = b := ⟨_, rfl⟩
          obtain ⟨b2, hb2⟩ : ∃ b, (si != 0) = b := ⟨_, rfl⟩
          obtain ⟨b3, hb3⟩ : ∃ b, decide (si < 0) = b := ⟨_, rfl⟩
          obtain ⟨b4, hb4⟩ : ∃ b, decide (ep < si) = b := ⟨_, rfl⟩
          rw [hb1, hb2, hb3, hb4] at HS
          go_upto_region 6 with fail
          cases u <;> cases b1 <;> cases b2 <;> cases b3 <;> cases b4
          all_goals
            first
            | (have HS2 : Hid (okFrom r 8 0 = false) := by (show _ = _; rw [HS.out]; rfl)
               have HV : Hid (tt = false) := by (show _ = _; rw [HTA.out, HS2.out]; rfl)
               clear HS HTA HF
               go_quiet (fail)
               go_wp2_with fail
               go_ret
               exact ⟨by rw [HV.out]; rfl, by first | exact HBL.out | exact below_drewN HBL.out _⟩)
            | (have HS2 : Hid (okFrom r (8 - (i + 1)) (i + 1) = okFrom r 8 0) := by (show _ = _; rw [HS.out]; rfl)
               clear HS
               go_quiet (fail)
               go_wp2_with fail
               go_roundg (8 - (i + 1))
               case measure => have := HLT.out; have := HGG.out; omega
               case rel => have hlt := HLT.out; exact ⟨i + 1, rfl, by omega, by first | rfl | go_num, HS2.out, by first | exact HBL.out | exact below_drewN HBL.out _, by first | exact HBK.out | exact HBK.out.drewN _⟩)
        · have hini : ¬ (i : Int) < 8 := by omega
          have hie : i = 8 := by omega
          subst hie
          clear hin hi
          have HOK : Hid (okFrom r 8 0 = true) := by have := HF.out; rw [show 8 - 8 = 0 from rfl] at this; exact this.symm
          clear HF
          have HTB : Hid (tt = ((!r.k.opn || decide (r.k.need.toNat &&& maskT r.t = r.k.need.toNat)) && (!r.over || maskT r.t == 0))) := by show _ = _; rw [HTA.out, HOK.out]; rfl
          clear HTA HOK
          have HRW : Hid (wr.rangeAt g1 0 D) := HRT.out wr HBK.out
          go_wp2_with (first
            | ((with_reducible show wpList _ _ _ (⟨some 58, .load _ (.tmp 57), _, _, _, _⟩ :: _) _ _); refine wpList_load_mid rfl 53 (.tmp 57) rfl g1 0 rfl D _ HRW.out Tryz.underlying53 rfl HID.out ?_))
          clear HRW
          refine (MSK.out wr).mono ?_
          rintro e0 w6 ⟨rfl, hb6⟩
          have HB6 : Hid (Below w.heap.size w w6) := by show Below _ _ _; exact bcall HBL.out hb6
          have HX61 : Hid (Blk w6 g1 56 T.toArray) := by show Blk _ _ _ _; exact HBK.out.below hb6
          clear hb6 HBL HBK
          obtain ⟨_, ck17, _, ck19, _, _⟩ := rL_kcells (t := 56) (by have h := HX61.out; rw [HTE.out] at h; exact h) HWR.out
          have ck38 : w6.cell? ⟨g1, 38, none⟩ = some (.bool r.over) := by rw [HX61.out.cell 38, List.getElem?_toArray, HTE.out]; exact rL_over HWR.out
          obtain ⟨d, hd⟩ : ∃ d : Nat, r.k.need = (d : Int) := ⟨r.k.need.toNat, by have := HWR.out.2.1.2.2.1; omega⟩
          have hd9 : d < 256 := by have := HWR.out.2.1.2.2.1; omega
          obtain ⟨m, hm⟩ : ∃ m, m = maskT r.t := ⟨_, rfl⟩
          have hm9 : m < 256 := by rw [hm]; exact maskT_lt r.t
          rw [hd, ← hm] at HTB
          rw [hd] at ck19
          rw [← hm]
          rw [Int.toNat_natCast] at HTB
          have hbn : Go.bits .andNot .i64 (d : Int) (m : Int) = ((exN d m : Nat) : Int) := i64_andNot_nat d m (by omega) (by omega)
          obtain ⟨op, hop⟩ : ∃ op, op = r.k.opn := ⟨_, rfl⟩
          obtain ⟨ov, hov⟩ : ∃ ov, ov = r.over := ⟨_, rfl⟩
          rw [← hop, ← hov] at HTB
          rw [← hop] at ck17
          rw [← hov] at ck38
          clear hop hov hm hd
          have HE : Hid (exN d m = 0 ↔ d &&& m = d) := exN_zero d m (by omega) (by omega)
          obtain ⟨x, hx⟩ : ∃ x, x = exN d m := ⟨_, rfl⟩
          rw [← hx] at hbn
          have HE2 : Hid (decide (d &&& m = d) = decide (x = 0)) := by show _ = _; rw [hx]; exact decide_eq_decide.2 HE.out.symm
          rw [HE2.out] at HTB
          clear hx HE HE2
          obtain ⟨bx, hbx⟩ : ∃ bx, ((x : Int) == 0) = bx := ⟨_, rfl⟩
          obtain ⟨bm, hbm⟩ : ∃ bm, ((m : Int) == 0) = bm := ⟨_, rfl⟩
          have HTC : Hid (tt = ((!op || bx) && (!ov || bm))) := by
            show _ = _
            rw [HTB.out, ← hbx, ← hbm, show decide (x = 0) = ((x : Int) == 0) by (rw [Bool.eq_iff_iff]; simp), show (m == 0) = ((m : Int) == 0) by (rw [Bool.eq_iff_iff]; simp)]
          clear HTB
          cases bx <;> cases bm <;> cases op <;> cases ov
          all_goals
            (go_wp2_with fail
             all_goals
               (go_ret
                exact ⟨by rw [HTC.out]; rfl, HB6.out⟩))
end Go.Proofs.YtmkifedcanmjoaaGreat
/- room.find (contract). Conditions: none. -/
set_option linter.unusedVariables false
set_option linter.unusedSimpArgs false
namespace Go.Proofs.YtmkifedcanmjoaaGreat
open Go.RowKit
attribute [local go_sem ↓] Go.wp_at_zero Go.wp_at_succ
theorem fitR {r : Rm} (h : WR r) : FitL 56 (rL r) := ⟨by rw [rL_len h]; exact infoR, rL_one r⟩
theorem fitT {t : Tb} (h : WT t) : FitL 53 (tbL t) := ⟨by rw [tbL_len h]; exact infoTb, tbL_one t⟩
theorem fitK (s : Ks) : FitL 49 (kL s) := ⟨infoK, kL_one s⟩
def optN : Option Nat → Int
  | some i => i
  | none => 0
theorem get_len {l : List Value} {j : Nat} {v : Value} (h : l[j]? = some v) : j < l.length := by
  rcases Nat.lt_or_ge j l.length with hl | hl
  · exact hl
  · rw [List.getElem?_eq_none hl] at h; cases h
theorem rL_tpart {r : Rm} (h : WR r) : ∀ j v, (tbL r.t)[j]? = some v → (rL r)[0 + j]? = some v := fun j v hv => by
  rw [Nat.zero_add, rL_t h (by have := get_len hv; rw [tbL_len h.1] at this; exact this)]; exact hv
theorem rL_kpart {r : Rm} (h : WR r) : ∀ j v, (kL r.k)[j]? = some v → (rL r)[16 + j]? = some v := fun j v hv => by
  rw [rL_k h (by have := get_len hv; rw [kL_len] at this; exact this)]; exact hv
set_option maxRecDepth 100000 in
set_option maxHeartbeats 6400000 in
theorem findR_c (r : Rm) (a : Int) (w : World) (hr : WR r) :
    Calls Tryz.prog 36 #[.agg (rL r).toArray, .int .i64 a] w fun e w' => e = .returned (.tuple #[.int .i64 (findR r a).1, .int .i64 (findR r a).2]) ∧ Below w.heap.size w w' := by
  have HWR := Lib.hid hr
  obtain ⟨T, hT⟩ : ∃ T : List Value, T = rL r := ⟨_, rfl⟩
  have HTF : Hid (FitL 56 T) := by show FitL _ _; rw [hT]; exact fitR hr
  have HTE := Lib.hid hT
  obtain ⟨D, hD⟩ : ∃ D : List Value, D = tbL r.t := ⟨_, rfl⟩
  have HDF : Hid (FitL 53 D) := by show FitL _ _; rw [hD]; exact fitT hr.1
  have HDE := Lib.hid hD
  have HTD : Hid (∀ j v, D[j]? = some v → T[0 + j]? = some v) := by show ∀ _ _, _; rw [hT, hD]; exact rL_tpart hr
  obtain ⟨tt, htt⟩ : ∃ tt, tt = findR r a := ⟨_, rfl⟩
  have HTT := Lib.hid htt
  have GUD : Hid (∀ (wx : World), Calls Tryz.prog 33 #[.agg T.toArray] wx fun e w' => e = .returned (.bool (goodR r)) ∧ Below wx.heap.size wx w') := fun wx => by rw [HTE.out]; exact goodR_c r wx HWR.out
  have FND : Hid (∀ (wx : World), Calls Tryz.prog 69 #[.agg D.toArray, .int .i64 a] wx fun e w' => e = .returned (.tuple #[.int .i64 (FindN r.t a), .bool (FindT r.t a).isSome]) ∧ Below wx.heap.size wx w') := fun wx => by rw [HDE.out]; exact Find_c r.t a wx HWR.out.1
  rw [← hT, ← htt]
  clear hT hD hr htt
  obtain ⟨g1, hg1⟩ : ∃ g1, g1 = w.heap.size := ⟨_, rfl⟩
  obtain ⟨w1, hw1⟩ : ∃ w1, w1 = w.alloc (.cells T.toArray 56) := ⟨_, rfl⟩
  have HM1 : Hid (MW w w1 [(g1, 56, T)]) := by
    show MW _ _ _
    have h := ((MW.start w).alloc 56 T)
    try simp only [World.size_alloc] at h
    rw [hw1, hg1]
    skip
    exact h
  go_enter Tryz.func36, Tryz.ntmps36
  go_upto_region 1 with fail
  rw [← hw1, ← hg1]
  clear hw1 hg1 
  have HRW : Hid (w1.rangeAt g1 0 T) := HM1.out.range (.head _)
  go_wp2_with (first
    | ((with_reducible show wpList _ _ _ (⟨some 8, .load _ (.tmp 2), _, _, _, _⟩ :: _) _ _); refine wpList_load_mid rfl 56 (.tmp 2) rfl g1 0 rfl T _ HRW.out Tryz.underlying56 rfl HTF.out.info ?_))
  clear HRW
  refine (GUD.out w1).mono ?_
  rintro e0 w2 ⟨rfl, hbq⟩
  have HM2 : Hid (MW w w2 [(g1, 56, T)]) := HM1.out.call hbq
  clear hbq HM1
  obtain ⟨gd, hgd⟩ : ∃ gd, gd = goodR r := ⟨_, rfl⟩
  have HGD := Lib.hid hgd
  rw [← hgd]
  clear hgd
  cases gd
  · have HV : Hid (tt = (0, 1)) := by show _ = _; rw [HTT.out]; unfold findR; rw [← HGD.out]; rfl
    clear HTT
    go_wp2_with fail
    go_ret2
    exact ⟨by rw [HV.out]; rfl, HM2.out.bel⟩
  · have HGT : Hid (goodT r.t = true) := by show _ = _; have h := HGD.out.symm; unfold goodR at h; simp only [Bool.and_eq_true] at h; exact h.1.1.1.1
    have HTA : Hid (tt = match findT r.t a with | some i => (i, 0) | none => (0, 6)) := by show _ = _; rw [HTT.out]; unfold findR; rw [← HGD.out]; rfl
    clear HTT HGD
    have HRW : Hid (w2.rangeAt g1 0 D) := HM2.out.part (.head _) 0 D HTD.out
    go_wp2_with (first
      | ((with_reducible show wpList _ _ _ (⟨some 13, .load _ (.tmp 12), _, _, _, _⟩ :: _) _ _); refine wpList_load_mid rfl 53 (.tmp 12) rfl g1 0 rfl D _ HRW.out Tryz.underlying53 rfl HDF.out.info ?_))
    clear HRW
    refine (FND.out w2).mono ?_
    rintro e0 w3 ⟨rfl, hbq⟩
    have HM3 : Hid (MW w w3 [(g1, 56, T)]) := HM2.out.call hbq
    clear hbq HM2
    have hf1 : FindN r.t a = findN r.t a := by unfold FindN; rw [HGT.out]; rfl
    have hf2 : FindT r.t a = findT r.t a := by unfold FindT; rw [HGT.out]; rfl
    rw [hf1, hf2]
    obtain ⟨fo, hfo⟩ : ∃ fo, fo = findT r.t a := ⟨_, rfl⟩
    have hfn : findN r.t a = optN (findT r.t a) := rfl
    rw [hfn, ← hfo]
    rw [← hfo] at HTA
    clear hfo hfn hf1 hf2
    cases fo with
    | none =>
      have HV : Hid (tt = (0, 6)) := by show _ = _; rw [HTA.out]
      clear HTA
      go_wp2_with fail
      go_ret2
      exact ⟨by rw [HV.out]; rfl, HM3.out.bel⟩
    | some i =>
      have HV : Hid (tt = (i, 0)) := by show _ = _; rw [HTA.out]
      clear HTA
      go_wp2_with fail
      go_ret2
      exact ⟨by rw [HV.out]; rfl, HM3.out.bel⟩
end Go.Proofs.YtmkifedcanmjoaaGreat
/- A room's cells, written in part; rooms that may lie in memory. Conditions: none. -/
set_option linter.unusedVariables false
set_option linter.unusedSimpArgs false
namespace Go.Proofs.YtmkifedcanmjoaaGreat
open Go.RowKit
theorem fit0R : FitL 56 [.bool false, .bool false, .bool false, .bool false, .bool false, .bool false, .bool false, .bool false, .int .i64 0, .int .i64 0, .int .i64 0, .int .i64 0, .int .i64 0, .int .i64 0, .int .i64 0, .int .i64 0, .int .i64 0, .bool false, .int .i64 0, .int .i64 0, .int .i64 0, .int .i64 0, .int .i64 0, .int .i64 0, .int .i64 0, .int .i64 0, .int .i64 0, .int .i64 0, .int .i64 0, .int .i64 0, .int .i64 0, .int .i64 0, .int .i64 0, .int .i64 0, .int .i64 0, .int .i64 0, .int .i64 0, .int .i64 0, .bool false] := ⟨infoR, by kernel_rfl⟩
theorem fit0K : FitL 49 [.int .i64 0, .bool false, .int .i64 0, .int .i64 0, .int .i64 0, .int .i64 0] := ⟨infoK, by kernel_rfl⟩
theorem fit0T : FitL 53 [.bool false, .bool false, .bool false, .bool false, .bool false, .bool false, .bool false, .bool false, .int .i64 0, .int .i64 0, .int .i64 0, .int .i64 0, .int .i64 0, .int .i64 0, .int .i64 0, .int .i64 0] := ⟨infoTb, by kernel_rfl⟩
theorem WK.ks0 {e : Int} (h : 0 ≤ e ∧ e < 65536) : WK (ks0 e) := ⟨h, (by decide : (0 : Int) ≤ 0 ∧ (0 : Int) < 65536), (by decide : (0 : Int) ≤ 0 ∧ (0 : Int) < 256), (by decide : (0 : Int) ≤ 0 ∧ (0 : Int) < 256), (by decide : (-4611686018427387904 : Int) < 0 ∧ (0 : Int) < 4611686018427387904)⟩
theorem WK.raise {s : Ks} (h : WK s) {need now : Int} (hb : NowB now) : WK (raiseK s need now).1 := by
  have hc := comingK_lt h
  unfold raiseK
  split
  · exact h
  · rename_i h1
    simp only [Bool.or_eq_true, not_or, decide_eq_true_eq] at h1
    split
    · exact h
    · split
      · exact WK.ks0 (by omega)
      · exact ⟨h.1, by show 0 ≤ comingK s + 1 ∧ comingK s + 1 < 65536; omega, by show 0 ≤ need ∧ need < 256; omega, by show (0 : Int) ≤ 0 ∧ (0 : Int) < 256; omega, hb⟩
theorem getD_set_ {α : Type} (l : List α) (i j : Nat) (a d : α) : (l.set i a).getD j d = if i = j ∧ i < l.length then a else l.getD j d := by
  simp only [List.getD_eq_getElem?_getD, List.getElem?_set]
  by_cases h : i = j
  · subst h
    by_cases hl : i < l.length
    · simp [hl]
    · simp [hl]
  · simp [h]
theorem WR.setT {r : Rm} (h : WR r) {t : Tb} (ht : WT t) : WR { r with t := t } := ⟨ht, h.2⟩
theorem WR.setK {r : Rm} (h : WR r) {k : Ks} (hk : WK k) : WR { r with k := k } := ⟨h.1, hk, h.2.2⟩
theorem WR.setSeen {r : Rm} (h : WR r) (i : Nat) {v : Int} (hv : NowB v) : WR { r with seen := r.seen.set i v } :=
  ⟨h.1, h.2.1, by rw [List.length_set]; exact h.2.2.1, h.2.2.2.1, fun j hj => by
    show NowB ((r.seen.set i v).getD j 0)
    rw [getD_set_]
    split
    · exact hv
    · exact h.2.2.2.2 j hj⟩
theorem WR.setSince {r : Rm} (h : WR r) (i : Nat) (v : Int) : WR { r with since := r.since.set i v } := ⟨h.1, h.2.1, h.2.2.1, by rw [List.length_set]; exact h.2.2.2.1, h.2.2.2.2⟩
theorem nowB0 : NowB 0 := by unfold NowB; decide
theorem WR.rm0 {e : Int} (h : 0 ≤ e ∧ e < 65536) (o : Bool) : WR { Proofs.YtmkifedcanmjoaaGreat.rm0 e with over := o } :=
  ⟨⟨rfl, rfl⟩, WK.ks0 h, rfl, rfl, fun i hi => by
    show NowB ((List.replicate 8 (0 : Int)).getD i 0)
    have : (List.replicate 8 (0 : Int)).getD i 0 = 0 := by
      rw [List.getD_eq_getElem?_getD, List.getElem?_replicate]
      split <;> rfl
    rw [this]; exact nowB0⟩
theorem WR.gone {r : Rm} (h : WR r) (i : Nat) {now : Int} (hb : NowB now) : WR (goneR r i now) := by
  unfold goneR
  simp only
  split
  · exact (((h.setT (h.1.free _)).setK (h.2.1.raise hb)).setSeen i nowB0).setSince i 0
  · exact WR.rm0 h.2.1.1 true
theorem WR.join {r : Rm} (h : WR r) (a : Int) {now : Int} (hb : NowB now) : WR (joinR r a now).1 := by
  unfold joinR
  split
  · exact h
  · split
    · exact h
    · split
      · exact h
      · split
        · exact h
        · exact (((h.setT (h.1.take _)).setK (h.2.1.joinK _)).setSeen _ hb).setSince _ _
section
variable {w0 w : World} {g : Nat} {t : TypeId} {r : Rm} {pre post : List Bk}
theorem set_append_r {α : Type} (a b : List α) (i n : Nat) (v : α) (hn : a.length = n) : (a ++ b).set (n + i) v = a ++ b.set i v := by
  subst hn
  rw [List.set_append, if_neg (by omega), show a.length + i - a.length = i by omega]
theorem set_append_l {α : Type} (a b : List α) (i : Nat) (v : α) (hn : i < a.length) : (a ++ b).set i v = a.set i v ++ b := by rw [List.set_append, if_pos hn]
theorem MW.setT (h : MW w0 w (pre ++ (g, t, rL r) :: post)) (hr : WR r) {t' : Tb} (ht : WT t') : MW w0 (w.setCells g 0 (tbL t')) (pre ++ (g, t, rL { r with t := t' }) :: post) := by
  have e1 : ∀ t', rL { r with t := t' } = ([] : List Value) ++ tbL t' ++ (kL r.k ++ (r.seen.map (Value.int .i64) ++ (r.since.map (Value.int .i64) ++ [Value.bool r.over]))) := fun t' => (congrArg (· ++ (kL r.k ++ (r.seen.map (Value.int .i64) ++ (r.since.map (Value.int .i64) ++ [Value.bool r.over])))) (List.nil_append (tbL t'))).symm
  have e2 : rL r = rL { r with t := r.t } := rfl
  rw [e2, e1] at h
  rw [e1]
  exact MW.setPart (a := []) (m := tbL r.t) (m' := tbL t') (o := 0) h (by rw [tbL_len ht, tbL_len hr.1]) List.length_nil
theorem MW.setK (h : MW w0 w (pre ++ (g, t, rL r) :: post)) (hr : WR r) (k : Ks) : MW w0 (w.setCells g 16 (kL k)) (pre ++ (g, t, rL { r with k := k }) :: post) := by
  obtain ⟨X, hX⟩ : ∃ X, X = r.seen.map (Value.int .i64) ++ (r.since.map (Value.int .i64) ++ [Value.bool r.over]) := ⟨_, rfl⟩
  have e1 : ∀ k', rL { r with k := k' } = tbL r.t ++ kL k' ++ X := fun k' => by rw [List.append_assoc, hX]; rfl
  have e2 : rL r = tbL r.t ++ kL r.k ++ X := e1 r.k
  rw [e2] at h
  rw [e1]
  exact MW.setPart (a := tbL r.t) (m := kL r.k) (m' := kL k) (o := 16) h ((kL_len k).trans (kL_len r.k).symm) (tbL_len hr.1)
theorem rL_setSeen (hr : WR r) {i : Nat} (hi : i < 8) (v : Int) : (rL r).set (22 + i) (.int .i64 v) = rL { r with seen := r.seen.set i v } := by
  show (tbL r.t ++ (kL r.k ++ (r.seen.map (Value.int .i64) ++ (r.since.map (Value.int .i64) ++ [Value.bool r.over])))).set (22 + i) (.int .i64 v) = tbL r.t ++ (kL r.k ++ ((r.seen.set i v).map (Value.int .i64) ++ (r.since.map (Value.int .i64) ++ [Value.bool r.over])))
  rw [show 22 + i = 16 + (6 + i) by omega, set_append_r _ _ _ 16 _ (tbL_len hr.1), set_append_r _ _ _ 6 _ rfl, set_append_l _ _ _ _ (by rw [List.length_map, hr.2.2.1]; exact hi), List.map_set]
theorem rL_setSince (hr : WR r) {i : Nat} (hi : i < 8) (v : Int) : (rL r).set (30 + i) (.int .i64 v) = rL { r with since := r.since.set i v } := by
  show (tbL r.t ++ (kL r.k ++ (r.seen.map (Value.int .i64) ++ (r.since.map (Value.int .i64) ++ [Value.bool r.over])))).set (30 + i) (.int .i64 v) = tbL r.t ++ (kL r.k ++ (r.seen.map (Value.int .i64) ++ ((r.since.set i v).map (Value.int .i64) ++ [Value.bool r.over])))
  rw [show 30 + i = 16 + (6 + (8 + i)) by omega, set_append_r _ _ _ 16 _ (tbL_len hr.1), set_append_r _ _ _ 6 _ rfl, set_append_r _ _ _ 8 _ (by rw [List.length_map, hr.2.2.1]), set_append_l _ _ _ _ (by rw [List.length_map, hr.2.2.2.1]; exact hi), List.map_set]
end
end Go.Proofs.YtmkifedcanmjoaaGreat
/- cast.Ask (contract). Conditions: none. -/
set_option linter.unusedVariables false
set_option linter.unusedSimpArgs false
namespace Go.Proofs.YtmkifedcanmjoaaGreat
open Go.RowKit
attribute [local go_sem ↓] Go.wp_at_zero Go.wp_at_succ
theorem infoC : (Tryz.prog.info? 287).map (·.size) = some 3 := by kernel_rfl
theorem fitC (c : CastD) : FitL 287 (castL c) := ⟨infoC, all_oneCell_toArray fun v hv => by
  simp only [castL, List.mem_cons, List.not_mem_nil, or_false] at hv
  rcases hv with rfl | rfl | rfl <;> rfl⟩
set_option maxRecDepth 100000 in
set_option maxHeartbeats 6400000 in
theorem askC_c (c : CastD) (i : Int) (w : World) :
    Calls Tryz.prog 167 #[.agg (castL c).toArray, .int .i64 i] w fun e w' => e = .returned (.tuple #[.agg (castL (askC c i).1).toArray, .int .i64 (askC c i).2]) ∧ Below w.heap.size w w' := by
  obtain ⟨T, hT⟩ : ∃ T : List Value, T = castL c := ⟨_, rfl⟩
  have HTF : Hid (FitL 287 T) := by show FitL _ _; rw [hT]; exact fitC c
  have HTE := Lib.hid hT
  obtain ⟨U, hU⟩ : ∃ U : List Value, U = castL { c with want := i } := ⟨_, rfl⟩
  have HUF : Hid (FitL 287 U) := by show FitL _ _; rw [hU]; exact fitC _
  have HUE := Lib.hid hU
  obtain ⟨Z, hZ⟩ : ∃ Z : List Value, Z = [.bool false, .int .i64 0, .int .i64 0] := ⟨_, rfl⟩
  have HZF : Hid (FitL 287 Z) := by show FitL _ _; rw [hZ]; exact fitC ⟨false, 0, 0⟩
  have HZE := Lib.hid hZ
  obtain ⟨b1, h1⟩ : ∃ b, b = goodC c := ⟨_, rfl⟩
  obtain ⟨b2, h2⟩ : ∃ b, b = srcB i := ⟨_, rfl⟩
  have HC1 : Hid (∀ wx, Calls Tryz.prog 205 #[.agg T.toArray] wx fun e w' => e = .returned (.bool b1) ∧ Below wx.heap.size wx w') := fun wx => by rw [h1, hT]; exact goodC_c _ _
  have HC2 : Hid (∀ wx, Calls Tryz.prog 206 #[.int .i64 i] wx fun e w' => e = .returned (.bool b2) ∧ Below wx.heap.size wx w') := fun wx => by
    rw [h2]
    refine (csrc_c i wx).mono ?_
    rintro e w' ⟨rfl, rfl⟩
    exact ⟨rfl, Below.refl _ _⟩
  have HRS : Hid (∀ V : List Value, V = castL (askC c i).1 → V = if !b1 || !b2 then T else U) := fun V hv => by rw [hv, h1, h2, hT, hU]; unfold askC; split <;> rfl
  have hr2 : (askC c i).2 = if !b1 || !b2 then 1 else 0 := by rw [h1, h2]; unfold askC; split <;> rfl
  have HT2 : Hid (T[2]? = some (.int .i64 c.want)) := by show _ = _; rw [hT]; rfl
  have HUS : Hid (T.set 2 (.int .i64 i) = U) := by show _ = _; rw [hT, hU]; rfl
  obtain ⟨V, hV⟩ : ∃ V : List Value, V = castL (askC c i).1 := ⟨_, rfl⟩
  have HRV := Lib.hid (HRS.out V hV)
  rw [← hT, ← hV, hr2]
  clear hT hU hV h1 h2 hr2 HRS
  obtain ⟨g1, hg1⟩ : ∃ g1, g1 = w.heap.size := ⟨_, rfl⟩
  obtain ⟨g2, hg2⟩ : ∃ g2, g2 = w.heap.size + 1 := ⟨_, rfl⟩
  obtain ⟨w1, hw1⟩ : ∃ w1, w1 = (w.alloc (.cells T.toArray 287)).alloc (.cells #[.bool false, .int .i64 0, .int .i64 0] 287) := ⟨_, rfl⟩
  have HM1 : Hid (MW w w1 [(g2, 287, Z), (g1, 287, T)]) := by
    show MW _ _ _
    have h := (((MW.start w).alloc 287 T).alloc 287 Z)
    try simp only [World.size_alloc] at h
    rw [hZ, hw1, hg1, hg2]
    rw [hZ] at h
    exact h
  go_enter Tryz.func167, Tryz.ntmps167
  go_upto_region 1 with fail
  rw [← hw1, ← hg2, ← hg1]
  clear hw1 hg1 hg2 hZ
  have HRW : Hid (w1.rangeAt g1 0 T) := HM1.out.range (.tail _ (.head _))
  go_wp2_with (first
    | ((with_reducible show wpList _ _ _ (⟨some 6, .load _ (.tmp 2), _, _, _, _⟩ :: _) _ _); refine wpList_load_mid rfl 287 (.tmp 2) rfl g1 0 rfl T _ HRW.out Tryz.underlying287 rfl HTF.out.info ?_))
  clear HRW
  refine (HC1.out w1).mono ?_
  rintro e0 w2 ⟨rfl, hbq⟩
  have HM2 : Hid (MW w w2 [(g2, 287, Z), (g1, 287, T)]) := HM1.out.call hbq
  clear hbq HM1
  cases b1
  · have HRr : Hid (w2.rangeAt g1 0 T) := HM2.out.range (.tail _ (.head _))
    have HTr : Hid (w2.there g2 0 T.toArray.size) := HM2.out.there (.head _) 0 _ (by show 0 + T.length ≤ Z.length; rw [HTF.out.len HZF.out]; omega)
    go_wp2_with (first
      | ((with_reducible show wpList _ _ _ (⟨some 14, .load _ (.tmp 2), _, _, _, _⟩ :: _) _ _); refine wpList_load_mid rfl 287 (.tmp 2) rfl g1 0 rfl T _ HRr.out Tryz.underlying287 rfl HTF.out.info ?_)
      | ((with_reducible show wpList _ _ _ (⟨none, .store _ (.tmp 4) _, _, _, _, _⟩ :: _) _ _); refine wpList_store_mid rfl 287 (.tmp 4) (.tmp 14) rfl g2 0 T.toArray rfl rfl HTr.out HTF.out.infos HTF.out.one ?_))
    have HMr : Hid (MW w (w2.setCells g2 0 T) [(g2, 287, T), (g1, 287, T)]) := MW.set (pre := []) (post := [(g1, 287, T)]) HM2.out (HTF.out.len HZF.out)
    (try simp only [Exit.inBlock, Exit.then])
    refine bodyPost_ret (results_c2 rfl rfl (HMr.out.range (.head _)) Tryz.underlying287 rfl HTF.out.info) rfl ?_
    refine ⟨?_, HMr.out.bel⟩
    have hve : V = T := HRV.out
    rw [hve]
    rfl
  · go_wp2_with fail
    refine (HC2.out w2).mono ?_
    rintro e0 w3 ⟨rfl, hbq⟩
    have HM3 : Hid (MW w w3 [(g2, 287, Z), (g1, 287, T)]) := HM2.out.call hbq
    clear hbq HM2
    cases b2
    · have HRr : Hid (w3.rangeAt g1 0 T) := HM3.out.range (.tail _ (.head _))
      have HTr : Hid (w3.there g2 0 T.toArray.size) := HM3.out.there (.head _) 0 _ (by show 0 + T.length ≤ Z.length; rw [HTF.out.len HZF.out]; omega)
      go_wp2_with (first
        | ((with_reducible show wpList _ _ _ (⟨some 14, .load _ (.tmp 2), _, _, _, _⟩ :: _) _ _); refine wpList_load_mid rfl 287 (.tmp 2) rfl g1 0 rfl T _ HRr.out Tryz.underlying287 rfl HTF.out.info ?_)
        | ((with_reducible show wpList _ _ _ (⟨none, .store _ (.tmp 4) _, _, _, _, _⟩ :: _) _ _); refine wpList_store_mid rfl 287 (.tmp 4) (.tmp 14) rfl g2 0 T.toArray rfl rfl HTr.out HTF.out.infos HTF.out.one ?_))
      have HMr : Hid (MW w (w3.setCells g2 0 T) [(g2, 287, T), (g1, 287, T)]) := MW.set (pre := []) (post := [(g1, 287, T)]) HM3.out (HTF.out.len HZF.out)
      (try simp only [Exit.inBlock, Exit.then])
      refine bodyPost_ret (results_c2 rfl rfl (HMr.out.range (.head _)) Tryz.underlying287 rfl HTF.out.info) rfl ?_
      refine ⟨?_, HMr.out.bel⟩
      have hve : V = T := HRV.out
      rw [hve]
      rfl
    · have HF1 : Hid (w3.frozen? ⟨g1, 2, none⟩ = false) := HM3.out.frozen (.tail _ (.head _)) 2
      have hf1 := HF1.out
      have ck1 : w3.cell? ⟨g1, 2, none⟩ = some (.int .i64 c.want) := by rw [HM3.out.cell (.tail _ (.head _))]; exact HT2.out
      have HM4 : Hid (MW w (w3.setCell ⟨g1, 2, none⟩ (.int .i64 i)) [(g2, 287, Z), (g1, 287, U)]) := (by have h := (MW.set1 (pre := [(g2, 287, Z)]) (post := []) HM3.out 2 (.int .i64 i)); rw [HUS.out] at h; exact h)
      have HRr : Hid ((w3.setCell ⟨g1, 2, none⟩ (.int .i64 i)).rangeAt g1 0 U) := HM4.out.range (.tail _ (.head _))
      have HTr : Hid ((w3.setCell ⟨g1, 2, none⟩ (.int .i64 i)).there g2 0 U.toArray.size) := HM4.out.there (.head _) 0 _ (by show 0 + U.length ≤ Z.length; rw [HUF.out.len HZF.out]; omega)
      go_wp2_with (first
        | ((with_reducible show wpList _ _ _ (⟨some 17, .load _ (.tmp 2), _, _, _, _⟩ :: _) _ _); refine wpList_load_mid rfl 287 (.tmp 2) rfl g1 0 rfl U _ HRr.out Tryz.underlying287 rfl HUF.out.info ?_)
        | ((with_reducible show wpList _ _ _ (⟨none, .store _ (.tmp 4) _, _, _, _, _⟩ :: _) _ _); refine wpList_store_mid rfl 287 (.tmp 4) (.tmp 17) rfl g2 0 U.toArray rfl rfl HTr.out HUF.out.infos HUF.out.one ?_))
      have HMr : Hid (MW w ((w3.setCell ⟨g1, 2, none⟩ (.int .i64 i)).setCells g2 0 U) [(g2, 287, U), (g1, 287, U)]) := MW.set (pre := []) (post := [(g1, 287, U)]) HM4.out (HUF.out.len HZF.out)
      (try simp only [Exit.inBlock, Exit.then])
      refine bodyPost_ret (results_c2 rfl rfl (HMr.out.range (.head _)) Tryz.underlying287 rfl HUF.out.info) rfl ?_
      refine ⟨?_, HMr.out.bel⟩
      have hve : V = U := HRV.out
      rw [hve]
      rfl
end Go.Proofs.YtmkifedcanmjoaaGreat
