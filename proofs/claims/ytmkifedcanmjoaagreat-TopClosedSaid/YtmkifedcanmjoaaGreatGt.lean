/- TopClosed returns true (the law's walk). Conditions: none. -/
import Derived.Test.YtmkifedcanmjoaaGreatGr
import Derived.Test.YtmkifedcanmjoaaGreatGs
import Derived.Test.YtmkifedcanmjoaaGreatGo
set_option linter.unusedVariables false
set_option linter.unusedSimpArgs false
namespace Go.Proofs.YtmkifedcanmjoaaGreat
open Go.RowKit
attribute [local go_sem ↓] Go.wp_at_zero Go.wp_at_succ
theorem wpList_load_mid_g {P : Program} {ops : Array Oper} {rest : List Oper} {op : Oper} {a : Act} {w : World} {Q : Exit → Act → World → Prop} (hgd : Region.wanted op (yielded ops a.tmps) = true) (ty : TypeId) (x : Operand) (ho : op.op = .load ty x)
    (b o : Nat) (hx : a.eval x = .pointer (some ⟨b, o, none⟩)) (cs : List Value) (d : TypeDesc) (hc : w.rangeAt b o cs)
    (hu : P.underlying ty = some d) (hd : d.isRow = true) (hi : (P.info? ty).map (·.size) = some cs.length)
    (h : wpList P ops Q rest (a.put op.dst (.agg cs.toArray)) w) : wpList P ops Q (op :: rest) a w := by
  simp only [wpList, hgd, if_true]
  exact .inl <| wp_load_mid ty x ho b o hx cs d hc hu hd hi h
theorem WR.come : ∀ i : Nat, WR (comeR i)
  | 0 => WR.rm0 (by omega) false
  | i + 1 => (WR.come i).join _ nowB0
theorem WR.endR_ : WR endR := WR.rm0 (by omega) true
theorem come_step (i : Nat) : (joinR (comeR i) (i : Int) 0).1 = comeR (i + 1) := rfl
theorem eq_end (w : World) : (Op.equalIn 10000 56 (.agg (rL endR).toArray) (.agg #[.bool false, .bool false, .bool false, .bool false, .bool false, .bool false, .bool false, .bool false, .int .i64 0, .int .i64 0, .int .i64 0, .int .i64 0, .int .i64 0, .int .i64 0, .int .i64 0, .int .i64 0, .int .i64 65535, .bool false, .int .i64 0, .int .i64 0, .int .i64 0, .int .i64 0, .int .i64 0, .int .i64 0, .int .i64 0, .int .i64 0, .int .i64 0, .int .i64 0, .int .i64 0, .int .i64 0, .int .i64 0, .int .i64 0, .int .i64 0, .int .i64 0, .int .i64 0, .int .i64 0, .int .i64 0, .int .i64 0, .bool true])).run Tryz.prog w = .ok true w := by kernel_rfl
theorem eq_end2 (w : World) : (Op.equalIn 10000 56 (.agg (rL endR).toArray) (.agg (rL endR).toArray)).run Tryz.prog w = .ok true w := by kernel_rfl
set_option maxRecDepth 100000 in
set_option maxHeartbeats 12800000 in
theorem closedLaw_c (n who now : Nat) (hn : n < 256) (hwho : who < 256) (hnow : now < 65536) (w : World) :
    Calls Tryz.prog 5 #[.int .u8 (n : Int), .int .u8 (who : Int), .int .u16 (now : Int)] w fun e w' => e = .returned (.bool true) ∧ Below w.heap.size w w' := by
  have HAW := Lib.hid (awake_c w)
  obtain ⟨k, hk⟩ : ∃ k, k = n % 8 + 1 := ⟨_, rfl⟩
  have HK : Hid (1 ≤ k ∧ k ≤ 8) := by show _ ∧ _; omega
  have hrem : (n : Int) % 8 = ((k - 1 : Nat) : Int) := by omega
  obtain ⟨E, hE⟩ : ∃ E : List Value, E = rL endR := ⟨_, rfl⟩
  have HEF : Hid (FitL 56 E) := by show FitL _ _; rw [hE]; exact fitR WR.endR_
  have HEE := Lib.hid hE
  obtain ⟨T0, hT0⟩ : ∃ T0 : List Value, T0 = rL (comeR 0) := ⟨_, rfl⟩
  have HT0F : Hid (FitL 56 T0) := by show FitL _ _; rw [hT0]; exact fitR (WR.come 0)
  have HT0E := Lib.hid hT0
  obtain ⟨Y, hY⟩ : ∃ Y : List Value, Y = [.bool false, .bool false, .bool false, .bool false, .bool false, .bool false, .bool false, .bool false, .int .i64 0, .int .i64 0, .int .i64 0, .int .i64 0, .int .i64 0, .int .i64 0, .int .i64 0, .int .i64 0, .int .i64 0, .bool false, .int .i64 0, .int .i64 0, .int .i64 0, .int .i64 0, .int .i64 0, .int .i64 0, .int .i64 0, .int .i64 0, .int .i64 0, .int .i64 0, .int .i64 0, .int .i64 0, .int .i64 0, .int .i64 0, .int .i64 0, .int .i64 0, .int .i64 0, .int .i64 0, .int .i64 0, .int .i64 0, .bool false] := ⟨_, rfl⟩
  have HYF : Hid (FitL 56 Y) := by show FitL _ _; rw [hY]; exact fit0R
  have HYE := Lib.hid hY
  obtain ⟨X, hX⟩ : ∃ X : List Value, X = [.int .i64 0, .bool false, .int .i64 0, .int .i64 0, .int .i64 0, .int .i64 0] := ⟨_, rfl⟩
  have HXF : Hid (FitL 49 X) := by show FitL _ _; rw [hX]; exact fit0K
  have HXE := Lib.hid hX
  have HT0A : Hid (T0.toArray = #[.bool false, .bool false, .bool false, .bool false, .bool false, .bool false, .bool false, .bool false, .int .i64 0, .int .i64 0, .int .i64 0, .int .i64 0, .int .i64 0, .int .i64 0, .int .i64 0, .int .i64 0, .int .i64 65535, .bool false, .int .i64 0, .int .i64 0, .int .i64 0, .int .i64 0, .int .i64 0, .int .i64 0, .int .i64 0, .int .i64 0, .int .i64 0, .int .i64 0, .int .i64 0, .int .i64 0, .int .i64 0, .int .i64 0, .int .i64 0, .int .i64 0, .int .i64 0, .int .i64 0, .int .i64 0, .int .i64 0, .bool false]) := by show _ = _; rw [hT0]; rfl
  have HYA : Hid (Y.toArray = #[.bool false, .bool false, .bool false, .bool false, .bool false, .bool false, .bool false, .bool false, .int .i64 0, .int .i64 0, .int .i64 0, .int .i64 0, .int .i64 0, .int .i64 0, .int .i64 0, .int .i64 0, .int .i64 0, .bool false, .int .i64 0, .int .i64 0, .int .i64 0, .int .i64 0, .int .i64 0, .int .i64 0, .int .i64 0, .int .i64 0, .int .i64 0, .int .i64 0, .int .i64 0, .int .i64 0, .int .i64 0, .int .i64 0, .int .i64 0, .int .i64 0, .int .i64 0, .int .i64 0, .int .i64 0, .int .i64 0, .bool false]) := by show _ = _; rw [hY]
  have HXA : Hid (X.toArray = #[.int .i64 0, .bool false, .int .i64 0, .int .i64 0, .int .i64 0, .int .i64 0]) := by show _ = _; rw [hX]
  have HEQ1 : Hid (∀ wx : World, (Op.equalIn 10000 56 (.agg E.toArray) (.agg #[.bool false, .bool false, .bool false, .bool false, .bool false, .bool false, .bool false, .bool false, .int .i64 0, .int .i64 0, .int .i64 0, .int .i64 0, .int .i64 0, .int .i64 0, .int .i64 0, .int .i64 0, .int .i64 65535, .bool false, .int .i64 0, .int .i64 0, .int .i64 0, .int .i64 0, .int .i64 0, .int .i64 0, .int .i64 0, .int .i64 0, .int .i64 0, .int .i64 0, .int .i64 0, .int .i64 0, .int .i64 0, .int .i64 0, .int .i64 0, .int .i64 0, .int .i64 0, .int .i64 0, .int .i64 0, .int .i64 0, .bool true])).run Tryz.prog wx = .ok true wx) := fun wx => by rw [hE]; exact eq_end wx
  have HEQ2 : Hid (∀ wx : World, (Op.equalIn 10000 56 (.agg E.toArray) (.agg E.toArray)).run Tryz.prog wx = .ok true wx) := fun wx => by rw [hE]; exact eq_end2 wx
  have HKE := Lib.hid hk
  clear hE hT0 hY hX hk
  go_enter Tryz.func5, Tryz.ntmps5
  go_wp2_with fail
  refine HAW.out.mono ?_
  rintro e0 w1 ⟨rfl, hbq⟩
  have HM1 : Hid (MW w w1 []) := (MW.start w).call hbq
  clear hbq HAW
  go_upto_region 4 with (first
    | ((with_reducible show wpList _ _ _ (⟨none, .store _ (.tmp 7) _, _, _, _, _⟩ :: _) _ _); refine wpList_store_mid rfl 56 (.tmp 7) (.tmp 25) rfl w1.heap.size 0 T0.toArray rfl (congrArg Value.agg HT0A.out.symm) (there_new w1 56 #[.bool false, .bool false, .bool false, .bool false, .bool false, .bool false, .bool false, .bool false, .int .i64 0, .int .i64 0, .int .i64 0, .int .i64 0, .int .i64 0, .int .i64 0, .int .i64 0, .int .i64 0, .int .i64 0, .bool false, .int .i64 0, .int .i64 0, .int .i64 0, .int .i64 0, .int .i64 0, .int .i64 0, .int .i64 0, .int .i64 0, .int .i64 0, .int .i64 0, .int .i64 0, .int .i64 0, .int .i64 0, .int .i64 0, .int .i64 0, .int .i64 0, .int .i64 0, .int .i64 0, .int .i64 0, .int .i64 0, .bool false] _ (by show T0.length ≤ 39; have h := HT0F.out.info; rw [infoR] at h; injection h with h; omega)) HT0F.out.infos HT0F.out.one ?_))
  obtain ⟨g7, hg7⟩ : ∃ g7, g7 = w1.heap.size := ⟨_, rfl⟩
  have HMn : Hid (MW w ((w1.alloc (.cells #[.bool false, .bool false, .bool false, .bool false, .bool false, .bool false, .bool false, .bool false, .int .i64 0, .int .i64 0, .int .i64 0, .int .i64 0, .int .i64 0, .int .i64 0, .int .i64 0, .int .i64 0, .int .i64 0, .bool false, .int .i64 0, .int .i64 0, .int .i64 0, .int .i64 0, .int .i64 0, .int .i64 0, .int .i64 0, .int .i64 0, .int .i64 0, .int .i64 0, .int .i64 0, .int .i64 0, .int .i64 0, .int .i64 0, .int .i64 0, .int .i64 0, .int .i64 0, .int .i64 0, .int .i64 0, .int .i64 0, .bool false] 56)).setCells w1.heap.size 0 T0) ((w1.heap.size, 56, T0) :: [])) := by
    show MW _ _ _
    have h := HM1.out.newset 56 Y.toArray T0 (HT0F.out.len HYF.out)
    rw [HYA.out] at h
    exact h
  rw [← hg7] at HMn ⊢
  obtain ⟨w2, hw2⟩ : ∃ w2, w2 = (w1.alloc (.cells #[.bool false, .bool false, .bool false, .bool false, .bool false, .bool false, .bool false, .bool false, .int .i64 0, .int .i64 0, .int .i64 0, .int .i64 0, .int .i64 0, .int .i64 0, .int .i64 0, .int .i64 0, .int .i64 0, .bool false, .int .i64 0, .int .i64 0, .int .i64 0, .int .i64 0, .int .i64 0, .int .i64 0, .int .i64 0, .int .i64 0, .int .i64 0, .int .i64 0, .int .i64 0, .int .i64 0, .int .i64 0, .int .i64 0, .int .i64 0, .int .i64 0, .int .i64 0, .int .i64 0, .int .i64 0, .int .i64 0, .bool false] 56)).setCells g7 0 T0 := ⟨_, rfl⟩
  have HM2 : Hid (MW w w2 [(g7, 56, T0)]) := by show MW _ _ _; rw [hw2]; exact HMn.out
  rw [← hw2]
  clear hw2 HM1
  clear hg7 HMn
  go_upto_region 5 with fail
  have hk1 : ((k - 1 : Nat) : Int) + 1 = (k : Int) := by have := HK.out; omega
  rw [hk1]
  clear hk1 hrem
  go_upto_region 6 with fail
  go_loopg [9] k (fun gg v9 wx => ∃ i : Nat, gg = k - i ∧ i ≤ k ∧ v9 = .int .i64 (i : Int) ∧ MW w wx [(g7, 56, rL (comeR i))])
  case atStart => exact ⟨0, rfl, by omega, rfl, by rw [← HT0E.out]; exact HM2.out⟩
  case round =>
    obtain ⟨i, hgg, hi, rfl, hmw⟩ := hrel
    have HGG := Lib.hid hgg
    obtain ⟨T, hT⟩ : ∃ T, T = rL (comeR i) := ⟨_, rfl⟩
    have HTE := Lib.hid hT
    have HTF : Hid (FitL 56 T) := by show FitL _ _; rw [hT]; exact fitR (WR.come i)
    rw [← hT] at hmw
    have HM3 := Lib.hid hmw
    clear hgg hmw hT
    by_cases hin : i < k
    · have hini : (i : Int) < (k : Int) := by omega
      have hin0 : (0 : Int) ≤ (i : Int) := by omega
      have hw1 : IntKind.i64.wrap ((i : Int) + 1) = ((i + 1 : Nat) : Int) := by rw [IntKind.wrap_i64]; have := HK.out; omega
      obtain ⟨U, hU⟩ : ∃ U, U = rL (comeR (i + 1)) := ⟨_, rfl⟩
      have HUE := Lib.hid hU
      have HUF : Hid (FitL 56 U) := by show FitL _ _; rw [hU]; exact fitR (WR.come (i + 1))
      have HE0 : Hid ((joinR (comeR i) (i : Int) 0).2.2 = 0) := come_ok i (by have := HK.out; omega)
      obtain ⟨sl, hsl⟩ : ∃ sl, sl = (joinR (comeR i) (i : Int) 0).2.1 := ⟨_, rfl⟩
      have JOI : Hid (∀ (wx : World), Calls Tryz.prog 14 #[.agg T.toArray, .int .i64 (i : Int), .int .i64 0] wx fun e w' => e = .returned (.tuple #[.agg U.toArray, .int .i64 sl, .int .i64 0]) ∧ Below wx.heap.size wx w') := fun wx => by
        have h := join_c (comeR i) (i : Int) 0 wx (WR.come i) nowB0
        rw [HE0.out, come_step, ← hU, ← HTE.out, ← hsl] at h
        exact h
      have HLT := Lib.hid hin
      clear hU hsl hin hi
      have HRW : Hid (wr.rangeAt g7 0 T) := HM3.out.range (.head _)
      go_wp2_with (first
        | ((with_reducible show wpList _ _ _ (⟨some 36, .load _ (.tmp 7), _, _, _, _⟩ :: _) _ _); refine wpList_load_mid rfl 56 (.tmp 7) rfl g7 0 rfl T _ HRW.out Tryz.underlying56 rfl HTF.out.info ?_))
      clear HRW
      refine (JOI.out wr).mono ?_
      rintro e0 w4 ⟨rfl, hbq⟩
      have HM4 : Hid (MW w w4 [(g7, 56, T)]) := HM3.out.call hbq
      clear hbq HM3
      go_upto_region 9 with (first
        | ((with_reducible show wpList _ _ _ (⟨none, .store _ (.tmp 10) _, _, _, _, _⟩ :: _) _ _); refine wpList_store_mid rfl 56 (.tmp 10) (.tmp 39) rfl w4.heap.size 0 U.toArray rfl rfl (there_new w4 56 #[.bool false, .bool false, .bool false, .bool false, .bool false, .bool false, .bool false, .bool false, .int .i64 0, .int .i64 0, .int .i64 0, .int .i64 0, .int .i64 0, .int .i64 0, .int .i64 0, .int .i64 0, .int .i64 0, .bool false, .int .i64 0, .int .i64 0, .int .i64 0, .int .i64 0, .int .i64 0, .int .i64 0, .int .i64 0, .int .i64 0, .int .i64 0, .int .i64 0, .int .i64 0, .int .i64 0, .int .i64 0, .int .i64 0, .int .i64 0, .int .i64 0, .int .i64 0, .int .i64 0, .int .i64 0, .int .i64 0, .bool false] _ (by show U.length ≤ 39; have h := HUF.out.info; rw [infoR] at h; injection h with h; omega)) HUF.out.infos HUF.out.one ?_))
      obtain ⟨g10, hg10⟩ : ∃ g10, g10 = w4.heap.size := ⟨_, rfl⟩
      have HMn : Hid (MW w ((w4.alloc (.cells #[.bool false, .bool false, .bool false, .bool false, .bool false, .bool false, .bool false, .bool false, .int .i64 0, .int .i64 0, .int .i64 0, .int .i64 0, .int .i64 0, .int .i64 0, .int .i64 0, .int .i64 0, .int .i64 0, .bool false, .int .i64 0, .int .i64 0, .int .i64 0, .int .i64 0, .int .i64 0, .int .i64 0, .int .i64 0, .int .i64 0, .int .i64 0, .int .i64 0, .int .i64 0, .int .i64 0, .int .i64 0, .int .i64 0, .int .i64 0, .int .i64 0, .int .i64 0, .int .i64 0, .int .i64 0, .int .i64 0, .bool false] 56)).setCells w4.heap.size 0 U) ((w4.heap.size, 56, U) :: [(g7, 56, T)])) := by
        show MW _ _ _
        have h := HM4.out.newset 56 Y.toArray U (HUF.out.len HYF.out)
        rw [HYA.out] at h
        exact h
      rw [← hg10] at HMn ⊢
      obtain ⟨w5, hw5⟩ : ∃ w5, w5 = (w4.alloc (.cells #[.bool false, .bool false, .bool false, .bool false, .bool false, .bool false, .bool false, .bool false, .int .i64 0, .int .i64 0, .int .i64 0, .int .i64 0, .int .i64 0, .int .i64 0, .int .i64 0, .int .i64 0, .int .i64 0, .bool false, .int .i64 0, .int .i64 0, .int .i64 0, .int .i64 0, .int .i64 0, .int .i64 0, .int .i64 0, .int .i64 0, .int .i64 0, .int .i64 0, .int .i64 0, .int .i64 0, .int .i64 0, .int .i64 0, .int .i64 0, .int .i64 0, .int .i64 0, .int .i64 0, .int .i64 0, .int .i64 0, .bool false] 56)).setCells g10 0 U := ⟨_, rfl⟩
      have HM5 : Hid (MW w w5 [(g10, 56, U), (g7, 56, T)]) := by show MW _ _ _; rw [hw5]; exact HMn.out
      rw [← hw5]
      clear hw5 HM4
      clear hg10 HMn
      have HRW : Hid (w5.rangeAt g10 0 U) := HM5.out.range (.head _)
      have HTH : Hid (w5.there g7 0 U.toArray.size) := HM5.out.there (.tail _ (.head _)) 0 _ (by show 0 + U.length ≤ T.length; rw [HUF.out.len HTF.out]; omega)
      go_wp2_with (first
        | ((with_reducible show wpList _ _ _ (⟨some 44, .load _ (.tmp 10), _, _, _, _⟩ :: _) _ _); refine wpList_load_mid rfl 56 (.tmp 10) rfl g10 0 rfl U _ HRW.out Tryz.underlying56 rfl HUF.out.info ?_)
        | ((with_reducible show wpList _ _ _ (⟨none, .store _ (.tmp 7) _, _, _, _, _⟩ :: _) _ _); refine wpList_store_mid rfl 56 (.tmp 7) (.tmp 44) rfl g7 0 U.toArray rfl rfl HTH.out HUF.out.infos HUF.out.one ?_))
      have HMr : Hid (MW w (w5.setCells g7 0 U) [(g10, 56, U), (g7, 56, U)]) := MW.set (pre := [(g10, 56, U)]) (post := []) HM5.out (HUF.out.len HTF.out)
      go_roundg (k - (i + 1))
      case measure => have := HLT.out; have := HGG.out; omega
      case rel =>
        have hlt := HLT.out
        exact ⟨i + 1, rfl, by omega, by first | rfl | go_num, by rw [← HUE.out]; exact HMr.out.drop (.cons _ (List.Sublist.refl _))⟩
    · have hini : ¬ (i : Int) < (k : Int) := by omega
      have hie : i = k := by omega
      subst hie
      clear hin hi
      obtain ⟨i', hi'⟩ : ∃ j, i = j + 1 := ⟨i - 1, by have := HK.out; omega⟩
      obtain ⟨av, hav⟩ : ∃ av, av = who % i := ⟨_, rfl⟩
      have HAV : Hid (av < i) := by show av < i; rw [hav]; exact Nat.mod_lt _ (by have := HK.out; omega)
      have HLV : Hid (leaveR (comeR i) (av : Int) (now : Int) = (endR, 0)) := by
        show _ = _
        have h1 := HK.out
        have h2 := HAV.out
        rw [hi'] at h1 h2 ⊢
        exact leave_end (by omega) (by omega) _
      have HNB : Hid (NowB (now : Int)) := by show NowB _; unfold NowB; omega
      have HTI : Hid ((tickR (comeR i) 10000).1 = endR ∧ (tickR (comeR i) 10000).2.length = i) := by
        have h1 := HK.out
        have h := tick_end i' (by omega)
        rw [Bool.and_eq_true, ← hi'] at h
        refine ⟨eqR_eq h.1, ?_⟩
        have := h.2
        simp only [beq_iff_eq] at this
        rw [this, hi']
      have HRA : Hid ((raiseK (comeR i).k 1 0).2 = 11) := by
        have h1 := HK.out
        rw [hi']
        exact raise_end i' (by omega)
      have LEA : Hid (∀ (wx : World), Calls Tryz.prog 15 #[.agg T.toArray, .int .i64 (av : Int), .int .i64 (now : Int)] wx fun e w' => e = .returned (.tuple #[.agg E.toArray, .int .i64 0]) ∧ Below wx.heap.size wx w') := fun wx => by
        have h := leave_c (comeR i) (av : Int) (now : Int) wx (WR.come i) HNB.out
        rw [HLV.out, ← HEE.out, ← HTE.out] at h
        exact h
      obtain ⟨jr, hjr⟩ : ∃ jr, jr = joinR endR 9 (now : Int) := ⟨_, rfl⟩
      have HJW : Hid (WR jr.1) := by show WR _; rw [hjr]; exact WR.endR_.join 9 HNB.out
      have HJ12 : Hid (jr.2.2 = 12) := by show _ = _; rw [hjr]; exact end_join _
      obtain ⟨js, hjs⟩ : ∃ js, js = jr.2.1 := ⟨_, rfl⟩
      obtain ⟨V, hV⟩ : ∃ V : List Value, V = rL jr.1 := ⟨_, rfl⟩
      have HVF : Hid (FitL 56 V) := by show FitL _ _; rw [hV]; exact fitR HJW.out
      have HVE := Lib.hid hV
      obtain ⟨K0, hK0⟩ : ∃ K0 : List Value, K0 = kL (comeR i).k := ⟨_, rfl⟩
      have HK0F : Hid (FitL 49 K0) := by show FitL _ _; rw [hK0]; exact fitK _
      have HK0E := Lib.hid hK0
      obtain ⟨K1, hK1⟩ : ∃ K1 : List Value, K1 = kL (raiseK (comeR i).k 1 0).1 := ⟨_, rfl⟩
      have HK1F : Hid (FitL 49 K1) := by show FitL _ _; rw [hK1]; exact fitK _
      have HK1E := Lib.hid hK1
      have JO9 : Hid (∀ (wx : World), Calls Tryz.prog 14 #[.agg E.toArray, .int .i64 9, .int .i64 (now : Int)] wx fun e w' => e = .returned (.tuple #[.agg V.toArray, .int .i64 js, .int .i64 12]) ∧ Below wx.heap.size wx w') := fun wx => by
        have h := join_c endR 9 (now : Int) wx WR.endR_ HNB.out
        rw [← hjr, HJ12.out, ← hjs, ← HEE.out, ← hV] at h
        exact h
      have TIC : Hid (∀ (wx : World), Calls Tryz.prog 16 #[.agg T.toArray, .int .i64 10000] wx fun e w' => ∃ v, e = .returned (.tuple #[.agg E.toArray, v]) ∧ (∃ A c, v = .slice A i c) ∧ Below wx.heap.size wx w') := fun wx => by
        have h := tick_c (comeR i) 10000 wx (WR.come i) (by unfold NowB; decide)
        rw [HTI.out.1, ← HEE.out, ← HTE.out] at h
        refine h.mono ?_
        rintro e w' ⟨v, rfl, hr, hb⟩
        rw [HTI.out.2] at hr
        obtain ⟨A, c, rfl, _⟩ := hr.form
        exact ⟨_, rfl, ⟨A, c, rfl⟩, hb⟩
      have RAI : Hid (∀ (wx : World), Calls Tryz.prog 17 #[.agg K0.toArray, .int .i64 1, .int .i64 0] wx fun e w' => e = .returned (.tuple #[.agg K1.toArray, .int .i64 11]) ∧ Below wx.heap.size wx w') := fun wx => by
        have h := raise_c (comeR i).k 1 0 wx (WR.come i).2.1
        rw [HRA.out, ← hK0, ← hK1] at h
        exact h
      have HTK : Hid (∀ j v, K0[j]? = some v → T[16 + j]? = some v) := by show ∀ _ _, _; rw [HTE.out, hK0]; exact rL_kpart (WR.come i)
      have HOV : Hid (E[38]? = some (.bool true)) := by show _ = _; rw [HEE.out]; exact rL_over WR.endR_
      have hmod : (who : Int) % (i : Int) = (av : Int) := by rw [hav]; norm_cast
      have hi0 : ¬ (i : Int) = 0 := by have := HK.out; omega
      have hi00 : ¬ i = 0 := by have := HK.out; omega
      have hipos : (0 : Int) < (i : Int) := by have := HK.out; omega
      have htm : Int.tmod (who : Int) (i : Int) = (av : Int) := by rw [hav]; norm_cast
      have hwr1 : IntKind.i64.wrap (who : Int) = (who : Int) := by rw [IntKind.wrap_i64]; omega
      have hwr2 : IntKind.i64.wrap (now : Int) = (now : Int) := by rw [IntKind.wrap_i64]; omega
      clear hi' hjr hjs hV hK0 hK1 hav
      go_upto_region 12 with fail
      go_cut [13, 14] (fun v13 v14 wx => ∃ g13, v13 = .pointer (some ⟨g13, 0, none⟩) ∧ v14 = .int .i64 0 ∧ MW w wx [(g13, 56, E), (g7, 56, T)])
      case first =>
        obtain ⟨w4, hw4⟩ : ∃ w4, w4 = wr.drew := ⟨_, rfl⟩
        have HM4 : Hid (MW w w4 [(g7, 56, T)]) := by show MW _ _ _; rw [hw4]; exact HM3.out.drew
        refine wp_region_held_drew (S := (fun w' => MW w w' [(g7, 56, T)])) (by kernel_rfl) (by rw [← hw4]; exact (HM4.out.drop (.cons_cons _ .slnil))) (fun hHeld => ?_)
        rw [← hw4] at hHeld ⊢
        clear hw4 HM3
        refine wpAnyH_takeAt (i := 0) (v := (.agg T.toArray)) rfl (by kernel_rfl) (by kernel_rfl) (by kernel_rfl) (fun _ _ _ h => h) rfl (yieldsIf_load_mid (by rfl) 56 _ rfl g7 0 rfl T _ (fun w' hS => (hS.range (.head _))) Tryz.underlying56 rfl HTF.out.info) hHeld ?_
        simp only [List.set_cons_zero, List.set_cons_succ]
        refine wpAnyH_takeAt (i := 1) (v := (.int .u8 (who : Int))) rfl (by kernel_rfl) (by kernel_rfl) (by kernel_rfl) (fun _ _ _ h => h) rfl (Or.inl ⟨by rfl, fun w' hS => ?_⟩) hHeld ?_
        · go_simp
        simp only [List.set_cons_zero, List.set_cons_succ]
        refine wpAnyH_takeAt (i := 2) (v := (.int .i64 (who : Int))) rfl (by kernel_rfl) (by kernel_rfl) (by kernel_rfl) (fun _ _ _ h => h) rfl (Or.inl ⟨by rfl, fun w' hS => ?_⟩) hHeld ?_
        · go_simp
        simp only [List.set_cons_zero, List.set_cons_succ]
        refine wpAnyH_takeAt (i := 3) (v := (.int .i64 (i : Int))) rfl (by kernel_rfl) (by kernel_rfl) (by kernel_rfl) (fun _ _ _ h => h) rfl (Or.inl ⟨by rfl, fun w' hS => ?_⟩) hHeld ?_
        · go_simp
        simp only [List.set_cons_zero, List.set_cons_succ]
        refine wpAnyH_takeAt (i := 4) (v := (.int .i64 (av : Int))) rfl (by kernel_rfl) (by kernel_rfl) (by kernel_rfl) (fun _ _ _ h => h) rfl (Or.inl ⟨by rfl, fun w' hS => ?_⟩) hHeld ?_
        · go_simp
        simp only [List.set_cons_zero, List.set_cons_succ]
        refine wpAnyH_takeAt (i := 5) (v := (.int .u16 (now : Int))) rfl (by kernel_rfl) (by kernel_rfl) (by kernel_rfl) (fun _ _ _ h => h) rfl (Or.inl ⟨by rfl, fun w' hS => ?_⟩) hHeld ?_
        · go_simp
        simp only [List.set_cons_zero, List.set_cons_succ]
        refine wpAnyH_takeAt (i := 6) (v := (.int .i64 (now : Int))) rfl (by kernel_rfl) (by kernel_rfl) (by kernel_rfl) (fun _ _ _ h => h) rfl (Or.inl ⟨by rfl, fun w' hS => ?_⟩) hHeld ?_
        · go_simp
        simp only [List.set_cons_zero, List.set_cons_succ]
        refine wpAnyH_ready (rs := [7, 11]) (by kernel_rfl) (by simp) (AllReadyH.cons rfl (fun K' hK => ?_) (AllReadyH.cons rfl (fun K' hK => ?_) AllReadyH.nil))
        · go_simp
          go_at_call 15
          refine (LEA.out w4).mono ?_
          rintro e0 w5 ⟨rfl, hbq⟩
          have HM5 : Hid (MW w w5 [(g7, 56, T)]) := HM4.out.call hbq
          clear hbq
          go_wp2_with fail
          refine hK.out _ _ (HM5.out.drop (.cons_cons _ .slnil)) (fun hHeld' => ?_)
          clear hK hHeld HM4
          have hHeld := hHeld'
          clear hHeld'
          refine wpAnyH_takeAt (i := 8) (v := (.tuple #[.agg E.toArray, .int .i64 0])) rfl (by kernel_rfl) (by kernel_rfl) (by kernel_rfl) (fun _ _ _ h => h) rfl (Or.inl ⟨by rfl, fun w' hS => ?_⟩) hHeld ?_
          · go_simp
          simp only [List.set_cons_zero, List.set_cons_succ]
          refine wpAnyH_takeAt (i := 9) (v := (.agg E.toArray)) rfl (by kernel_rfl) (by kernel_rfl) (by kernel_rfl) (fun _ _ _ h => h) rfl (Or.inl ⟨by rfl, fun w' hS => ?_⟩) hHeld ?_
          · go_simp
          simp only [List.set_cons_zero, List.set_cons_succ]
          refine wpAnyH_takeAt (i := 10) (v := (.int .i64 0)) rfl (by kernel_rfl) (by kernel_rfl) (by kernel_rfl) (fun _ _ _ h => h) rfl (Or.inl ⟨by rfl, fun w' hS => ?_⟩) hHeld ?_
          · go_simp
          simp only [List.set_cons_zero, List.set_cons_succ]
          refine wpAnyH_ready (rs := [11]) (by kernel_rfl) (by simp) (AllReadyH.cons rfl (fun K' hK => ?_) AllReadyH.nil)
          go_simp
          obtain ⟨g13, hg13⟩ : ∃ g13, g13 = w5.heap.size := ⟨_, rfl⟩
          obtain ⟨w6, hw6⟩ : ∃ w6, w6 = w5.alloc (.cells #[.bool false, .bool false, .bool false, .bool false, .bool false, .bool false, .bool false, .bool false, .int .i64 0, .int .i64 0, .int .i64 0, .int .i64 0, .int .i64 0, .int .i64 0, .int .i64 0, .int .i64 0, .int .i64 0, .bool false, .int .i64 0, .int .i64 0, .int .i64 0, .int .i64 0, .int .i64 0, .int .i64 0, .int .i64 0, .int .i64 0, .int .i64 0, .int .i64 0, .int .i64 0, .int .i64 0, .int .i64 0, .int .i64 0, .int .i64 0, .int .i64 0, .int .i64 0, .int .i64 0, .int .i64 0, .int .i64 0, .bool false] 56) := ⟨_, rfl⟩
          have HM6 : Hid (MW w w6 [(g13, 56, Y), (g7, 56, T)]) := by
            show MW _ _ _
            have h := HM5.out.alloc 56 [.bool false, .bool false, .bool false, .bool false, .bool false, .bool false, .bool false, .bool false, .int .i64 0, .int .i64 0, .int .i64 0, .int .i64 0, .int .i64 0, .int .i64 0, .int .i64 0, .int .i64 0, .int .i64 0, .bool false, .int .i64 0, .int .i64 0, .int .i64 0, .int .i64 0, .int .i64 0, .int .i64 0, .int .i64 0, .int .i64 0, .int .i64 0, .int .i64 0, .int .i64 0, .int .i64 0, .int .i64 0, .int .i64 0, .int .i64 0, .int .i64 0, .int .i64 0, .int .i64 0, .int .i64 0, .int .i64 0, .bool false]
            rw [hw6, hg13, HYE.out]
            exact h
          rw [← hw6, ← hg13]
          clear hw6 hg13
          refine hK.out _ _ (HM6.out.drop (.cons _ (.cons_cons _ .slnil))) (fun hHeld' => ?_)
          clear hK hHeld HM5
          have hHeld := hHeld'
          clear hHeld'
          refine wpAnyH_ready (rs := [12]) (by kernel_rfl) (by simp) (AllReadyH.cons rfl (fun K' hK => ?_) AllReadyH.nil)
          rw [if_pos (by rfl)]
          refine wp_store_mid 56 (.tmp 13) (.tmp 54) (by rfl) g13 0 E.toArray (by rfl) (by rfl) (HM6.out.there (.head _) 0 _ (by show 0 + E.length ≤ Y.length; rw [HEF.out.len HYF.out]; omega)) HEF.out.infos HEF.out.one ?_
          obtain ⟨w7, hw7⟩ : ∃ w7, w7 = w6.setCells g13 0 E := ⟨_, rfl⟩
          have HM7 : Hid (MW w w7 [(g13, 56, E), (g7, 56, T)]) := by show MW _ _ _; rw [hw7]; exact MW.set (pre := []) (post := [(g7, 56, T)]) HM6.out (HEF.out.len HYF.out)
          rw [← hw7]
          clear hw7
          refine hK.out _ _ (HM7.out.drop (.cons _ (.cons_cons _ .slnil))) (fun hHeld' => ?_)
          clear hK hHeld HM6
          have hHeld := hHeld'
          clear hHeld'
          refine wpAnyH_putNone rfl ?_
          refine wpAnyH_takeAt (i := 13) (v := (.int .i64 0)) rfl (by kernel_rfl) (by kernel_rfl) (by kernel_rfl) (fun _ _ _ h => h) rfl (Or.inl ⟨by rfl, fun w' hS => ?_⟩) hHeld ?_
          · go_simp
          simp only [List.set_cons_zero, List.set_cons_succ]
          refine wpAnyH_done (by kernel_rfl) ?_ _
          go_wp2_with fail
          go_meet
          exact ⟨g13, rfl, rfl, HM7.out⟩
        · go_simp
          obtain ⟨g13, hg13⟩ : ∃ g13, g13 = w4.heap.size := ⟨_, rfl⟩
          obtain ⟨w5, hw5⟩ : ∃ w5, w5 = w4.alloc (.cells #[.bool false, .bool false, .bool false, .bool false, .bool false, .bool false, .bool false, .bool false, .int .i64 0, .int .i64 0, .int .i64 0, .int .i64 0, .int .i64 0, .int .i64 0, .int .i64 0, .int .i64 0, .int .i64 0, .bool false, .int .i64 0, .int .i64 0, .int .i64 0, .int .i64 0, .int .i64 0, .int .i64 0, .int .i64 0, .int .i64 0, .int .i64 0, .int .i64 0, .int .i64 0, .int .i64 0, .int .i64 0, .int .i64 0, .int .i64 0, .int .i64 0, .int .i64 0, .int .i64 0, .int .i64 0, .int .i64 0, .bool false] 56) := ⟨_, rfl⟩
          have HM5 : Hid (MW w w5 [(g13, 56, Y), (g7, 56, T)]) := by
            show MW _ _ _
            have h := HM4.out.alloc 56 [.bool false, .bool false, .bool false, .bool false, .bool false, .bool false, .bool false, .bool false, .int .i64 0, .int .i64 0, .int .i64 0, .int .i64 0, .int .i64 0, .int .i64 0, .int .i64 0, .int .i64 0, .int .i64 0, .bool false, .int .i64 0, .int .i64 0, .int .i64 0, .int .i64 0, .int .i64 0, .int .i64 0, .int .i64 0, .int .i64 0, .int .i64 0, .int .i64 0, .int .i64 0, .int .i64 0, .int .i64 0, .int .i64 0, .int .i64 0, .int .i64 0, .int .i64 0, .int .i64 0, .int .i64 0, .int .i64 0, .bool false]
            rw [hw5, hg13, HYE.out]
            exact h
          rw [← hw5, ← hg13]
          clear hw5 hg13
          refine hK.out _ _ (HM5.out.drop (.cons _ (.cons_cons _ .slnil))) (fun hHeld' => ?_)
          clear hK hHeld HM4
          have hHeld := hHeld'
          clear hHeld'
          refine wpAnyH_ready (rs := [7]) (by kernel_rfl) (by simp) (AllReadyH.cons rfl (fun K' hK => ?_) AllReadyH.nil)
          go_simp
          go_at_call 15
          refine (LEA.out w5).mono ?_
          rintro e0 w6 ⟨rfl, hbq⟩
          have HM6 : Hid (MW w w6 [(g13, 56, Y), (g7, 56, T)]) := HM5.out.call hbq
          clear hbq
          go_wp2_with fail
          refine hK.out _ _ (HM6.out.drop (.cons _ (.cons_cons _ .slnil))) (fun hHeld' => ?_)
          clear hK hHeld HM5
          have hHeld := hHeld'
          clear hHeld'
          refine wpAnyH_takeAt (i := 8) (v := (.tuple #[.agg E.toArray, .int .i64 0])) rfl (by kernel_rfl) (by kernel_rfl) (by kernel_rfl) (fun _ _ _ h => h) rfl (Or.inl ⟨by rfl, fun w' hS => ?_⟩) hHeld ?_
          · go_simp
          simp only [List.set_cons_zero, List.set_cons_succ]
          refine wpAnyH_takeAt (i := 9) (v := (.agg E.toArray)) rfl (by kernel_rfl) (by kernel_rfl) (by kernel_rfl) (fun _ _ _ h => h) rfl (Or.inl ⟨by rfl, fun w' hS => ?_⟩) hHeld ?_
          · go_simp
          simp only [List.set_cons_zero, List.set_cons_succ]
          refine wpAnyH_takeAt (i := 10) (v := (.int .i64 0)) rfl (by kernel_rfl) (by kernel_rfl) (by kernel_rfl) (fun _ _ _ h => h) rfl (Or.inl ⟨by rfl, fun w' hS => ?_⟩) hHeld ?_
          · go_simp
          simp only [List.set_cons_zero, List.set_cons_succ]
          refine wpAnyH_ready (rs := [12]) (by kernel_rfl) (by simp) (AllReadyH.cons rfl (fun K' hK => ?_) AllReadyH.nil)
          rw [if_pos (by rfl)]
          refine wp_store_mid 56 (.tmp 13) (.tmp 54) (by rfl) g13 0 E.toArray (by rfl) (by rfl) (HM6.out.there (.head _) 0 _ (by show 0 + E.length ≤ Y.length; rw [HEF.out.len HYF.out]; omega)) HEF.out.infos HEF.out.one ?_
          obtain ⟨w7, hw7⟩ : ∃ w7, w7 = w6.setCells g13 0 E := ⟨_, rfl⟩
          have HM7 : Hid (MW w w7 [(g13, 56, E), (g7, 56, T)]) := by show MW _ _ _; rw [hw7]; exact MW.set (pre := []) (post := [(g7, 56, T)]) HM6.out (HEF.out.len HYF.out)
          rw [← hw7]
          clear hw7
          refine hK.out _ _ (HM7.out.drop (.cons _ (.cons_cons _ .slnil))) (fun hHeld' => ?_)
          clear hK hHeld HM6
          have hHeld := hHeld'
          clear hHeld'
          refine wpAnyH_putNone rfl ?_
          refine wpAnyH_takeAt (i := 13) (v := (.int .i64 0)) rfl (by kernel_rfl) (by kernel_rfl) (by kernel_rfl) (fun _ _ _ h => h) rfl (Or.inl ⟨by rfl, fun w' hS => ?_⟩) hHeld ?_
          · go_simp
          simp only [List.set_cons_zero, List.set_cons_succ]
          refine wpAnyH_done (by kernel_rfl) ?_ _
          go_wp2_with fail
          go_meet
          exact ⟨g13, rfl, rfl, HM7.out⟩
      case rest =>
        obtain ⟨g13, rfl, rfl, hmc⟩ := hcut
        obtain ⟨w20, hw20⟩ : ∃ w20, w20 = wc := ⟨_, rfl⟩
        rw [← hw20] at hmc ⊢
        clear hw20
        have HM20 := Lib.hid hmc
        clear hmc HM3
        have HRW : Hid (w20.rangeAt g13 0 E) := HM20.out.range (.head _)
        go_wp2_with (first
          | ((with_reducible show wpList _ _ _ (⟨some 57, .load _ (.tmp 13), _, _, _, _⟩ :: _) _ _); refine wpList_load_mid rfl 56 (.tmp 13) rfl g13 0 rfl E _ HRW.out Tryz.underlying56 rfl HEF.out.info ?_))
        clear HRW
        refine (JO9.out w20).mono ?_
        rintro e0 w21 ⟨rfl, hbq⟩
        have HM21 : Hid (MW w w21 [(g13, 56, E), (g7, 56, T)]) := HM20.out.call hbq
        clear hbq HM20
        go_upto_region 14 with (first
          | ((with_reducible show wpList _ _ _ (⟨none, .store _ (.tmp 15) _, _, _, _, _⟩ :: _) _ _); refine wpList_store_mid rfl 56 (.tmp 15) (.tmp 61) rfl w21.heap.size 0 V.toArray rfl rfl (there_new w21 56 #[.bool false, .bool false, .bool false, .bool false, .bool false, .bool false, .bool false, .bool false, .int .i64 0, .int .i64 0, .int .i64 0, .int .i64 0, .int .i64 0, .int .i64 0, .int .i64 0, .int .i64 0, .int .i64 0, .bool false, .int .i64 0, .int .i64 0, .int .i64 0, .int .i64 0, .int .i64 0, .int .i64 0, .int .i64 0, .int .i64 0, .int .i64 0, .int .i64 0, .int .i64 0, .int .i64 0, .int .i64 0, .int .i64 0, .int .i64 0, .int .i64 0, .int .i64 0, .int .i64 0, .int .i64 0, .int .i64 0, .bool false] _ (by show V.length ≤ 39; have h := HVF.out.info; rw [infoR] at h; injection h with h; omega)) HVF.out.infos HVF.out.one ?_))
        obtain ⟨g15, hg15⟩ : ∃ g15, g15 = w21.heap.size := ⟨_, rfl⟩
        have HMn : Hid (MW w ((w21.alloc (.cells #[.bool false, .bool false, .bool false, .bool false, .bool false, .bool false, .bool false, .bool false, .int .i64 0, .int .i64 0, .int .i64 0, .int .i64 0, .int .i64 0, .int .i64 0, .int .i64 0, .int .i64 0, .int .i64 0, .bool false, .int .i64 0, .int .i64 0, .int .i64 0, .int .i64 0, .int .i64 0, .int .i64 0, .int .i64 0, .int .i64 0, .int .i64 0, .int .i64 0, .int .i64 0, .int .i64 0, .int .i64 0, .int .i64 0, .int .i64 0, .int .i64 0, .int .i64 0, .int .i64 0, .int .i64 0, .int .i64 0, .bool false] 56)).setCells w21.heap.size 0 V) ((w21.heap.size, 56, V) :: [(g13, 56, E), (g7, 56, T)])) := by
          show MW _ _ _
          have h := HM21.out.newset 56 Y.toArray V (HVF.out.len HYF.out)
          rw [HYA.out] at h
          exact h
        rw [← hg15] at HMn ⊢
        obtain ⟨w22, hw22⟩ : ∃ w22, w22 = (w21.alloc (.cells #[.bool false, .bool false, .bool false, .bool false, .bool false, .bool false, .bool false, .bool false, .int .i64 0, .int .i64 0, .int .i64 0, .int .i64 0, .int .i64 0, .int .i64 0, .int .i64 0, .int .i64 0, .int .i64 0, .bool false, .int .i64 0, .int .i64 0, .int .i64 0, .int .i64 0, .int .i64 0, .int .i64 0, .int .i64 0, .int .i64 0, .int .i64 0, .int .i64 0, .int .i64 0, .int .i64 0, .int .i64 0, .int .i64 0, .int .i64 0, .int .i64 0, .int .i64 0, .int .i64 0, .int .i64 0, .int .i64 0, .bool false] 56)).setCells g15 0 V := ⟨_, rfl⟩
        have HM22 : Hid (MW w w22 [(g15, 56, V), (g13, 56, E), (g7, 56, T)]) := by show MW _ _ _; rw [hw22]; exact HMn.out
        rw [← hw22]
        clear hw22 HM21
        clear hg15 HMn
        have HRW : Hid (w22.rangeAt g7 0 T) := HM22.out.range (.tail _ (.tail _ (.head _)))
        go_wp2_with (first
          | ((with_reducible show wpList _ _ _ (⟨some 65, .load _ (.tmp 7), _, _, _, _⟩ :: _) _ _); refine wpList_load_mid rfl 56 (.tmp 7) rfl g7 0 rfl T _ HRW.out Tryz.underlying56 rfl HTF.out.info ?_))
        clear HRW
        refine (TIC.out w22).mono ?_
        rintro e0 w23 ⟨v, rfl, ⟨Av, cv, rfl⟩, hbq⟩
        have HM23 : Hid (MW w w23 [(g15, 56, V), (g13, 56, E), (g7, 56, T)]) := HM22.out.call hbq
        clear hbq HM22
        go_upto_region 15 with (first
          | ((with_reducible show wpList _ _ _ (⟨none, .store _ (.tmp 18) _, _, _, _, _⟩ :: _) _ _); refine wpList_store_mid rfl 56 (.tmp 18) (.tmp 67) rfl w23.heap.size 0 E.toArray rfl rfl (there_new w23 56 #[.bool false, .bool false, .bool false, .bool false, .bool false, .bool false, .bool false, .bool false, .int .i64 0, .int .i64 0, .int .i64 0, .int .i64 0, .int .i64 0, .int .i64 0, .int .i64 0, .int .i64 0, .int .i64 0, .bool false, .int .i64 0, .int .i64 0, .int .i64 0, .int .i64 0, .int .i64 0, .int .i64 0, .int .i64 0, .int .i64 0, .int .i64 0, .int .i64 0, .int .i64 0, .int .i64 0, .int .i64 0, .int .i64 0, .int .i64 0, .int .i64 0, .int .i64 0, .int .i64 0, .int .i64 0, .int .i64 0, .bool false] _ (by show E.length ≤ 39; have h := HEF.out.info; rw [infoR] at h; injection h with h; omega)) HEF.out.infos HEF.out.one ?_))
        obtain ⟨g18, hg18⟩ : ∃ g18, g18 = w23.heap.size := ⟨_, rfl⟩
        have HMn : Hid (MW w ((w23.alloc (.cells #[.bool false, .bool false, .bool false, .bool false, .bool false, .bool false, .bool false, .bool false, .int .i64 0, .int .i64 0, .int .i64 0, .int .i64 0, .int .i64 0, .int .i64 0, .int .i64 0, .int .i64 0, .int .i64 0, .bool false, .int .i64 0, .int .i64 0, .int .i64 0, .int .i64 0, .int .i64 0, .int .i64 0, .int .i64 0, .int .i64 0, .int .i64 0, .int .i64 0, .int .i64 0, .int .i64 0, .int .i64 0, .int .i64 0, .int .i64 0, .int .i64 0, .int .i64 0, .int .i64 0, .int .i64 0, .int .i64 0, .bool false] 56)).setCells w23.heap.size 0 E) ((w23.heap.size, 56, E) :: [(g15, 56, V), (g13, 56, E), (g7, 56, T)])) := by
          show MW _ _ _
          have h := HM23.out.newset 56 Y.toArray E (HEF.out.len HYF.out)
          rw [HYA.out] at h
          exact h
        rw [← hg18] at HMn ⊢
        obtain ⟨w24, hw24⟩ : ∃ w24, w24 = (w23.alloc (.cells #[.bool false, .bool false, .bool false, .bool false, .bool false, .bool false, .bool false, .bool false, .int .i64 0, .int .i64 0, .int .i64 0, .int .i64 0, .int .i64 0, .int .i64 0, .int .i64 0, .int .i64 0, .int .i64 0, .bool false, .int .i64 0, .int .i64 0, .int .i64 0, .int .i64 0, .int .i64 0, .int .i64 0, .int .i64 0, .int .i64 0, .int .i64 0, .int .i64 0, .int .i64 0, .int .i64 0, .int .i64 0, .int .i64 0, .int .i64 0, .int .i64 0, .int .i64 0, .int .i64 0, .int .i64 0, .int .i64 0, .bool false] 56)).setCells g18 0 E := ⟨_, rfl⟩
        have HM24 : Hid (MW w w24 [(g18, 56, E), (g15, 56, V), (g13, 56, E), (g7, 56, T)]) := by show MW _ _ _; rw [hw24]; exact HMn.out
        rw [← hw24]
        clear hw24 HM23
        clear hg18 HMn
        have HRW : Hid (w24.rangeAt g7 16 K0) := HM24.out.part (.tail _ (.tail _ (.tail _ (.head _)))) 16 K0 HTK.out
        go_wp2_with (first
          | ((with_reducible show wpList _ _ _ (⟨some 71, .load _ (.tmp 70), _, _, _, _⟩ :: _) _ _); refine wpList_load_mid rfl 49 (.tmp 70) rfl g7 16 rfl K0 _ HRW.out Tryz.underlying49 rfl HK0F.out.info ?_))
        clear HRW
        refine (RAI.out w24).mono ?_
        rintro e0 w25 ⟨rfl, hbq⟩
        have HM25 : Hid (MW w w25 [(g18, 56, E), (g15, 56, V), (g13, 56, E), (g7, 56, T)]) := HM24.out.call hbq
        clear hbq HM24
        go_upto_region 16 with (first
          | ((with_reducible show wpList _ _ _ (⟨none, .store _ (.tmp 20) _, _, _, _, _⟩ :: _) _ _); refine wpList_store_mid rfl 49 (.tmp 20) (.tmp 73) rfl w25.heap.size 0 K1.toArray rfl rfl (there_new w25 49 #[.int .i64 0, .bool false, .int .i64 0, .int .i64 0, .int .i64 0, .int .i64 0] _ (by show K1.length ≤ 6; have h := HK1F.out.info; rw [infoK] at h; injection h with h; omega)) HK1F.out.infos HK1F.out.one ?_))
        obtain ⟨g20, hg20⟩ : ∃ g20, g20 = w25.heap.size := ⟨_, rfl⟩
        have HMn : Hid (MW w ((w25.alloc (.cells #[.int .i64 0, .bool false, .int .i64 0, .int .i64 0, .int .i64 0, .int .i64 0] 49)).setCells w25.heap.size 0 K1) ((w25.heap.size, 49, K1) :: [(g18, 56, E), (g15, 56, V), (g13, 56, E), (g7, 56, T)])) := by
          show MW _ _ _
          have h := HM25.out.newset 49 X.toArray K1 (HK1F.out.len HXF.out)
          rw [HXA.out] at h
          exact h
        rw [← hg20] at HMn ⊢
        obtain ⟨w26, hw26⟩ : ∃ w26, w26 = (w25.alloc (.cells #[.int .i64 0, .bool false, .int .i64 0, .int .i64 0, .int .i64 0, .int .i64 0] 49)).setCells g20 0 K1 := ⟨_, rfl⟩
        have HM26 : Hid (MW w w26 [(g20, 49, K1), (g18, 56, E), (g15, 56, V), (g13, 56, E), (g7, 56, T)]) := by show MW _ _ _; rw [hw26]; exact HMn.out
        rw [← hw26]
        clear hw26 HM25
        clear hg20 HMn
        have HR13 : Hid (w26.rangeAt g13 0 E) := HM26.out.range (.tail _ (.tail _ (.tail _ (.head _))))
        have HR18 : Hid (w26.rangeAt g18 0 E) := HM26.out.range (.tail _ (.head _))
        have ck38 : w26.cell? ⟨g13, 38, none⟩ = some (.bool true) := by rw [HM26.out.cell (.tail _ (.tail _ (.tail _ (.head _)))) 38]; exact HOV.out
        have hq1 := HEQ1.out
        have hq2 := HEQ2.out
        go_wp2_with (first
          | ((with_reducible show wpList _ _ _ (⟨some 82, .load _ (.tmp 13), _, _, _, _⟩ :: _) _ _); refine wpList_load_mid_g rfl 56 (.tmp 13) rfl g13 0 rfl E _ HR13.out Tryz.underlying56 rfl HEF.out.info ?_)
          | ((with_reducible show wpList _ _ _ (⟨some 92, .load _ (.tmp 18), _, _, _, _⟩ :: _) _ _); refine wpList_load_mid_g rfl 56 (.tmp 18) rfl g18 0 rfl E _ HR18.out Tryz.underlying56 rfl HEF.out.info ?_)
          | ((with_reducible show wpList _ _ _ (⟨some 93, .load _ (.tmp 13), _, _, _, _⟩ :: _) _ _); refine wpList_load_mid_g rfl 56 (.tmp 13) rfl g13 0 rfl E _ HR13.out Tryz.underlying56 rfl HEF.out.info ?_))
        go_ret
        exact ⟨rfl, HM26.out.bel⟩
end Go.Proofs.YtmkifedcanmjoaaGreat
