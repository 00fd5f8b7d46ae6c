/- Texts of this claim, one behind the other: DNote, PostT, Taken, Do, DNew, DNewM, TAwake. Each says ahead of itself what it proves, and its conditions. -/
import Derived.Test.YtmkifedcanmjoaaGreatGq
import Derived.Test.YtmkifedcanmjoaaGreatGh
import Derived.Test.YtmkifedcanmjoaaGreatGn
import Derived.Test.YtmkifedcanmjoaaGreatGg
/- desk.note (contract). Conditions: the bytes read; said is known where it is called. -/
set_option linter.unusedVariables false
set_option linter.unusedSimpArgs false
namespace Go.Proofs.YtmkifedcanmjoaaGreat
open Go.RowKit
attribute [local go_sem ↓] Go.wp_at_zero Go.wp_at_succ
theorem infoN : (Tryz.prog.info? 172).map (·.size) = some 7 := by kernel_rfl
theorem where_some {D : DeskD} {a : Int} {p : Nat × Nat} (h : whereD D a = some p) : p.1 < 4 ∧ p.2 < 8 ∧ FindB (D.hall p.1).r.t a = some p.2 := by
  have hf : ∀ f i, whereFrom D a f i = some p → p.1 < i + f ∧ FindB (D.hall p.1).r.t a = some p.2 := by
    intro f
    induction f with
    | zero => intro i h; cases h
    | succ f ih =>
      intro i h
      unfold whereFrom at h
      split at h
      · rename_i s hs
        injection h with h
        subst h
        exact ⟨by show i < _; omega, hs⟩
      · have := ih (i + 1) h
        exact ⟨by omega, this.2⟩
  have h2 := hf 4 0 h
  refine ⟨by omega, ?_, h2.2⟩
  have h3 := h2.2
  unfold FindB at h3
  split at h3
  · have := (findFrom_some _ _ 8 0 p.2).1 h3
    omega
  · cases h3
/-- What is known of said. -/
def SaidC (g : Nat) (sd : DeskD → Nat → Nat → Nt.NoteD → DeskD × Int) (n : Nt.NoteD) : Prop :=
  ∀ (L : Lab) (w : World) (P : Ptrs) (D : DeskD) (i s a : Nat) (A : Option Addr) (c : Nat), DeskM L w g P D → i < 4 → s < 8 → FindB (D.hall i).r.t (a : Int) = some s → Nt.good n = true → n.kind ≤ 9 → n.kind ≠ 1 → ByV L w (.slice A n.bs.length c) n.bs →
    Calls Tryz.prog 60 #[.pointer (some ⟨g, 0, none⟩), .pointer (some ⟨g, i * 367, none⟩), .int .i64 (s : Int), Nt.noteV n A c] w fun e w' => e = .returned (.int .i64 (sd D i s n).2) ∧ ∃ L' P', DeskM L' w' g P' (sd D i s n).1 ∧ Stp mutX L L' w w'
theorem heard_find {D : DeskD} {i a : Nat} (hi : i < D.halls.length) : ((heardD D i a).hall i).r.t = (D.hall i).r.t := by
  unfold heardD DeskD.setRoom
  rw [DeskD.hall_set _ _ _ _ hi, if_pos rfl]
  exact alive_t _ _ _
theorem DeskM.halls {L : Lab} {w : World} {g : Nat} {P : Ptrs} {D : DeskD} (h : DeskM L w g P D) : D.halls.length = 4 := by
  obtain ⟨_, _, C, _, hC⟩ := h
  exact hC.halls
set_option maxRecDepth 100000 in
set_option maxHeartbeats 12800000 in
theorem note_c {L : Lab} {w : World} {g : Nat} {P : Ptrs} {D : DeskD} (hd : DeskM L w g P D) {a : Nat} (ha : a < 64) {vb : Value} {b : List UInt8} (hb : SlV w vb b) (hl : b.length ≤ 140737488355328) (sd : DeskD → Nat → Nat → Nt.NoteD → DeskD × Int) (hs : (Nt.noteS b).kind ≠ 1 → SaidC g sd (Nt.noteS b)) :
    Calls Tryz.prog 30 #[.pointer (some ⟨g, 0, none⟩), .int .i64 (a : Int), vb] w fun e w' => e = .returned (.tuple #[]) ∧ ∃ L' P', DeskM L' w' g P' (noteD sd D a b) ∧ Stp mutX L L' w w' := by
  obtain ⟨A, c, rfl, hc, hr⟩ := hb
  have HPA := Lib.hid (Nt.parse_c b A c w hr hl hc)
  obtain ⟨nl, hnl⟩ : ∃ nl, nl = b.length := ⟨_, rfl⟩
  rw [← hnl] at HPA ⊢
  obtain ⟨res, hres⟩ : ∃ res, res = noteD sd D a b := ⟨_, rfl⟩
  have HRE : Hid (res = noteD sd D a b) := hres
  obtain ⟨d, hdd⟩ : ∃ d, d = Nt.noteS b := ⟨_, rfl⟩
  obtain ⟨er, her⟩ : ∃ er, er = Nt.errS b := ⟨_, rfl⟩
  have HGOOD : Hid (er = 0 → Nt.good d = true) := by show _ → _; intro h; rw [hdd]; exact (Nt.note_good (by rw [← her]; exact h)).1
  have HRE2 : Hid (res = if er ≠ 0 then noD D a er 0 else if 9 < d.kind then noD D a 1 0 else noteR sd D a d (whereD D a)) := by show _ = _; rw [hres, hdd, her]; rfl
  unfold Nt.ParseRet at HPA
  rw [← hdd, ← her] at HPA
  rw [← hdd] at hs
  have HS := Lib.hid hs
  have HA := Lib.hid ha
  have HD := Lib.hid hd
  have HM0 : Hid (DW mutX w L w L g P D []) := DW.start mutX hd
  obtain ⟨wh, hwh⟩ : ∃ wh, wh = whereD D a := ⟨_, rfl⟩
  have HWH := Lib.hid hwh
  rw [← hwh] at HRE2
  rw [← hres]
  have HDD : Hid (d = d) := rfl
  clear hd hc hr hl hnl hres hdd her hs ha HRE hwh
  go_enter Tryz.func30, Tryz.ntmps30
  go_wp2_with fail
  refine HPA.out.mono ?_
  rintro e0 w1 ⟨A2, c2, rfl, hrow, hbq⟩
  have HM1 : Hid (DW mutX w L w1 L g P D []) := HM0.out.call hbq
  have HBY1 : Hid (ByV L w1 (.slice A2 d.bs.length c2) d.bs) := ByV.ofRow hrow HD.out.top
  clear hrow hbq HM0 HPA
  obtain ⟨kind, hkind⟩ : ∃ kind, kind = d.kind := ⟨_, rfl⟩
  obtain ⟨NV, hNV⟩ : ∃ NV : List Value, NV = [.int .i64 d.kind, .int .i64 d.room, .int .i64 d.slot, .int .i64 d.epoch, .int .i64 d.n, .int .i64 d.m, .slice A2 d.bs.length c2] := ⟨_, rfl⟩
  have HNVE : Hid (Nt.noteV d A2 c2 = .agg NV.toArray) := by show _ = _; rw [hNV]; rfl
  have HNVF : Hid (FitL 172 NV) := by show FitL _ _; rw [hNV]; exact ⟨infoN, by simp [Value.oneCell']⟩
  have HNV0 : Hid (NV[0]? = some (.int .i64 kind)) := by show _ = _; rw [hNV, hkind]; rfl
  rw [HNVE.out]
  rw [← hkind] at HRE2 HS
  have HKE := Lib.hid hkind
  clear hNV hkind
  go_upto_region 1 with (first
    | ((with_reducible show wpList _ _ _ (⟨none, .store _ (.tmp 6) _, _, _, _, _⟩ :: _) _ _); refine wpList_store_mid rfl 172 (.tmp 6) (.tmp 14) rfl w1.heap.size 0 NV.toArray rfl rfl (there_new w1 172 #[.int .i64 0, .int .i64 0, .int .i64 0, .int .i64 0, .int .i64 0, .int .i64 0, .slice none 0 0] _ (by show NV.length ≤ 7; have h := HNVF.out.info; rw [infoN] at h; injection h with h; omega)) HNVF.out.infos HNVF.out.one ?_))
  obtain ⟨q, hq⟩ : ∃ q, q = w1.heap.size := ⟨_, rfl⟩
  obtain ⟨w2, hw2⟩ : ∃ w2, w2 = (w1.alloc (.cells #[.int .i64 0, .int .i64 0, .int .i64 0, .int .i64 0, .int .i64 0, .int .i64 0, .slice none 0 0] 172)).setCells w1.heap.size 0 NV := ⟨_, rfl⟩
  obtain ⟨L2, hL2⟩ : ∃ L2, L2 = tempAt L w1.heap.size := ⟨_, rfl⟩
  have HM2 : Hid (DW mutX w L w2 L2 g P D [(q, 172, NV)]) := by
    show DW _ _ _ _ _ _ _ _ _
    rw [hw2, hq, hL2]
    exact HM1.out.newset 172 #[.int .i64 0, .int .i64 0, .int .i64 0, .int .i64 0, .int .i64 0, .int .i64 0, .slice none 0 0] NV (by show NV.length = 7; have h := HNVF.out.info; rw [infoN] at h; injection h with h; omega)
  have HBY2 : Hid (ByV L2 w2 (.slice A2 d.bs.length c2) d.bs) := by
    have hst : Stp noX L L2 w1 (w1.alloc (.cells #[.int .i64 0, .int .i64 0, .int .i64 0, .int .i64 0, .int .i64 0, .int .i64 0, .slice none 0 0] 172)) := ⟨Sv.of_below (balloc (Below.refl _ _) _), fun k hk => by rw [hL2]; unfold tempAt; rw [if_neg (by omega)], fun k hk => by
      rw [World.size_alloc] at hk
      rw [hL2]
      unfold tempAt
      rw [if_neg (by omega)]
      exact HM1.out.top k (by omega)⟩
    have h1 := HBY1.out.stp hst (fun h => h)
    have hst2 : Stp tmpX L2 L2 (w1.alloc (.cells #[.int .i64 0, .int .i64 0, .int .i64 0, .int .i64 0, .int .i64 0, .int .i64 0, .slice none 0 0] 172)) w2 := by
      rw [hw2]
      exact ⟨Sv.setCells (M := fun k => tmpX (L2 k)) (Sv.refl _ _) (.inl (by rw [hL2]; unfold tempAt tmpX; rw [if_pos rfl])) _ _, fun _ _ => rfl, fun k hk => by rw [size_setCells] at hk; exact hst.top k hk⟩
    exact h1.stp hst2 (by unfold tmpX; simp)
  rw [← hw2, ← hq]
  clear hw2 hq hL2 HM1 HBY1 HD
  have ck0 : w2.cell? ⟨q, 0, none⟩ = some (.int .i64 kind) := by rw [HM2.out.cell (.head _) 0]; exact HNV0.out
  by_cases he : er = 0
  rotate_left
  · have HV : Hid (res = noD D a er 0) := by show _ = _; rw [HRE2.out, if_pos he]
    have he1 : ((er : Int) == 0) = false := by simp [he]
    have he2 : ((er : Int) != 0) = true := by simp [he]
    clear HRE2 he
    go_wp2_with fail
    refine (no_c HM2.out.dm HA.out er 0).mono ?_
    rintro e0 w3 ⟨rfl, L3, hdq, hsq⟩
    have HM3 : Hid (DW mutX w L w3 L3 g P (noD D a er 0) [(q, 172, NV)]) := HM2.out.step (hsq.mono tellX_mut) hdq mutX_temp
    clear hdq hsq
    go_wp2_with fail
    first
      | go_end0
      | refine bodyPost_ret (results_none rfl _ _ _) rfl ?_
    exact ⟨rfl, L3, P, by rw [HV.out]; exact HM3.out.dm, HM3.out.stp⟩
  subst he
  have HGD : Hid (Nt.good d = true) := HGOOD.out rfl
  by_cases hk9 : 9 < kind
  · have HV : Hid (res = noD D a 1 0) := by show _ = _; rw [HRE2.out, if_neg (by simp), if_pos hk9]
    clear HRE2
    go_wp2_with fail
    refine (no_c HM2.out.dm HA.out 1 0).mono ?_
    rintro e0 w3 ⟨rfl, L3, hdq, hsq⟩
    have HM3 : Hid (DW mutX w L w3 L3 g P (noD D a 1 0) [(q, 172, NV)]) := HM2.out.step (hsq.mono tellX_mut) hdq mutX_temp
    clear hdq hsq
    go_wp2_with fail
    first
      | go_end0
      | refine bodyPost_ret (results_none rfl _ _ _) rfl ?_
    exact ⟨rfl, L3, P, by rw [HV.out]; exact HM3.out.dm, HM3.out.stp⟩
  have HRE3 : Hid (res = noteR sd D a d wh) := by show _ = _; rw [HRE2.out, if_neg (by simp), if_neg hk9]
  clear HRE2
  go_wp2_with fail
  refine (where_c HM2.out.dm (a : Int)).mono ?_
  rintro e0 w3 ⟨rfl, hbq⟩
  have HM3 : Hid (DW mutX w L w3 L2 g P D [(q, 172, NV)]) := HM2.out.call hbq
  have HBY3 : Hid (ByV L2 w3 (.slice A2 d.bs.length c2) d.bs) := HBY2.out.below hbq
  clear hbq ck0 HBY2
  rw [← HWH.out]
  have ck0 : w3.cell? ⟨q, 0, none⟩ = some (.int .i64 kind) := by rw [HM3.out.cell (.head _) 0]; exact HNV0.out
  cases wh with
  | none =>
    by_cases hk1 : kind = 1
    rotate_left
    · have hkb : (kind == 1) = false := by simp [hk1]
      have HV : Hid (res = noD D a 6 kind) := by show _ = _; rw [HRE3.out]; unfold noteR; rw [← HKE.out, if_neg hk1]
      clear HRE3 hk1
      unfold whereV
      go_wp2_with fail
      refine (no_c HM3.out.dm HA.out 6 kind).mono ?_
      rintro e0 w4 ⟨rfl, L4, hdq, hsq⟩
      have HM4 : Hid (DW mutX w L w4 L4 g P (noD D a 6 kind) [(q, 172, NV)]) := HM3.out.step (hsq.mono tellX_mut) hdq mutX_temp
      clear hdq hsq
      go_wp2_with fail
      first
        | go_end0
        | refine bodyPost_ret (results_none rfl _ _ _) rfl ?_
      exact ⟨rfl, L4, P, by rw [HV.out]; exact HM4.out.dm, HM4.out.stp⟩
    subst hk1
    have HV : Hid (res = if (joinD D a d).2 ≠ 0 then noD (joinD D a d).1 a (joinD D a d).2 1 else (joinD D a d).1) := by show _ = _; rw [HRE3.out]; unfold noteR; rw [← HKE.out, if_pos rfl]
    clear HRE3
    unfold whereV
    have HRO : Hid (∃ h : Nat, h < 4 ∧ d.room = (h : Int)) := by
      have h := Nt.good_fit HGD.out
      exact ⟨d.room.toNat, by omega, by omega⟩
    obtain ⟨h, hh, hrm⟩ := HRO.out
    have HJC : Hid (Calls Tryz.prog 59 #[.pointer (some ⟨g, 0, none⟩), .int .i64 (a : Int), .agg NV.toArray] w3 fun e w' => e = .returned (.int .i64 (joinD D a d).2) ∧ ∃ L', DeskM L' w' g P (joinD D a d).1 ∧ Stp mutX L2 L' w3 w') := by
      rw [← HNVE.out]
      exact djoin_c HM3.out.dm HA.out d hh hrm A2 c2
    have HRN : Hid (w3.rangeAt q 0 NV) := HM3.out.range (.head _)
    clear hh hrm HRO
    go_wp2_with (first
      | ((with_reducible show wpList _ _ _ (⟨some 59, .load _ (.tmp 6), _, _, _, _⟩ :: _) _ _); refine wpList_load_mid rfl 172 (.tmp 6) rfl q 0 rfl NV _ HRN.out Tryz.underlying172 rfl HNVF.out.info ?_))
    refine HJC.out.mono ?_
    rintro e0 w4 ⟨rfl, L4, hdq, hsq⟩
    obtain ⟨e5, he5⟩ : ∃ e5, e5 = (joinD D a d).2 := ⟨_, rfl⟩
    obtain ⟨DJ, hDJ⟩ : ∃ DJ, DJ = (joinD D a d).1 := ⟨_, rfl⟩
    rw [← hDJ] at hdq HV
    rw [← he5] at HV ⊢
    have HM4 : Hid (DW mutX w L w4 L4 g P DJ [(q, 172, NV)]) := HM3.out.step hsq hdq mutX_temp
    clear hdq hsq ck0 HJC HRN he5 hDJ
    have ck0 : w4.cell? ⟨q, 0, none⟩ = some (.int .i64 1) := by rw [HM4.out.cell (.head _) 0]; exact HNV0.out
    by_cases hz : e5 = 0
    · subst hz
      have HV2 : Hid (res = DJ) := by show _ = _; rw [HV.out, if_neg (by simp)]
      go_wp2_with fail
      first
        | go_end0
        | refine bodyPost_ret (results_none rfl _ _ _) rfl ?_
      exact ⟨rfl, L4, P, by rw [HV2.out]; exact HM4.out.dm, HM4.out.stp⟩
    · have hz2 : (e5 != 0) = true := by simp [hz]
      have HV2 : Hid (res = noD DJ a e5 1) := by show _ = _; rw [HV.out, if_pos hz]
      clear hz
      go_wp2_with fail
      refine (no_c HM4.out.dm HA.out e5 1).mono ?_
      rintro e0 w5 ⟨rfl, L5, hdq, hsq⟩
      have HM5 : Hid (DW mutX w L w5 L5 g P (noD DJ a e5 1) [(q, 172, NV)]) := HM4.out.step (hsq.mono tellX_mut) hdq mutX_temp
      clear hdq hsq
      go_wp2_with fail
      first
        | go_end0
        | refine bodyPost_ret (results_none rfl _ _ _) rfl ?_
      exact ⟨rfl, L5, P, by rw [HV2.out]; exact HM5.out.dm, HM5.out.stp⟩
  | some p =>
    obtain ⟨hi4, hs8, hfd⟩ := where_some HWH.out.symm
    obtain ⟨i, s⟩ := p
    unfold whereV hallV
    simp only at hi4 hs8 hfd
    have HI := Lib.hid hi4
    have HS8 := Lib.hid hs8
    obtain ⟨DH, hDH⟩ : ∃ DH, DH = heardD D i a := ⟨_, rfl⟩
    have HFD : Hid (FindB (DH.hall i).r.t (a : Int) = some s) := by show _ = _; rw [hDH, heard_find (by rw [HM3.out.dm.halls]; exact hi4)]; exact hfd
    have HRE4 : Hid (res = if kind = 1 then noD DH a 7 kind else (if (sd DH i s d).2 ≠ 0 then noD (sd DH i s d).1 a (sd DH i s d).2 kind else (sd DH i s d).1)) := by show _ = _; rw [HRE3.out, hDH, HKE.out]; rfl
    have HHC : Hid (Calls Tryz.prog 53 #[.pointer (some ⟨g, 0, none⟩), .pointer (some ⟨g, i * 367, none⟩), .int .i64 (a : Int)] w3 fun e w' => e = .returned (.tuple #[]) ∧ DeskM L2 w' g P DH ∧ Stp dskX L2 L2 w3 w') := by rw [hDH]; exact heard_c HM3.out.dm hi4 (a : Int)
    clear hi4 hs8 hfd hDH HRE3
    go_wp2_with fail
    refine HHC.out.mono ?_
    rintro e0 w4 ⟨rfl, hdq, hsq⟩
    have HM4 : Hid (DW mutX w L w4 L2 g P DH [(q, 172, NV)]) := HM3.out.step (hsq.mono dskX_mut) hdq mutX_temp
    have HBY4 : Hid (ByV L2 w4 (.slice A2 d.bs.length c2) d.bs) := HBY3.out.stp hsq (by unfold dskX; simp)
    clear hdq hsq ck0 HBY3 HHC
    have ck0 : w4.cell? ⟨q, 0, none⟩ = some (.int .i64 kind) := by rw [HM4.out.cell (.head _) 0]; exact HNV0.out
    by_cases hk1 : kind = 1
    · subst hk1
      have HV : Hid (res = noD DH a 7 1) := by show _ = _; rw [HRE4.out, if_pos rfl]
      clear HRE4
      go_wp2_with fail
      refine (no_c HM4.out.dm HA.out 7 1).mono ?_
      rintro e0 w5 ⟨rfl, L5, hdq, hsq⟩
      have HM5 : Hid (DW mutX w L w5 L5 g P (noD DH a 7 1) [(q, 172, NV)]) := HM4.out.step (hsq.mono tellX_mut) hdq mutX_temp
      clear hdq hsq
      go_wp2_with fail
      first
        | go_end0
        | refine bodyPost_ret (results_none rfl _ _ _) rfl ?_
      exact ⟨rfl, L5, P, by rw [HV.out]; exact HM5.out.dm, HM5.out.stp⟩
    have hkb : (kind == 1) = false := by simp [hk1]
    have HV : Hid (res = if (sd DH i s d).2 ≠ 0 then noD (sd DH i s d).1 a (sd DH i s d).2 kind else (sd DH i s d).1) := by show _ = _; rw [HRE4.out, if_neg hk1]
    have HSC : Hid (Calls Tryz.prog 60 #[.pointer (some ⟨g, 0, none⟩), .pointer (some ⟨g, i * 367, none⟩), .int .i64 (s : Int), .agg NV.toArray] w4 fun e w' => e = .returned (.int .i64 (sd DH i s d).2) ∧ ∃ L' P', DeskM L' w' g P' (sd DH i s d).1 ∧ Stp mutX L2 L' w4 w') := by
      rw [← HNVE.out]
      exact HS.out hk1 L2 w4 P DH i s a A2 c2 HM4.out.dm HI.out HS8.out HFD.out HGD.out (by rw [← HKE.out]; omega) (by rw [← HKE.out]; exact hk1) HBY4.out
    have HRN : Hid (w4.rangeAt q 0 NV) := HM4.out.range (.head _)
    clear HRE4 hk1
    go_wp2_with (first
      | ((with_reducible show wpList _ _ _ (⟨some 44, .load _ (.tmp 6), _, _, _, _⟩ :: _) _ _); refine wpList_load_mid rfl 172 (.tmp 6) rfl q 0 rfl NV _ HRN.out Tryz.underlying172 rfl HNVF.out.info ?_))
    refine HSC.out.mono ?_
    rintro e0 w5 ⟨rfl, L5, P5, hdq, hsq⟩
    obtain ⟨e5, he5⟩ : ∃ e5, e5 = (sd DH i s d).2 := ⟨_, rfl⟩
    obtain ⟨DS, hDS⟩ : ∃ DS, DS = (sd DH i s d).1 := ⟨_, rfl⟩
    rw [← hDS] at hdq HV
    rw [← he5] at HV ⊢
    have HM5 : Hid (DW mutX w L w5 L5 g P5 DS [(q, 172, NV)]) := HM4.out.step hsq hdq mutX_temp
    clear hdq hsq ck0 HSC HRN he5 hDS
    have ck0 : w5.cell? ⟨q, 0, none⟩ = some (.int .i64 kind) := by rw [HM5.out.cell (.head _) 0]; exact HNV0.out
    by_cases hz : e5 = 0
    · subst hz
      have HV2 : Hid (res = DS) := by show _ = _; rw [HV.out, if_neg (by simp)]
      go_wp2_with fail
      first
        | go_end0
        | refine bodyPost_ret (results_none rfl _ _ _) rfl ?_
      exact ⟨rfl, L5, P5, by rw [HV2.out]; exact HM5.out.dm, HM5.out.stp⟩
    · have hz2 : (e5 != 0) = true := by simp [hz]
      have HV2 : Hid (res = noD DS a e5 kind) := by show _ = _; rw [HV.out, if_pos hz]
      clear hz
      go_wp2_with fail
      refine (no_c HM5.out.dm HA.out e5 kind).mono ?_
      rintro e0 w6 ⟨rfl, L6, hdq, hsq⟩
      have HM6 : Hid (DW mutX w L w6 L6 g P5 (noD DS a e5 kind) [(q, 172, NV)]) := HM5.out.step (hsq.mono tellX_mut) hdq mutX_temp
      clear hdq hsq
      go_wp2_with fail
      first
        | go_end0
        | refine bodyPost_ret (results_none rfl _ _ _) rfl ?_
      exact ⟨rfl, L6, P5, by rw [HV2.out]; exact HM6.out.dm, HM6.out.stp⟩
end Go.Proofs.YtmkifedcanmjoaaGreat
/- post.Post.Take (contract). Conditions: none. -/
set_option linter.unusedVariables false
set_option linter.unusedSimpArgs false
namespace Go.Proofs.YtmkifedcanmjoaaGreat
open Go.RowKit
attribute [local go_sem ↓] Go.wp_at_zero Go.wp_at_succ
theorem infoO3 : (Tryz.prog.info? 44).map (·.size) = some 3 := by kernel_rfl
theorem fit0O : FitL 44 [.int .i64 0, .int .i64 0, .slice none 0 0] := ⟨infoO3, by kernel_rfl⟩
theorem sliceO : Tryz.prog.underlying 40 = some (.slice (Tryz.prog.elem 40)) := by rw [Tryz.underlying40, show Tryz.prog.elem 40 = 44 from by kernel_rfl]
theorem cut1_out (wx : World) (A : Option Addr) (n c : Nat) (hn : 1 ≤ n) : (Instr.slice 40 (.slice A n c) (some (.int .i64 1)) none none).run Tryz.prog wx = .ok (.slice (if c = 1 then A else A.map (·.add (1 * 3))) (n - 1) (c - 1)) wx := by
  rw [run_slice_l (P := Tryz.prog) wx 40 A n c sliceO .i64 1 (by omega) (by omega)]
  have hs : (sizeOf (Tryz.prog.elem 40)).run Tryz.prog wx = .ok 3 wx := by
    rw [show Tryz.prog.elem 40 = 44 from by kernel_rfl]
    have h := infoO3
    cases hi : Tryz.prog.info? 44 with
    | none => rw [hi] at h; cases h
    | some i =>
      rw [hi] at h
      simp only [Option.map_some, Option.some.injEq] at h
      simp [sizeOf, typeInfo, hi, h]
  rw [hs]
  simp [Result.andThen, sliced]
set_option maxRecDepth 100000 in
set_option maxHeartbeats 3200000 in
theorem postTake_nil (L : Lab) (w : World) (a p : Nat) (hm : PostM L w a p []) :
    Calls Tryz.prog 62 #[.pointer (some ⟨p, 0, none⟩)] w fun e w' => e = .returned (.tuple #[.agg #[.int .i64 0, .int .i64 0, .slice none 0 0], .bool false]) ∧ Below w.heap.size w w' := by
  obtain ⟨hlab, v, xs, hp, hr, hown, ho⟩ := hm
  obtain ⟨Av, cv, rfl, hcv⟩ := hr.form
  have HP := Lib.hid hp
  obtain ⟨Z, hZ⟩ : ∃ Z : List Value, Z = [.int .i64 0, .int .i64 0, .slice none 0 0] := ⟨_, rfl⟩
  have HZF : Hid (FitL 44 Z) := by show FitL _ _; rw [hZ]; exact fit0O
  have HZE := Lib.hid hZ
  obtain ⟨g2, hg2⟩ : ∃ g2, g2 = w.heap.size := ⟨_, rfl⟩
  obtain ⟨g4, hg4⟩ : ∃ g4, g4 = w.heap.size + 1 := ⟨_, rfl⟩
  obtain ⟨w1, hw1⟩ : ∃ w1, w1 = (w.alloc (.cells #[.int .i64 0, .int .i64 0, .slice none 0 0] 44)).alloc (.cells #[.int .i64 0, .int .i64 0, .slice none 0 0] 44) := ⟨_, rfl⟩
  have HM1 : Hid (MW w w1 [(g4, 44, Z), (g2, 44, Z)]) := by
    show MW _ _ _
    have h := ((MW.start w).alloc 44 Z).alloc 44 Z
    simp only [World.size_alloc] at h
    rw [hw1, hg2, hg4]
    rw [hZ] at h ⊢
    exact h
  have ckp : w1.cell? ⟨p, 1, none⟩ = some (.slice Av 0 cv) := (HP.out.below HM1.out.bel).cell 1
  clear hp hr hown ho hcv hlab hZ
  go_enter Tryz.func62, Tryz.ntmps62
  go_upto_region 2 with fail
  rw [← hw1, ← hg4, ← hg2]
  clear hw1 hg2 hg4
  have HRr : Hid (w1.rangeAt g4 0 Z) := HM1.out.range (.head _)
  have HTr : Hid (w1.there g2 0 Z.toArray.size) := HM1.out.there (.tail _ (.head _)) 0 _ (by show 0 + Z.length ≤ Z.length; rw [HZF.out.len HZF.out]; omega)
  go_wp2_with (first
    | ((with_reducible show wpList _ _ _ (⟨some 12, .load _ (.tmp 4), _, _, _, _⟩ :: _) _ _); refine wpList_load_mid rfl 44 (.tmp 4) rfl g4 0 rfl Z _ HRr.out Tryz.underlying44 rfl HZF.out.info ?_)
    | ((with_reducible show wpList _ _ _ (⟨none, .store _ (.tmp 2) _, _, _, _, _⟩ :: _) _ _); refine wpList_store_mid rfl 44 (.tmp 2) (.tmp 12) rfl g2 0 Z.toArray rfl rfl HTr.out HZF.out.infos HZF.out.one ?_))
  have HMr : Hid (MW w (w1.setCells g2 0 Z) [(g4, 44, Z), (g2, 44, Z)]) := MW.set (pre := [(g4, 44, Z)]) (post := []) HM1.out (HZF.out.len HZF.out)
  (try simp only [Exit.inBlock, Exit.then])
  refine bodyPost_ret (results_c2 rfl rfl (HMr.out.range (.tail _ (.head _))) Tryz.underlying44 rfl HZF.out.info) rfl ?_
  refine ⟨?_, HMr.out.bel⟩
  rw [HZE.out]
  rfl
set_option maxRecDepth 100000 in
set_option maxHeartbeats 6400000 in
theorem postTake_cons (L : Lab) (w : World) (a p : Nat) (o : OutD) (l : List OutD) (hm : PostM L w a p (o :: l)) (htop : ∀ k, w.heap.size ≤ k → L k = .other) :
    Calls Tryz.prog 62 #[.pointer (some ⟨p, 0, none⟩)] w fun e w' => ∃ vb, e = .returned (.tuple #[.agg #[.int .i64 o.adr, .int .i64 o.kind, vb], .bool true]) ∧ ByV L w' vb o.b ∧ PostM L w' a p l ∧ Stp (postX a) L L w w' := by
  obtain ⟨hlab, v, xs, hp, hr, hown, ho⟩ := hm
  obtain ⟨Av, cv, rfl, hcv⟩ := hr.form
  obtain ⟨vb, xr, rfl, hvb, hor⟩ := ho
  obtain ⟨gr, off, rfl, hgl, hcell⟩ := hr.cells_ (by simp)
  have hcut := hr.cut (k := 1) (by simp)
  obtain ⟨n, hn⟩ : ∃ n, n = (o :: l).length := ⟨_, rfl⟩
  have hn1 : 1 ≤ n := by rw [hn]; simp
  rw [← hn] at hcut hp hr hown hcv
  have hci := cut1_out
  obtain ⟨A2, hA2⟩ : ∃ A2, A2 = (if cv = 1 then some (⟨gr, off, none⟩ : Addr) else (some (⟨gr, off, none⟩ : Addr)).map (·.add (1 * 3))) := ⟨_, rfl⟩
  have HCI : Hid (∀ wx, (Instr.slice 40 (.slice (some ⟨gr, off, none⟩) n cv) (some (.int .i64 1)) none none).run Tryz.prog wx = .ok (.slice A2 (n - 1) (cv - 1)) wx) := fun wx => by rw [hA2]; exact cut1_out wx _ n cv hn1
  have HCUT : Hid (Row w 44 3 (.slice A2 (n - 1) (cv - 1)) l.length xr) := by
    show Row _ _ _ _ _ _
    rw [hA2]
    have e : n - 1 = l.length := by rw [hn]; simp
    rw [e] at hcut ⊢
    exact hcut
  have HOWN2 : Hid (∀ g, (Value.slice A2 (n - 1) (cv - 1)).ownBlock = some g → L g = .post a) := fun g hg => by
    rw [hA2] at hg
    refine hown g ?_
    rw [← hg]
    split
    · rfl
    · simp [Value.ownBlock, block_of_add]
  obtain ⟨n2, hn2⟩ : ∃ n2, n2 = n - 1 := ⟨_, rfl⟩
  obtain ⟨c2, hc2⟩ : ∃ c2, c2 = cv - 1 := ⟨_, rfl⟩
  rw [← hn2, ← hc2] at HCI HCUT HOWN2
  have HP := Lib.hid hp
  have HR := Lib.hid hr
  have HLAB := Lib.hid hlab
  have HTOP := Lib.hid htop
  have HVB := Lib.hid hvb
  have HOR := Lib.hid hor
  have HGL := Lib.hid hgl
  obtain ⟨Ab, cb, ebb, _, _⟩ := hvb.1
  subst ebb
  obtain ⟨nb, hnb⟩ : ∃ nb, nb = o.b.length := ⟨_, rfl⟩
  obtain ⟨ad, had⟩ : ∃ ad, ad = o.adr := ⟨_, rfl⟩
  obtain ⟨kd, hkd⟩ : ∃ kd, kd = o.kind := ⟨_, rfl⟩
  have hc0 : w.cell? ⟨gr, off, none⟩ = some (.int .i64 ad) := by rw [had]; exact hcell 0 (by simp)
  have hc1 : w.cell? ⟨gr, off + 1, none⟩ = some (.int .i64 kd) := by rw [hkd]; exact hcell 1 (by simp)
  have hc2' : w.cell? ⟨gr, off + 2, none⟩ = some (.slice Ab nb cb) := by rw [hnb]; exact hcell 2 (by simp)
  rw [← hnb] at HVB
  rw [← had, ← hkd]
  have hni : ¬ ((n : Int) = 0) := by omega
  have hni0 : (0 : Int) < (n : Int) := by omega
  obtain ⟨Z, hZ⟩ : ∃ Z : List Value, Z = [.int .i64 0, .int .i64 0, .slice none 0 0] := ⟨_, rfl⟩
  have HZF : Hid (FitL 44 Z) := by show FitL _ _; rw [hZ]; exact fit0O
  have HZE := Lib.hid hZ
  obtain ⟨g2, hg2⟩ : ∃ g2, g2 = w.heap.size := ⟨_, rfl⟩
  obtain ⟨g4, hg4⟩ : ∃ g4, g4 = w.heap.size + 1 := ⟨_, rfl⟩
  obtain ⟨w1, hw1⟩ : ∃ w1, w1 = (w.alloc (.cells #[.int .i64 0, .int .i64 0, .slice none 0 0] 44)).alloc (.cells #[.int .i64 0, .int .i64 0, .slice none 0 0] 44) := ⟨_, rfl⟩
  have HM1 : Hid (MW w w1 [(g4, 44, Z), (g2, 44, Z)]) := by
    show MW _ _ _
    have h := ((MW.start w).alloc 44 Z).alloc 44 Z
    simp only [World.size_alloc] at h
    rw [hw1, hg2, hg4]
    rw [hZ] at h ⊢
    exact h
  obtain ⟨X, hX⟩ : ∃ X : List Value, X = [.int .i64 ad, .int .i64 kd, .slice Ab nb cb] := ⟨_, rfl⟩
  have HXF : Hid (FitL 44 X) := by show FitL _ _; rw [hX]; exact ⟨infoO3, by simp [Value.oneCell']⟩
  have HXE := Lib.hid hX
  have HXA : Hid (X.toArray = #[.int .i64 ad, .int .i64 kd, .slice Ab nb cb]) := by show _ = _; rw [hX]
  have ckp : w1.cell? ⟨p, 1, none⟩ = some (.slice (some ⟨gr, off, none⟩) n cv) := (HP.out.below HM1.out.bel).cell 1
  have ck0 : w1.cell? ⟨gr, off, none⟩ = some (.int .i64 ad) := (HM1.out.bel.cell (p := ⟨gr, off, none⟩) hgl).trans hc0
  have ck1 : w1.cell? ⟨gr, off + 1, none⟩ = some (.int .i64 kd) := (HM1.out.bel.cell (p := ⟨gr, off + 1, none⟩) hgl).trans hc1
  have ck2 : w1.cell? ⟨gr, off + 2, none⟩ = some (.slice Ab nb cb) := (HM1.out.bel.cell (p := ⟨gr, off + 2, none⟩) hgl).trans hc2'
  clear hp hr hown hvb hor hcv hlab hZ hX hcell hcut hn hA2 hn2 hc2 hc0 hc1 hc2' hgl htop hnb had hkd hci
  go_enter Tryz.func62, Tryz.ntmps62
  go_upto_region 2 with fail
  rw [← hw1, ← hg4, ← hg2]
  clear hw1 hg2 hg4
  go_upto_region 5 with (first
    | ((with_reducible show wpList _ _ _ (⟨none, .store _ (.tmp 5) _, _, _, _, _⟩ :: _) _ _); refine wpList_store_mid rfl 44 (.tmp 5) (.tmp 18) rfl w1.heap.size 0 X.toArray rfl (congrArg Value.agg HXA.out.symm) (there_new w1 44 #[.int .i64 0, .int .i64 0, .slice none 0 0] _ (by show X.length ≤ 3; have h := HXF.out.info; rw [infoO3] at h; injection h with h; omega)) HXF.out.infos HXF.out.one ?_))
  obtain ⟨g5, hg5⟩ : ∃ g5, g5 = w1.heap.size := ⟨_, rfl⟩
  have HMn : Hid (MW w ((w1.alloc (.cells #[.int .i64 0, .int .i64 0, .slice none 0 0] 44)).setCells w1.heap.size 0 X) ((w1.heap.size, 44, X) :: [(g4, 44, Z), (g2, 44, Z)])) := HM1.out.newset 44 #[.int .i64 0, .int .i64 0, .slice none 0 0] X (by show X.length = 3; have h := HXF.out.info; rw [infoO3] at h; injection h with h; omega)
  rw [← hg5] at HMn ⊢
  obtain ⟨w2, hw2⟩ : ∃ w2, w2 = (w1.alloc (.cells #[.int .i64 0, .int .i64 0, .slice none 0 0] 44)).setCells g5 0 X := ⟨_, rfl⟩
  have HM2 : Hid (MW w w2 [(g5, 44, X), (g4, 44, Z), (g2, 44, Z)]) := by show MW _ _ _; rw [hw2]; exact HMn.out
  rw [← hw2]
  clear hw2 HM1
  clear hg5 HMn ckp ck0 ck1 ck2
  have ckp : w2.cell? ⟨p, 1, none⟩ = some (.slice (some ⟨gr, off, none⟩) n cv) := (HP.out.below HM2.out.bel).cell 1
  have fkp : w2.frozen? ⟨p, 1, none⟩ = false := (HP.out.below HM2.out.bel).frozen 1
  have hcs := HCI.out
  go_upto_region 6 with fail
  obtain ⟨w3, hw3⟩ : ∃ w3, w3 = w2.setCell ⟨p, 1, none⟩ (.slice A2 n2 c2) := ⟨_, rfl⟩
  have HPL : Hid (p < w.heap.size) := HP.out.lt
  have HB5 : Hid (Blk w3 g5 44 X.toArray) := by show Blk _ _ _ _; rw [hw3]; exact (HM2.out.blk (.head _)).far (by have := HM2.out.le (.head _); have := HPL.out; show g5 ≠ p; omega) _
  have HB2 : Hid (Blk w3 g2 44 Z.toArray) := by show Blk _ _ _ _; rw [hw3]; exact (HM2.out.blk (.tail _ (.tail _ (.head _)))).far (by have := HM2.out.le (.tail _ (.tail _ (.head _))); have := HPL.out; show g2 ≠ p; omega) _
  have HG2 : Hid (w.heap.size ≤ g2) := HM2.out.le (.tail _ (.tail _ (.head _)))
  have HB3 : Hid (Blk w3 p 153 #[.int .i64 32, .slice A2 n2 c2]) := by show Blk _ _ _ _; rw [hw3]; exact Blk.set_ (HP.out.below HM2.out.bel) 1 _
  have HK3 : Hid (∀ k, k < w.heap.size → k ≠ p → w3.heap[k]? = w.heap[k]?) := fun k hk hkp => by
    rw [hw3, Below.heap_setCell w2 _ _ k (by exact hkp)]
    exact HM2.out.bel.block k hk
  have HOS3 : Hid (w3.os = w.os ∧ w3.tape = w.tape ∧ w3.output = w.output ∧ w.heap.size ≤ w3.heap.size) := by
    show _ ∧ _
    rw [hw3]
    exact ⟨HM2.out.bel.os, HM2.out.bel.tape, HM2.out.bel.output, by rw [World.size_setCell]; exact HM2.out.bel.size⟩
  rw [← hw3]
  clear hw3 ckp fkp hcs HM2
  have HRr : Hid (w3.rangeAt g5 0 X) := blk_range HB5.out
  have HTr : Hid (w3.there g2 0 X.toArray.size) := blk_there HB2.out 0 _ (by show 0 + X.length ≤ Z.length; rw [HXF.out.len HZF.out]; omega)
  go_wp2_with (first
    | ((with_reducible show wpList _ _ _ (⟨some 27, .load _ (.tmp 5), _, _, _, _⟩ :: _) _ _); refine wpList_load_mid rfl 44 (.tmp 5) rfl g5 0 rfl X _ HRr.out Tryz.underlying44 rfl HXF.out.info ?_)
    | ((with_reducible show wpList _ _ _ (⟨none, .store _ (.tmp 2) _, _, _, _, _⟩ :: _) _ _); refine wpList_store_mid rfl 44 (.tmp 2) (.tmp 27) rfl g2 0 X.toArray rfl rfl HTr.out HXF.out.infos HXF.out.one ?_))
  have HB4 : Hid (Blk (w3.setCells g2 0 X) g2 44 X.toArray) := blk_setAll HB2.out (HXF.out.len HZF.out)
  obtain ⟨w4, hw4⟩ : ∃ w4, w4 = w3.setCells g2 0 X := ⟨_, rfl⟩
  have HK4 : Hid (∀ k, k < w.heap.size → k ≠ p → w4.heap[k]? = w.heap[k]?) := fun k hk hkp => by
    rw [hw4, heap_setCells w3 g2 X 0 k (by have := HG2.out; omega)]
    exact HK3.out k hk hkp
  have HST : Hid (Stp (postX a) L L w w4) := by
    show Stp _ _ _ _ _
    refine ⟨⟨?_, ?_, ?_, ?_, fun k hk hx => HK4.out k hk fun e => hx (by rw [e]; exact HLAB.out)⟩, fun _ _ => rfl, fun k hk => HTOP.out k (Nat.le_trans ?_ hk)⟩
    all_goals
      rw [hw4]
      have hb := below_setCells' g2 X w3 0
      have hq := HOS3.out
      have hsz := size_setCells g2 X w3 0
      first
        | exact hb.os.trans hq.1
        | exact hb.tape.trans hq.2.1
        | exact hb.output.trans hq.2.2.1
        | (rw [hsz]; exact hq.2.2.2)
  have HB3' : Hid (Blk w4 p 153 #[.int .i64 32, .slice A2 n2 c2]) := by show Blk _ _ _ _; rw [hw4]; exact blk_farS HB3.out (by have := HPL.out; have := HG2.out; omega) _ _
  rw [← hw4] at HB4
  (try simp only [Exit.inBlock, Exit.then])
  refine bodyPost_ret (results_c2 rfl rfl (by rw [← hw4]; exact blk_range HB4.out) Tryz.underlying44 rfl HXF.out.info) rfl ?_
  rw [← hw4]
  clear hw4
  have hx : ¬ postX a .other := by unfold postX; simp
  have hkeep : ∀ (u : Value) (n : Nat) (ys : List Value), Row w 44 3 u n ys → Row w4 44 3 u n ys := fun u n ys h => h.keep fun g hg => by
    refine HK4.out g (h.lt hg) fun e => ?_
    subst e
    obtain ⟨cs, hbk⟩ := h.blk hg
    exact HP.out.ne_ hbk (by decide) rfl
  refine ⟨.slice Ab nb cb, by rw [HXA.out]; rfl, HVB.out.stp HST.out hx, ⟨HLAB.out, _, xr, HB3'.out, hkeep _ _ _ HCUT.out, HOWN2.out, OutsC.stp HST.out hx _ _ HOR.out⟩, HST.out⟩
end Go.Proofs.YtmkifedcanmjoaaGreat
/- desk.taken (contract). Conditions: none. -/
set_option linter.unusedVariables false
set_option linter.unusedSimpArgs false
namespace Go.Proofs.YtmkifedcanmjoaaGreat
open Go.RowKit
attribute [local go_sem ↓] Go.wp_at_zero Go.wp_at_succ
/-- v is a slice of what was told; its row is a call's own. -/
def OutsV (L : Lab) (w : World) (v : Value) (l : List OutD) : Prop := ∃ xs, Row w 44 3 v l.length xs ∧ OutsC L w l xs ∧ ∀ g, v.ownBlock = some g → L g = .temp
theorem postX_temp (a : Nat) : ¬ postX a .temp := by unfold postX; simp
theorem postX_other (a : Nat) : ¬ postX a .other := by unfold postX; simp
theorem OutsV.stp {X : Comp → Prop} {L L' : Lab} {w w' : World} {v : Value} {l : List OutD} (h : OutsV L w v l) (hs : Stp X L L' w w') (hx : ¬ X .other) (ht : ¬ X .temp) : OutsV L' w' v l := by
  obtain ⟨xs, h1, h2, h3⟩ := h
  exact ⟨xs, h1.sv hs.sv (fun g hg => by rw [h3 g hg]; exact ht), OutsC.stp hs hx _ _ h2, fun g hg => (hs.old g (h1.lt hg)).trans (h3 g hg)⟩
/-- One more behind a call's own row. -/
theorem outs_grown {X : Comp → Prop} {L0 Lx : Lab} {w w1 W W2 : World} {g : Nat} {P : Ptrs} {D : DeskD} {v v2 vb : Value} {l : List OutD} {o : OutD} {xs : List Value}
    (hm : DW X w L0 w1 Lx g P D []) (hr : Row w1 44 3 v l.length xs) (hown : ∀ g, v.ownBlock = some g → Lx g = .temp ∧ w.heap.size ≤ g) (ho : OutsC Lx w1 l xs) (hb : ByV Lx w1 vb o.b) (hbel : Below w1.heap.size w1 W)
    (hrow : Row W2 44 3 v2 (l.length + 1) (xs ++ [.int .i64 o.adr, .int .i64 o.kind, vb])) (hg : W.grownBy W2 v.ownBlock) (hat : v2.ownBlock = v.ownBlock ∨ v2.ownBlock = some W.heap.size) :
    ∃ L2, DW X w L0 W2 L2 g P D [] ∧ Row W2 44 3 v2 (l ++ [o]).length (xs ++ [.int .i64 o.adr, .int .i64 o.kind, vb]) ∧ (∀ g, v2.ownBlock = some g → L2 g = .temp ∧ w.heap.size ≤ g) ∧ OutsC L2 W2 (l ++ [o]) (xs ++ [.int .i64 o.adr, .int .i64 o.kind, vb]) := by
  have hs : Stp tmpX Lx (labTo Lx v2 .temp) w1 W2 := by
    refine ⟨⟨hg.os.trans hbel.os, hg.tape.trans hbel.tape, hg.output.trans hbel.output, Nat.le_trans hbel.size hg.size, fun k hk hx => ?_⟩, fun k hk => ?_, fun k hk => ?_⟩
    · have h2 : some k ≠ v.ownBlock := fun e => hx (hown k e.symm).1
      rw [hg.block k (Nat.lt_of_lt_of_le hk hbel.size) h2]
      exact hbel.block k hk
    · unfold labTo
      split
      · rename_i e
        rcases hat with hat | hat
        · rw [hat] at e
          exact (hown k e.symm).1.symm
        · rw [hat] at e
          injection e with e
          have := hbel.size
          omega
      · rfl
    · unfold labTo
      rw [if_neg (fun e => by have := hrow.lt e.symm; omega)]
      exact hm.top k (by have := hbel.size; have := hg.size; omega)
  refine ⟨labTo Lx v2 .temp, ⟨?_, hm.dm.stp hs (fun c hc hx => hc hx), trivial, fun _ h => by cases h⟩, by rw [List.length_append]; exact hrow, fun q hq => ⟨by unfold labTo; rw [if_pos hq.symm], ?_⟩, OutsC.append _ _ (OutsC.stp hs (by unfold tmpX; simp) _ _ ho) _ _ ⟨vb, [], rfl, hb.stp hs (by unfold tmpX; simp), rfl⟩⟩
  · refine ⟨⟨hs.sv.os.trans hm.stp.sv.os, hs.sv.tape.trans hm.stp.sv.tape, hs.sv.output.trans hm.stp.sv.output, Nat.le_trans hm.size hs.size, fun k hk hx => ?_⟩, fun k hk => (hs.old k (Nat.lt_of_lt_of_le hk hm.size)).trans (hm.stp.old k hk), hs.top⟩
    have h1 := hm.stp.sv.block k hk hx
    have h2 : some k ≠ v.ownBlock := fun e => by have := (hown k e.symm).2; omega
    rw [hg.block k (Nat.lt_of_lt_of_le hk (Nat.le_trans hm.size hbel.size)) h2, hbel.block k (Nat.lt_of_lt_of_le hk hm.size)]
    exact h1
  · rcases hat with hat | hat
    · rw [hat] at hq; exact (hown q hq).2
    · rw [hat] at hq
      injection hq with hq
      have := hbel.size
      have := hm.size
      omega
theorem DeskD.setPost_set (D : DeskD) (a : Nat) (l l' : List OutD) : (D.setPost a l).setPost a l' = D.setPost a l' := by unfold DeskD.setPost; simp
theorem DeskM.postLen {L : Lab} {w : World} {g : Nat} {P : Ptrs} {D : DeskD} (h : DeskM L w g P D) : D.posts.length = 64 := by
  obtain ⟨_, _, C, _, hC⟩ := h
  exact hC.posts
set_option maxRecDepth 100000 in
set_option maxHeartbeats 12800000 in
theorem taken_c {L : Lab} {w : World} {g : Nat} {P : Ptrs} {D : DeskD} (hd : DeskM L w g P D) {a : Nat} (ha : a < 64) {n : Nat} (hn : n ≤ 32) :
    Calls Tryz.prog 32 #[.pointer (some ⟨g, 0, none⟩), .int .i64 (a : Int), .int .i64 (n : Int)] w fun e w' => ∃ v, e = .returned v ∧ ∃ L', OutsV L' w' v (takenD D a n).2 ∧ DeskM L' w' g P (takenD D a n).1 ∧ Stp (postX a) L L' w w' := by
  obtain ⟨iO, hiO, hz0, hz1, hz2⟩ := info_parts infoOut
  have HA := Lib.hid ha
  have HN := Lib.hid hn
  have ha0 : (0 : Int) ≤ (a : Int) := by omega
  have ha1 : (a : Int) < 64 := by omega
  obtain ⟨p, hp⟩ : ∃ p, p = P.post a := ⟨_, rfl⟩
  have HPE := Lib.hid hp
  obtain ⟨l, hl⟩ : ∃ l, l = D.post a := ⟨_, rfl⟩
  have HLE := Lib.hid hl
  have HPL := Lib.hid hd.postLen
  have HM0 : Hid (DW (postX a) w L w L g P (D.setPost a (l.drop 0)) []) := by show DW _ _ _ _ _ _ _ _ _; rw [List.drop_zero, hl, DeskD.setPost_self]; exact DW.start _ hd
  obtain ⟨fin, hfin⟩ : ∃ fin, fin = takenD D a n := ⟨_, rfl⟩
  have HFE : Hid (fin = (D.setPost a (l.drop n), l.take n)) := by show _ = _; rw [hfin, hl]; rfl
  rw [← hfin]
  clear hd ha hn hp hl hfin
  go_enter Tryz.func32, Tryz.ntmps32
  go_upto_region 3 with fail
  go_loopg [7, 11] n (fun gg v7 v wx => ∃ (i : Nat) (Lx : Lab) (xs : List Value), gg = n - i ∧ i ≤ n ∧ v = .int .i64 (i : Int) ∧ i ≤ l.length ∧ DW (postX a) w L wx Lx g P (D.setPost a (l.drop i)) [] ∧ Row wx 44 3 v7 (l.take i).length xs ∧ (∀ g, v7.ownBlock = some g → Lx g = .temp ∧ w.heap.size ≤ g) ∧ OutsC Lx wx (l.take i) xs)
  case atStart => exact ⟨0, L, [], rfl, by omega, rfl, by omega, HM0.out, Row.nil _ _ _, (fun g hg => by cases hg), rfl⟩
  case round =>
    obtain ⟨i, Lx, xs, hgg, hi, rfl, hil, hmw, hrow, hown, hos⟩ := hrel
    have HGG := Lib.hid hgg
    have HM6 := Lib.hid hmw
    have HRO := Lib.hid hrow
    have HOW := Lib.hid hown
    have HOS := Lib.hid hos
    have HIL := Lib.hid hil
    obtain ⟨Av, cv, rfl, hcv⟩ := hrow.form
    obtain ⟨nt, hnt⟩ : ∃ nt, nt = (l.take i).length := ⟨_, rfl⟩
    have HNT : Hid (nt = i) := by show nt = i; rw [hnt, List.length_take]; omega
    have HNTE := Lib.hid hnt
    rw [← hnt] at HRO HOW ⊢
    clear hgg hmw hrow hown hos hil hnt hcv
    by_cases hin : i < n
    · have hini : (i : Int) < (n : Int) := by omega
      have hin0 : (0 : Int) ≤ (i : Int) := by omega
      have hw1 : IntKind.i64.wrap ((i : Int) + 1) = ((i + 1 : Nat) : Int) := by rw [IntKind.wrap_i64]; have := HN.out; omega
      have ckp : wr.cell? ⟨g, 1470 + a, none⟩ = some (.pointer (some ⟨p, 0, none⟩)) := by rw [HPE.out]; exact (HM6.out.dm.postAt HA.out).1
      have HPM : Hid (PostM Lx wr a p (l.drop i)) := by
        show PostM _ _ _ _ _
        have h := (HM6.out.dm.postAt HA.out).2
        rw [DeskD.post_set _ _ _ _ (by rw [HPL.out]; exact HA.out), if_pos rfl, ← HPE.out] at h
        exact h
      have HLT := Lib.hid hin
      obtain ⟨lr, hlr⟩ : ∃ lr, lr = l.drop i := ⟨_, rfl⟩
      rw [← hlr] at HPM
      have HLR := Lib.hid hlr
      clear hlr hin hi
      cases lr with
      | nil =>
        have HLL : Hid (l.length = i) := by
          show l.length = i
          have h := congrArg List.length HLR.out
          rw [List.length_drop] at h
          have := HIL.out
          simp only [List.length_nil] at h
          omega
        have HV : Hid (fin = (D.setPost a (l.drop i), l.take i)) := by
          show _ = _
          rw [HFE.out, List.drop_of_length_le (by have := HLT.out; have := HLL.out; omega), List.drop_of_length_le (by have := HLL.out; omega), List.take_of_length_le (by have := HLT.out; have := HLL.out; omega), List.take_of_length_le (by have := HLL.out; omega)]
        go_wp2_with fail
        refine (postTake_nil Lx wr a p HPM.out).mono ?_
        rintro e0 w1 ⟨rfl, hbq⟩
        have HM7 := Lib.hid (HM6.out.call hbq)
        have HRO7 := Lib.hid (HRO.out.below hbq)
        have HOS7 := Lib.hid (OutsC.stp (Stp.below (X := noX) hbq HM6.out.top) (fun h => h) _ _ HOS.out)
        clear hbq ckp
        go_wp2_with (first
          | ((with_reducible show wpList _ _ _ (⟨none, .store _ (.tmp 8) _, _, _, _, _⟩ :: _) _ _); refine wpList_store_mid rfl 44 (.tmp 8) (.tmp 21) rfl w1.heap.size 0 #[.int .i64 0, .int .i64 0, .slice none 0 0] rfl rfl (there_new w1 44 #[.int .i64 0, .int .i64 0, .slice none 0 0] 3 (by decide)) infoO3 (by kernel_rfl) ?_))
        have HB9 : Hid (Below w1.heap.size w1 ((w1.alloc (.cells #[.int .i64 0, .int .i64 0, .slice none 0 0] 44)).setCells w1.heap.size 0 [.int .i64 0, .int .i64 0, .slice none 0 0])) := ((MW.start w1).newset 44 #[.int .i64 0, .int .i64 0, .slice none 0 0] [.int .i64 0, .int .i64 0, .slice none 0 0] rfl).bel
        have HM9 := Lib.hid (HM7.out.call HB9.out)
        have HRO9 := Lib.hid (HRO7.out.below HB9.out)
        have HOS9 := Lib.hid (OutsC.stp (Stp.below (X := noX) HB9.out HM7.out.top) (fun h => h) _ _ HOS7.out)
        go_ret
        exact ⟨_, rfl, Lx, by rw [HV.out]; exact ⟨xs, by rw [← HNTE.out]; exact HRO9.out, HOS9.out, fun g hg => (HOW.out g hg).1⟩, by rw [HV.out]; exact HM9.out.dm, HM9.out.stp⟩
      | cons o lr =>
        have HLR2 : Hid (l.drop (i + 1) = lr ∧ l.take (i + 1) = l.take i ++ [o] ∧ i + 1 ≤ l.length) := by
          have h1 : i < l.length := by
            have h := congrArg List.length HLR.out
            rw [List.length_drop] at h
            simp only [List.length_cons] at h
            omega
          have h2 : l.drop i = l[i] :: l.drop (i + 1) := List.drop_eq_getElem_cons h1
          have h3 := HLR.out.trans h2
          injection h3 with h4 h5
          refine ⟨h5.symm, ?_, h1⟩
          rw [List.take_add_one, List.getElem?_eq_getElem h1, h4]
          rfl
        obtain ⟨ad, had⟩ : ∃ ad, ad = o.adr := ⟨_, rfl⟩
        obtain ⟨kd, hkd⟩ : ∃ kd, kd = o.kind := ⟨_, rfl⟩
        have HTK := Lib.hid (postTake_cons Lx wr a p o lr HPM.out HM6.out.top)
        rw [← had, ← hkd] at HTK
        have HAE := Lib.hid had
        have HKE := Lib.hid hkd
        clear had hkd
        go_wp2_with fail
        refine HTK.out.mono ?_
        rintro e0 w1 ⟨vb, rfl, hby, hpm, hst⟩
        have HM7 : Hid (DW (postX a) w L w1 Lx g P (D.setPost a lr) []) := by
          show DW _ _ _ _ _ _ _ _ _
          have h := HM6.out.dm.putPost HA.out hst (l := lr) (by rw [← HPE.out]; exact hpm) (by
            have h := HM6.out.dm.few HA.out
            rw [DeskD.post_set _ _ _ _ (by rw [HPL.out]; exact HA.out), if_pos rfl, ← HLR.out] at h
            simp only [List.length_cons] at h
            omega)
          rw [DeskD.setPost_set] at h
          exact HM6.out.step hst h (postX_temp a)
        have HRO7 : Hid (Row w1 44 3 (.slice Av nt cv) nt xs) := HRO.out.sv hst.sv (fun q hq => by rw [(HOW.out q hq).1]; exact postX_temp a)
        have HOS7 : Hid (OutsC Lx w1 (l.take i) xs) := OutsC.stp hst (postX_other a) _ _ HOS.out
        have HBY7 := Lib.hid hby
        obtain ⟨Ab, cb, rfl, _, _⟩ := hby.1
        obtain ⟨nb, hnb⟩ : ∃ nb, nb = o.b.length := ⟨_, rfl⟩
        rw [← hnb] at HBY7 ⊢
        clear hby hpm hst ckp HTK hnb
        obtain ⟨X, hX⟩ : ∃ X : List Value, X = [.int .i64 ad, .int .i64 kd, .slice Ab nb cb] := ⟨_, rfl⟩
        have HXF : Hid (FitL 44 X) := by show FitL _ _; rw [hX]; exact ⟨infoO3, by simp [Value.oneCell']⟩
        have HXA : Hid (X.toArray = #[.int .i64 ad, .int .i64 kd, .slice Ab nb cb]) := by show _ = _; rw [hX]
        have HXE : Hid (X = [.int .i64 o.adr, .int .i64 o.kind, .slice Ab nb cb]) := by show _ = _; rw [hX, HAE.out, HKE.out]
        have HXL : Hid (X.length = 3) := by show _ = _; rw [hX]; rfl
        have HXC : Hid (X[0]? = some (.int .i64 ad) ∧ X[1]? = some (.int .i64 kd) ∧ X[2]? = some (.slice Ab nb cb)) := by show _ ∧ _; rw [hX]; exact ⟨rfl, rfl, rfl⟩
        clear hX
        go_upto_region 5 with (first
          | ((with_reducible show wpList _ _ _ (⟨none, .store _ (.tmp 8) _, _, _, _, _⟩ :: _) _ _); refine wpList_store_mid rfl 44 (.tmp 8) (.tmp 21) rfl w1.heap.size 0 X.toArray rfl (congrArg Value.agg HXA.out.symm) (there_new w1 44 #[.int .i64 0, .int .i64 0, .slice none 0 0] _ (by show X.length ≤ 3; rw [HXL.out]; exact Nat.le_refl _)) HXF.out.infos HXF.out.one ?_))
        obtain ⟨g8, hg8⟩ : ∃ g8, g8 = w1.heap.size := ⟨_, rfl⟩
        obtain ⟨w2, hw2⟩ : ∃ w2, w2 = (w1.alloc (.cells #[.int .i64 0, .int .i64 0, .slice none 0 0] 44)).setCells w1.heap.size 0 X := ⟨_, rfl⟩
        have HMN : Hid (MW w1 w2 [(g8, 44, X)]) := by show MW _ _ _; rw [hw2, hg8]; exact (MW.start w1).newset 44 #[.int .i64 0, .int .i64 0, .slice none 0 0] X (by rw [HXL.out]; rfl)
        rw [← hw2, ← hg8]
        clear hw2 hg8
        have ck0 : w2.cell? ⟨g8, 0, none⟩ = some (.int .i64 ad) := by rw [HMN.out.cell (.head _) 0]; exact HXC.out.1
        have ck1 : w2.cell? ⟨g8, 1, none⟩ = some (.int .i64 kd) := by rw [HMN.out.cell (.head _) 1]; exact HXC.out.2.1
        have ck2 : w2.cell? ⟨g8, 2, none⟩ = some (.slice Ab nb cb) := by rw [HMN.out.cell (.head _) 2]; exact HXC.out.2.2
        have HW3 : Hid (MW w1 (w2.alloc (.cells #[.int .i64 ad, .int .i64 kd, .slice Ab nb cb] 44)) [(w2.heap.size, 44, X), (g8, 44, X)]) := by show MW _ _ _; rw [← HXA.out]; exact HMN.out.alloc _ X
        go_wp2_with (first
          | ((with_reducible show wpList _ _ _ (⟨some 28, .call _, _, _, _, _⟩ :: _) _ _)
             at_builtin
             refine wpList_append_row _ rfl (.tmp 25) (.tmp 27) _ rfl 44 iO _ 3 40 Tryz.underlying40 hiO hz0 hz1 hz2 rfl (.slice Av nt cv) nt xs rfl (HRO7.out.below HW3.out.bel) (.slice (some ⟨w2.heap.size, 0, none⟩) 1 1) 1 X rfl
               (Src.ofReads _ Tryz.underlying40 (B := (w2.alloc (.cells #[.int .i64 ad, .int .i64 kd, .slice Ab nb cb] 44)).heap.size) ⟨by rw [HXL.out], fun _ => ⟨_, rfl, (HW3.out.blk (.head _)).lt, fun j u hu => by
                 rw [Go.WideShapes.add_plain, Nat.zero_add, HW3.out.cell (.head _) j]
                 exact hu⟩⟩ (Array.all_eq_true_iff_forall_mem.1 HXF.out.one |> fun h u hu => h u (by simpa using hu))) (by have := HN.out; have := HNT.out; have := HLT.out; simp only [maxLen]; omega) (by have := HN.out; have := HNT.out; have := HLT.out; omega) ?_
             intro v2 w9 hrow2 hg2 hat2
             have HGR := Lib.hid (outs_grown (o := o) HM7.out (by rw [← HNTE.out]; exact HRO7.out) HOW.out HOS7.out HBY7.out HW3.out.bel (by rw [← HNTE.out, ← HXE.out]; exact hrow2) hg2 hat2)
             clear hrow2 hg2 hat2))
        obtain ⟨L9, hm9, hr9, ho9, hs9⟩ := HGR.out
        go_roundg (n - (i + 1))
        case measure => have := HLT.out; have := HGG.out; omega
        case rel =>
          have hlt := HLT.out
          refine ⟨i + 1, L9, xs ++ [.int .i64 o.adr, .int .i64 o.kind, .slice Ab nb cb], rfl, by omega, by first | rfl | go_num, HLR2.out.2.2, ?_, ?_, ho9, ?_⟩
          · rw [HLR2.out.1]; exact hm9
          · rw [HLR2.out.2.1]; exact hr9
          · rw [HLR2.out.2.1]; exact hs9
    · have hini : ¬ (i : Int) < (n : Int) := by omega
      have hie : i = n := by omega
      subst hie
      clear hin hi
      go_wp2_with fail
      go_ret
      exact ⟨_, rfl, Lx, by rw [HFE.out]; exact ⟨xs, by rw [← HNTE.out]; exact HRO.out, HOS.out, fun g hg => (HOW.out g hg).1⟩, by rw [HFE.out]; exact HM6.out.dm, HM6.out.stp⟩
end Go.Proofs.YtmkifedcanmjoaaGreat
/- desk.Do (contracts): notes, takings. Conditions: the bytes read; said is known where it is called. -/
set_option linter.unusedVariables false
set_option linter.unusedSimpArgs false
namespace Go.Proofs.YtmkifedcanmjoaaGreat
open Go.RowKit
attribute [local go_sem ↓] Go.wp_at_zero Go.wp_at_succ
theorem daddr_c (a : Int) (w : World) :
    Calls Tryz.prog 28 #[.int .i64 a] w fun e w' => e = .returned (.bool (adrB a)) ∧ Below w.heap.size w w' := by
  go_enter Tryz.func28, Tryz.ntmps28
  by_cases h1 : 0 ≤ a
  · by_cases h2 : a ≤ 63
    · go_wp2_with fail
      go_ret
      refine ⟨?_, Below.refl _ _⟩
      unfold adrB
      rw [decide_eq_true h1, decide_eq_true h2]
      rfl
    · go_wp2_with fail
      go_ret
      refine ⟨?_, Below.refl _ _⟩
      unfold adrB
      rw [decide_eq_true h1, decide_eq_false (by omega)]
      rfl
  · go_wp2_with fail
    go_ret
    refine ⟨?_, Below.refl _ _⟩
    unfold adrB
    rw [decide_eq_false (by omega)]
    rfl


theorem adrB_nat {a : Nat} (ha : a < 64) : adrB (a : Int) = true := by unfold adrB; simp; omega
theorem DW.cell4 {X : Comp → Prop} {w0 w : World} {L0 L : Lab} {g : Nat} {P : Ptrs} {D : DeskD} {bs : List Bk} {q : Nat} {t : TypeId} {x0 x1 x2 x3 : Value} (h : DW X w0 L0 w L g P D bs) (hb : (q, t, [x0, x1, x2, x3]) ∈ bs) :
    w.cell? ⟨q, 0, none⟩ = some x0 ∧ w.cell? ⟨q, 1, none⟩ = some x1 ∧ w.cell? ⟨q, 2, none⟩ = some x2 ∧ w.cell? ⟨q, 3, none⟩ = some x3 :=
  ⟨h.cell hb 0, h.cell hb 1, h.cell hb 2, h.cell hb 3⟩
set_option maxRecDepth 100000 in
set_option maxHeartbeats 6400000 in
theorem doNote_c {L : Lab} {w : World} {g : Nat} {P : Ptrs} {D : DeskD} (hd : DeskM L w g P D) {a : Nat} (ha : a < 64) (N : Int) {vb : Value} {b : List UInt8} (hb : SlV w vb b) (hl : b.length ≤ 140737488355328) (sd : DeskD → Nat → Nat → Nt.NoteD → DeskD × Int) (hs : (Nt.noteS b).kind ≠ 1 → SaidC g sd (Nt.noteS b)) :
    Calls Tryz.prog 11 #[.pointer (some ⟨g, 0, none⟩), .agg #[.int .i64 2, .int .i64 (a : Int), .int .i64 N, vb]] w fun e w' => e = .returned (.tuple #[.slice none 0 0, .int .i64 0]) ∧ ∃ L' P', DeskM L' w' g P' (noteD sd D a b) ∧ Stp mutX L L' w w' := by
  obtain ⟨A, c, rfl, hc, hr⟩ := hb
  obtain ⟨nl, hnl⟩ : ∃ nl, nl = b.length := ⟨_, rfl⟩
  have HSV : Hid (SlV w (.slice A nl c) b) := ⟨A, c, by rw [hnl], hc, hr⟩
  have HL := Lib.hid hl
  have HS := Lib.hid hs
  rw [← hnl]
  have HM0 : Hid (DW mutX w L w L g P D []) := DW.start mutX hd
  obtain ⟨q, hq⟩ : ∃ q, q = w.heap.size := ⟨_, rfl⟩
  obtain ⟨w1, hw1⟩ : ∃ w1, w1 = w.alloc (.cells #[.int .i64 2, .int .i64 (a : Int), .int .i64 N, .slice A nl c] 30) := ⟨_, rfl⟩
  obtain ⟨L1, hL1⟩ : ∃ L1, L1 = tempAt L w.heap.size := ⟨_, rfl⟩
  have HM1 : Hid (DW mutX w L w1 L1 g P D [(q, 30, [.int .i64 2, .int .i64 (a : Int), .int .i64 N, .slice A nl c])]) := by
    show DW _ _ _ _ _ _ _ _ _
    rw [hw1, hq, hL1]
    exact HM0.out.alloc _ [_, _, _, _]
  have HB1 : Hid (Below w.heap.size w w1) := by show Below _ _ _; rw [hw1]; exact balloc (Below.refl _ _) _
  have HA := Lib.hid ha
  have HADR := Lib.hid (adrB_nat ha)
  clear hd hc hr hnl hL1 HM0 ha hl hs
  go_enter Tryz.func11, Tryz.ntmps11
  go_upto_region 1 with fail
  rw [← hw1, ← hq]
  clear hw1 hq
  obtain ⟨q0, q1, q2, q3⟩ := HM1.out.cell4 (.head _)
  go_wp2_with fail
  refine (daddr_c (a : Int) w1).mono ?_
  rintro e0 w2 ⟨rfl, hbq⟩
  have HM2 := Lib.hid (HM1.out.call hbq)
  have HB2 : Hid (Below w.heap.size w w2) := bcall HB1.out hbq
  rw [HADR.out]
  clear hbq q0 q1 q2 q3 HM1 HB1
  obtain ⟨q0, q1, q2, q3⟩ := HM2.out.cell4 (.head _)
  go_wp2_with fail
  refine (note_c HM2.out.dm HA.out (HSV.out.below HB2.out) HL.out sd HS.out).mono ?_
  rintro e0 w3 ⟨rfl, L3, P3, hdq, hsq⟩
  have HM3 := Lib.hid (HM2.out.step hsq hdq mutX_temp)
  clear hdq hsq q0 q1 q2 q3
  go_wp2_with fail
  go_ret2
  exact ⟨rfl, L3, P3, HM3.out.dm, HM3.out.stp⟩
set_option maxRecDepth 100000 in
set_option maxHeartbeats 6400000 in
theorem doTake_c {L : Lab} {w : World} {g : Nat} {P : Ptrs} {D : DeskD} (hd : DeskM L w g P D) {a : Nat} (ha : a < 64) {n : Nat} (hn : n ≤ 32) {vb : Value} (hb : ∃ A c nl, vb = .slice A nl c) :
    Calls Tryz.prog 11 #[.pointer (some ⟨g, 0, none⟩), .agg #[.int .i64 5, .int .i64 (a : Int), .int .i64 (n : Int), vb]] w fun e w' => ∃ v, e = .returned (.tuple #[v, .int .i64 0]) ∧ ∃ L', OutsV L' w' v (takenD D a n).2 ∧ DeskM L' w' g P (takenD D a n).1 ∧ Stp mutX L L' w w' := by
  have hn0 : (0 : Int) ≤ (n : Int) := by omega
  have hn1 : (n : Int) ≤ 32 := by omega
  have HN := Lib.hid hn
  obtain ⟨A, c, nl, rfl⟩ := hb
  have HM0 : Hid (DW mutX w L w L g P D []) := DW.start mutX hd
  obtain ⟨q, hq⟩ : ∃ q, q = w.heap.size := ⟨_, rfl⟩
  obtain ⟨w1, hw1⟩ : ∃ w1, w1 = w.alloc (.cells #[.int .i64 5, .int .i64 (a : Int), .int .i64 (n : Int), .slice A nl c] 30) := ⟨_, rfl⟩
  obtain ⟨L1, hL1⟩ : ∃ L1, L1 = tempAt L w.heap.size := ⟨_, rfl⟩
  have HM1 : Hid (DW mutX w L w1 L1 g P D [(q, 30, [.int .i64 5, .int .i64 (a : Int), .int .i64 (n : Int), .slice A nl c])]) := by
    show DW _ _ _ _ _ _ _ _ _
    rw [hw1, hq, hL1]
    exact HM0.out.alloc _ [_, _, _, _]
  have HB1 : Hid (Below w.heap.size w w1) := by show Below _ _ _; rw [hw1]; exact balloc (Below.refl _ _) _
  have HA := Lib.hid ha
  have HADR := Lib.hid (adrB_nat ha)
  clear hd hL1 HM0 ha hn
  go_enter Tryz.func11, Tryz.ntmps11
  go_upto_region 1 with fail
  rw [← hw1, ← hq]
  clear hw1 hq
  obtain ⟨q0, q1, q2, q3⟩ := HM1.out.cell4 (.head _)
  go_wp2_with fail
  refine (daddr_c (a : Int) w1).mono ?_
  rintro e0 w2 ⟨rfl, hbq⟩
  have HM2 := Lib.hid (HM1.out.call hbq)
  have HB2 : Hid (Below w.heap.size w w2) := bcall HB1.out hbq
  rw [HADR.out]
  clear hbq q0 q1 q2 q3 HM1 HB1
  obtain ⟨q0, q1, q2, q3⟩ := HM2.out.cell4 (.head _)
  go_wp2_with fail
  refine (taken_c HM2.out.dm HA.out HN.out).mono ?_
  rintro e0 w3 ⟨v, rfl, L3, hov, hdq, hsq⟩
  have HOV := Lib.hid hov
  have HM3 := Lib.hid (HM2.out.step (hsq.mono (fun c h => postsX_mut c (.inl ⟨a, h⟩))) hdq mutX_temp)
  clear hdq hsq hov q0 q1 q2 q3
  go_wp2_with fail
  go_ret2
  exact ⟨v, rfl, L3, HOV.out, HM3.out.dm, HM3.out.stp⟩
end Go.Proofs.YtmkifedcanmjoaaGreat
/- desk.New (contract). Conditions: none. -/
set_option linter.unusedVariables false
set_option linter.unusedSimpArgs false
namespace Go.Proofs.YtmkifedcanmjoaaGreat
open Go.RowKit
attribute [local go_sem ↓] Go.wp_at_zero Go.wp_at_succ
theorem zeroD : Tryz.zeroCells113 = deskL0.toArray := by kernel_rfl
def ptrV (p : Nat) : Value := .pointer (some ⟨p, 0, none⟩)
/-- A desk's cells, its first posts laid. -/
def deskP (ps : List Nat) (cp : Nat) : List Value := deskH ++ (ps.map ptrV ++ (List.replicate (64 - ps.length) (.pointer none) ++ [ptrV cp]))
theorem deskP_zero (cp : Nat) : deskL0.toArray.setIfInBounds 1534 (ptrV cp) = (deskP [] cp).toArray := by
  rw [List.setIfInBounds_toArray]
  unfold deskL0 deskP
  rw [show 1534 = 1470 + (64 + 0) by rfl, set_append_r _ _ _ 1470 _ deskH_len, set_append_r _ _ _ 64 _ (by rw [List.length_replicate])]
  rfl
theorem deskP_len (ps : List Nat) (cp : Nat) (h : ps.length ≤ 64) : (deskP ps cp).length = 1535 := by
  unfold deskP
  simp only [List.length_append, deskH_len, List.length_map, List.length_replicate, List.length_cons, List.length_nil]
  omega
theorem deskP_set (ps : List Nat) (cp p : Nat) (h : ps.length < 64) : (deskP ps cp).set (1470 + ps.length) (ptrV p) = deskP (ps ++ [p]) cp := by
  unfold deskP
  obtain ⟨k, hk⟩ : ∃ k, 64 - ps.length = k + 1 := ⟨63 - ps.length, by omega⟩
  rw [set_append_r _ _ _ 1470 _ deskH_len, show ps.length = ps.length + 0 by rfl, set_append_r _ _ 0 ps.length _ (by rw [List.length_map]), Nat.add_zero, hk, List.length_append, List.map_append, show 64 - (ps.length + [p].length) = k by simp only [List.length_cons, List.length_nil]; omega, List.replicate_succ, List.append_assoc]
  rfl
theorem deskP_at (ps : List Nat) (cp : Nat) (h : ps.length ≤ 64) {i : Nat} (hi : i < 64) (h2 : ps.length ≤ i) : (deskP ps cp)[1470 + i]? = some (.pointer none) := by
  unfold deskP
  rw [List.getElem?_append_right (by rw [deskH_len]; omega), deskH_len, List.getElem?_append_right (by rw [List.length_map]; omega), List.length_map, List.getElem?_append_left (by rw [List.length_replicate]; omega), List.getElem?_replicate, if_pos (by omega)]
/-- What desk.New leaves. -/
structure NewM (w w' : World) (g cp cq : Nat) (ps : List Nat) : Prop where
  ms : MW w w' [(g, 113, deskP ps cp), (cp, 151, [.slice (some ⟨cq, 0, none⟩) 11 11]), (cq, 213, (List.replicate 11 (0 : Int)).map (Value.int .i64))]
  srt : ps.Pairwise (· < ·)
  post : ∀ p ∈ ps, g < p ∧ p < w'.heap.size ∧ Blk w' p 153 #[.int .i64 32, .slice none 0 0]
def NewD (w w' : World) (g : Nat) : Prop := ∃ cp cq ps, ps.length = 64 ∧ NewM w w' g cp cq ps ∧ cp < g ∧ cq < cp
set_option maxRecDepth 100000 in
set_option maxHeartbeats 6400000 in
theorem newM_c (w : World) : Calls Tryz.prog 7 #[] w fun e w' => ∃ g, e = .returned (.pointer (some ⟨g, 0, none⟩)) ∧ NewD w w' g := by
  go_enter Tryz.func7, Tryz.ntmps7
  go_wp2_with fail
  refine (newCounts_c w).mono ?_
  rintro e0 w1 ⟨cp, cq, rfl, hq, hqp, hbp, hbq, hbel⟩
  obtain ⟨C, hC⟩ : ∃ C, C = deskP [] cp := ⟨_, rfl⟩
  have HZZ : Hid (Tryz.zeroCells113.setIfInBounds 1534 (.pointer (some ⟨cp, 0, none⟩)) = C.toArray) := by
    show _ = _
    rw [hC, zeroD]
    exact deskP_zero cp
  have HCE := Lib.hid hC
  have HM1 : Hid (MW w w1 [(cp, 151, [.slice (some ⟨cq, 0, none⟩) 11 11]), (cq, 213, (List.replicate 11 (0 : Int)).map (Value.int .i64))]) :=
    ⟨hbel, ⟨by omega, hbp, fun c hc => by simp only [List.mem_singleton] at hc; subst hc; show cq ≠ cp; omega⟩, ⟨hq, hbq, fun c hc => by cases hc⟩, trivial⟩
  have HLT : Hid (cq < cp ∧ cp < w1.heap.size) := ⟨hqp, hbp.lt⟩
  clear hC hbp hbq hbel hq hqp
  go_upto_region 2 with fail
  rw [HZZ.out]
  obtain ⟨g, hg⟩ : ∃ g, g = w1.heap.size := ⟨_, rfl⟩
  obtain ⟨w2, hw2⟩ : ∃ w2, w2 = w1.alloc (.cells C.toArray 113) := ⟨_, rfl⟩
  have HM2 : Hid (NewM w w2 g cp cq []) := by
    refine ⟨?_, List.Pairwise.nil, fun p hp => by cases hp⟩
    rw [hw2, hg, ← HCE.out]
    exact HM1.out.alloc _ C
  have HLG : Hid (cq < cp ∧ cp < g) := by show _ < _ ∧ _ < _; rw [hg]; exact HLT.out
  rw [← hw2, ← hg]
  clear hw2 hg HM1 HLT HCE
  go_upto_region 3 with fail
  go_loopg [6] 64 (fun gg v wx => ∃ (i : Nat) (ps : List Nat), gg = 64 - i ∧ i ≤ 64 ∧ v = .int .i64 (i : Int) ∧ ps.length = i ∧ NewM w wx g cp cq ps)
  case atStart => exact ⟨0, [], rfl, by omega, rfl, rfl, HM2.out⟩
  case round =>
    obtain ⟨i, ps, hgg, hi, rfl, hps, hnm⟩ := hrel
    have HGG := Lib.hid hgg
    have HPS := Lib.hid hps
    have HNM := Lib.hid hnm
    clear hgg hps hnm
    by_cases hin : i < 64
    · have hini : (i : Int) < 64 := by omega
      have hin0 : (0 : Int) ≤ (i : Int) := by omega
      have hw1 : IntKind.i64.wrap ((i : Int) + 1) = ((i + 1 : Nat) : Int) := by rw [IntKind.wrap_i64]; omega
      have HLT := Lib.hid hin
      obtain ⟨C, hC⟩ : ∃ C, C = deskP ps cp := ⟨_, rfl⟩
      have HCE := Lib.hid hC
      have HCA : Hid (C[1470 + i]? = some (.pointer none)) := by show _ = _; rw [hC]; exact deskP_at ps cp (by have := HPS.out; omega) hin (by have := HPS.out; omega)
      have HM6 : Hid (MW w wr [(g, 113, C)]) := by
        show MW _ _ _
        have h := HNM.out.ms
        rw [← hC] at h
        exact h.drop (.cons_cons _ (.cons _ (.cons _ .slnil)))
      clear hC hin hi
      go_upto_region 5 with fail
      obtain ⟨w7, hw7⟩ : ∃ w7, w7 = wr.drew := ⟨_, rfl⟩
      have HM7 : Hid (MW w w7 [(g, 113, C)]) := by show MW _ _ _; rw [hw7]; exact HM6.out.drew
      refine wp_region_held_drew (S := (fun w' => MW w w' [])) (by kernel_rfl) (by rw [← hw7]; exact (HM7.out.drop (.cons _ .slnil))) (fun hHeld => ?_)
      rw [← hw7] at hHeld ⊢
      have HND : Hid (NewM w w7 g cp cq ps) := by show NewM _ _ _ _ _ _; rw [hw7]; exact ⟨HNM.out.ms.drew, HNM.out.srt, HNM.out.post⟩
      clear hw7 HM6
      refine wpAnyH_takeAt (i := 0) (v := (.pointer (some ⟨g, 0, none⟩))) rfl (by kernel_rfl) (by kernel_rfl) (by kernel_rfl) (fun _ _ _ h => h) rfl (Or.inl ⟨by rfl, fun w' hS => ?_⟩) hHeld ?_
      · go_simp
      simp only [List.set_cons_zero, List.set_cons_succ]
      refine wpAnyH_takeAt (i := 1) (v := (.int .i64 (i : Int))) rfl (by kernel_rfl) (by kernel_rfl) (by kernel_rfl) (fun _ _ _ h => h) rfl (Or.inl ⟨by rfl, fun w' hS => ?_⟩) hHeld ?_
      · go_simp
      simp only [List.set_cons_zero, List.set_cons_succ]
      refine wpAnyH_takeAt (i := 3) (v := (.pointer (some ⟨g, 0, none⟩))) rfl (by kernel_rfl) (by kernel_rfl) (by kernel_rfl) (fun _ _ _ h => h) rfl (Or.inl ⟨by rfl, fun w' hS => ?_⟩) hHeld ?_
      · go_simp
      simp only [List.set_cons_zero, List.set_cons_succ]
      refine wpAnyH_takeAt (i := 4) (v := (.pointer (some ⟨g, 1470, none⟩))) rfl (by kernel_rfl) (by kernel_rfl) (by kernel_rfl) (fun _ _ _ h => h) rfl (Or.inl ⟨by rfl, fun w' hS => ?_⟩) hHeld ?_
      · go_simp
      simp only [List.set_cons_zero, List.set_cons_succ]
      refine wpAnyH_ready (rs := [2]) (by kernel_rfl) (by simp) (AllReadyH.cons rfl (fun K' hK => ?_) AllReadyH.nil)
      go_simp
      go_at_call 24
      refine (postNew_c w7).mono ?_
      rintro e0 w8 ⟨q, rfl, hqe, hbk, hbq⟩
      have HM8 : Hid (MW w w8 [(g, 113, C)]) := HM7.out.call hbq
      have HNC : Hid (NewM w w8 g cp cq ps ∧ (∀ p ∈ ps, p < q) ∧ g < q ∧ q < w8.heap.size) := by
        have hn : NewM w w7 g cp cq ps := HND.out
        refine ⟨⟨hn.ms.call hbq, hn.srt, fun p hp => ⟨(hn.post p hp).1, Nat.lt_of_lt_of_le (hn.post p hp).2.1 hbq.size, (hn.post p hp).2.2.below hbq⟩⟩, fun p hp => by rw [hqe]; exact (hn.post p hp).2.1, by rw [hqe]; exact (HM7.out.blk (.head _)).lt, hbk.lt⟩
      have HBK := Lib.hid hbk
      clear hbq hqe hbk
      go_wp2_with fail
      refine hK.out _ _ (HM8.out.drop (.cons _ .slnil)) (fun hHeld' => ?_)
      clear hK hHeld HM7
      have hHeld := hHeld'
      clear hHeld'
      refine wpAnyH_takeAt (i := 5) (v := (.pointer (some ⟨g, 1470 + i, none⟩))) rfl (by kernel_rfl) (by kernel_rfl) (by kernel_rfl) (fun _ _ _ h => h) rfl (Or.inl ⟨by rfl, fun w' hS => ?_⟩) hHeld ?_
      · go_simp
      simp only [List.set_cons_zero, List.set_cons_succ]
      refine wpAnyH_ready (rs := [6]) (by kernel_rfl) (by simp) (AllReadyH.cons rfl (fun K' hK => ?_) AllReadyH.nil)
      have ckw := HM8.out.cell (.head _) (1470 + i)
      rw [HCA.out] at ckw
      have fkw := HM8.out.frozen (.head _) (1470 + i)
      go_simp
      obtain ⟨w9, hw9⟩ : ∃ w9, w9 = w8.setCell ⟨g, 1470 + i, none⟩ (.pointer (some ⟨q, 0, none⟩)) := ⟨_, rfl⟩
      have HNF : Hid (NewM w w9 g cp cq (ps ++ [q])) := by
        obtain ⟨hn, hlt, hgq, hqs⟩ := HNC.out
        refine ⟨?_, ?_, ?_⟩
        · have h := MW.set1 (pre := []) hn.ms (1470 + i) (ptrV q)
          have e := deskP_set ps cp q (by rw [HPS.out]; exact HLT.out)
          rw [HPS.out] at e
          rw [e] at h
          rw [hw9]
          exact h
        · rw [List.pairwise_append]
          exact ⟨hn.srt, List.pairwise_singleton _ _, fun a ha b hb => by rw [List.mem_singleton.1 hb]; exact hlt a ha⟩
        · intro p hp
          rw [hw9]
          have hsz : (w8.setCell ⟨g, 1470 + i, none⟩ (.pointer (some ⟨q, 0, none⟩))).heap.size = w8.heap.size := World.size_setCell ..
          rcases List.mem_append.1 hp with hp | hp
          · exact ⟨(hn.post p hp).1, by rw [hsz]; exact (hn.post p hp).2.1, (hn.post p hp).2.2.far (by have := (hn.post p hp).1; show p ≠ g; omega) _⟩
          · rw [List.mem_singleton.1 hp]
            exact ⟨hgq, by rw [hsz]; exact hqs, HBK.out.far (by show q ≠ g; omega) _⟩
      have HM9 : Hid (MW w w9 [(g, 113, C.set (1470 + i) (ptrV q))]) := by
        show MW _ _ _
        rw [hw9]
        exact MW.set1 (pre := []) (post := []) HM8.out (1470 + i) (ptrV q)
      rw [← hw9]
      clear hw9 ckw fkw
      refine hK.out _ _ (HM9.out.drop (.cons _ .slnil)) (fun hHeld' => ?_)
      clear hK hHeld HM8
      have hHeld := hHeld'
      clear hHeld'
      refine wpAnyH_done (by kernel_rfl) ?_ _
      go_wp2_with fail
      go_roundg (64 - (i + 1))
      case measure => have := HLT.out; have := HGG.out; omega
      case rel => have hlt := HLT.out; exact ⟨i + 1, ps ++ [q], rfl, by omega, by first | rfl | go_num, by rw [List.length_append, HPS.out]; rfl, HNF.out⟩
    · have hini : ¬ (i : Int) < 64 := by omega
      have hie : i = 64 := by omega
      subst hie
      clear hin hi
      go_wp2_with fail
      go_ret
      exact ⟨g, rfl, cp, cq, ps, HPS.out, HNM.out, HLG.out.2, HLG.out.1⟩
end Go.Proofs.YtmkifedcanmjoaaGreat
/- What desk.New makes is a desk at its beginning. Conditions: none. -/
set_option linter.unusedVariables false
set_option linter.unusedSimpArgs false
namespace Go.Proofs.YtmkifedcanmjoaaGreat
open Go.RowKit
theorem flat_get {α : Type} {l : List α} {n : Nat} (hl : l.length = n) : ∀ (m i j : Nat), i < m → j < n → (List.replicate m l).flatten[n * i + j]? = l[j]?
  | 0, i, j, hi, _ => absurd hi (by omega)
  | m + 1, 0, j, _, hj => by
    rw [List.replicate_succ, List.flatten_cons, List.getElem?_append_left (by omega), Nat.mul_zero, Nat.zero_add]
  | m + 1, i + 1, j, hi, hj => by
    rw [List.replicate_succ, List.flatten_cons, List.getElem?_append_right (by rw [hl, Nat.mul_add]; omega), hl, show n * (i + 1) + j - n = n * i + j by rw [Nat.mul_add]; omega]
    exact flat_get hl m i j (by omega) hj
theorem hallL0_len : hallL0.length = 367 := by kernel_rfl
theorem strmL0_len : strmL0.length = 11 := rfl
theorem rL0_len : (rL (rm0 0)).length = 39 := by kernel_rfl
theorem deskP_lo (ps : List Nat) (cp k : Nat) (hk : k < 1470) : (deskP ps cp)[k]? = deskH[k]? := by
  unfold deskP
  rw [List.getElem?_append_left (by rw [deskH_len]; exact hk)]
theorem deskH_hall {i j : Nat} (hi : i < 4) (hj : j < 367) : deskH[367 * i + j]? = hallL0[j]? := by
  have hl : ((List.replicate 4 hallL0).flatten).length = 1468 := by kernel_rfl
  have h := flat_get hallL0_len 4 i j hi hj
  rw [← h]
  unfold deskH
  rw [List.getElem?_append_left (by rw [hl]; omega)]
theorem hallL0_room {j : Nat} (hj : j < 39) : hallL0[j]? = (rL (rm0 0))[j]? := by
  unfold hallL0
  rw [List.getElem?_append_left (by rw [rL0_len]; exact hj)]
theorem hallL0_strm {s j k : Nat} (hs : s < 8) (hj : j < 3) (hk : k < 11) : hallL0[39 + 33 * s + 11 * j + k]? = strmL0[k]? := by
  have hl : ((List.replicate 24 strmL0).flatten).length = 264 := by kernel_rfl
  have h := flat_get strmL0_len 24 (3 * s + j) k (by omega) hk
  rw [← h]
  unfold hallL0
  rw [List.getElem?_append_right (by rw [rL0_len]; omega), rL0_len, List.getElem?_append_left (by rw [hl]; omega), show 39 + 33 * s + 11 * j + k - 39 = 11 * (3 * s + j) + k by omega]
theorem hallL0_lane {a b : Nat} (ha : a < 8) (hb : b < 8) : hallL0[303 + 8 * a + b]? = some (.pointer none) := by
  have hl : ((List.replicate 24 strmL0).flatten).length = 264 := by kernel_rfl
  unfold hallL0
  rw [List.getElem?_append_right (by rw [rL0_len]; omega), rL0_len, List.getElem?_append_right (by rw [hl]; omega), hl, List.getElem?_replicate, if_pos (by omega)]
theorem deskP_post (ps : List Nat) (cp : Nat) {i : Nat} (hi : i < ps.length) : (deskP ps cp)[1470 + i]? = some (ptrV (ps.getD i 0)) := by
  unfold deskP
  rw [List.getElem?_append_right (by rw [deskH_len]; omega), deskH_len, show 1470 + i - 1470 = i by omega, List.getElem?_append_left (by rw [List.length_map]; exact hi), List.getElem?_map, List.getElem?_eq_getElem hi, List.getD_eq_getElem?_getD, List.getElem?_eq_getElem hi]
  rfl
theorem deskP_counts (ps : List Nat) (cp : Nat) (h : ps.length = 64) : (deskP ps cp)[1534]? = some (ptrV cp) := by
  unfold deskP
  rw [List.getElem?_append_right (by rw [deskH_len]; omega), deskH_len, List.getElem?_append_right (by rw [List.length_map]; omega), List.length_map, h]
  rfl
theorem deskH_now : deskH[1468]? = some (.int .i64 0) ∧ deskH[1469]? = some (.slice none 0 0) := by
  have hl : ((List.replicate 4 hallL0).flatten).length = 1468 := by kernel_rfl
  unfold deskH
  constructor <;> (rw [List.getElem?_append_right (by rw [hl]; omega), hl]; rfl)
/-- Whose the blocks of a new desk are. -/
def newLab (g cp cq : Nat) (ps : List Nat) : Lab := fun k => if k = g then .desk else if k = cp ∨ k = cq then .counts else if k ∈ ps then .post (ps.idxOf k) else .other
def newPtrs (cp : Nat) (ps : List Nat) : Ptrs := ⟨fun a => ps.getD a 0, fun _ _ _ => 0, cp⟩
theorem numV_nil (k : IntKind) (L : Lab) (w : World) : NumV k L w (.slice none 0 0) [] := ⟨⟨none, 0, rfl, Nat.le_refl _, by simp [maxLen], Reads.none_⟩, fun g hg => by cases hg⟩
theorem tmplV_nil (L : Lab) (w : World) : TmplV L w (.slice none 0 0) [] := ⟨⟨none, 0, [], rfl, Nat.le_refl _, by simp [maxLen], Reads.none_, rfl⟩, fun g hg => by cases hg⟩
theorem sizesV_nil (L : Lab) (w : World) : SizesV L w (.slice none 0 0) [] := ⟨⟨none, 0, rfl, Nat.le_refl _, by simp [maxLen], Reads.none_⟩, fun g hg => by cases hg⟩
theorem getD_rep {α : Type} (n i : Nat) (a d : α) : (List.replicate n a).getD i d = a ∨ (List.replicate n a).getD i d = d := by
  rw [List.getD_eq_getElem?_getD, List.getElem?_replicate]
  split
  · exact .inl rfl
  · exact .inr rfl
theorem desk0_hall (i : Nat) : desk0.hall i = hall0 := by
  rcases getD_rep 4 i hall0 hall0 with h | h <;> exact h
theorem hall0_str (s j : Nat) : hall0.str s j = strm0 := by
  rcases getD_rep 24 (3 * s + j) strm0 strm0 with h | h <;> exact h
theorem hall0_lane (a b : Nat) : hall0.lane a b = none := by
  rcases getD_rep 64 (8 * a + b) (none : Option LaneD) none with h | h <;> exact h
theorem desk0_post (a : Nat) : desk0.post a = [] := by
  rcases getD_rep 64 a ([] : List OutD) [] with h | h <;> exact h
theorem pair_nodup {ps : List Nat} (h : ps.Pairwise (· < ·)) : ps.Nodup := h.imp fun h => by omega
theorem newD_desk {w w' : World} {g : Nat} (h : NewD w w' g) : ∃ L P, DeskM L w' g P desk0 ∧ (∀ k, k < w.heap.size → L k = .other) ∧ Below w.heap.size w w' := by
  obtain ⟨cp, cq, ps, hl, hn, h1, h2⟩ := h
  have hbg := hn.ms.blk (.head _)
  have hbp := hn.ms.blk (.tail _ (.head _))
  have hbq := hn.ms.blk (.tail _ (.tail _ (.head _)))
  have hle := hn.ms.le (.tail _ (.tail _ (.head _)))
  have hnd := pair_nodup hn.srt
  have hgt : ∀ p ∈ ps, g < p := fun p hp => (hn.post p hp).1
  have hLg : newLab g cp cq ps g = .desk := by unfold newLab; rw [if_pos rfl]
  have hLp : newLab g cp cq ps cp = .counts := by unfold newLab; rw [if_neg (by omega), if_pos (.inl rfl)]
  have hLq : newLab g cp cq ps cq = .counts := by unfold newLab; rw [if_neg (by omega), if_pos (.inr rfl)]
  have hLo : ∀ a, a < 64 → newLab g cp cq ps (ps.getD a 0) = .post a := fun a ha => by
    have hm : ps.getD a 0 ∈ ps := by rw [List.getD_eq_getElem?_getD, List.getElem?_eq_getElem (by omega)]; exact List.getElem_mem _
    have := hgt _ hm
    unfold newLab
    rw [if_neg (by omega), if_neg (by omega), if_pos hm]
    congr 1
    rw [List.getD_eq_getElem?_getD, List.getElem?_eq_getElem (by omega)]
    exact hnd.idxOf_getElem _ _
  refine ⟨newLab g cp cq ps, newPtrs cp ps, ⟨hLg, fun k hk => ?_, deskP ps cp, hbg, ?_⟩, fun k hk => ?_, hn.ms.bel⟩
  · have := hbg.lt
    unfold newLab
    rw [if_neg (by omega), if_neg (by omega), if_neg]
    intro hm
    have := (hn.post k hm).2.1
    omega
  · refine ⟨deskP_len ps cp (by omega), rfl, rfl, fun i hi => ?_, fun i hi j hj => ?_, fun i hi => ?_, fun i hi s hs j hj => ?_, fun i hi => ?_, fun i hi t2 ht fr hf => ?_, ?_, ⟨Int.le_refl _, by show (0 : Int) < _; decide⟩, ?_, fun a ha => ?_, ?_, (fun a ha => by rw [desk0_post]; exact Nat.zero_le _), fun i hi => by rw [desk0_hall]; exact goodT_tb0⟩
    · rw [desk0_hall]
      exact WR.rm0 (e := 0) (by omega) false
    · rw [deskP_lo _ _ _ (by omega), deskH_hall hi (by omega), hallL0_room hj, desk0_hall]
      rfl
    · rw [desk0_hall]; rfl
    · rw [desk0_hall, hall0_str]
      have e : ∀ k, k < 11 → (deskP ps cp)[367 * i + 39 + 33 * s + 11 * j + k]? = strmL0[k]? := fun k hk => by
        rw [show 367 * i + 39 + 33 * s + 11 * j + k = 367 * i + (39 + 33 * s + 11 * j + k) by omega, deskP_lo _ _ _ (by omega), deskH_hall hi (by omega), hallL0_strm hs hj hk]
      refine ⟨(e 0 (by omega)).trans rfl, (e 1 (by omega)).trans rfl, (e 2 (by omega)).trans rfl, ⟨(e 3 (by omega)).trans rfl, (e 4 (by omega)).trans rfl, ⟨_, (e 5 (by omega)).trans rfl, tmplV_nil _ _⟩, (e 6 (by omega)).trans rfl, ⟨_, (e 7 (by omega)).trans rfl, numV_nil _ _ _⟩, ⟨_, (e 8 (by omega)).trans rfl, sizesV_nil _ _⟩⟩, (e 9 (by omega)).trans rfl, ⟨_, (e 10 (by omega)).trans rfl, numV_nil _ _ _⟩⟩
    · rw [desk0_hall]; rfl
    · rw [desk0_hall, hall0_lane]
      show (deskP ps cp)[367 * i + 303 + 8 * t2 + fr]? = some (.pointer none)
      rw [show 367 * i + 303 + 8 * t2 + fr = 367 * i + (303 + 8 * t2 + fr) by omega, deskP_lo _ _ _ (by omega), deskH_hall hi (by omega), hallL0_lane ht hf]
    · rw [deskP_lo _ _ _ (by omega)]; exact deskH_now.1
    · exact ⟨_, by rw [deskP_lo _ _ _ (by omega)]; exact deskH_now.2, Row.nil _ _ _, fun g hg => by cases hg⟩
    · refine ⟨deskP_post ps cp (by omega), hLo a ha, .slice none 0 0, [], ?_, ?_, (fun g hg => by cases hg), ?_⟩
      · have hm : ps.getD a 0 ∈ ps := by rw [List.getD_eq_getElem?_getD, List.getElem?_eq_getElem (by omega)]; exact List.getElem_mem _
        exact (hn.post _ hm).2.2
      · rw [desk0_post]; exact Row.nil _ _ _
      · rw [desk0_post]; rfl
    · exact ⟨deskP_counts ps cp hl, hLp, cq, hbp, hLq, hbq, rfl⟩
  · unfold newLab
    rw [if_neg (by omega), if_neg (by omega), if_neg]
    intro hm
    have := hgt k hm
    omega
end Go.Proofs.YtmkifedcanmjoaaGreat
/- awake returns true (contract). Conditions: none. -/
set_option linter.unusedVariables false
set_option linter.unusedSimpArgs false
namespace Go.Proofs.YtmkifedcanmjoaaGreat
open Go.RowKit
attribute [local go_sem ↓] Go.wp_at_zero Go.wp_at_succ
theorem Stp.toBelow {L L' : Lab} {w w' : World} {B : Nat} (h : Stp mutX L L' w w') (ho : ∀ k, k < B → L k = .other) (hB : B ≤ w.heap.size) : Below B w w' ∧ ∀ k, k < B → L' k = .other :=
  ⟨⟨h.sv.os, h.sv.tape, h.sv.output, h.sv.size, fun k hk => h.sv.block k (by omega) (by rw [ho k hk]; exact mutX_other)⟩, fun k hk => (h.old k (by omega)).trans (ho k hk)⟩
def sd0 : DeskD → Nat → Nat → Nt.NoteD → DeskD × Int := fun D _ _ _ => (D, 0)
def joinN : Nt.NoteD := ⟨1, 0, 0, 0, 0, 0, []⟩
def awakeB (l : List OutD) : Bool := match l with
  | [o] => decide (o.adr = 5) && decide (o.b.length = 19)
  | _ => false
theorem awake_plain : awakeB (takenD (noteD sd0 desk0 5 (Nt.bytesS joinN)) 5 1).2 = true := by decide +kernel
theorem joinN_good : Nt.good joinN = true ∧ (Nt.noteS (Nt.bytesS joinN)).kind = 1 ∧ (Nt.bytesS joinN).length = 11 := by decide +kernel
set_option maxRecDepth 100000 in
set_option maxHeartbeats 6400000 in
theorem awake_c (w : World) : Calls Tryz.prog 8 #[] w fun e w' => e = .returned (.bool true) ∧ Below w.heap.size w w' := by
  have HNW := Lib.hid (newM_c w)
  go_enter Tryz.func8, Tryz.ntmps8
  go_wp2_with fail
  refine HNW.out.mono ?_
  rintro e0 w1 ⟨g, rfl, hnd⟩
  obtain ⟨L, P, hd, ho, hb⟩ := newD_desk hnd
  have HD := Lib.hid hd
  have HO := Lib.hid ho
  have HB := Lib.hid hb
  have HRB := Lib.hid (Nt.rbytes_c joinN none 0 w1 Reads.none_ (by show (0 : Nat) ≤ 9223372036854775807; decide))
  unfold Nt.noteV joinN at HRB
  clear hnd hd ho hb HNW
  go_wp2_with fail
  refine HRB.out.mono ?_
  rintro e0 w2 ⟨A, c, rfl, hrow, hbq⟩
  obtain ⟨jb, hjb⟩ : ∃ jb, jb = Nt.bytesS joinN := ⟨_, rfl⟩
  have hgj : Nt.good ⟨1, 0, 0, 0, 0, 0, []⟩ = true := joinN_good.1
  have hbj : Nt.bytesS ⟨1, 0, 0, 0, 0, 0, []⟩ = jb := hjb.symm
  have hlj : jb.length = 11 := by rw [hjb]; exact joinN_good.2.2
  rw [hgj] at hrow ⊢
  simp only [if_true] at hrow ⊢
  rw [hbj, hlj] at hrow
  rw [hbj, hlj]
  have HD2 := Lib.hid (HD.out.below hbq)
  have HB2 : Hid (Below w.heap.size w w2) := bcall HB.out hbq
  have HSV : Hid (SlV w2 (.slice A 11 c) jb) := SlV.own (base := w1.heap.size) hrow
  have HJB := Lib.hid hjb
  have HDN : Hid (Calls Tryz.prog 11 #[.pointer (some ⟨g, 0, none⟩), .agg #[.int .i64 2, .int .i64 5, .int .i64 0, .slice A 11 c]] w2 fun e w' => e = .returned (.tuple #[.slice none 0 0, .int .i64 0]) ∧ ∃ L' P', DeskM L' w' g P' (noteD sd0 desk0 5 jb) ∧ Stp mutX L L' w2 w') :=
    doNote_c HD2.out (a := 5) (by decide) 0 HSV.out (by omega) sd0 (fun h => absurd (by rw [hjb]; exact joinN_good.2.1) h)
  clear hrow hbq hgj hbj hlj HRB hjb
  go_wp2_with fail
  refine HDN.out.mono ?_
  rintro e0 w3 ⟨rfl, L3, P3, hd3, hs3⟩
  have HD3 := Lib.hid hd3
  have HT3 := Lib.hid (hs3.toBelow HO.out (by have := HB2.out.size; omega))
  have HB3 : Hid (Below w.heap.size w w3) := HB2.out.trans HT3.out.1
  have HDT : Hid (Calls Tryz.prog 11 #[.pointer (some ⟨g, 0, none⟩), .agg #[.int .i64 5, .int .i64 5, .int .i64 1, .slice none 0 0]] w3 fun e w' => ∃ v, e = .returned (.tuple #[v, .int .i64 0]) ∧ ∃ L', OutsV L' w' v (takenD (noteD sd0 desk0 5 jb) 5 1).2 ∧ DeskM L' w' g P3 (takenD (noteD sd0 desk0 5 jb) 5 1).1 ∧ Stp mutX L3 L' w3 w') :=
    doTake_c hd3 (a := 5) (by decide) (n := 1) (by decide) ⟨none, 0, 0, rfl⟩
  clear hd3 hs3 HDN
  go_wp2_with fail
  refine HDT.out.mono ?_
  rintro e0 w4 ⟨v, rfl, L4, hov, hd4, hs4⟩
  have HB4 : Hid (Below w.heap.size w w4) := HB3.out.trans (hs4.toBelow HT3.out.2 (by have := HB3.out.size; omega)).1
  have hpl := awake_plain
  rw [← HJB.out] at hpl
  obtain ⟨l, hl⟩ : ∃ l, l = (takenD (noteD sd0 desk0 5 jb) 5 1).2 := ⟨_, rfl⟩
  rw [← hl] at hpl hov
  clear hd4 hs4 hl HDT
  match l, hpl, hov with
  | [o], hpl, hov =>
    unfold awakeB at hpl
    simp only [Bool.and_eq_true, decide_eq_true_eq] at hpl
    obtain ⟨xs, hr, ⟨vb, xr, rfl, hvb, hor⟩, _⟩ := hov
    obtain ⟨Av, cv, rfl, hcv⟩ := hr.form
    obtain ⟨gr, off, rfl, hgl, hcell⟩ := hr.cells_ (by simp)
    obtain ⟨Ab, cb, rfl, _, _⟩ := hvb.1
    rw [hpl.1, hpl.2] at hcell
    have ck0 : w4.cell? ⟨gr, off, none⟩ = some (.int .i64 5) := hcell 0 (by simp)
    have ck2 : w4.cell? ⟨gr, off + 2, none⟩ = some (.slice Ab 19 cb) := hcell 2 (by simp)
    have HCV := Lib.hid hcv
    have e1 : [o].length = 1 := rfl
    rw [e1]
    clear hpl hr hvb hor hcv hcell e1
    go_wp2_with fail
    go_ret
    exact ⟨rfl, HB4.out⟩
end Go.Proofs.YtmkifedcanmjoaaGreat
