/- Texts of this claim, one behind the other: SaidW, RatesS, RatesP. Each says ahead of itself what it proves, and its conditions. -/
import Derived.Test.YtmkifedcanmjoaaGreatKf
import Derived.Test.YtmkifedcanmjoaaGreatKl
/- desk.said where one shows a stream, or wants a new lane (contracts). Conditions: the note may be; numbers that fit. -/
set_option linter.unusedVariables false
set_option linter.unusedSimpArgs false
namespace Go.Proofs.YtmkifedcanmjoaaGreat
open Go.RowKit
attribute [local go_sem ↓] Go.wp_at_zero Go.wp_at_succ
set_option maxRecDepth 100000 in
set_option maxHeartbeats 12800000 in
theorem saidShow {L : Lab} {w : World} {g : Nat} {P : Ptrs} {D : DeskD} (hd : DeskM L w g P D) {i s : Nat} (hi : i < 4) (hs : s < 8) (room slot epoch n m : Int) (bs : List UInt8) {A : Option Addr} {c nb : Nat} (hnb : nb = bs.length) (hg : Nt.good ⟨4, room, slot, epoch, n, m, bs⟩ = true) (hv : ByV L w (.slice A nb c) bs) :
    Calls Tryz.prog 60 #[.pointer (some ⟨g, 0, none⟩), .pointer (some ⟨g, i * 367, none⟩), .int .i64 (s : Int), .agg #[.int .i64 4, .int .i64 room, .int .i64 slot, .int .i64 epoch, .int .i64 n, .int .i64 m, .slice A nb c]] w fun e w' => e = .returned (.int .i64 (showD D i s ⟨4, room, slot, epoch, n, m, bs⟩).2) ∧ ∃ L' P', DeskM L' w' g P' (showD D i s ⟨4, room, slot, epoch, n, m, bs⟩).1 ∧ Stp mutX L L' w w' := by
  have HWR := Lib.hid (hd.wr hi)
  obtain ⟨res, hres⟩ : ∃ res, res = showD D i s ⟨4, room, slot, epoch, n, m, bs⟩ := ⟨_, rfl⟩
  have HRESE := Lib.hid hres
  have HBV := Lib.hid hv
  have HG := Lib.hid hg
  have HNB := Lib.hid hnb
  clear hv hg hnb
  rw [← hres]
  obtain ⟨T, hT⟩ : ∃ T : List Value, T = rL (D.hall i).r := ⟨_, rfl⟩
  have HTF : Hid (FitL 56 T) := by show FitL _ _; rw [hT]; exact fitR HWR.out
  have HTE := Lib.hid hT
  obtain ⟨Y, hY⟩ : ∃ Y : List Value, Y = [.bool false, .bool false, .bool false, .bool false, .bool false, .bool false, .bool false, .bool false, .int .i64 0, .int .i64 0, .int .i64 0, .int .i64 0, .int .i64 0, .int .i64 0, .int .i64 0, .int .i64 0, .int .i64 0, .bool false, .int .i64 0, .int .i64 0, .int .i64 0, .int .i64 0, .int .i64 0, .int .i64 0, .int .i64 0, .int .i64 0, .int .i64 0, .int .i64 0, .int .i64 0, .int .i64 0, .int .i64 0, .int .i64 0, .int .i64 0, .int .i64 0, .int .i64 0, .int .i64 0, .int .i64 0, .int .i64 0, .bool false] := ⟨_, rfl⟩
  have HYF : Hid (FitL 56 Y) := by show FitL _ _; rw [hY]; exact fit0R
  have HYE := Lib.hid hY
  obtain ⟨ad, had⟩ : ∃ ad, ad = addrAt (D.hall i).r.t s := ⟨_, rfl⟩
  have HADE := Lib.hid had
  have HI := Lib.hid hi
  have HS := Lib.hid hs
  have b0 : (0 : Int) ≤ (s : Int) := by omega
  have b1 : (s : Int) < 8 := by omega
  have HM0 : Hid (DW mutX w L w L g P D []) := DW.start mutX hd
  obtain ⟨q, hq⟩ : ∃ q, q = w.heap.size := ⟨_, rfl⟩
  obtain ⟨w1, hw1⟩ : ∃ w1, w1 = w.alloc (.cells #[.int .i64 4, .int .i64 room, .int .i64 slot, .int .i64 epoch, .int .i64 n, .int .i64 m, .slice A nb c] 172) := ⟨_, rfl⟩
  obtain ⟨L1, hL1⟩ : ∃ L1, L1 = tempAt L w.heap.size := ⟨_, rfl⟩
  have HM1 : Hid (DW mutX w L w1 L1 g P D [(q, 172, [.int .i64 4, .int .i64 room, .int .i64 slot, .int .i64 epoch, .int .i64 n, .int .i64 m, .slice A nb c])]) := by
    show DW _ _ _ _ _ _ _ _ _
    rw [hw1, hq, hL1]
    exact HM0.out.alloc _ [_, _, _, _, _, _, _]
  have HNVF : Hid (FitL 172 [.int .i64 4, .int .i64 room, .int .i64 slot, .int .i64 epoch, .int .i64 n, .int .i64 m, .slice A nb c]) := ⟨infoN, by simp [Value.oneCell']⟩
  clear hd hres hT hY had hi hs hL1 HM0
  go_enter Tryz.func60, Tryz.ntmps60
  go_upto_region 1 with fail
  rw [← hw1, ← hq]
  clear hw1 hq
  obtain ⟨wd2, hwd2⟩ : ∃ wd2, wd2 = w1.drew := ⟨_, rfl⟩
  have HM2 : Hid (DW mutX w L wd2 L1 g P D [(q, 172, [.int .i64 4, .int .i64 room, .int .i64 slot, .int .i64 epoch, .int .i64 n, .int .i64 m, .slice A nb c])]) := by show DW _ _ _ _ _ _ _ _ _; rw [hwd2]; exact HM1.out.drew
  have HC2 : Hid (World.rangeAt wd2 g (i * 367) T ∧ wd2.cell? ⟨g, i * 367 + 8 + s, none⟩ = some (.int .i64 ad)) := by
    exact ⟨by rw [HTE.out]; exact HM2.out.dm.roomAt HI.out, by rw [HADE.out]; exact HM2.out.dm.addrCell HI.out HS.out⟩
  refine wp_region_held_drew (S := (fun w' => World.rangeAt w' g (i * 367) T ∧ w'.cell? ⟨g, i * 367 + 8 + s, none⟩ = some (.int .i64 ad))) (by kernel_rfl) (by rw [← hwd2]; exact HC2.out) (fun hHeld => ?_)
  rw [← hwd2] at hHeld ⊢
  clear hwd2
  refine wpAnyH_takeAt (i := 0) (v := (.pointer (some ⟨g, i * 367, none⟩))) rfl (by kernel_rfl) (by kernel_rfl) (by kernel_rfl) (fun _ _ _ h => h) rfl (Or.inl ⟨by rfl, fun w' hS => ?_⟩) hHeld ?_
  · go_simp
  simp only [List.set_cons_zero, List.set_cons_succ]
  refine wpAnyH_takeAt (i := 1) (v := (.pointer (some ⟨g, i * 367, none⟩))) rfl (by kernel_rfl) (by kernel_rfl) (by kernel_rfl) (fun _ _ _ h => h) rfl (Or.inl ⟨by rfl, fun w' hS => ?_⟩) hHeld ?_
  · go_simp
  simp only [List.set_cons_zero, List.set_cons_succ]
  refine wpAnyH_takeAt (i := 2) (v := (.pointer (some ⟨g, i * 367, none⟩))) rfl (by kernel_rfl) (by kernel_rfl) (by kernel_rfl) (fun _ _ _ h => h) rfl (Or.inl ⟨by rfl, fun w' hS => ?_⟩) hHeld ?_
  · go_simp
  simp only [List.set_cons_zero, List.set_cons_succ]
  refine wpAnyH_takeAt (i := 3) (v := (.agg T.toArray)) rfl (by kernel_rfl) (by kernel_rfl) (by kernel_rfl) (fun _ _ _ h => h) rfl (yieldsIf_load_mid (by rfl) 56 _ rfl g (i * 367) rfl T _ (fun w' hS => hS.1) Tryz.underlying56 rfl HTF.out.info) hHeld ?_
  simp only [List.set_cons_zero, List.set_cons_succ]
  refine wpAnyH_takeAt (i := 4) (v := (.pointer (some ⟨g, i * 367, none⟩))) rfl (by kernel_rfl) (by kernel_rfl) (by kernel_rfl) (fun _ _ _ h => h) rfl (Or.inl ⟨by rfl, fun w' hS => ?_⟩) hHeld ?_
  · go_simp
  simp only [List.set_cons_zero, List.set_cons_succ]
  refine wpAnyH_takeAt (i := 5) (v := (.int .i64 (s : Int))) rfl (by kernel_rfl) (by kernel_rfl) (by kernel_rfl) (fun _ _ _ h => h) rfl (Or.inl ⟨by rfl, fun w' hS => ?_⟩) hHeld ?_
  · go_simp
  simp only [List.set_cons_zero, List.set_cons_succ]
  refine wpAnyH_takeAt (i := 6) (v := (.pointer (some ⟨g, i * 367, none⟩))) rfl (by kernel_rfl) (by kernel_rfl) (by kernel_rfl) (fun _ _ _ h => h) rfl (Or.inl ⟨by rfl, fun w' hS => ?_⟩) hHeld ?_
  · go_simp
  simp only [List.set_cons_zero, List.set_cons_succ]
  refine wpAnyH_takeAt (i := 7) (v := (.pointer (some ⟨g, i * 367, none⟩))) rfl (by kernel_rfl) (by kernel_rfl) (by kernel_rfl) (fun _ _ _ h => h) rfl (Or.inl ⟨by rfl, fun w' hS => ?_⟩) hHeld ?_
  · go_simp
  simp only [List.set_cons_zero, List.set_cons_succ]
  refine wpAnyH_takeAt (i := 8) (v := (.pointer (some ⟨g, i * 367, none⟩))) rfl (by kernel_rfl) (by kernel_rfl) (by kernel_rfl) (fun _ _ _ h => h) rfl (Or.inl ⟨by rfl, fun w' hS => ?_⟩) hHeld ?_
  · go_simp
  simp only [List.set_cons_zero, List.set_cons_succ]
  refine wpAnyH_takeAt (i := 9) (v := (.pointer (some ⟨g, i * 367 + 8, none⟩))) rfl (by kernel_rfl) (by kernel_rfl) (by kernel_rfl) (fun _ _ _ h => h) rfl (Or.inl ⟨by rfl, fun w' hS => ?_⟩) hHeld ?_
  · go_simp
  simp only [List.set_cons_zero, List.set_cons_succ]
  refine wpAnyH_takeAt (i := 10) (v := (.pointer (some ⟨g, i * 367 + 8 + s, none⟩))) rfl (by kernel_rfl) (by kernel_rfl) (by kernel_rfl) (fun _ _ _ h => h) rfl (Or.inl ⟨by rfl, fun w' hS => ?_⟩) hHeld ?_
  · go_simp
  simp only [List.set_cons_zero, List.set_cons_succ]
  refine wpAnyH_takeAt (i := 11) (v := (.int .i64 ad)) rfl (by kernel_rfl) (by kernel_rfl) (by kernel_rfl) (fun _ _ _ h => h) rfl (Or.inl ⟨by rfl, fun w' hS => ?_⟩) hHeld ?_
  · have q0 := hS.2
    go_simp
  simp only [List.set_cons_zero, List.set_cons_succ]
  refine wpAnyH_ready (rs := [12]) (by kernel_rfl) (by simp) (AllReadyH.cons rfl (fun K' hK => ?_) AllReadyH.nil)
  go_simp
  obtain ⟨g8, hg8⟩ : ∃ g8, g8 = wd2.heap.size := ⟨_, rfl⟩
  obtain ⟨wd3, hwd3⟩ : ∃ wd3, wd3 = wd2.alloc (.cells #[.bool false, .bool false, .bool false, .bool false, .bool false, .bool false, .bool false, .bool false, .int .i64 0, .int .i64 0, .int .i64 0, .int .i64 0, .int .i64 0, .int .i64 0, .int .i64 0, .int .i64 0, .int .i64 0, .bool false, .int .i64 0, .int .i64 0, .int .i64 0, .int .i64 0, .int .i64 0, .int .i64 0, .int .i64 0, .int .i64 0, .int .i64 0, .int .i64 0, .int .i64 0, .int .i64 0, .int .i64 0, .int .i64 0, .int .i64 0, .int .i64 0, .int .i64 0, .int .i64 0, .int .i64 0, .int .i64 0, .bool false] 56) := ⟨_, rfl⟩
  obtain ⟨La3, hLa3⟩ : ∃ La3, La3 = tempAt L1 wd2.heap.size := ⟨_, rfl⟩
  have HM3 : Hid (DW mutX w L wd3 La3 g P D [(g8, 56, Y), (q, 172, [.int .i64 4, .int .i64 room, .int .i64 slot, .int .i64 epoch, .int .i64 n, .int .i64 m, .slice A nb c])]) := by
    show DW _ _ _ _ _ _ _ _ _
    have h := HM2.out.alloc 56 [.bool false, .bool false, .bool false, .bool false, .bool false, .bool false, .bool false, .bool false, .int .i64 0, .int .i64 0, .int .i64 0, .int .i64 0, .int .i64 0, .int .i64 0, .int .i64 0, .int .i64 0, .int .i64 0, .bool false, .int .i64 0, .int .i64 0, .int .i64 0, .int .i64 0, .int .i64 0, .int .i64 0, .int .i64 0, .int .i64 0, .int .i64 0, .int .i64 0, .int .i64 0, .int .i64 0, .int .i64 0, .int .i64 0, .int .i64 0, .int .i64 0, .int .i64 0, .int .i64 0, .int .i64 0, .int .i64 0, .bool false]
    rw [hwd3, hg8, hLa3, HYE.out]
    exact h
  have HC3 : Hid (World.rangeAt wd3 g (i * 367) T ∧ wd3.cell? ⟨g, i * 367 + 8 + s, none⟩ = some (.int .i64 ad)) := by
    exact ⟨by rw [HTE.out]; exact HM3.out.dm.roomAt HI.out, by rw [HADE.out]; exact HM3.out.dm.addrCell HI.out HS.out⟩
  rw [← hwd3, ← hg8]
  clear hwd3 hg8 hLa3
  refine hK.out _ _ HC3.out (fun hHeld' => ?_)
  clear hK hHeld 
  have hHeld := hHeld'
  clear hHeld'
  refine wpAnyH_ready (rs := [13]) (by kernel_rfl) (by simp) (AllReadyH.cons rfl (fun K' hK => ?_) AllReadyH.nil)
  rw [if_pos (by rfl)]
  refine wp_store_mid 56 (.tmp 9) (.tmp 16) (by rfl) g8 0 T.toArray (by rfl) (by rfl) (HM3.out.there (.head _) 0 _ (by show 0 + T.length ≤ Y.length; rw [HTF.out.len HYF.out]; omega)) HTF.out.infos HTF.out.one ?_
  obtain ⟨wd4, hwd4⟩ : ∃ wd4, wd4 = wd3.setCells g8 0 T := ⟨_, rfl⟩
  have HM4 : Hid (DW mutX w L wd4 La3 g P D [(g8, 56, T), (q, 172, [.int .i64 4, .int .i64 room, .int .i64 slot, .int .i64 epoch, .int .i64 n, .int .i64 m, .slice A nb c])]) := by show DW _ _ _ _ _ _ _ _ _; rw [hwd4]; exact DW.set (pre := []) (post := [(q, 172, [.int .i64 4, .int .i64 room, .int .i64 slot, .int .i64 epoch, .int .i64 n, .int .i64 m, .slice A nb c])]) HM3.out (HTF.out.len HYF.out)
  have HC4 : Hid (World.rangeAt wd4 g (i * 367) T ∧ wd4.cell? ⟨g, i * 367 + 8 + s, none⟩ = some (.int .i64 ad)) := by
    exact ⟨by rw [HTE.out]; exact HM4.out.dm.roomAt HI.out, by rw [HADE.out]; exact HM4.out.dm.addrCell HI.out HS.out⟩
  rw [← hwd4]
  clear hwd4
  refine hK.out _ _ HC4.out (fun hHeld' => ?_)
  clear hK hHeld 
  have hHeld := hHeld'
  clear hHeld'
  refine wpAnyH_putNone rfl ?_
  refine wpAnyH_takeAt (i := 14) (v := (.int .i64 ad)) rfl (by kernel_rfl) (by kernel_rfl) (by kernel_rfl) (fun _ _ _ h => h) rfl (Or.inl ⟨by rfl, fun w' hS => ?_⟩) hHeld ?_
  · go_simp
  simp only [List.set_cons_zero, List.set_cons_succ]
  refine wpAnyH_takeAt (i := 15) (v := (.int .i64 0)) rfl (by kernel_rfl) (by kernel_rfl) (by kernel_rfl) (fun _ _ _ h => h) rfl (Or.inl ⟨by rfl, fun w' hS => ?_⟩) hHeld ?_
  · go_simp
  simp only [List.set_cons_zero, List.set_cons_succ]
  refine wpAnyH_done (by kernel_rfl) ?_ _
  clear hHeld b0 b1
  have ck0 := HM4.out.cell (.tail _ (.head _)) 0
  have ck : wd4.cell? ⟨q, 0, none⟩ = some (.int .i64 4) := ck0
  have HRN : Hid (wd4.rangeAt q 0 [.int .i64 4, .int .i64 room, .int .i64 slot, .int .i64 epoch, .int .i64 n, .int .i64 m, .slice A nb c]) := HM4.out.range (.tail _ (.head _))
  clear ck0
  have HCALL : Hid (Calls Tryz.prog 111 #[.pointer (some ⟨g, i * 367, none⟩), .int .i64 (s : Int), .agg #[.int .i64 4, .int .i64 room, .int .i64 slot, .int .i64 epoch, .int .i64 n, .int .i64 m, .slice A nb c]] wd4 fun e w' => e = .returned (.int .i64 res.2) ∧ ∃ L', DeskM L' w' g P res.1 ∧ Stp dskX La3 L' wd4 w') := by
    have hb : ByV La3 wd4 (.slice A bs.length c) bs := by have h := HBV.out; rw [HNB.out] at h; exact HM4.out.stp.ot_ h mutX_other
    rw [HRESE.out, HNB.out]
    exact show_c HM4.out.dm HI.out HS.out ⟨4, room, slot, epoch, n, m, bs⟩ HG.out rfl hb
  go_wp2_with (first
    | ((with_reducible show wpList _ _ _ (⟨some 77, .load _ (.tmp 7), _, _, _, _⟩ :: _) _ _); refine wpList_load_mid rfl 172 (.tmp 7) rfl q 0 rfl [.int .i64 4, .int .i64 room, .int .i64 slot, .int .i64 epoch, .int .i64 n, .int .i64 m, .slice A nb c] _ HRN.out Tryz.underlying172 rfl HNVF.out.info ?_))
  refine HCALL.out.mono ?_
  rintro e0 w9 ⟨rfl, L9, hdq, hsq⟩
  obtain ⟨P9, hP9⟩ : ∃ P9, P9 = P := ⟨_, rfl⟩
  have HM9 : Hid (DW mutX w L w9 L9 g P9 res.1 [(g8, 56, T), (q, 172, [.int .i64 4, .int .i64 room, .int .i64 slot, .int .i64 epoch, .int .i64 n, .int .i64 m, .slice A nb c])]) := by show DW _ _ _ _ _ _ _ _ _; rw [hP9]; exact HM4.out.step (hsq.mono dskX_mut) hdq mutX_temp
  clear hdq hsq hP9 ck
  go_wp2_with fail
  go_ret
  exact ⟨rfl, L9, P9, HM9.out.dm, HM9.out.stp⟩
set_option maxRecDepth 100000 in
set_option maxHeartbeats 12800000 in
theorem saidWant {L : Lab} {w : World} {g : Nat} {P : Ptrs} {D : DeskD} (hd : DeskM L w g P D) {i s : Nat} (hi : i < 4) (hs : s < 8) (room epoch n m : Int) {A : Option Addr} {c nb : Nat} {sl : Nat} (hsl : sl < 8) (hne : sl ≠ s) (hn0 : 0 ≤ n) (hn : n ≤ 3) (hm0 : 0 ≤ m) (hm : m ≤ 7) (hu : usedAt (D.hall i).r.t sl = true) (hl : (D.hall i).lane s sl = none) {k : Nat} (hf : freeS D i s = some k) {x : Nat} (hx : D.draws.getD k 0 = (x : Int)) (hx2 : x < 4294967296) (hk : KeyOk D i sl) {aw : Nat} (haw : addrAt (D.hall i).r.t s = (aw : Int)) (ha64 : aw < 64) :
    Calls Tryz.prog 60 #[.pointer (some ⟨g, 0, none⟩), .pointer (some ⟨g, i * 367, none⟩), .int .i64 (s : Int), .agg #[.int .i64 5, .int .i64 room, .int .i64 (sl : Int), .int .i64 epoch, .int .i64 n, .int .i64 m, .slice A nb c]] w fun e w' => e = .returned (.int .i64 ((limD (newD D i s sl k) i s sl (lane0 x) n m, (0 : Int))).2) ∧ ∃ L' P', DeskM L' w' g P' ((limD (newD D i s sl k) i s sl (lane0 x) n m, (0 : Int))).1 ∧ Stp mutX L L' w w' := by
  have HWR := Lib.hid (hd.wr hi)
  obtain ⟨res, hres⟩ : ∃ res, res = (limD (newD D i s sl k) i s sl (lane0 x) n m, (0 : Int)) := ⟨_, rfl⟩
  have HRESE := Lib.hid hres
  have HW : Hid (∀ (Lx : Lab) (wx : World), DeskM Lx wx g P D → Calls Tryz.prog 112 #[.pointer (some ⟨g, 0, none⟩), .pointer (some ⟨g, i * 367, none⟩), .int .i64 (s : Int), .agg #[.int .i64 5, .int .i64 room, .int .i64 (sl : Int), .int .i64 epoch, .int .i64 n, .int .i64 m, .slice A nb c]] wx fun e w' => e = .returned (.int .i64 res.2) ∧ ∃ L' P', DeskM L' w' g P' res.1 ∧ Stp mutX Lx L' wx w') := fun Lx wx hdx => by
    rw [hres]
    exact want_new hdx hi hs hsl hne 5 room epoch n m hn0 hn hm0 hm (.slice A nb c) rfl hu hl hf hx hx2 hk haw ha64
  clear hsl hne hn0 hn hm0 hm hu hl hf hx hx2 hk haw ha64
  rw [← hres]
  obtain ⟨T, hT⟩ : ∃ T : List Value, T = rL (D.hall i).r := ⟨_, rfl⟩
  have HTF : Hid (FitL 56 T) := by show FitL _ _; rw [hT]; exact fitR HWR.out
  have HTE := Lib.hid hT
  obtain ⟨Y, hY⟩ : ∃ Y : List Value, Y = [.bool false, .bool false, .bool false, .bool false, .bool false, .bool false, .bool false, .bool false, .int .i64 0, .int .i64 0, .int .i64 0, .int .i64 0, .int .i64 0, .int .i64 0, .int .i64 0, .int .i64 0, .int .i64 0, .bool false, .int .i64 0, .int .i64 0, .int .i64 0, .int .i64 0, .int .i64 0, .int .i64 0, .int .i64 0, .int .i64 0, .int .i64 0, .int .i64 0, .int .i64 0, .int .i64 0, .int .i64 0, .int .i64 0, .int .i64 0, .int .i64 0, .int .i64 0, .int .i64 0, .int .i64 0, .int .i64 0, .bool false] := ⟨_, rfl⟩
  have HYF : Hid (FitL 56 Y) := by show FitL _ _; rw [hY]; exact fit0R
  have HYE := Lib.hid hY
  obtain ⟨ad, had⟩ : ∃ ad, ad = addrAt (D.hall i).r.t s := ⟨_, rfl⟩
  have HADE := Lib.hid had
  have HI := Lib.hid hi
  have HS := Lib.hid hs
  have b0 : (0 : Int) ≤ (s : Int) := by omega
  have b1 : (s : Int) < 8 := by omega
  have HM0 : Hid (DW mutX w L w L g P D []) := DW.start mutX hd
  obtain ⟨q, hq⟩ : ∃ q, q = w.heap.size := ⟨_, rfl⟩
  obtain ⟨w1, hw1⟩ : ∃ w1, w1 = w.alloc (.cells #[.int .i64 5, .int .i64 room, .int .i64 (sl : Int), .int .i64 epoch, .int .i64 n, .int .i64 m, .slice A nb c] 172) := ⟨_, rfl⟩
  obtain ⟨L1, hL1⟩ : ∃ L1, L1 = tempAt L w.heap.size := ⟨_, rfl⟩
  have HM1 : Hid (DW mutX w L w1 L1 g P D [(q, 172, [.int .i64 5, .int .i64 room, .int .i64 (sl : Int), .int .i64 epoch, .int .i64 n, .int .i64 m, .slice A nb c])]) := by
    show DW _ _ _ _ _ _ _ _ _
    rw [hw1, hq, hL1]
    exact HM0.out.alloc _ [_, _, _, _, _, _, _]
  have HNVF : Hid (FitL 172 [.int .i64 5, .int .i64 room, .int .i64 (sl : Int), .int .i64 epoch, .int .i64 n, .int .i64 m, .slice A nb c]) := ⟨infoN, by simp [Value.oneCell']⟩
  clear hd hres hT hY had hi hs hL1 HM0
  go_enter Tryz.func60, Tryz.ntmps60
  go_upto_region 1 with fail
  rw [← hw1, ← hq]
  clear hw1 hq
  obtain ⟨wd2, hwd2⟩ : ∃ wd2, wd2 = w1.drew := ⟨_, rfl⟩
  have HM2 : Hid (DW mutX w L wd2 L1 g P D [(q, 172, [.int .i64 5, .int .i64 room, .int .i64 (sl : Int), .int .i64 epoch, .int .i64 n, .int .i64 m, .slice A nb c])]) := by show DW _ _ _ _ _ _ _ _ _; rw [hwd2]; exact HM1.out.drew
  have HC2 : Hid (World.rangeAt wd2 g (i * 367) T ∧ wd2.cell? ⟨g, i * 367 + 8 + s, none⟩ = some (.int .i64 ad)) := by
    exact ⟨by rw [HTE.out]; exact HM2.out.dm.roomAt HI.out, by rw [HADE.out]; exact HM2.out.dm.addrCell HI.out HS.out⟩
  refine wp_region_held_drew (S := (fun w' => World.rangeAt w' g (i * 367) T ∧ w'.cell? ⟨g, i * 367 + 8 + s, none⟩ = some (.int .i64 ad))) (by kernel_rfl) (by rw [← hwd2]; exact HC2.out) (fun hHeld => ?_)
  rw [← hwd2] at hHeld ⊢
  clear hwd2
  refine wpAnyH_takeAt (i := 0) (v := (.pointer (some ⟨g, i * 367, none⟩))) rfl (by kernel_rfl) (by kernel_rfl) (by kernel_rfl) (fun _ _ _ h => h) rfl (Or.inl ⟨by rfl, fun w' hS => ?_⟩) hHeld ?_
  · go_simp
  simp only [List.set_cons_zero, List.set_cons_succ]
  refine wpAnyH_takeAt (i := 1) (v := (.pointer (some ⟨g, i * 367, none⟩))) rfl (by kernel_rfl) (by kernel_rfl) (by kernel_rfl) (fun _ _ _ h => h) rfl (Or.inl ⟨by rfl, fun w' hS => ?_⟩) hHeld ?_
  · go_simp
  simp only [List.set_cons_zero, List.set_cons_succ]
  refine wpAnyH_takeAt (i := 2) (v := (.pointer (some ⟨g, i * 367, none⟩))) rfl (by kernel_rfl) (by kernel_rfl) (by kernel_rfl) (fun _ _ _ h => h) rfl (Or.inl ⟨by rfl, fun w' hS => ?_⟩) hHeld ?_
  · go_simp
  simp only [List.set_cons_zero, List.set_cons_succ]
  refine wpAnyH_takeAt (i := 3) (v := (.agg T.toArray)) rfl (by kernel_rfl) (by kernel_rfl) (by kernel_rfl) (fun _ _ _ h => h) rfl (yieldsIf_load_mid (by rfl) 56 _ rfl g (i * 367) rfl T _ (fun w' hS => hS.1) Tryz.underlying56 rfl HTF.out.info) hHeld ?_
  simp only [List.set_cons_zero, List.set_cons_succ]
  refine wpAnyH_takeAt (i := 4) (v := (.pointer (some ⟨g, i * 367, none⟩))) rfl (by kernel_rfl) (by kernel_rfl) (by kernel_rfl) (fun _ _ _ h => h) rfl (Or.inl ⟨by rfl, fun w' hS => ?_⟩) hHeld ?_
  · go_simp
  simp only [List.set_cons_zero, List.set_cons_succ]
  refine wpAnyH_takeAt (i := 5) (v := (.int .i64 (s : Int))) rfl (by kernel_rfl) (by kernel_rfl) (by kernel_rfl) (fun _ _ _ h => h) rfl (Or.inl ⟨by rfl, fun w' hS => ?_⟩) hHeld ?_
  · go_simp
  simp only [List.set_cons_zero, List.set_cons_succ]
  refine wpAnyH_takeAt (i := 6) (v := (.pointer (some ⟨g, i * 367, none⟩))) rfl (by kernel_rfl) (by kernel_rfl) (by kernel_rfl) (fun _ _ _ h => h) rfl (Or.inl ⟨by rfl, fun w' hS => ?_⟩) hHeld ?_
  · go_simp
  simp only [List.set_cons_zero, List.set_cons_succ]
  refine wpAnyH_takeAt (i := 7) (v := (.pointer (some ⟨g, i * 367, none⟩))) rfl (by kernel_rfl) (by kernel_rfl) (by kernel_rfl) (fun _ _ _ h => h) rfl (Or.inl ⟨by rfl, fun w' hS => ?_⟩) hHeld ?_
  · go_simp
  simp only [List.set_cons_zero, List.set_cons_succ]
  refine wpAnyH_takeAt (i := 8) (v := (.pointer (some ⟨g, i * 367, none⟩))) rfl (by kernel_rfl) (by kernel_rfl) (by kernel_rfl) (fun _ _ _ h => h) rfl (Or.inl ⟨by rfl, fun w' hS => ?_⟩) hHeld ?_
  · go_simp
  simp only [List.set_cons_zero, List.set_cons_succ]
  refine wpAnyH_takeAt (i := 9) (v := (.pointer (some ⟨g, i * 367 + 8, none⟩))) rfl (by kernel_rfl) (by kernel_rfl) (by kernel_rfl) (fun _ _ _ h => h) rfl (Or.inl ⟨by rfl, fun w' hS => ?_⟩) hHeld ?_
  · go_simp
  simp only [List.set_cons_zero, List.set_cons_succ]
  refine wpAnyH_takeAt (i := 10) (v := (.pointer (some ⟨g, i * 367 + 8 + s, none⟩))) rfl (by kernel_rfl) (by kernel_rfl) (by kernel_rfl) (fun _ _ _ h => h) rfl (Or.inl ⟨by rfl, fun w' hS => ?_⟩) hHeld ?_
  · go_simp
  simp only [List.set_cons_zero, List.set_cons_succ]
  refine wpAnyH_takeAt (i := 11) (v := (.int .i64 ad)) rfl (by kernel_rfl) (by kernel_rfl) (by kernel_rfl) (fun _ _ _ h => h) rfl (Or.inl ⟨by rfl, fun w' hS => ?_⟩) hHeld ?_
  · have q0 := hS.2
    go_simp
  simp only [List.set_cons_zero, List.set_cons_succ]
  refine wpAnyH_ready (rs := [12]) (by kernel_rfl) (by simp) (AllReadyH.cons rfl (fun K' hK => ?_) AllReadyH.nil)
  go_simp
  obtain ⟨g8, hg8⟩ : ∃ g8, g8 = wd2.heap.size := ⟨_, rfl⟩
  obtain ⟨wd3, hwd3⟩ : ∃ wd3, wd3 = wd2.alloc (.cells #[.bool false, .bool false, .bool false, .bool false, .bool false, .bool false, .bool false, .bool false, .int .i64 0, .int .i64 0, .int .i64 0, .int .i64 0, .int .i64 0, .int .i64 0, .int .i64 0, .int .i64 0, .int .i64 0, .bool false, .int .i64 0, .int .i64 0, .int .i64 0, .int .i64 0, .int .i64 0, .int .i64 0, .int .i64 0, .int .i64 0, .int .i64 0, .int .i64 0, .int .i64 0, .int .i64 0, .int .i64 0, .int .i64 0, .int .i64 0, .int .i64 0, .int .i64 0, .int .i64 0, .int .i64 0, .int .i64 0, .bool false] 56) := ⟨_, rfl⟩
  obtain ⟨La3, hLa3⟩ : ∃ La3, La3 = tempAt L1 wd2.heap.size := ⟨_, rfl⟩
  have HM3 : Hid (DW mutX w L wd3 La3 g P D [(g8, 56, Y), (q, 172, [.int .i64 5, .int .i64 room, .int .i64 (sl : Int), .int .i64 epoch, .int .i64 n, .int .i64 m, .slice A nb c])]) := by
    show DW _ _ _ _ _ _ _ _ _
    have h := HM2.out.alloc 56 [.bool false, .bool false, .bool false, .bool false, .bool false, .bool false, .bool false, .bool false, .int .i64 0, .int .i64 0, .int .i64 0, .int .i64 0, .int .i64 0, .int .i64 0, .int .i64 0, .int .i64 0, .int .i64 0, .bool false, .int .i64 0, .int .i64 0, .int .i64 0, .int .i64 0, .int .i64 0, .int .i64 0, .int .i64 0, .int .i64 0, .int .i64 0, .int .i64 0, .int .i64 0, .int .i64 0, .int .i64 0, .int .i64 0, .int .i64 0, .int .i64 0, .int .i64 0, .int .i64 0, .int .i64 0, .int .i64 0, .bool false]
    rw [hwd3, hg8, hLa3, HYE.out]
    exact h
  have HC3 : Hid (World.rangeAt wd3 g (i * 367) T ∧ wd3.cell? ⟨g, i * 367 + 8 + s, none⟩ = some (.int .i64 ad)) := by
    exact ⟨by rw [HTE.out]; exact HM3.out.dm.roomAt HI.out, by rw [HADE.out]; exact HM3.out.dm.addrCell HI.out HS.out⟩
  rw [← hwd3, ← hg8]
  clear hwd3 hg8 hLa3
  refine hK.out _ _ HC3.out (fun hHeld' => ?_)
  clear hK hHeld 
  have hHeld := hHeld'
  clear hHeld'
  refine wpAnyH_ready (rs := [13]) (by kernel_rfl) (by simp) (AllReadyH.cons rfl (fun K' hK => ?_) AllReadyH.nil)
  rw [if_pos (by rfl)]
  refine wp_store_mid 56 (.tmp 9) (.tmp 16) (by rfl) g8 0 T.toArray (by rfl) (by rfl) (HM3.out.there (.head _) 0 _ (by show 0 + T.length ≤ Y.length; rw [HTF.out.len HYF.out]; omega)) HTF.out.infos HTF.out.one ?_
  obtain ⟨wd4, hwd4⟩ : ∃ wd4, wd4 = wd3.setCells g8 0 T := ⟨_, rfl⟩
  have HM4 : Hid (DW mutX w L wd4 La3 g P D [(g8, 56, T), (q, 172, [.int .i64 5, .int .i64 room, .int .i64 (sl : Int), .int .i64 epoch, .int .i64 n, .int .i64 m, .slice A nb c])]) := by show DW _ _ _ _ _ _ _ _ _; rw [hwd4]; exact DW.set (pre := []) (post := [(q, 172, [.int .i64 5, .int .i64 room, .int .i64 (sl : Int), .int .i64 epoch, .int .i64 n, .int .i64 m, .slice A nb c])]) HM3.out (HTF.out.len HYF.out)
  have HC4 : Hid (World.rangeAt wd4 g (i * 367) T ∧ wd4.cell? ⟨g, i * 367 + 8 + s, none⟩ = some (.int .i64 ad)) := by
    exact ⟨by rw [HTE.out]; exact HM4.out.dm.roomAt HI.out, by rw [HADE.out]; exact HM4.out.dm.addrCell HI.out HS.out⟩
  rw [← hwd4]
  clear hwd4
  refine hK.out _ _ HC4.out (fun hHeld' => ?_)
  clear hK hHeld 
  have hHeld := hHeld'
  clear hHeld'
  refine wpAnyH_putNone rfl ?_
  refine wpAnyH_takeAt (i := 14) (v := (.int .i64 ad)) rfl (by kernel_rfl) (by kernel_rfl) (by kernel_rfl) (fun _ _ _ h => h) rfl (Or.inl ⟨by rfl, fun w' hS => ?_⟩) hHeld ?_
  · go_simp
  simp only [List.set_cons_zero, List.set_cons_succ]
  refine wpAnyH_takeAt (i := 15) (v := (.int .i64 0)) rfl (by kernel_rfl) (by kernel_rfl) (by kernel_rfl) (fun _ _ _ h => h) rfl (Or.inl ⟨by rfl, fun w' hS => ?_⟩) hHeld ?_
  · go_simp
  simp only [List.set_cons_zero, List.set_cons_succ]
  refine wpAnyH_done (by kernel_rfl) ?_ _
  clear hHeld b0 b1
  have ck0 := HM4.out.cell (.tail _ (.head _)) 0
  have ck : wd4.cell? ⟨q, 0, none⟩ = some (.int .i64 5) := ck0
  have HRN : Hid (wd4.rangeAt q 0 [.int .i64 5, .int .i64 room, .int .i64 (sl : Int), .int .i64 epoch, .int .i64 n, .int .i64 m, .slice A nb c]) := HM4.out.range (.tail _ (.head _))
  clear ck0
  have HCALL := Lib.hid (HW.out La3 wd4 HM4.out.dm)
  go_wp2_with (first
    | ((with_reducible show wpList _ _ _ (⟨some 84, .load _ (.tmp 7), _, _, _, _⟩ :: _) _ _); refine wpList_load_mid rfl 172 (.tmp 7) rfl q 0 rfl [.int .i64 5, .int .i64 room, .int .i64 (sl : Int), .int .i64 epoch, .int .i64 n, .int .i64 m, .slice A nb c] _ HRN.out Tryz.underlying172 rfl HNVF.out.info ?_))
  refine HCALL.out.mono ?_
  rintro e0 w9 ⟨rfl, L9, P9, hdq, hsq⟩
  have HM9 : Hid (DW mutX w L w9 L9 g P9 res.1 [(g8, 56, T), (q, 172, [.int .i64 5, .int .i64 room, .int .i64 (sl : Int), .int .i64 epoch, .int .i64 n, .int .i64 m, .slice A nb c])]) := HM4.out.step hsq hdq mutX_temp
  clear hdq hsq ck
  go_wp2_with fail
  go_ret
  exact ⟨rfl, L9, P9, HM9.out.dm, HM9.out.stp⟩
end Go.Proofs.YtmkifedcanmjoaaGreat
/- What the desk of TopRates is, step by step (plain). No program in sight. -/
set_option linter.unusedVariables false
set_option linter.unusedSimpArgs false
namespace Go.Proofs.YtmkifedcanmjoaaGreat
theorem findB_congr {t u : Tb} (h : t = u) (a : Int) : FindB t a = FindB u a := by rw [h]
theorem whereFrom_congr {D E : DeskD} (a : Int) : ∀ (f i : Nat), (∀ j, i ≤ j → j < i + f → (D.hall j).r.t = (E.hall j).r.t) → whereFrom D a f i = whereFrom E a f i
  | 0, _, _ => rfl
  | f + 1, i, h => by
    unfold whereFrom
    rw [h i (Nat.le_refl _) (by omega), whereFrom_congr a f (i + 1) fun j h1 h2 => h j (by omega) (by omega)]
theorem whereD_congr {D E : DeskD} (a : Int) (h : ∀ j, j < 4 → (D.hall j).r.t = (E.hall j).r.t) : whereD D a = whereD E a := whereFrom_congr a 4 0 fun j _ h2 => h j (by omega)
def joinR2 : Nt.NoteD := ⟨1, 2, 0, 0, 0, 0, []⟩
def showN (i r : Nat) : Nt.NoteD := ⟨4, 0, 0, 0, (i : Int), (r : Int), [0, 0, 1, UInt8.ofNat i]⟩
def wantN : Nt.NoteD := ⟨5, 0, 0, 0, 3, 7, []⟩
/-- The desk behind both have come. -/
def deskJ : DeskD := noteD saidD (noteD saidD desk0 60 (Nt.bytesS joinR2)) 61 (Nt.bytesS joinR2)
def tabJ (i : Nat) : Tb := (deskJ.hall i).r.t
theorem deskJ_where : whereD deskJ 60 = some (2, 0) ∧ whereD deskJ 61 = some (2, 1) := by decide +kernel
theorem deskJ_tab : addrAt (tabJ 2) 0 = 60 ∧ addrAt (tabJ 2) 1 = 61 ∧ usedAt (tabJ 2) 0 = true := by decide +kernel
theorem deskJ_halls : deskJ.halls.length = 4 := by decide +kernel
/-- A desk as it is on the way: rooms, streams of the one, lanes to the other, draws. -/
structure Way (D : DeskD) (st : List StrmD) (ln : Option LaneD) (dr : List Int) : Prop where
  halls : D.halls.length = 4
  tab : ∀ i, i < 4 → (D.hall i).r.t = tabJ i
  s24 : (D.hall 2).strm.length = 24
  l64 : (D.hall 2).lanes.length = 64
  str : ∀ j, j < 3 → (D.hall 2).str 0 j = st.getD j strm0
  lane : ∀ a, a < 8 → ∀ b, b < 8 → (D.hall 2).lane a b = if a = 1 ∧ b = 0 then ln else none
  draws : D.draws = dr
theorem deskJ_lists : (deskJ.hall 2).strm = List.replicate 24 strm0 ∧ (deskJ.hall 2).lanes = List.replicate 64 none ∧ deskJ.draws = [] := by
  refine ⟨rfl, rfl, rfl⟩
end Go.Proofs.YtmkifedcanmjoaaGreat
/- The desk of TopRates, step by step (plain); what said does on the way. Conditions: as each says. -/
set_option linter.unusedVariables false
set_option linter.unusedSimpArgs false
namespace Go.Proofs.YtmkifedcanmjoaaGreat
open Go.RowKit
theorem way_J : Way deskJ [strm0, strm0, strm0] none [] where
  halls := deskJ_halls
  tab := fun i _ => rfl
  s24 := by rw [deskJ_lists.1]; rfl
  l64 := by rw [deskJ_lists.2.1]; rfl
  str := fun j hj => by
    unfold HallD.str
    rw [deskJ_lists.1]
    have h : ([strm0, strm0, strm0] : List StrmD).getD j strm0 = strm0 := by rcases j with _ | _ | _ | j <;> first | rfl | omega
    rw [h, List.getD_eq_getElem?_getD, List.getElem?_replicate]
    split <;> rfl
  lane := fun a ha b hb => by
    unfold HallD.lane
    rw [deskJ_lists.2.1, List.getD_eq_getElem?_getD, List.getElem?_replicate, if_pos (by omega)]
    split <;> rfl
  draws := deskJ_lists.2.2
section
variable {D : DeskD} {st : List StrmD} {ln : Option LaneD} {dr : List Int}
theorem Way.where_ (h : Way D st ln dr) : whereD D 60 = some (2, 0) ∧ whereD D 61 = some (2, 1) :=
  ⟨(whereD_congr 60 h.tab).trans deskJ_where.1, (whereD_congr 61 h.tab).trans deskJ_where.2⟩
theorem heard_hall {i j : Nat} {a : Int} (hi : i < D.halls.length) : (heardD D i a).hall j = if i = j then { D.hall i with r := (aliveR (D.hall i).r a D.now).1 } else D.hall j := by
  unfold heardD DeskD.setRoom
  exact DeskD.hall_set _ _ _ _ hi
theorem Way.heard (h : Way D st ln dr) (a : Int) : Way (heardD D 2 a) st ln dr := by
  have hl : 2 < D.halls.length := by rw [h.halls]; decide
  have e2 : (heardD D 2 a).hall 2 = { D.hall 2 with r := (aliveR (D.hall 2).r a D.now).1 } := by rw [heard_hall hl, if_pos rfl]
  refine ⟨by show (List.set _ _ _).length = 4; rw [List.length_set]; exact h.halls, fun i hi => ?_, by rw [e2]; exact h.s24, by rw [e2]; exact h.l64, fun j hj => by rw [e2]; exact h.str j hj, fun a ha b hb => by rw [e2]; exact h.lane a ha b hb, h.draws⟩
  rw [heard_hall hl]
  split
  · rename_i e; subst e
    rw [show (({ D.hall 2 with r := (aliveR (D.hall 2).r a D.now).1 } : HallD).r.t) = (aliveR (D.hall 2).r a D.now).1.t from rfl, alive_t]
    exact h.tab 2 hi
  · exact h.tab i hi
theorem Way.strm (h : Way D st ln dr) {i : Nat} (hi : i < 3) (hs : st.length = 3) (x : StrmD) : Way (D.setStrm 2 0 i x) (st.set i x) ln dr := by
  have hl : 2 < D.halls.length := by rw [h.halls]; decide
  have e : ∀ j, (D.setStrm 2 0 i x).hall j = if 2 = j then { D.hall 2 with strm := (D.hall 2).strm.set (3 * 0 + i) x } else D.hall j := fun j => DeskD.hall_set _ _ _ _ hl
  have e2 : (D.setStrm 2 0 i x).hall 2 = { D.hall 2 with strm := (D.hall 2).strm.set (3 * 0 + i) x } := by rw [e 2, if_pos rfl]
  refine ⟨by show (List.set _ _ _).length = 4; rw [List.length_set]; exact h.halls, fun j hj => ?_, by rw [e2]; show (List.set _ _ _).length = 24; rw [List.length_set]; exact h.s24, by rw [e2]; exact h.l64, fun j hj => ?_, fun a ha b hb => by rw [e2]; exact h.lane a ha b hb, h.draws⟩
  · rw [e j]
    split
    · rename_i e; subst e; exact h.tab 2 hj
    · exact h.tab j hj
  · rw [e2, HallD.str_set h.s24 (by decide) hi (by decide) hj, List.getD_eq_getElem?_getD, List.getElem?_set]
    by_cases c : j = i
    · subst c
      rw [if_pos ⟨rfl, rfl⟩, if_pos rfl, if_pos (by omega)]
      rfl
    · rw [if_neg (fun c2 => c c2.2), if_neg (fun c2 => c c2.symm), h.str j hj, List.getD_eq_getElem?_getD]
theorem Way.setLane (h : Way D st ln dr) (o : Option LaneD) : Way (D.setLane 2 1 0 o) st o dr := by
  have hl : 2 < D.halls.length := by rw [h.halls]; decide
  have e : ∀ j, (D.setLane 2 1 0 o).hall j = if 2 = j then { D.hall 2 with lanes := (D.hall 2).lanes.set (8 * 1 + 0) o } else D.hall j := fun j => DeskD.hall_set _ _ _ _ hl
  have e2 : (D.setLane 2 1 0 o).hall 2 = { D.hall 2 with lanes := (D.hall 2).lanes.set (8 * 1 + 0) o } := by rw [e 2, if_pos rfl]
  refine ⟨by show (List.set _ _ _).length = 4; rw [List.length_set]; exact h.halls, fun j hj => ?_, by rw [e2]; exact h.s24, by rw [e2]; show (List.set _ _ _).length = 64; rw [List.length_set]; exact h.l64, fun j hj => by rw [e2]; exact h.str j hj, fun a ha b hb => ?_, h.draws⟩
  · rw [e j]
    split
    · rename_i e; subst e; exact h.tab 2 hj
    · exact h.tab j hj
  · rw [e2, HallD.lane_set h.l64 (by decide) (by decide) ha hb]
    by_cases c : a = 1 ∧ b = 0
    · rw [if_pos c, if_pos c]
    · rw [if_neg c, if_neg c, h.lane a ha b hb, if_neg c]
theorem Way.of_halls {E : DeskD} (h : Way D st ln dr) (hh : E.halls = D.halls) (hd : E.draws = dr) : Way E st ln dr := by
  have e : ∀ j, E.hall j = D.hall j := fun j => by unfold DeskD.hall; rw [hh]
  exact ⟨by rw [hh]; exact h.halls, fun i hi => by rw [e]; exact h.tab i hi, by rw [e]; exact h.s24, by rw [e]; exact h.l64, fun j hj => by rw [e]; exact h.str j hj, fun a ha b hb => by rw [e]; exact h.lane a ha b hb, hd⟩
theorem Way.tell (h : Way D st ln dr) (a : Nat) (k : Int) (b : List UInt8) : Way (tellD D a k b) st ln dr :=
  h.of_halls (tellD_halls D a k b).1 ((tellD_halls D a k b).2.2.trans h.draws)
theorem Way.say (h : Way D st ln dr) (a : Nat) (n : Nt.NoteD) : Way (sayD D a n) st ln dr :=
  h.of_halls (sayD_halls D a n).1 ((sayD_halls D a n).2.2.trans h.draws)
theorem Way.draw (h : Way D st ln dr) (l : List Int) : Way { D with draws := l } st ln l := ⟨h.halls, h.tab, h.s24, h.l64, h.str, h.lane, rfl⟩
theorem Way.take (h : Way D st ln dr) (a n : Nat) : Way (takenD D a n).1 st ln dr := h.of_halls rfl h.draws
theorem Way.room (h : Way D st ln dr) : addrAt (D.hall 2).r.t 0 = 60 ∧ addrAt (D.hall 2).r.t 1 = 61 ∧ usedAt (D.hall 2).r.t 0 = true := by
  rw [h.tab 2 (by decide)]; exact deskJ_tab
theorem Way.key (h : Way D st ln dr) (hs : ∀ j, j < 3 → WS (st.getD j strm0)) : KeyOk D 2 0 :=
  ⟨fun j hj => by rw [h.str j hj]; exact hs j hj, by rw [h.room.1]; decide, by rw [h.room.1]; decide⟩
theorem keyFrame_halls (D : DeskD) (i fr j : Nat) (x : Int) : (keyFrameD D i fr j x).halls = D.halls ∧ (keyFrameD D i fr j x).draws = D.draws := by
  unfold keyFrameD
  split
  · exact ⟨(tellD_halls _ _ _ _).1, (tellD_halls _ _ _ _).2.2⟩
  · exact ⟨rfl, rfl⟩
theorem lacks_halls (D : DeskD) (i t2 fr : Nat) : (lacksD D i t2 fr).halls = D.halls ∧ (lacksD D i t2 fr).draws = D.draws := by
  unfold lacksD askedD
  cases hl : (D.hall i).lane t2 fr with
  | none => exact ⟨rfl, rfl⟩
  | some l =>
    by_cases h : (lacksC l.cast).2 = true
    · simp only [h, if_true]
      exact keyFrame_halls _ _ _ _ _
    · simp only [h, if_false]
      exact ⟨rfl, rfl⟩
theorem Way.lacks (h : Way D st ln dr) (t2 fr : Nat) : Way (lacksD D 2 t2 fr) st ln dr :=
  h.of_halls (lacks_halls D 2 t2 fr).1 ((lacks_halls D 2 t2 fr).2.trans h.draws)
end
/-- A stream that is shown. -/
def strS (j r : Nat) : StrmD := { strm0 with shown := true, ssrc := ((256 + j : Nat) : Int), rate := (r : Int) }
theorem WS.of (j r : Nat) (hj : j < 3) (hr : r < 65536) : WS (strS j r) := ⟨by show (0 : Int) ≤ ((256 + j : Nat) : Int); omega, by show ((256 + j : Nat) : Int) < _; omega, by show _ ≤ (r : Int); omega, by show (r : Int) ≤ _; omega⟩
theorem show_good {i r : Nat} (hi : i < 3) (hr : r < 65536) : Nt.good (showN i r) = true := by
  have h : Nt.good ⟨4, 0, 0, 0, (i : Int), (r : Int), [0, 0, 1, UInt8.ofNat i]⟩ = true := by
    unfold Nt.good Nt.goodB Nt.goodK
    simp [Nt.bnd, Nt.wB]
    omega
  exact h
theorem show_de4 {i : Nat} (hi : i < 3) : de4 [0, 0, 1, UInt8.ofNat i] = 256 + i := by
  rcases i with _ | _ | _ | i
  · decide
  · decide
  · decide
  · omega
/-- A stream is shown. -/
theorem note_show {D : DeskD} {st : List StrmD} {ln : Option LaneD} {dr : List Int} (h : Way D st ln dr) (hst : st.length = 3) {i r : Nat} (hi : i < 3) (hr : r < 65536) (h0 : (st.getD i strm0).shown = false) (hj : ∀ j, j < 3 → j ≠ i → (st.getD j strm0).shown = true → (st.getD j strm0).ssrc ≠ ((256 + i : Nat) : Int)) :
    noteD saidD D 60 (Nt.bytesS (showN i r)) = (heardD D 2 60).setStrm 2 0 i (strS i r) := by
  have hg := show_good hi hr
  have hbk := Nt.err_back hg
  have hh := h.heard 60
  have hsrc : srcS ((heardD D 2 60).hall 2) 0 ((256 + i : Nat) : Int) = none := by
    have no : ∀ j, j < 3 → srcIs ((heardD D 2 60).hall 2) 0 ((256 + i : Nat) : Int) j = false := fun j hj3 => by
      unfold srcIs
      rw [hh.str j hj3]
      by_cases c : j = i
      · rw [c, h0]; rfl
      · cases hs : (st.getD j strm0).shown
        · rfl
        · have := hj j hj3 c hs
          show (true && _) = false
          rw [Bool.true_and]
          exact beq_eq_false_iff_ne.2 this
    unfold srcS srcFrom srcFrom srcFrom srcFrom
    simp only [no 0 (by decide), no 1 (by decide), no 2 (by decide)]
    rfl
  have hde : (de4 (showN i r).bs : Int) = ((256 + i : Nat) : Int) := by
    show ((de4 [0, 0, 1, UInt8.ofNat i] : Nat) : Int) = _
    rw [show_de4 hi]
  have hnn : (showN i r).n.toNat = i := rfl
  unfold noteD
  rw [hbk.1, hbk.2, if_neg (by decide), if_neg (by show ¬ (9 : Int) < 4; decide), show whereD D ((60 : Nat) : Int) = some (2, 0) from h.where_.1]
  unfold noteR
  simp only
  have hsd : saidD (heardD D 2 60) 2 0 (showN i r) = ((heardD D 2 60).setStrm 2 0 i (strS i r), 0) := by
    unfold saidD
    rw [if_pos (by rfl)]
    unfold showD showS
    rw [hde, hsrc, hnn, hh.str i hi]
    have hcond : ((st.getD i strm0).shown && ((st.getD i strm0).ssrc == ((256 + i : Nat) : Int))) = false := by rw [h0]; rfl
    simp only [hcond]
    rfl
  have hsd2 : saidD (heardD D 2 ((60 : Nat) : Int)) 2 0 (showN i r) = ((heardD D 2 60).setStrm 2 0 i (strS i r), 0) := hsd
  rw [if_neg (by show ¬ (4 : Int) = 1; decide)]
  rw [hsd2]
  rfl
theorem saidC_show (g : Nat) (I : DeskD → Nat → Nat → Prop) {d : Nt.NoteD} (hk : d.kind = 4) : SaidC g I saidD d := by
  intro L w P D i s a A c hd _ hi hs _ hg _ _ hb
  have e : saidD D i s d = showD D i s d := if_pos hk
  rw [e]
  obtain ⟨kind, room, slot, epoch, n, m, bs⟩ := d
  simp only at hk
  subst hk
  exact saidShow hd hi hs room slot epoch n m bs (A := A) (c := c) rfl hg hb
/-- What one who wants a lane is told. -/
def wayW (D : DeskD) : DeskD := limD (newD D 2 1 0 0) 2 1 0 (lane0 9) 3 7
theorem lanes_none {D : DeskD} {st : List StrmD} {dr : List Int} (h : Way D st none dr) (x : Int) : laneS (D.hall 2) 1 x = none := by
  have no : ∀ b, b < 8 → laneIs (D.hall 2) 1 x b = false := fun b hb => by
    unfold laneIs
    rw [h.lane 1 (by decide) b hb]
    split <;> simp_all
  unfold laneS laneFrom laneFrom laneFrom laneFrom laneFrom laneFrom laneFrom laneFrom laneFrom
  simp only [no 0 (by decide), no 1 (by decide), no 2 (by decide), no 3 (by decide), no 4 (by decide), no 5 (by decide), no 6 (by decide), no 7 (by decide)]
  rfl
theorem free_way {D : DeskD} {st : List StrmD} (h : Way D st none [9]) : freeS D 2 1 = some 0 ∧ D.draws.getD 0 0 = ((9 : Nat) : Int) := by
  unfold freeS
  rw [h.draws]
  refine ⟨?_, rfl⟩
  unfold freeFrom
  rw [lanes_none h 9]
  rfl
theorem want_way {D : DeskD} {st : List StrmD} (h : Way D st none [9]) : saidD D 2 1 wantN = (wayW D, 0) := by
  have hl : (D.hall 2).lane 1 0 = none := by rw [h.lane 1 (by decide) 0 (by decide)]; rfl
  have e : saidD D 2 1 wantN = wantD D 2 1 wantN := by unfold saidD; rw [if_neg (by show ¬ (5 : Int) = 4; decide), if_pos (by rfl)]
  rw [e]
  unfold wantD
  have h0 : wantN.slot.toNat = 0 := rfl
  rw [h0, h.room.2.2, if_neg (by decide), if_neg (by show ¬ (0 : Int) = ((1 : Nat) : Int); decide), hl]
  simp only
  rw [(free_way h).1]
  show (limD (newD D 2 1 0 0) 2 1 0 (lane0 (D.draws.getD 0 0)) 3 7, (0 : Int)) = _
  rw [(free_way h).2]
  rfl
theorem saidC_want (g : Nat) {D : DeskD} {st : List StrmD} (h : Way D st none [9]) (hs : ∀ j, j < 3 → WS (st.getD j strm0)) : SaidC g (fun X i s => X = heardD D i 61 ∧ whereD D 61 = some (i, s)) saidD wantN := by
  intro L w P X i s a A c hd ⟨hX, hw⟩ hi hs8 _ hg _ _ hb
  rw [h.where_.2] at hw
  injection hw with hw
  injection hw with hw1 hw2
  subst hw1 hw2
  have hh : Way X st none [9] := by rw [hX]; exact h.heard 61
  rw [want_way hh]
  have hfr := free_way hh
  exact saidWant hd (by decide) (by decide) 0 0 3 7 (A := A) (c := c) (nb := 0) (sl := 0) (by decide) (by decide) (by decide) (by decide) (by decide) (by decide) hh.room.2.2 (by rw [hh.lane 1 (by decide) 0 (by decide)]; rfl) hfr.1 (x := 9) hfr.2 (by decide) (hh.key hs) (aw := 61) hh.room.2.1 (by decide)
theorem note_want {D : DeskD} {st : List StrmD} (h : Way D st none [9]) : noteD saidD D 61 (Nt.bytesS wantN) = wayW (heardD D 2 61) := by
  have hg : Nt.good wantN = true := by decide
  have hbk := Nt.err_back hg
  unfold noteD
  rw [hbk.1, hbk.2, if_neg (by decide), if_neg (by show ¬ (9 : Int) < 5; decide), show whereD D ((61 : Nat) : Int) = some (2, 1) from h.where_.2]
  unfold noteR
  simp only
  have hsd2 : saidD (heardD D 2 ((61 : Nat) : Int)) 2 1 wantN = (wayW (heardD D 2 61), 0) := want_way (h.heard 61)
  rw [if_neg (by show ¬ (5 : Int) = 1; decide), hsd2]
  rfl
theorem way_want {D : DeskD} {st : List StrmD} (h : Way D st none [9]) : Way (wayW D) st (some (limL (lane0 9) 3 7)) [] := by
  unfold wayW limD newD
  refine Way.lacks (Way.setLane (ln := some (lane0 9)) (Way.say ?_ _ _) _) 1 0
  have h2 := (h.draw (D.draws.eraseIdx 0)).setLane (some (lane0 (D.draws.getD 0 0)))
  rw [(free_way h).2] at h2 ⊢
  have e : D.draws.eraseIdx 0 = [] := by rw [h.draws]; rfl
  rw [e] at h2 ⊢
  exact h2
end Go.Proofs.YtmkifedcanmjoaaGreat
