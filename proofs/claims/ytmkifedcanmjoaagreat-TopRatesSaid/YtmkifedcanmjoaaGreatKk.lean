/- Texts of this claim, one behind the other: Do, DNew, DNewM, TAwake. Each says ahead of itself what it proves, and its conditions. -/
import Derived.Test.YtmkifedcanmjoaaGreatKd
import Derived.Test.YtmkifedcanmjoaaGreatKj
import Derived.Test.YtmkifedcanmjoaaGreatJr
import Derived.Test.YtmkifedcanmjoaaGreatJb
import Derived.Test.YtmkifedcanmjoaaGreatJx
/- desk.Do (contracts): notes, takings. Conditions: the bytes read; said is known where it is called. -/
set_option linter.unusedVariables false
set_option linter.unusedSimpArgs false
namespace Go.Proofs.YtmkifedcanmjoaaGreat
open Go.RowKit
attribute [local go_sem ↓] Go.wp_at_zero Go.wp_at_succ
theorem daddr_c (a : Int) (w : World) :
    Calls Tryz.prog 28 #[.int .i64 a] w fun e w' => e = .returned (.bool (adrB a)) ∧ Below w.heap.size w w' := by
  go_enter Tryz.func28, Tryz.ntmps28
  by_cases h1 : 0 ≤ a
  · by_cases h2 : a ≤ 63
    · go_wp2_with fail
      go_ret
      refine ⟨?_, Below.refl _ _⟩
      unfold adrB
      rw [decide_eq_true h1, decide_eq_true h2]
      rfl
    · go_wp2_with fail
      go_ret
      refine ⟨?_, Below.refl _ _⟩
      unfold adrB
      rw [decide_eq_true h1, decide_eq_false (by omega)]
      rfl
  · go_wp2_with fail
    go_ret
    refine ⟨?_, Below.refl _ _⟩
    unfold adrB
    rw [decide_eq_false (by omega)]
    rfl


theorem adrB_nat {a : Nat} (ha : a < 64) : adrB (a : Int) = true := by unfold adrB; simp; omega
theorem DW.cell4 {X : Comp → Prop} {w0 w : World} {L0 L : Lab} {g : Nat} {P : Ptrs} {D : DeskD} {bs : List Bk} {q : Nat} {t : TypeId} {x0 x1 x2 x3 : Value} (h : DW X w0 L0 w L g P D bs) (hb : (q, t, [x0, x1, x2, x3]) ∈ bs) :
    w.cell? ⟨q, 0, none⟩ = some x0 ∧ w.cell? ⟨q, 1, none⟩ = some x1 ∧ w.cell? ⟨q, 2, none⟩ = some x2 ∧ w.cell? ⟨q, 3, none⟩ = some x3 :=
  ⟨h.cell hb 0, h.cell hb 1, h.cell hb 2, h.cell hb 3⟩
set_option maxRecDepth 100000 in
set_option maxHeartbeats 6400000 in
theorem doNote_c {L : Lab} {w : World} {g : Nat} {P : Ptrs} {D : DeskD} (hd : DeskM L w g P D) {a : Nat} (ha : a < 64) (N : Int) {vb : Value} {b : List UInt8} (hb : SlV w vb b) (hl : b.length ≤ 140737488355328) (sd : DeskD → Nat → Nat → Nt.NoteD → DeskD × Int) (hs : (Nt.noteS b).kind ≠ 1 → SaidC g (fun X i s => X = heardD D i a ∧ whereD D a = some (i, s)) sd (Nt.noteS b)) :
    Calls Tryz.prog 11 #[.pointer (some ⟨g, 0, none⟩), .agg #[.int .i64 2, .int .i64 (a : Int), .int .i64 N, vb]] w fun e w' => e = .returned (.tuple #[.slice none 0 0, .int .i64 0]) ∧ ∃ L' P', DeskM L' w' g P' (noteD sd D a b) ∧ Stp mutX L L' w w' := by
  obtain ⟨A, c, rfl, hc, hr⟩ := hb
  obtain ⟨nl, hnl⟩ : ∃ nl, nl = b.length := ⟨_, rfl⟩
  have HSV : Hid (SlV w (.slice A nl c) b) := ⟨A, c, by rw [hnl], hc, hr⟩
  have HL := Lib.hid hl
  have HS := Lib.hid hs
  rw [← hnl]
  have HM0 : Hid (DW mutX w L w L g P D []) := DW.start mutX hd
  obtain ⟨q, hq⟩ : ∃ q, q = w.heap.size := ⟨_, rfl⟩
  obtain ⟨w1, hw1⟩ : ∃ w1, w1 = w.alloc (.cells #[.int .i64 2, .int .i64 (a : Int), .int .i64 N, .slice A nl c] 30) := ⟨_, rfl⟩
  obtain ⟨L1, hL1⟩ : ∃ L1, L1 = tempAt L w.heap.size := ⟨_, rfl⟩
  have HM1 : Hid (DW mutX w L w1 L1 g P D [(q, 30, [.int .i64 2, .int .i64 (a : Int), .int .i64 N, .slice A nl c])]) := by
    show DW _ _ _ _ _ _ _ _ _
    rw [hw1, hq, hL1]
    exact HM0.out.alloc _ [_, _, _, _]
  have HB1 : Hid (Below w.heap.size w w1) := by show Below _ _ _; rw [hw1]; exact balloc (Below.refl _ _) _
  have HA := Lib.hid ha
  have HADR := Lib.hid (adrB_nat ha)
  clear hd hc hr hnl hL1 HM0 ha hl hs
  go_enter Tryz.func11, Tryz.ntmps11
  go_upto_region 1 with fail
  rw [← hw1, ← hq]
  clear hw1 hq
  obtain ⟨q0, q1, q2, q3⟩ := HM1.out.cell4 (.head _)
  go_wp2_with fail
  refine (daddr_c (a : Int) w1).mono ?_
  rintro e0 w2 ⟨rfl, hbq⟩
  have HM2 := Lib.hid (HM1.out.call hbq)
  have HB2 : Hid (Below w.heap.size w w2) := bcall HB1.out hbq
  rw [HADR.out]
  clear hbq q0 q1 q2 q3 HM1 HB1
  obtain ⟨q0, q1, q2, q3⟩ := HM2.out.cell4 (.head _)
  go_wp2_with fail
  refine (note_c HM2.out.dm HA.out (HSV.out.below HB2.out) HL.out sd HS.out).mono ?_
  rintro e0 w3 ⟨rfl, L3, P3, hdq, hsq⟩
  have HM3 := Lib.hid (HM2.out.step hsq hdq mutX_temp)
  clear hdq hsq q0 q1 q2 q3
  go_wp2_with fail
  go_ret2
  exact ⟨rfl, L3, P3, HM3.out.dm, HM3.out.stp⟩
set_option maxRecDepth 100000 in
set_option maxHeartbeats 6400000 in
theorem doTake_c {L : Lab} {w : World} {g : Nat} {P : Ptrs} {D : DeskD} (hd : DeskM L w g P D) {a : Nat} (ha : a < 64) {n : Nat} (hn : n ≤ 32) {vb : Value} (hb : ∃ A c nl, vb = .slice A nl c) :
    Calls Tryz.prog 11 #[.pointer (some ⟨g, 0, none⟩), .agg #[.int .i64 5, .int .i64 (a : Int), .int .i64 (n : Int), vb]] w fun e w' => ∃ v, e = .returned (.tuple #[v, .int .i64 0]) ∧ ∃ L', OutsV L' w' v (takenD D a n).2 ∧ DeskM L' w' g P (takenD D a n).1 ∧ Stp mutX L L' w w' := by
  have hn0 : (0 : Int) ≤ (n : Int) := by omega
  have hn1 : (n : Int) ≤ 32 := by omega
  have HN := Lib.hid hn
  obtain ⟨A, c, nl, rfl⟩ := hb
  have HM0 : Hid (DW mutX w L w L g P D []) := DW.start mutX hd
  obtain ⟨q, hq⟩ : ∃ q, q = w.heap.size := ⟨_, rfl⟩
  obtain ⟨w1, hw1⟩ : ∃ w1, w1 = w.alloc (.cells #[.int .i64 5, .int .i64 (a : Int), .int .i64 (n : Int), .slice A nl c] 30) := ⟨_, rfl⟩
  obtain ⟨L1, hL1⟩ : ∃ L1, L1 = tempAt L w.heap.size := ⟨_, rfl⟩
  have HM1 : Hid (DW mutX w L w1 L1 g P D [(q, 30, [.int .i64 5, .int .i64 (a : Int), .int .i64 (n : Int), .slice A nl c])]) := by
    show DW _ _ _ _ _ _ _ _ _
    rw [hw1, hq, hL1]
    exact HM0.out.alloc _ [_, _, _, _]
  have HB1 : Hid (Below w.heap.size w w1) := by show Below _ _ _; rw [hw1]; exact balloc (Below.refl _ _) _
  have HA := Lib.hid ha
  have HADR := Lib.hid (adrB_nat ha)
  clear hd hL1 HM0 ha hn
  go_enter Tryz.func11, Tryz.ntmps11
  go_upto_region 1 with fail
  rw [← hw1, ← hq]
  clear hw1 hq
  obtain ⟨q0, q1, q2, q3⟩ := HM1.out.cell4 (.head _)
  go_wp2_with fail
  refine (daddr_c (a : Int) w1).mono ?_
  rintro e0 w2 ⟨rfl, hbq⟩
  have HM2 := Lib.hid (HM1.out.call hbq)
  have HB2 : Hid (Below w.heap.size w w2) := bcall HB1.out hbq
  rw [HADR.out]
  clear hbq q0 q1 q2 q3 HM1 HB1
  obtain ⟨q0, q1, q2, q3⟩ := HM2.out.cell4 (.head _)
  go_wp2_with fail
  refine (taken_c HM2.out.dm HA.out HN.out).mono ?_
  rintro e0 w3 ⟨v, rfl, L3, hov, hdq, hsq⟩
  have HOV := Lib.hid hov
  have HM3 := Lib.hid (HM2.out.step (hsq.mono (fun c h => postsX_mut c (.inl ⟨a, h⟩))) hdq mutX_temp)
  clear hdq hsq hov q0 q1 q2 q3
  go_wp2_with fail
  go_ret2
  exact ⟨v, rfl, L3, HOV.out, HM3.out.dm, HM3.out.stp⟩
end Go.Proofs.YtmkifedcanmjoaaGreat
/- desk.New (contract). Conditions: none. -/
set_option linter.unusedVariables false
set_option linter.unusedSimpArgs false
namespace Go.Proofs.YtmkifedcanmjoaaGreat
open Go.RowKit
attribute [local go_sem ↓] Go.wp_at_zero Go.wp_at_succ
theorem zeroD : Tryz.zeroCells113 = deskL0.toArray := by kernel_rfl
def ptrV (p : Nat) : Value := .pointer (some ⟨p, 0, none⟩)
/-- A desk's cells, its first posts laid. -/
def deskP (ps : List Nat) (cp : Nat) : List Value := deskH ++ (ps.map ptrV ++ (List.replicate (64 - ps.length) (.pointer none) ++ [ptrV cp]))
theorem deskP_zero (cp : Nat) : deskL0.toArray.setIfInBounds 1534 (ptrV cp) = (deskP [] cp).toArray := by
  rw [List.setIfInBounds_toArray]
  unfold deskL0 deskP
  rw [show 1534 = 1470 + (64 + 0) by rfl, set_append_r _ _ _ 1470 _ deskH_len, set_append_r _ _ _ 64 _ (by rw [List.length_replicate])]
  rfl
theorem deskP_len (ps : List Nat) (cp : Nat) (h : ps.length ≤ 64) : (deskP ps cp).length = 1535 := by
  unfold deskP
  simp only [List.length_append, deskH_len, List.length_map, List.length_replicate, List.length_cons, List.length_nil]
  omega
theorem deskP_set (ps : List Nat) (cp p : Nat) (h : ps.length < 64) : (deskP ps cp).set (1470 + ps.length) (ptrV p) = deskP (ps ++ [p]) cp := by
  unfold deskP
  obtain ⟨k, hk⟩ : ∃ k, 64 - ps.length = k + 1 := ⟨63 - ps.length, by omega⟩
  rw [set_append_r _ _ _ 1470 _ deskH_len, show ps.length = ps.length + 0 by rfl, set_append_r _ _ 0 ps.length _ (by rw [List.length_map]), Nat.add_zero, hk, List.length_append, List.map_append, show 64 - (ps.length + [p].length) = k by simp only [List.length_cons, List.length_nil]; omega, List.replicate_succ, List.append_assoc]
  rfl
theorem deskP_at (ps : List Nat) (cp : Nat) (h : ps.length ≤ 64) {i : Nat} (hi : i < 64) (h2 : ps.length ≤ i) : (deskP ps cp)[1470 + i]? = some (.pointer none) := by
  unfold deskP
  rw [List.getElem?_append_right (by rw [deskH_len]; omega), deskH_len, List.getElem?_append_right (by rw [List.length_map]; omega), List.length_map, List.getElem?_append_left (by rw [List.length_replicate]; omega), List.getElem?_replicate, if_pos (by omega)]
/-- What desk.New leaves. -/
structure NewM (w w' : World) (g cp cq : Nat) (ps : List Nat) : Prop where
  ms : MW w w' [(g, 113, deskP ps cp), (cp, 151, [.slice (some ⟨cq, 0, none⟩) 11 11]), (cq, 213, (List.replicate 11 (0 : Int)).map (Value.int .i64))]
  srt : ps.Pairwise (· < ·)
  post : ∀ p ∈ ps, g < p ∧ p < w'.heap.size ∧ Blk w' p 153 #[.int .i64 32, .slice none 0 0]
def NewD (w w' : World) (g : Nat) : Prop := ∃ cp cq ps, ps.length = 64 ∧ NewM w w' g cp cq ps ∧ cp < g ∧ cq < cp
set_option maxRecDepth 100000 in
set_option maxHeartbeats 6400000 in
theorem newM_c (w : World) : Calls Tryz.prog 7 #[] w fun e w' => ∃ g, e = .returned (.pointer (some ⟨g, 0, none⟩)) ∧ NewD w w' g := by
  go_enter Tryz.func7, Tryz.ntmps7
  go_wp2_with fail
  refine (newCounts_c w).mono ?_
  rintro e0 w1 ⟨cp, cq, rfl, hq, hqp, hbp, hbq, hbel⟩
  obtain ⟨C, hC⟩ : ∃ C, C = deskP [] cp := ⟨_, rfl⟩
  have HZZ : Hid (Tryz.zeroCells113.setIfInBounds 1534 (.pointer (some ⟨cp, 0, none⟩)) = C.toArray) := by
    show _ = _
    rw [hC, zeroD]
    exact deskP_zero cp
  have HCE := Lib.hid hC
  have HM1 : Hid (MW w w1 [(cp, 151, [.slice (some ⟨cq, 0, none⟩) 11 11]), (cq, 213, (List.replicate 11 (0 : Int)).map (Value.int .i64))]) :=
    ⟨hbel, ⟨by omega, hbp, fun c hc => by simp only [List.mem_singleton] at hc; subst hc; show cq ≠ cp; omega⟩, ⟨hq, hbq, fun c hc => by cases hc⟩, trivial⟩
  have HLT : Hid (cq < cp ∧ cp < w1.heap.size) := ⟨hqp, hbp.lt⟩
  clear hC hbp hbq hbel hq hqp
  go_upto_region 2 with fail
  rw [HZZ.out]
  obtain ⟨g, hg⟩ : ∃ g, g = w1.heap.size := ⟨_, rfl⟩
  obtain ⟨w2, hw2⟩ : ∃ w2, w2 = w1.alloc (.cells C.toArray 113) := ⟨_, rfl⟩
  have HM2 : Hid (NewM w w2 g cp cq []) := by
    refine ⟨?_, List.Pairwise.nil, fun p hp => by cases hp⟩
    rw [hw2, hg, ← HCE.out]
    exact HM1.out.alloc _ C
  have HLG : Hid (cq < cp ∧ cp < g) := by show _ < _ ∧ _ < _; rw [hg]; exact HLT.out
  rw [← hw2, ← hg]
  clear hw2 hg HM1 HLT HCE
  go_upto_region 3 with fail
  go_loopg [6] 64 (fun gg v wx => ∃ (i : Nat) (ps : List Nat), gg = 64 - i ∧ i ≤ 64 ∧ v = .int .i64 (i : Int) ∧ ps.length = i ∧ NewM w wx g cp cq ps)
  case atStart => exact ⟨0, [], rfl, by omega, rfl, rfl, HM2.out⟩
  case round =>
    obtain ⟨i, ps, hgg, hi, rfl, hps, hnm⟩ := hrel
    have HGG := Lib.hid hgg
    have HPS := Lib.hid hps
    have HNM := Lib.hid hnm
    clear hgg hps hnm
    by_cases hin : i < 64
    · have hini : (i : Int) < 64 := by omega
      have hin0 : (0 : Int) ≤ (i : Int) := by omega
      have hw1 : IntKind.i64.wrap ((i : Int) + 1) = ((i + 1 : Nat) : Int) := by rw [IntKind.wrap_i64]; omega
      have HLT := Lib.hid hin
      obtain ⟨C, hC⟩ : ∃ C, C = deskP ps cp := ⟨_, rfl⟩
      have HCE := Lib.hid hC
      have HCA : Hid (C[1470 + i]? = some (.pointer none)) := by show _ = _; rw [hC]; exact deskP_at ps cp (by have := HPS.out; omega) hin (by have := HPS.out; omega)
      have HM6 : Hid (MW w wr [(g, 113, C)]) := by
        show MW _ _ _
        have h := HNM.out.ms
        rw [← hC] at h
        exact h.drop (.cons_cons _ (.cons _ (.cons _ .slnil)))
      clear hC hin hi
      go_upto_region 5 with fail
      obtain ⟨w7, hw7⟩ : ∃ w7, w7 = wr.drew := ⟨_, rfl⟩
      have HM7 : Hid (MW w w7 [(g, 113, C)]) := by show MW _ _ _; rw [hw7]; exact HM6.out.drew
      refine wp_region_held_drew (S := (fun w' => MW w w' [])) (by kernel_rfl) (by rw [← hw7]; exact (HM7.out.drop (.cons _ .slnil))) (fun hHeld => ?_)
      rw [← hw7] at hHeld ⊢
      have HND : Hid (NewM w w7 g cp cq ps) := by show NewM _ _ _ _ _ _; rw [hw7]; exact ⟨HNM.out.ms.drew, HNM.out.srt, HNM.out.post⟩
      clear hw7 HM6
      refine wpAnyH_takeAt (i := 0) (v := (.pointer (some ⟨g, 0, none⟩))) rfl (by kernel_rfl) (by kernel_rfl) (by kernel_rfl) (fun _ _ _ h => h) rfl (Or.inl ⟨by rfl, fun w' hS => ?_⟩) hHeld ?_
      · go_simp
      simp only [List.set_cons_zero, List.set_cons_succ]
      refine wpAnyH_takeAt (i := 1) (v := (.int .i64 (i : Int))) rfl (by kernel_rfl) (by kernel_rfl) (by kernel_rfl) (fun _ _ _ h => h) rfl (Or.inl ⟨by rfl, fun w' hS => ?_⟩) hHeld ?_
      · go_simp
      simp only [List.set_cons_zero, List.set_cons_succ]
      refine wpAnyH_takeAt (i := 3) (v := (.pointer (some ⟨g, 0, none⟩))) rfl (by kernel_rfl) (by kernel_rfl) (by kernel_rfl) (fun _ _ _ h => h) rfl (Or.inl ⟨by rfl, fun w' hS => ?_⟩) hHeld ?_
      · go_simp
      simp only [List.set_cons_zero, List.set_cons_succ]
      refine wpAnyH_takeAt (i := 4) (v := (.pointer (some ⟨g, 1470, none⟩))) rfl (by kernel_rfl) (by kernel_rfl) (by kernel_rfl) (fun _ _ _ h => h) rfl (Or.inl ⟨by rfl, fun w' hS => ?_⟩) hHeld ?_
      · go_simp
      simp only [List.set_cons_zero, List.set_cons_succ]
      refine wpAnyH_ready (rs := [2]) (by kernel_rfl) (by simp) (AllReadyH.cons rfl (fun K' hK => ?_) AllReadyH.nil)
      go_simp
      go_at_call 24
      refine (postNew_c w7).mono ?_
      rintro e0 w8 ⟨q, rfl, hqe, hbk, hbq⟩
      have HM8 : Hid (MW w w8 [(g, 113, C)]) := HM7.out.call hbq
      have HNC : Hid (NewM w w8 g cp cq ps ∧ (∀ p ∈ ps, p < q) ∧ g < q ∧ q < w8.heap.size) := by
        have hn : NewM w w7 g cp cq ps := HND.out
        refine ⟨⟨hn.ms.call hbq, hn.srt, fun p hp => ⟨(hn.post p hp).1, Nat.lt_of_lt_of_le (hn.post p hp).2.1 hbq.size, (hn.post p hp).2.2.below hbq⟩⟩, fun p hp => by rw [hqe]; exact (hn.post p hp).2.1, by rw [hqe]; exact (HM7.out.blk (.head _)).lt, hbk.lt⟩
      have HBK := Lib.hid hbk
      clear hbq hqe hbk
      go_wp2_with fail
      refine hK.out _ _ (HM8.out.drop (.cons _ .slnil)) (fun hHeld' => ?_)
      clear hK hHeld HM7
      have hHeld := hHeld'
      clear hHeld'
      refine wpAnyH_takeAt (i := 5) (v := (.pointer (some ⟨g, 1470 + i, none⟩))) rfl (by kernel_rfl) (by kernel_rfl) (by kernel_rfl) (fun _ _ _ h => h) rfl (Or.inl ⟨by rfl, fun w' hS => ?_⟩) hHeld ?_
      · go_simp
      simp only [List.set_cons_zero, List.set_cons_succ]
      refine wpAnyH_ready (rs := [6]) (by kernel_rfl) (by simp) (AllReadyH.cons rfl (fun K' hK => ?_) AllReadyH.nil)
      have ckw := HM8.out.cell (.head _) (1470 + i)
      rw [HCA.out] at ckw
      have fkw := HM8.out.frozen (.head _) (1470 + i)
      go_simp
      obtain ⟨w9, hw9⟩ : ∃ w9, w9 = w8.setCell ⟨g, 1470 + i, none⟩ (.pointer (some ⟨q, 0, none⟩)) := ⟨_, rfl⟩
      have HNF : Hid (NewM w w9 g cp cq (ps ++ [q])) := by
        obtain ⟨hn, hlt, hgq, hqs⟩ := HNC.out
        refine ⟨?_, ?_, ?_⟩
        · have h := MW.set1 (pre := []) hn.ms (1470 + i) (ptrV q)
          have e := deskP_set ps cp q (by rw [HPS.out]; exact HLT.out)
          rw [HPS.out] at e
          rw [e] at h
          rw [hw9]
          exact h
        · rw [List.pairwise_append]
          exact ⟨hn.srt, List.pairwise_singleton _ _, fun a ha b hb => by rw [List.mem_singleton.1 hb]; exact hlt a ha⟩
        · intro p hp
          rw [hw9]
          have hsz : (w8.setCell ⟨g, 1470 + i, none⟩ (.pointer (some ⟨q, 0, none⟩))).heap.size = w8.heap.size := World.size_setCell ..
          rcases List.mem_append.1 hp with hp | hp
          · exact ⟨(hn.post p hp).1, by rw [hsz]; exact (hn.post p hp).2.1, (hn.post p hp).2.2.far (by have := (hn.post p hp).1; show p ≠ g; omega) _⟩
          · rw [List.mem_singleton.1 hp]
            exact ⟨hgq, by rw [hsz]; exact hqs, HBK.out.far (by show q ≠ g; omega) _⟩
      have HM9 : Hid (MW w w9 [(g, 113, C.set (1470 + i) (ptrV q))]) := by
        show MW _ _ _
        rw [hw9]
        exact MW.set1 (pre := []) (post := []) HM8.out (1470 + i) (ptrV q)
      rw [← hw9]
      clear hw9 ckw fkw
      refine hK.out _ _ (HM9.out.drop (.cons _ .slnil)) (fun hHeld' => ?_)
      clear hK hHeld HM8
      have hHeld := hHeld'
      clear hHeld'
      refine wpAnyH_done (by kernel_rfl) ?_ _
      go_wp2_with fail
      go_roundg (64 - (i + 1))
      case measure => have := HLT.out; have := HGG.out; omega
      case rel => have hlt := HLT.out; exact ⟨i + 1, ps ++ [q], rfl, by omega, by first | rfl | go_num, by rw [List.length_append, HPS.out]; rfl, HNF.out⟩
    · have hini : ¬ (i : Int) < 64 := by omega
      have hie : i = 64 := by omega
      subst hie
      clear hin hi
      go_wp2_with fail
      go_ret
      exact ⟨g, rfl, cp, cq, ps, HPS.out, HNM.out, HLG.out.2, HLG.out.1⟩
end Go.Proofs.YtmkifedcanmjoaaGreat
/- What desk.New makes is a desk at its beginning. Conditions: none. -/
set_option linter.unusedVariables false
set_option linter.unusedSimpArgs false
namespace Go.Proofs.YtmkifedcanmjoaaGreat
open Go.RowKit
theorem flat_get {α : Type} {l : List α} {n : Nat} (hl : l.length = n) : ∀ (m i j : Nat), i < m → j < n → (List.replicate m l).flatten[n * i + j]? = l[j]?
  | 0, i, j, hi, _ => absurd hi (by omega)
  | m + 1, 0, j, _, hj => by
    rw [List.replicate_succ, List.flatten_cons, List.getElem?_append_left (by omega), Nat.mul_zero, Nat.zero_add]
  | m + 1, i + 1, j, hi, hj => by
    rw [List.replicate_succ, List.flatten_cons, List.getElem?_append_right (by rw [hl, Nat.mul_add]; omega), hl, show n * (i + 1) + j - n = n * i + j by rw [Nat.mul_add]; omega]
    exact flat_get hl m i j (by omega) hj
theorem hallL0_len : hallL0.length = 367 := by kernel_rfl
theorem strmL0_len : strmL0.length = 11 := rfl
theorem rL0_len : (rL (rm0 0)).length = 39 := by kernel_rfl
theorem deskP_lo (ps : List Nat) (cp k : Nat) (hk : k < 1470) : (deskP ps cp)[k]? = deskH[k]? := by
  unfold deskP
  rw [List.getElem?_append_left (by rw [deskH_len]; exact hk)]
theorem deskH_hall {i j : Nat} (hi : i < 4) (hj : j < 367) : deskH[367 * i + j]? = hallL0[j]? := by
  have hl : ((List.replicate 4 hallL0).flatten).length = 1468 := by kernel_rfl
  have h := flat_get hallL0_len 4 i j hi hj
  rw [← h]
  unfold deskH
  rw [List.getElem?_append_left (by rw [hl]; omega)]
theorem hallL0_room {j : Nat} (hj : j < 39) : hallL0[j]? = (rL (rm0 0))[j]? := by
  unfold hallL0
  rw [List.getElem?_append_left (by rw [rL0_len]; exact hj)]
theorem hallL0_strm {s j k : Nat} (hs : s < 8) (hj : j < 3) (hk : k < 11) : hallL0[39 + 33 * s + 11 * j + k]? = strmL0[k]? := by
  have hl : ((List.replicate 24 strmL0).flatten).length = 264 := by kernel_rfl
  have h := flat_get strmL0_len 24 (3 * s + j) k (by omega) hk
  rw [← h]
  unfold hallL0
  rw [List.getElem?_append_right (by rw [rL0_len]; omega), rL0_len, List.getElem?_append_left (by rw [hl]; omega), show 39 + 33 * s + 11 * j + k - 39 = 11 * (3 * s + j) + k by omega]
theorem hallL0_lane {a b : Nat} (ha : a < 8) (hb : b < 8) : hallL0[303 + 8 * a + b]? = some (.pointer none) := by
  have hl : ((List.replicate 24 strmL0).flatten).length = 264 := by kernel_rfl
  unfold hallL0
  rw [List.getElem?_append_right (by rw [rL0_len]; omega), rL0_len, List.getElem?_append_right (by rw [hl]; omega), hl, List.getElem?_replicate, if_pos (by omega)]
theorem deskP_post (ps : List Nat) (cp : Nat) {i : Nat} (hi : i < ps.length) : (deskP ps cp)[1470 + i]? = some (ptrV (ps.getD i 0)) := by
  unfold deskP
  rw [List.getElem?_append_right (by rw [deskH_len]; omega), deskH_len, show 1470 + i - 1470 = i by omega, List.getElem?_append_left (by rw [List.length_map]; exact hi), List.getElem?_map, List.getElem?_eq_getElem hi, List.getD_eq_getElem?_getD, List.getElem?_eq_getElem hi]
  rfl
theorem deskP_counts (ps : List Nat) (cp : Nat) (h : ps.length = 64) : (deskP ps cp)[1534]? = some (ptrV cp) := by
  unfold deskP
  rw [List.getElem?_append_right (by rw [deskH_len]; omega), deskH_len, List.getElem?_append_right (by rw [List.length_map]; omega), List.length_map, h]
  rfl
theorem deskH_now : deskH[1468]? = some (.int .i64 0) ∧ deskH[1469]? = some (.slice none 0 0) := by
  have hl : ((List.replicate 4 hallL0).flatten).length = 1468 := by kernel_rfl
  unfold deskH
  constructor <;> (rw [List.getElem?_append_right (by rw [hl]; omega), hl]; rfl)
/-- Whose the blocks of a new desk are. -/
def newLab (g cp cq : Nat) (ps : List Nat) : Lab := fun k => if k = g then .desk else if k = cp ∨ k = cq then .counts else if k ∈ ps then .post (ps.idxOf k) else .other
def newPtrs (cp : Nat) (ps : List Nat) : Ptrs := ⟨fun a => ps.getD a 0, fun _ _ _ => 0, cp⟩
theorem numV_nil (k : IntKind) (L : Lab) (w : World) : NumV k L w (.slice none 0 0) [] := ⟨⟨none, 0, rfl, Nat.le_refl _, by simp [maxLen], Reads.none_⟩, fun g hg => by cases hg⟩
theorem tmplV_nil (L : Lab) (w : World) : TmplV L w (.slice none 0 0) [] := ⟨⟨none, 0, [], rfl, Nat.le_refl _, by simp [maxLen], Reads.none_, rfl⟩, fun g hg => by cases hg⟩
theorem sizesV_nil (L : Lab) (w : World) : SizesV L w (.slice none 0 0) [] := ⟨⟨none, 0, rfl, Nat.le_refl _, by simp [maxLen], Reads.none_⟩, fun g hg => by cases hg⟩
theorem getD_rep {α : Type} (n i : Nat) (a d : α) : (List.replicate n a).getD i d = a ∨ (List.replicate n a).getD i d = d := by
  rw [List.getD_eq_getElem?_getD, List.getElem?_replicate]
  split
  · exact .inl rfl
  · exact .inr rfl
theorem desk0_hall (i : Nat) : desk0.hall i = hall0 := by
  rcases getD_rep 4 i hall0 hall0 with h | h <;> exact h
theorem hall0_str (s j : Nat) : hall0.str s j = strm0 := by
  rcases getD_rep 24 (3 * s + j) strm0 strm0 with h | h <;> exact h
theorem hall0_lane (a b : Nat) : hall0.lane a b = none := by
  rcases getD_rep 64 (8 * a + b) (none : Option LaneD) none with h | h <;> exact h
theorem desk0_post (a : Nat) : desk0.post a = [] := by
  rcases getD_rep 64 a ([] : List OutD) [] with h | h <;> exact h
theorem pair_nodup {ps : List Nat} (h : ps.Pairwise (· < ·)) : ps.Nodup := h.imp fun h => by omega
theorem newD_desk {w w' : World} {g : Nat} (h : NewD w w' g) : ∃ L P, DeskM L w' g P desk0 ∧ (∀ k, k < w.heap.size → L k = .other) ∧ Below w.heap.size w w' := by
  obtain ⟨cp, cq, ps, hl, hn, h1, h2⟩ := h
  have hbg := hn.ms.blk (.head _)
  have hbp := hn.ms.blk (.tail _ (.head _))
  have hbq := hn.ms.blk (.tail _ (.tail _ (.head _)))
  have hle := hn.ms.le (.tail _ (.tail _ (.head _)))
  have hnd := pair_nodup hn.srt
  have hgt : ∀ p ∈ ps, g < p := fun p hp => (hn.post p hp).1
  have hLg : newLab g cp cq ps g = .desk := by unfold newLab; rw [if_pos rfl]
  have hLp : newLab g cp cq ps cp = .counts := by unfold newLab; rw [if_neg (by omega), if_pos (.inl rfl)]
  have hLq : newLab g cp cq ps cq = .counts := by unfold newLab; rw [if_neg (by omega), if_pos (.inr rfl)]
  have hLo : ∀ a, a < 64 → newLab g cp cq ps (ps.getD a 0) = .post a := fun a ha => by
    have hm : ps.getD a 0 ∈ ps := by rw [List.getD_eq_getElem?_getD, List.getElem?_eq_getElem (by omega)]; exact List.getElem_mem _
    have := hgt _ hm
    unfold newLab
    rw [if_neg (by omega), if_neg (by omega), if_pos hm]
    congr 1
    rw [List.getD_eq_getElem?_getD, List.getElem?_eq_getElem (by omega)]
    exact hnd.idxOf_getElem _ _
  refine ⟨newLab g cp cq ps, newPtrs cp ps, ⟨hLg, fun k hk => ?_, deskP ps cp, hbg, ?_⟩, fun k hk => ?_, hn.ms.bel⟩
  · have := hbg.lt
    unfold newLab
    rw [if_neg (by omega), if_neg (by omega), if_neg]
    intro hm
    have := (hn.post k hm).2.1
    omega
  · refine ⟨deskP_len ps cp (by omega), rfl, rfl, fun i hi => ?_, fun i hi j hj => ?_, fun i hi => ?_, fun i hi s hs j hj => ?_, fun i hi => ?_, fun i hi t2 ht fr hf => ?_, ?_, ⟨Int.le_refl _, by show (0 : Int) < _; decide⟩, ?_, fun a ha => ?_, ?_, (fun a ha => by rw [desk0_post]; exact Nat.zero_le _), fun i hi => by rw [desk0_hall]; exact goodT_tb0⟩
    · rw [desk0_hall]
      exact WR.rm0 (e := 0) (by omega) false
    · rw [deskP_lo _ _ _ (by omega), deskH_hall hi (by omega), hallL0_room hj, desk0_hall]
      rfl
    · rw [desk0_hall]; rfl
    · rw [desk0_hall, hall0_str]
      have e : ∀ k, k < 11 → (deskP ps cp)[367 * i + 39 + 33 * s + 11 * j + k]? = strmL0[k]? := fun k hk => by
        rw [show 367 * i + 39 + 33 * s + 11 * j + k = 367 * i + (39 + 33 * s + 11 * j + k) by omega, deskP_lo _ _ _ (by omega), deskH_hall hi (by omega), hallL0_strm hs hj hk]
      refine ⟨(e 0 (by omega)).trans rfl, (e 1 (by omega)).trans rfl, (e 2 (by omega)).trans rfl, ⟨(e 3 (by omega)).trans rfl, (e 4 (by omega)).trans rfl, ⟨_, (e 5 (by omega)).trans rfl, tmplV_nil _ _⟩, (e 6 (by omega)).trans rfl, ⟨_, (e 7 (by omega)).trans rfl, numV_nil _ _ _⟩, ⟨_, (e 8 (by omega)).trans rfl, sizesV_nil _ _⟩⟩, (e 9 (by omega)).trans rfl, ⟨_, (e 10 (by omega)).trans rfl, numV_nil _ _ _⟩⟩
    · rw [desk0_hall]; rfl
    · rw [desk0_hall, hall0_lane]
      show (deskP ps cp)[367 * i + 303 + 8 * t2 + fr]? = some (.pointer none)
      rw [show 367 * i + 303 + 8 * t2 + fr = 367 * i + (303 + 8 * t2 + fr) by omega, deskP_lo _ _ _ (by omega), deskH_hall hi (by omega), hallL0_lane ht hf]
    · rw [deskP_lo _ _ _ (by omega)]; exact deskH_now.1
    · exact ⟨_, by rw [deskP_lo _ _ _ (by omega)]; exact deskH_now.2, Row.nil _ _ _, fun g hg => by cases hg⟩
    · refine ⟨deskP_post ps cp (by omega), hLo a ha, .slice none 0 0, [], ?_, ?_, (fun g hg => by cases hg), ?_⟩
      · have hm : ps.getD a 0 ∈ ps := by rw [List.getD_eq_getElem?_getD, List.getElem?_eq_getElem (by omega)]; exact List.getElem_mem _
        exact (hn.post _ hm).2.2
      · rw [desk0_post]; exact Row.nil _ _ _
      · rw [desk0_post]; rfl
    · exact ⟨deskP_counts ps cp hl, hLp, cq, hbp, hLq, hbq, rfl⟩
  · unfold newLab
    rw [if_neg (by omega), if_neg (by omega), if_neg]
    intro hm
    have := hgt k hm
    omega
end Go.Proofs.YtmkifedcanmjoaaGreat
/- awake returns true (contract). Conditions: none. -/
set_option linter.unusedVariables false
set_option linter.unusedSimpArgs false
namespace Go.Proofs.YtmkifedcanmjoaaGreat
open Go.RowKit
attribute [local go_sem ↓] Go.wp_at_zero Go.wp_at_succ
theorem Stp.toBelow {L L' : Lab} {w w' : World} {B : Nat} (h : Stp mutX L L' w w') (ho : ∀ k, k < B → L k = .other) (hB : B ≤ w.heap.size) : Below B w w' ∧ ∀ k, k < B → L' k = .other :=
  ⟨⟨h.sv.os, h.sv.tape, h.sv.output, h.sv.size, fun k hk => h.sv.block k (by omega) (by rw [ho k hk]; exact mutX_other)⟩, fun k hk => (h.old k (by omega)).trans (ho k hk)⟩
def sd0 : DeskD → Nat → Nat → Nt.NoteD → DeskD × Int := fun D _ _ _ => (D, 0)
def joinN : Nt.NoteD := ⟨1, 0, 0, 0, 0, 0, []⟩
def awakeB (l : List OutD) : Bool := match l with
  | [o] => decide (o.adr = 5) && decide (o.b.length = 19)
  | _ => false
theorem awake_plain : awakeB (takenD (noteD sd0 desk0 5 (Nt.bytesS joinN)) 5 1).2 = true := by decide +kernel
theorem joinN_good : Nt.good joinN = true ∧ (Nt.noteS (Nt.bytesS joinN)).kind = 1 ∧ (Nt.bytesS joinN).length = 11 := by decide +kernel
set_option maxRecDepth 100000 in
set_option maxHeartbeats 6400000 in
theorem awake_c (w : World) : Calls Tryz.prog 8 #[] w fun e w' => e = .returned (.bool true) ∧ Below w.heap.size w w' := by
  have HNW := Lib.hid (newM_c w)
  go_enter Tryz.func8, Tryz.ntmps8
  go_wp2_with fail
  refine HNW.out.mono ?_
  rintro e0 w1 ⟨g, rfl, hnd⟩
  obtain ⟨L, P, hd, ho, hb⟩ := newD_desk hnd
  have HD := Lib.hid hd
  have HO := Lib.hid ho
  have HB := Lib.hid hb
  have HRB := Lib.hid (Nt.rbytes_c joinN none 0 w1 Reads.none_ (by show (0 : Nat) ≤ 9223372036854775807; decide))
  unfold Nt.noteV joinN at HRB
  clear hnd hd ho hb HNW
  go_wp2_with fail
  refine HRB.out.mono ?_
  rintro e0 w2 ⟨A, c, rfl, hrow, hbq⟩
  obtain ⟨jb, hjb⟩ : ∃ jb, jb = Nt.bytesS joinN := ⟨_, rfl⟩
  have hgj : Nt.good ⟨1, 0, 0, 0, 0, 0, []⟩ = true := joinN_good.1
  have hbj : Nt.bytesS ⟨1, 0, 0, 0, 0, 0, []⟩ = jb := hjb.symm
  have hlj : jb.length = 11 := by rw [hjb]; exact joinN_good.2.2
  rw [hgj] at hrow ⊢
  simp only [if_true] at hrow ⊢
  rw [hbj, hlj] at hrow
  rw [hbj, hlj]
  have HD2 := Lib.hid (HD.out.below hbq)
  have HB2 : Hid (Below w.heap.size w w2) := bcall HB.out hbq
  have HSV : Hid (SlV w2 (.slice A 11 c) jb) := SlV.own (base := w1.heap.size) hrow
  have HJB := Lib.hid hjb
  have HDN : Hid (Calls Tryz.prog 11 #[.pointer (some ⟨g, 0, none⟩), .agg #[.int .i64 2, .int .i64 5, .int .i64 0, .slice A 11 c]] w2 fun e w' => e = .returned (.tuple #[.slice none 0 0, .int .i64 0]) ∧ ∃ L' P', DeskM L' w' g P' (noteD sd0 desk0 5 jb) ∧ Stp mutX L L' w2 w') :=
    doNote_c HD2.out (a := 5) (by decide) 0 HSV.out (by omega) sd0 (fun h => absurd (by rw [hjb]; exact joinN_good.2.1) h)
  clear hrow hbq hgj hbj hlj HRB hjb
  go_wp2_with fail
  refine HDN.out.mono ?_
  rintro e0 w3 ⟨rfl, L3, P3, hd3, hs3⟩
  have HD3 := Lib.hid hd3
  have HT3 := Lib.hid (hs3.toBelow HO.out (by have := HB2.out.size; omega))
  have HB3 : Hid (Below w.heap.size w w3) := HB2.out.trans HT3.out.1
  have HDT : Hid (Calls Tryz.prog 11 #[.pointer (some ⟨g, 0, none⟩), .agg #[.int .i64 5, .int .i64 5, .int .i64 1, .slice none 0 0]] w3 fun e w' => ∃ v, e = .returned (.tuple #[v, .int .i64 0]) ∧ ∃ L', OutsV L' w' v (takenD (noteD sd0 desk0 5 jb) 5 1).2 ∧ DeskM L' w' g P3 (takenD (noteD sd0 desk0 5 jb) 5 1).1 ∧ Stp mutX L3 L' w3 w') :=
    doTake_c hd3 (a := 5) (by decide) (n := 1) (by decide) ⟨none, 0, 0, rfl⟩
  clear hd3 hs3 HDN
  go_wp2_with fail
  refine HDT.out.mono ?_
  rintro e0 w4 ⟨v, rfl, L4, hov, hd4, hs4⟩
  have HB4 : Hid (Below w.heap.size w w4) := HB3.out.trans (hs4.toBelow HT3.out.2 (by have := HB3.out.size; omega)).1
  have hpl := awake_plain
  rw [← HJB.out] at hpl
  obtain ⟨l, hl⟩ : ∃ l, l = (takenD (noteD sd0 desk0 5 jb) 5 1).2 := ⟨_, rfl⟩
  rw [← hl] at hpl hov
  clear hd4 hs4 hl HDT
  match l, hpl, hov with
  | [o], hpl, hov =>
    unfold awakeB at hpl
    simp only [Bool.and_eq_true, decide_eq_true_eq] at hpl
    obtain ⟨xs, hr, ⟨vb, xr, rfl, hvb, hor⟩, _⟩ := hov
    obtain ⟨Av, cv, rfl, hcv⟩ := hr.form
    obtain ⟨gr, off, rfl, hgl, hcell⟩ := hr.cells_ (by simp)
    obtain ⟨Ab, cb, rfl, _, _⟩ := hvb.1
    rw [hpl.1, hpl.2] at hcell
    have ck0 : w4.cell? ⟨gr, off, none⟩ = some (.int .i64 5) := hcell 0 (by simp)
    have ck2 : w4.cell? ⟨gr, off + 2, none⟩ = some (.slice Ab 19 cb) := hcell 2 (by simp)
    have HCV := Lib.hid hcv
    have e1 : [o].length = 1 := rfl
    rw [e1]
    clear hpl hr hvb hor hcv hcell e1
    go_wp2_with fail
    go_ret
    exact ⟨rfl, HB4.out⟩
end Go.Proofs.YtmkifedcanmjoaaGreat
