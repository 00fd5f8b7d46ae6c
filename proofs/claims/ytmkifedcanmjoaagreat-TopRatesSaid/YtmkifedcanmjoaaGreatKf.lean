/- desk.want (contract). Conditions: the note may be; numbers that fit. -/
import Derived.Test.YtmkifedcanmjoaaGreatKe
set_option linter.unusedVariables false
set_option linter.unusedSimpArgs false
namespace Go.Proofs.YtmkifedcanmjoaaGreat
open Go.RowKit
attribute [local go_sem ↓] Go.wp_at_zero Go.wp_at_succ
def laneAt (L : Lab) (i t2 fr k : Nat) : Lab := fun j => if j = k ∨ j = k + 1 then .lane i t2 fr else L j
theorem laneX_temp {i t2 fr : Nat} : ¬ laneX i t2 fr .temp := by unfold laneX; simp
/-- A lane comes. -/
theorem DeskM.newLane {L : Lab} {w w1 : World} {g : Nat} {P : Ptrs} {D : DeskD} (h : DeskM L w g P D) {i t2 fr : Nat} (hi : i < 4) (ht : t2 < 8) (hf : fr < 8) (x : Int) (hb : Below w.heap.size w w1) (hs : w1.heap.size = w.heap.size + 2) (hq : Blk w1 w.heap.size 353 #[.slice none 0 0]) (hp : Blk w1 (w.heap.size + 1) 292 (laneL (lane0 x) (.slice none 0 0) w.heap.size).toArray) :
    DeskM (laneAt L i t2 fr w.heap.size) (w1.setCell ⟨g, i * 367 + 303 + t2 * 8 + fr, none⟩ (.pointer (some ⟨w.heap.size + 1, 0, none⟩))) g (P.setLane i t2 fr (w.heap.size + 1)) (D.setLane i t2 fr (some (lane0 x))) ∧ Stp (laneX i t2 fr) L (laneAt L i t2 fr w.heap.size) w (w1.setCell ⟨g, i * 367 + 303 + t2 * 8 + fr, none⟩ (.pointer (some ⟨w.heap.size + 1, 0, none⟩))) := by
  have e0 : i * 367 + 303 + t2 * 8 + fr = 367 * i + 303 + 8 * t2 + fr := by omega
  rw [e0]
  obtain ⟨w2, hw2⟩ : ∃ w2, w2 = w1.setCell ⟨g, 367 * i + 303 + 8 * t2 + fr, none⟩ (.pointer (some ⟨w.heap.size + 1, 0, none⟩)) := ⟨_, rfl⟩
  rw [← hw2]
  have hg := h.lt
  have hlo : ∀ k, k < w.heap.size → laneAt L i t2 fr w.heap.size k = L k := fun k hk => by unfold laneAt; rw [if_neg (by omega)]
  have htop : ∀ k, w2.heap.size ≤ k → laneAt L i t2 fr w.heap.size k = .other := fun k hk => by
    rw [hw2, World.size_setCell, hs] at hk
    unfold laneAt
    rw [if_neg (by omega)]
    exact h.top k (by omega)
  have hsv : Sv (fun k => laneX i t2 fr (L k)) w w2 := by rw [hw2]; exact (Sv.of_below hb).set (p := ⟨g, _, none⟩) (.inl (.inl h.lab)) _
  have hst : Stp (laneX i t2 fr) L (laneAt L i t2 fr w.heap.size) w w2 := ⟨hsv, hlo, htop⟩
  refine ⟨?_, hst⟩
  obtain ⟨h1, h2, C, h3, h4⟩ := h
  have hq2 : Blk w2 w.heap.size 353 #[.slice none 0 0] := by rw [hw2]; exact hq.far (p := ⟨g, _, none⟩) (by show w.heap.size ≠ g; omega) _
  have hp2 : Blk w2 (w.heap.size + 1) 292 (laneL (lane0 x) (.slice none 0 0) w.heap.size).toArray := by rw [hw2]; exact hp.far (p := ⟨g, _, none⟩) (by show w.heap.size + 1 ≠ g; omega) _
  have hm : LaneM (laneAt L i t2 fr w.heap.size) w2 i t2 fr (w.heap.size + 1) (lane0 x) := by
    refine ⟨by unfold laneAt; rw [if_pos (.inr rfl)], .slice none 0 0, w.heap.size, .slice none 0 0, [], hp2, NumV.nil_ _ _ _, by unfold laneAt; rw [if_pos (.inl rfl)], hq2, Row.nil _ _ _, ?_, rfl⟩
    intro g' hg'
    cases hg'
  have hd := h4.putLane hi ht hf hst (some (lane0 x)) (w.heap.size + 1) _ ⟨rfl, hm⟩
  refine ⟨(hlo g hg).trans h1, htop, _, ?_, hd⟩
  have h5 : Blk w1 g 113 C.toArray := h3.below hb
  have := Blk.set_ h5 (367 * i + 303 + 8 * t2 + fr) (.pointer (some ⟨w.heap.size + 1, 0, none⟩))
  rw [List.setIfInBounds_toArray] at this
  rw [hw2]
  exact this
theorem setLane_r {D : DeskD} {i t2 fr : Nat} {o : Option LaneD} (hi : i < D.halls.length) : ((D.setLane i t2 fr o).hall i).r = (D.hall i).r := by
  unfold DeskD.setLane
  rw [DeskD.hall_set _ _ _ _ hi, if_pos rfl]
theorem setLane_strm {D : DeskD} {i t2 fr s j : Nat} {o : Option LaneD} (hi : i < D.halls.length) : ((D.setLane i t2 fr o).hall i).str s j = (D.hall i).str s j := by
  unfold DeskD.setLane
  rw [DeskD.hall_set _ _ _ _ hi, if_pos rfl]
  rfl
theorem setLane_lane {D : DeskD} {i t2 fr : Nat} (hi : i < D.halls.length) (h64 : (D.hall i).lanes.length = 64) (ht : t2 < 8) (hf : fr < 8) (o : Option LaneD) : ((D.setLane i t2 fr o).hall i).lane t2 fr = o := by
  unfold DeskD.setLane
  rw [DeskD.hall_set _ _ _ _ hi, if_pos rfl, HallD.lane_set h64 ht hf ht hf, if_pos ⟨rfl, rfl⟩]
theorem DeskM.lane64 {L : Lab} {w : World} {g : Nat} {P : Ptrs} {D : DeskD} (h : DeskM L w g P D) {i : Nat} (hi : i < 4) : (D.hall i).lanes.length = 64 := by
  obtain ⟨_, _, C, _, hC⟩ := h
  exact hC.laness i hi
theorem keyOk_setLane {D : DeskD} {i t2 fr sl : Nat} {o : Option LaneD} (hi : i < D.halls.length) (h : KeyOk D i sl) : KeyOk (D.setLane i t2 fr o) i sl :=
  ⟨fun j hj => by rw [setLane_strm hi]; exact h.ws j hj, by rw [setLane_r hi]; exact h.a0, by rw [setLane_r hi]; exact h.a1⟩
theorem tellD_hall (D : DeskD) (a : Nat) (k : Int) (b : List UInt8) (i : Nat) : (tellD D a k b).hall i = D.hall i := by
  unfold tellD
  split <;> rfl
theorem sayD_hall (D : DeskD) (a : Nat) (n : Nt.NoteD) (i : Nat) : (sayD D a n).hall i = D.hall i := by
  unfold sayD
  split
  · exact tellD_hall _ _ _ _ _
  · rfl
theorem keyOk_say {D : DeskD} {a : Nat} {n : Nt.NoteD} {i sl : Nat} (h : KeyOk D i sl) : KeyOk (sayD D a n) i sl :=
  ⟨fun j hj => by rw [sayD_hall]; exact h.ws j hj, by rw [sayD_hall]; exact h.a0, by rw [sayD_hall]; exact h.a1⟩
theorem good5_fit {n : Nt.NoteD} (h : Nt.good n = true) (hk : n.kind = 5) : 0 ≤ n.slot ∧ n.slot ≤ 7 ∧ 0 ≤ n.n ∧ n.n ≤ 3 ∧ 0 ≤ n.m ∧ n.m ≤ 7 := by
  unfold Nt.good Nt.goodB at h
  rw [hk] at h
  simp [Nt.bnd, Nt.wB] at h
  omega
def wantX (a : Nat) (b : Nat) (i t2 fr : Nat) : Comp → Prop := fun c => tellX a c ∨ tellX b c ∨ drawX c ∨ laneX i t2 fr c
set_option maxRecDepth 100000 in
set_option maxHeartbeats 12800000 in
theorem want_new {L : Lab} {w : World} {g : Nat} {P : Ptrs} {D : DeskD} (hd : DeskM L w g P D) {i s sl : Nat} (hi : i < 4) (hs : s < 8) (hsl : sl < 8) (hne : sl ≠ s) (kind room epoch n m : Int) (hn0 : 0 ≤ n) (hn : n ≤ 3) (hm0 : 0 ≤ m) (hm : m ≤ 7) (vb : Value) (hv1 : vb.oneCell' = true) (hu : usedAt (D.hall i).r.t sl = true) (hl : (D.hall i).lane s sl = none) {k : Nat} (hf : freeS D i s = some k) {x : Nat} (hx : D.draws.getD k 0 = (x : Int)) (hx2 : x < 4294967296) (hk : KeyOk D i sl) {ad : Nat} (had : addrAt (D.hall i).r.t s = (ad : Int)) (ha64 : ad < 64) :
    Calls Tryz.prog 112 #[.pointer (some ⟨g, 0, none⟩), .pointer (some ⟨g, i * 367, none⟩), .int .i64 (s : Int), .agg #[.int .i64 kind, .int .i64 room, .int .i64 (sl : Int), .int .i64 epoch, .int .i64 n, .int .i64 m, vb]] w fun e w' => e = .returned (.int .i64 0) ∧ ∃ L' P', DeskM L' w' g P' (limD (newD D i s sl k) i s sl (lane0 x) n m) ∧ Stp mutX L L' w w' := by
  have HM0 : Hid (DW mutX w L w L g P D []) := DW.start mutX hd
  obtain ⟨q, hq⟩ : ∃ q, q = w.heap.size := ⟨_, rfl⟩
  obtain ⟨w1, hw1⟩ : ∃ w1, w1 = w.alloc (.cells #[.int .i64 kind, .int .i64 room, .int .i64 (sl : Int), .int .i64 epoch, .int .i64 n, .int .i64 m, vb] 172) := ⟨_, rfl⟩
  obtain ⟨L1, hL1⟩ : ∃ L1, L1 = tempAt L w.heap.size := ⟨_, rfl⟩
  obtain ⟨bs, hbs⟩ : ∃ bs : List Bk, bs = [(q, 172, [.int .i64 kind, .int .i64 room, .int .i64 (sl : Int), .int .i64 epoch, .int .i64 n, .int .i64 m, vb])] := ⟨_, rfl⟩
  have HBS := Lib.hid hbs
  have HM1 : Hid (DW mutX w L w1 L1 g P D bs) := by
    show DW _ _ _ _ _ _ _ _ _
    rw [hw1, hbs, hq, hL1]
    exact HM0.out.alloc _ [_, _, _, _, _, _, _]
  have HCELL : Hid (∀ (wx : World) (Lx : Lab) (Px : Ptrs) (Dx : DeskD), DW mutX w L wx Lx g Px Dx bs → wx.cell? ⟨q, 2, none⟩ = some (.int .i64 (sl : Int)) ∧ wx.cell? ⟨q, 4, none⟩ = some (.int .i64 n) ∧ wx.cell? ⟨q, 5, none⟩ = some (.int .i64 m)) := fun wx Lx Px Dx h => by
    rw [hbs] at h
    exact ⟨h.cell (.head _) 2, h.cell (.head _) 4, h.cell (.head _) 5⟩
  have n2 := (HCELL.out _ _ _ _ HM1.out).1
  have u0 : w1.cell? ⟨g, i * 367 + sl, none⟩ = some (.bool true) := by
    have h := HM1.out.dm.usedAt_ hi sl (.bool (usedAt (D.hall i).r.t sl)) (by
      have hw := (HM1.out.dm.wr hi).1.1
      rw [List.getElem?_map, List.getElem?_eq_getElem (by omega)]
      unfold usedAt
      rw [List.getD_eq_getElem?_getD, List.getElem?_eq_getElem (by omega)]
      rfl)
    rw [hu] at h
    exact h
  have p0 : w1.cell? ⟨g, i * 367 + 303 + s * 8 + sl, none⟩ = some (.pointer none) := by rw [show i * 367 + 303 + s * 8 + sl = 367 * i + 303 + 8 * s + sl by omega]; exact HM1.out.dm.noLane_ hi hs hsl hl
  have HI := Lib.hid hi
  have HD0 := Lib.hid hd
  have HS := Lib.hid hs
  have HSL := Lib.hid hsl
  have HF := Lib.hid hf
  have HL := Lib.hid hl
  have HX := Lib.hid hx
  have HX2 := Lib.hid hx2
  have HK := Lib.hid hk
  have HAD := Lib.hid had
  have HA64 := Lib.hid ha64
  have HNM : Hid (0 ≤ n ∧ n ≤ 3 ∧ 0 ≤ m ∧ m ≤ 7) := ⟨hn0, hn, hm0, hm⟩
  have b0 : (0 : Int) ≤ (s : Int) := by omega
  have b1 : (s : Int) < 8 := by omega
  have b2 : (0 : Int) ≤ (sl : Int) := by omega
  have b3 : (sl : Int) < 8 := by omega
  have b4 : ((sl : Int) == (s : Int)) = false := by simp; omega
  clear hd hi hs hsl hne hn0 hn hm0 hm hv1 hu hl hf hx hx2 hk had ha64 hL1 hbs HM0
  go_enter Tryz.func112, Tryz.ntmps112
  go_upto_region 1 with fail
  rw [← hw1, ← hq]
  clear hw1 hq
  go_quiet (fail)
  obtain ⟨w2, hw2⟩ : ∃ w2, w2 = w1.drewN nq := ⟨_, rfl⟩
  have HM2 : Hid (DW mutX w L w2 L1 g P D bs) := by show DW _ _ _ _ _ _ _ _ _; rw [hw2]; exact HM1.out.drewN nq
  rw [← hw2]
  replace n2 : w2.cell? ⟨q, 2, none⟩ = some (.int .i64 (sl : Int)) := by rw [hw2]; exact n2
  replace p0 : w2.cell? ⟨g, i * 367 + 303 + s * 8 + sl, none⟩ = some (.pointer none) := by rw [hw2]; exact p0
  clear hw2 u0 HM1
  go_upto_region 5 with fail
  go_quiet (fail)
  obtain ⟨w3, hw3⟩ : ∃ w3, w3 = w2.drewN nq := ⟨_, rfl⟩
  have HM3 : Hid (DW mutX w L w3 L1 g P D bs) := by show DW _ _ _ _ _ _ _ _ _; rw [hw3]; exact HM2.out.drewN nq
  rw [← hw3]
  clear hw3 HM2 n2 p0
  have HFR := Lib.hid (dfree_c HM3.out.dm HI.out HS.out HF.out)
  rw [HX.out] at HFR
  obtain ⟨D1, hD1⟩ : ∃ D1, D1 = ({ D with draws := D.draws.eraseIdx k } : DeskD) := ⟨_, rfl⟩
  rw [← hD1] at HFR
  have HD1 := Lib.hid hD1
  clear hD1
  go_wp2_with fail
  refine HFR.out.mono ?_
  rintro e0 w4 ⟨rfl, hdq, hsq⟩
  have HM4 : Hid (DW mutX w L w4 L1 g P D1 bs) := HM3.out.step (hsq.mono (fun c h => by rcases h with rfl | rfl <;> exact ⟨by simp, by simp⟩)) hdq (by unfold mutX; simp)
  clear hdq hsq HM3 HFR
  go_wp2_with fail
  refine (laneNew_c (x : Int) w4).mono ?_
  rintro e0 w5 ⟨rfl, hbq, hsz, hrg, hla⟩
  obtain ⟨pl, hpl⟩ : ∃ pl, pl = w4.heap.size + 1 := ⟨_, rfl⟩
  have HNL := Lib.hid (HM4.out.dm.newLane HI.out HS.out HSL.out (x : Int) hbq hsz hrg hla)
  have HLB := Lib.hid hla
  have HPL := Lib.hid hpl
  have HZ5 := Lib.hid hsz
  rw [← hpl] at HNL HLB ⊢
  have n2 : w5.cell? ⟨q, 2, none⟩ = some (.int .i64 (sl : Int)) := (HCELL.out _ _ _ _ (HM4.out.call hbq)).1
  have p0 : w5.cell? ⟨g, i * 367 + 303 + s * 8 + sl, none⟩ = some (.pointer none) := by
    rw [show i * 367 + 303 + s * 8 + sl = 367 * i + 303 + 8 * s + sl by omega]
    have hl : (D1.hall i).lane s sl = none := by rw [HD1.out]; exact HL.out
    exact (HM4.out.dm.below hbq).noLane_ HI.out HS.out HSL.out hl
  have fz := (HM4.out.dm.below hbq).frozen_ (i * 367 + 303 + s * 8 + sl)
  have HB5 := Lib.hid hbq
  clear hbq hsz hrg hla hpl
  go_upto_region 11 with fail
  go_still_tail 9, (by kernel_rfl)
  change wpList _ _ _ _ _ w5.drew
  go_upto_region 12 with fail
  obtain ⟨w6, hw6⟩ : ∃ w6, w6 = (w5.setCell ⟨g, i * 367 + 303 + s * 8 + sl, none⟩ (.pointer (some ⟨pl, 0, none⟩))).drew := ⟨_, rfl⟩
  obtain ⟨L6, hL6⟩ : ∃ L6, L6 = laneAt L1 i s sl w4.heap.size := ⟨_, rfl⟩
  obtain ⟨P6, hP6⟩ : ∃ P6, P6 = P.setLane i s sl pl := ⟨_, rfl⟩
  obtain ⟨D2, hD2⟩ : ∃ D2, D2 = D1.setLane i s sl (some (lane0 (x : Int))) := ⟨_, rfl⟩
  have HD2 := Lib.hid hD2
  have HP6 := Lib.hid hP6
  have HM6 : Hid (DW mutX w L w6 L6 g P6 D2 bs) := by
    show DW _ _ _ _ _ _ _ _ _
    rw [hw6, hL6, hP6, hD2]
    exact (HM4.out.step (HNL.out.2.mono laneX_mut) HNL.out.1 (by unfold mutX; simp)).drew
  have HLB6 : Hid (Blk w6 pl 292 (laneL (lane0 (x : Int)) (.slice none 0 0) w4.heap.size).toArray) := by
    show Blk _ _ _ _
    rw [hw6]
    exact (HLB.out.far (p := ⟨g, _, none⟩) (fun e => by have h1 := HM4.out.dm.lt; have h3 := HPL.out; simp only at e; omega) _).drew
  (first | rw [← hw6] | (change Code.wp _ _ _ _ ((w5.setCell ⟨g, i * 367 + 303 + s * 8 + sl, none⟩ (.pointer (some ⟨pl, 0, none⟩))).drew); rw [← hw6]))
  clear hw6 hL6 hP6 hD2 n2 p0 fz HNL HLB HM4
--WALK
  have hlen : i < D.halls.length := by rw [HD0.out.halls]; exact HI.out
  have hlen1 : i < D1.halls.length := by rw [HD1.out]; exact hlen
  have h64 : (D1.hall i).lanes.length = 64 := by rw [HD1.out]; exact HD0.out.lane64 HI.out
  have HAD2 : Hid (some (Value.int .i64 (addrAt (D2.hall i).r.t s)) = some (.int .i64 (ad : Int))) := by
    show _ = _
    rw [HD2.out, setLane_r hlen1, HD1.out]
    have := HAD.out
    rw [show (({ D with draws := D.draws.eraseIdx k } : DeskD).hall i) = D.hall i from rfl, this]
  obtain ⟨D3, hD3⟩ : ∃ D3, D3 = sayD D2 ad ⟨24, 0, (sl : Int), 0, 0, 0, be4 x⟩ := ⟨_, rfl⟩
  have HAD3 : Hid (some (Value.int .i64 (addrAt (D3.hall i).r.t s)) = some (.int .i64 (ad : Int))) := by show _ = _; rw [hD3, sayD_hall]; exact HAD2.out
  have HLN3 : Hid ((D3.hall i).lane s sl = some (lane0 (x : Int))) := by show _ = _; rw [hD3, sayD_hall, HD2.out]; exact setLane_lane hlen1 h64 HS.out HSL.out _
  have HK3 : Hid (KeyOk D3 i sl) := by
    show KeyOk _ _ _
    rw [hD3, HD2.out]
    refine keyOk_say (keyOk_setLane hlen1 ?_)
    rw [HD1.out]
    exact ⟨HK.out.ws, HK.out.a0, HK.out.a1⟩
  have HRES : Hid (limD (newD D i s sl k) i s sl (lane0 (x : Int)) n m = lacksD (D3.setLane i s sl (some (limL (lane0 (x : Int)) n m))) i s sl) := by
    show _ = _
    unfold limD newD
    rw [HX.out, HAD.out, hD3, HD2.out, HD1.out]
    rfl
  have hsay : sayD D2 ad ⟨24, 0, (sl : Int), 0, 0, 0, be4 x⟩ = D3 := hD3.symm
  have HBYV : Hid (∀ (wx : World) (Lx : Lab) {gb : Nat}, Blk wx gb 5 #[.int .u8 ((x / 16777216 % 256 : Nat) : Int), .int .u8 ((x / 65536 % 256 : Nat) : Int), .int .u8 ((x / 256 % 256 : Nat) : Int), .int .u8 ((x % 256 : Nat) : Int)] → Lx gb = .other → ByV Lx wx (.slice (some ⟨gb, 0, none⟩) (be4 x).length 4) (be4 x)) := fun wx Lx gb hb hl => by
    have hr := reads_blk (n := 4) (size := 1) hb rfl
    refine ⟨⟨_, 4, rfl, Nat.le_refl _, ?_⟩, fun g' hg' => ?_⟩
    · have e : (be4 x).map u8v = [.int .u8 ((x / 16777216 % 256 : Nat) : Int), .int .u8 ((x / 65536 % 256 : Nat) : Int), .int .u8 ((x / 256 % 256 : Nat) : Int), .int .u8 ((x % 256 : Nat) : Int)] := by
        simp [be4, u8v]
      rw [e]
      exact hr
    · injection hg' with hg'
      subst hg'
      exact ⟨hl, hb.lt⟩
  obtain ⟨z3, hz3⟩ : ∃ z, z = x / 16777216 % 256 := ⟨_, rfl⟩
  obtain ⟨z2, hz2⟩ : ∃ z, z = x / 65536 % 256 := ⟨_, rfl⟩
  obtain ⟨z1, hz1⟩ : ∃ z, z = x / 256 % 256 := ⟨_, rfl⟩
  obtain ⟨z0, hz0⟩ : ∃ z, z = x % 256 := ⟨_, rfl⟩
  rw [← hz3, ← hz2, ← hz1, ← hz0] at HBYV
  have y3 : IntKind.u8.wrap ((x : Int) / 16777216) = (z3 : Int) := by rw [IntKind.wrap_u8]; omega
  have y2 : IntKind.u8.wrap ((x : Int) / 65536) = (z2 : Int) := by rw [IntKind.wrap_u8]; omega
  have y1 : IntKind.u8.wrap ((x : Int) / 256) = (z1 : Int) := by rw [IntKind.wrap_u8]; omega
  have y0 : IntKind.u8.wrap ((x : Int)) = (z0 : Int) := by rw [IntKind.wrap_u8]; omega
  have HSAY := Lib.hid hsay
  clear hz3 hz2 hz1 hz0 hlen hlen1 h64 hD3 hsay
  obtain ⟨wd7, hwd7⟩ : ∃ wd7, wd7 = w6.drew := ⟨_, rfl⟩
  have HM7 : Hid (DW mutX w L wd7 L6 g P6 D2 bs) := by show DW _ _ _ _ _ _ _ _ _; rw [hwd7]; exact HM6.out.drew
  have HC7 : Hid (wd7.cell? ⟨q, 2, none⟩ = some (.int .i64 (sl : Int)) ∧ wd7.cell? ⟨g, i * 367 + 8 + s, none⟩ = some (.int .i64 (ad : Int))) := by
    exact ⟨(HCELL.out _ _ _ _ HM7.out).1, by rw [HM7.out.dm.addrCell HI.out HS.out]; exact HAD2.out⟩
  refine wp_region_held_drew (S := (fun w' => w'.cell? ⟨q, 2, none⟩ = some (.int .i64 (sl : Int)) ∧ w'.cell? ⟨g, i * 367 + 8 + s, none⟩ = some (.int .i64 (ad : Int)))) (by kernel_rfl) (by rw [← hwd7]; exact HC7.out) (fun hHeld => ?_)
  rw [← hwd7] at hHeld ⊢
  clear hwd7
  refine wpAnyH_takeAt (i := 0) (v := (.pointer (some ⟨g, 0, none⟩))) rfl (by kernel_rfl) (by kernel_rfl) (by kernel_rfl) (fun _ _ _ h => h) rfl (Or.inl ⟨by rfl, fun w' hS => ?_⟩) hHeld ?_
  · go_simp
  simp only [List.set_cons_zero, List.set_cons_succ]
  refine wpAnyH_takeAt (i := 1) (v := (.pointer (some ⟨g, i * 367, none⟩))) rfl (by kernel_rfl) (by kernel_rfl) (by kernel_rfl) (fun _ _ _ h => h) rfl (Or.inl ⟨by rfl, fun w' hS => ?_⟩) hHeld ?_
  · go_simp
  simp only [List.set_cons_zero, List.set_cons_succ]
  refine wpAnyH_takeAt (i := 2) (v := (.int .i64 (s : Int))) rfl (by kernel_rfl) (by kernel_rfl) (by kernel_rfl) (fun _ _ _ h => h) rfl (Or.inl ⟨by rfl, fun w' hS => ?_⟩) hHeld ?_
  · go_simp
  simp only [List.set_cons_zero, List.set_cons_succ]
  refine wpAnyH_takeAt (i := 3) (v := (.pointer (some ⟨g, i * 367, none⟩))) rfl (by kernel_rfl) (by kernel_rfl) (by kernel_rfl) (fun _ _ _ h => h) rfl (Or.inl ⟨by rfl, fun w' hS => ?_⟩) hHeld ?_
  · go_simp
  simp only [List.set_cons_zero, List.set_cons_succ]
  refine wpAnyH_takeAt (i := 4) (v := (.pointer (some ⟨g, i * 367, none⟩))) rfl (by kernel_rfl) (by kernel_rfl) (by kernel_rfl) (fun _ _ _ h => h) rfl (Or.inl ⟨by rfl, fun w' hS => ?_⟩) hHeld ?_
  · go_simp
  simp only [List.set_cons_zero, List.set_cons_succ]
  refine wpAnyH_takeAt (i := 5) (v := (.pointer (some ⟨g, i * 367, none⟩))) rfl (by kernel_rfl) (by kernel_rfl) (by kernel_rfl) (fun _ _ _ h => h) rfl (Or.inl ⟨by rfl, fun w' hS => ?_⟩) hHeld ?_
  · go_simp
  simp only [List.set_cons_zero, List.set_cons_succ]
  refine wpAnyH_takeAt (i := 6) (v := (.pointer (some ⟨g, i * 367 + 8, none⟩))) rfl (by kernel_rfl) (by kernel_rfl) (by kernel_rfl) (fun _ _ _ h => h) rfl (Or.inl ⟨by rfl, fun w' hS => ?_⟩) hHeld ?_
  · go_simp
  simp only [List.set_cons_zero, List.set_cons_succ]
  refine wpAnyH_takeAt (i := 7) (v := (.pointer (some ⟨g, i * 367 + 8 + s, none⟩))) rfl (by kernel_rfl) (by kernel_rfl) (by kernel_rfl) (fun _ _ _ h => h) rfl (Or.inl ⟨by rfl, fun w' hS => ?_⟩) hHeld ?_
  · go_simp
  simp only [List.set_cons_zero, List.set_cons_succ]
  refine wpAnyH_takeAt (i := 8) (v := (.int .i64 (ad : Int))) rfl (by kernel_rfl) (by kernel_rfl) (by kernel_rfl) (fun _ _ _ h => h) rfl (Or.inl ⟨by rfl, fun w' hS => ?_⟩) hHeld ?_
  · have q0 := hS.2
    go_simp
  simp only [List.set_cons_zero, List.set_cons_succ]
  refine wpAnyH_takeAt (i := 9) (v := (.pointer (some ⟨q, 2, none⟩))) rfl (by kernel_rfl) (by kernel_rfl) (by kernel_rfl) (fun _ _ _ h => h) rfl (Or.inl ⟨by rfl, fun w' hS => ?_⟩) hHeld ?_
  · go_simp
  simp only [List.set_cons_zero, List.set_cons_succ]
  refine wpAnyH_takeAt (i := 10) (v := (.int .i64 (sl : Int))) rfl (by kernel_rfl) (by kernel_rfl) (by kernel_rfl) (fun _ _ _ h => h) rfl (Or.inl ⟨by rfl, fun w' hS => ?_⟩) hHeld ?_
  · have q0 := hS.1
    go_simp
  simp only [List.set_cons_zero, List.set_cons_succ]
  refine wpAnyH_takeAt (i := 11) (v := (.int .u32 (x : Int))) rfl (by kernel_rfl) (by kernel_rfl) (by kernel_rfl) (fun _ _ _ h => h) rfl (Or.inl ⟨by rfl, fun w' hS => ?_⟩) hHeld ?_
  · go_simp
  simp only [List.set_cons_zero, List.set_cons_succ]
  refine wpAnyH_takeAt (i := 12) (v := (.int .u32 ((x : Int) / 16777216))) rfl (by kernel_rfl) (by kernel_rfl) (by kernel_rfl) (fun _ _ _ h => h) rfl (Or.inl ⟨by rfl, fun w' hS => ?_⟩) hHeld ?_
  · go_simp
  simp only [List.set_cons_zero, List.set_cons_succ]
  refine wpAnyH_takeAt (i := 13) (v := (.int .u8 (z3 : Int))) rfl (by kernel_rfl) (by kernel_rfl) (by kernel_rfl) (fun _ _ _ h => h) rfl (Or.inl ⟨by rfl, fun w' hS => ?_⟩) hHeld ?_
  · go_simp
  simp only [List.set_cons_zero, List.set_cons_succ]
  refine wpAnyH_takeAt (i := 14) (v := (.int .u32 (x : Int))) rfl (by kernel_rfl) (by kernel_rfl) (by kernel_rfl) (fun _ _ _ h => h) rfl (Or.inl ⟨by rfl, fun w' hS => ?_⟩) hHeld ?_
  · go_simp
  simp only [List.set_cons_zero, List.set_cons_succ]
  refine wpAnyH_takeAt (i := 15) (v := (.int .u32 ((x : Int) / 65536))) rfl (by kernel_rfl) (by kernel_rfl) (by kernel_rfl) (fun _ _ _ h => h) rfl (Or.inl ⟨by rfl, fun w' hS => ?_⟩) hHeld ?_
  · go_simp
  simp only [List.set_cons_zero, List.set_cons_succ]
  refine wpAnyH_takeAt (i := 16) (v := (.int .u8 (z2 : Int))) rfl (by kernel_rfl) (by kernel_rfl) (by kernel_rfl) (fun _ _ _ h => h) rfl (Or.inl ⟨by rfl, fun w' hS => ?_⟩) hHeld ?_
  · go_simp
  simp only [List.set_cons_zero, List.set_cons_succ]
  refine wpAnyH_takeAt (i := 17) (v := (.int .u32 (x : Int))) rfl (by kernel_rfl) (by kernel_rfl) (by kernel_rfl) (fun _ _ _ h => h) rfl (Or.inl ⟨by rfl, fun w' hS => ?_⟩) hHeld ?_
  · go_simp
  simp only [List.set_cons_zero, List.set_cons_succ]
  refine wpAnyH_takeAt (i := 18) (v := (.int .u32 ((x : Int) / 256))) rfl (by kernel_rfl) (by kernel_rfl) (by kernel_rfl) (fun _ _ _ h => h) rfl (Or.inl ⟨by rfl, fun w' hS => ?_⟩) hHeld ?_
  · go_simp
  simp only [List.set_cons_zero, List.set_cons_succ]
  refine wpAnyH_takeAt (i := 19) (v := (.int .u8 (z1 : Int))) rfl (by kernel_rfl) (by kernel_rfl) (by kernel_rfl) (fun _ _ _ h => h) rfl (Or.inl ⟨by rfl, fun w' hS => ?_⟩) hHeld ?_
  · go_simp
  simp only [List.set_cons_zero, List.set_cons_succ]
  refine wpAnyH_takeAt (i := 20) (v := (.int .u32 (x : Int))) rfl (by kernel_rfl) (by kernel_rfl) (by kernel_rfl) (fun _ _ _ h => h) rfl (Or.inl ⟨by rfl, fun w' hS => ?_⟩) hHeld ?_
  · go_simp
  simp only [List.set_cons_zero, List.set_cons_succ]
  refine wpAnyH_takeAt (i := 21) (v := (.int .u8 (z0 : Int))) rfl (by kernel_rfl) (by kernel_rfl) (by kernel_rfl) (fun _ _ _ h => h) rfl (Or.inl ⟨by rfl, fun w' hS => ?_⟩) hHeld ?_
  · go_simp
  simp only [List.set_cons_zero, List.set_cons_succ]
  refine wpAnyH_ready (rs := [22]) (by kernel_rfl) (by simp) (AllReadyH.cons rfl (fun K' hK => ?_) AllReadyH.nil)
  go_simp
  obtain ⟨gb, hgb⟩ : ∃ gb, gb = wd7.heap.size := ⟨_, rfl⟩
  obtain ⟨wd8, hwd8⟩ : ∃ wd8, wd8 = wd7.alloc (.cells #[.int .u8 (z3 : Int), .int .u8 (z2 : Int), .int .u8 (z1 : Int), .int .u8 (z0 : Int)] 5) := ⟨_, rfl⟩
  have HM8 : Hid (DW mutX w L wd8 L6 g P6 D2 bs) := by
    show DW _ _ _ _ _ _ _ _ _
    rw [hwd8]
    exact HM7.out.call (balloc (Below.refl _ _) _)
  have HLIT : Hid (Blk wd8 gb 5 #[.int .u8 (z3 : Int), .int .u8 (z2 : Int), .int .u8 (z1 : Int), .int .u8 (z0 : Int)] ∧ L6 gb = .other) := by
    refine ⟨by rw [hwd8]; exact Blk.newAt hgb _ _, ?_⟩
    rw [hgb]
    exact HM7.out.top _ (Nat.le_refl _)
  have HC8 : Hid (wd8.cell? ⟨q, 2, none⟩ = some (.int .i64 (sl : Int)) ∧ wd8.cell? ⟨g, i * 367 + 8 + s, none⟩ = some (.int .i64 (ad : Int))) := by
    exact ⟨(HCELL.out _ _ _ _ HM8.out).1, by rw [HM8.out.dm.addrCell HI.out HS.out]; exact HAD2.out⟩
  rw [← hwd8, ← hgb]
  clear hwd8 hgb
  refine hK.out _ _ HC8.out (fun hHeld' => ?_)
  clear hK hHeld 
  have hHeld := hHeld'
  clear hHeld'
  refine wpAnyH_takeAt (i := 23) (v := (.agg #[.int .i64 24, .int .i64 0, .int .i64 (sl : Int), .int .i64 0, .int .i64 0, .int .i64 0, .slice (some ⟨gb, 0, none⟩) 4 4])) rfl (by kernel_rfl) (by kernel_rfl) (by kernel_rfl) (fun _ _ _ h => h) rfl (Or.inl ⟨by rfl, fun w' hS => ?_⟩) hHeld ?_
  · go_simp
  simp only [List.set_cons_zero, List.set_cons_succ]
  refine wpAnyH_ready (rs := [24]) (by kernel_rfl) (by simp) (AllReadyH.cons rfl (fun K' hK => ?_) AllReadyH.nil)
  go_simp
  go_at_call 107
  refine (show Calls _ _ #[.pointer (some ⟨g, 0, none⟩), .int .i64 (ad : Int), .agg #[.int .i64 24, .int .i64 0, .int .i64 (sl : Int), .int .i64 0, .int .i64 0, .int .i64 0, .slice (some ⟨gb, 0, none⟩) 4 4]] wd8 fun e w' => e = .returned (.tuple #[]) ∧ ∃ L', DeskM L' w' g P6 D3 ∧ Stp (tellX ad) L6 L' wd8 w' from (by rw [← HSAY.out]; exact say_c HM8.out.dm HA64.out ⟨24, 0, (sl : Int), 0, 0, 0, be4 x⟩ (A := some ⟨gb, 0, none⟩) (c := 4) (HBYV.out _ _ HLIT.out.1 HLIT.out.2) (by show (4 : Nat) ≤ _; decide))).mono ?_
  rintro e0 wd9 ⟨rfl, Lb9, hdq, hsq⟩
  have HM9 : Hid (DW mutX w L wd9 Lb9 g P6 D3 bs) := HM8.out.step (hsq.mono (tellX_mut)) hdq mutX_temp
  have HC9 : Hid (wd9.cell? ⟨q, 2, none⟩ = some (.int .i64 (sl : Int)) ∧ wd9.cell? ⟨g, i * 367 + 8 + s, none⟩ = some (.int .i64 (ad : Int))) := by
    exact ⟨(HCELL.out _ _ _ _ HM9.out).1, by rw [HM9.out.dm.addrCell HI.out HS.out]; exact HAD3.out⟩
  clear hdq hsq
  go_wp2_with fail
  refine hK.out _ _ HC9.out (fun hHeld' => ?_)
  clear hK hHeld 
  have hHeld := hHeld'
  clear hHeld'
  (try refine wpAnyH_putNone rfl ?_)
  refine wpAnyH_done (by kernel_rfl) ?_ _
  clear hHeld
  have HM8 : Hid (DW mutX w L wd9 Lb9 g P6 D3 bs) := HM9.out
  have hpl : P6.lane i s sl = pl := by rw [HP6.out]; exact if_pos ⟨rfl, rfl, rfl⟩
  have hlane : (D3.hall i).lane s sl = some (lane0 (x : Int)) := HLN3.out
  obtain ⟨hcp, hlm⟩ := HM8.out.dm.lane_ HI.out HS.out HSL.out hlane
  rw [hpl] at hlm
  obtain ⟨vr, qr, hvr, hbl, hclo⟩ := hlm.open_ HM8.out.top
  obtain ⟨_, n4, n5⟩ := HCELL.out _ _ _ _ HM8.out
  have HLI := Lib.hid (limit_c hbl n m HNM.out.1 HNM.out.2.1 HNM.out.2.2.1 HNM.out.2.2.2)
  have HCLO := Lib.hid hclo
  have HPL3 := Lib.hid hpl
  have HLA3 := Lib.hid hlane
  clear hpl hlane hcp hlm hvr hbl hclo
  go_wp2_with fail
  refine HLI.out.mono ?_
  rintro e0 w9 ⟨rfl, hsv, hsz, hbl⟩
  have HTL := Lib.hid (HM8.out.dm.turnLane HI.out HS.out HSL.out HLA3.out (by rw [HPL3.out]; exact hsv) (by rw [HPL3.out]; exact HCLO.out w9 (limL (lane0 (x : Int)) n m) rfl rfl hsv hbl))
  obtain ⟨P9, hP9⟩ : ∃ P9, P9 = P6.setLane i s sl (P6.lane i s sl) := ⟨_, rfl⟩
  obtain ⟨D4, hD4⟩ : ∃ D4, D4 = D3.setLane i s sl (some (limL (lane0 (x : Int)) n m)) := ⟨_, rfl⟩
  rw [← hP9, ← hD4] at HTL
  have HD4 := Lib.hid hD4
  have HM9 : Hid (DW mutX w L w9 Lb9 g P9 D4 bs) := HM8.out.step (HTL.out.2.mono laneX_mut) HTL.out.1 mutX_temp
  have hlen3 : i < D3.halls.length := by rw [HM8.out.dm.halls]; exact HI.out
  have HLK := Lib.hid (dlacks_c HM9.out.dm HI.out HS.out HSL.out (l := limL (lane0 (x : Int)) n m) (by rw [hD4]; exact setLane_lane hlen3 (HM8.out.dm.lane64 HI.out) HS.out HSL.out _) ⟨by show (0 : Int) ≤ (x : Int); omega, by show (x : Int) < 4294967296; have := HX2.out; omega, rfl⟩ (by rw [hD4]; exact keyOk_setLane hlen3 HK3.out))
  obtain ⟨n2, _, _⟩ := HCELL.out _ _ _ _ HM9.out
  clear hsv hsz hbl hP9 hD4 hlen3 n4 n5 HLI HTL
  go_wp2_with fail
  refine HLK.out.mono ?_
  rintro e0 w10 ⟨rfl, L10, hdq, hsq⟩
  have HM10 : Hid (DW mutX w L w10 L10 g P9 (lacksD D4 i s sl) bs) := HM9.out.step (hsq.mono tellX_mut) hdq mutX_temp
  clear hdq hsq n2
  go_wp2_with fail
  go_ret
  refine ⟨rfl, L10, P9, ?_, HM10.out.stp⟩
  have h := HM10.out.dm
  rw [HRES.out, ← HD4.out]
  exact h
end Go.Proofs.YtmkifedcanmjoaaGreat
