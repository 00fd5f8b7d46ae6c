/- desk.reports of one rate for one stream (contract). Conditions: the lane is there; numbers that fit. -/
import Derived.Test.YtmkifedcanmjoaaGreatKg
import Derived.Test.YtmkifedcanmjoaaGreatKh
set_option linter.unusedVariables false
set_option linter.unusedSimpArgs false
namespace Go.Proofs.YtmkifedcanmjoaaGreat
open Go.RowKit
attribute [local go_sem ↓] Go.wp_at_zero Go.wp_at_succ
theorem RepV.fit {w : World} {cs : Array Value} {r : Rep} (h : RepV w cs r) : FitL 81 cs.toList := by
  obtain ⟨vb, vp, vf, vs, vd, e, h1, h2, h3, h4, h5⟩ := h
  obtain ⟨_, _, rfl, _⟩ := h1
  obtain ⟨_, _, rfl, _⟩ := h2
  obtain ⟨_, _, rfl, _⟩ := h3
  obtain ⟨_, _, rfl, _⟩ := h4
  obtain ⟨_, _, rfl, _⟩ := h5
  subst e
  exact ⟨infoRep, by simp [repA, Value.oneCell']⟩
theorem rateV_c (cs0 : Array Value) (r : Rep) (w : World) (h : RepV w cs0 r) (hm : r.mt < 4294967296) (hx1 : -9223372036854775808 ≤ r.ex) (hx2 : r.ex ≤ 9223372036854775807) :
    Calls Tryz.prog 92 #[.agg cs0] w fun e w' => e = .returned (.int .u64 (rateS r.mt r.ex : Int)) ∧ Below w.heap.size w w' := by
  obtain ⟨vb, vp, vf, vs, vd, e1, hb, hp, hf, hs, hd⟩ := h
  subst e1
  obtain ⟨Ab, cb, eb, _, _⟩ := id hb
  subst eb
  obtain ⟨Ap, cp, ep, _, _⟩ := id hp
  subst ep
  obtain ⟨Af, cf, ef, _, _⟩ := id hf
  subst ef
  obtain ⟨As, cs, es, _, _⟩ := id hs
  subst es
  obtain ⟨Ad, cd, ed, _, _⟩ := id hd
  subst ed
  exact rate_c r.kind _ _ _ _ _ _ _ _ _ _ _ _ _ _ _ _ _ _ _ _ _ _ _ _ _ w hm hx1 hx2
/-- One report is read. -/
theorem parseOne_c {b : List UInt8} {r : Rep} {A : Option Addr} {n cap : Nat} {w : World} (h : SlV w (.slice A n cap) b) (hp : parseS b = ([r], 0)) (hb : b.length ≤ 1200) (h2 : lenS b = b.length) (h3 : (oneS b).1.kind = 4 ∨ (oneS b).1.kind = 6) :
    Calls Tryz.prog 20 #[.slice A n cap] w fun e w' => ∃ g o c, ∃ R : List Value, e = .returned (.tuple #[.slice (some ⟨g, o, none⟩) 1 c, .int .i64 0]) ∧ w'.rangeAt g o R ∧ g < w'.heap.size ∧ RepV w' R.toArray r ∧ Below w.heap.size w w' := by
  have hn := h.num
  refine (parse_c b A n cap w h (by omega) h2 h3).mono ?_
  rintro e w' ⟨A', n', c', css, rfl, hn', hc, hr, hv, hbel⟩
  rw [hp] at hn' hv ⊢
  have h1 : n' = 1 := hn'
  subst h1
  obtain ⟨cs, rfl⟩ : ∃ cs, css = [cs] := by
    have := hv.1
    match css, this with
    | [c], _ => exact ⟨c, rfl⟩
  have hrv := hv.2 0 cs r rfl rfl
  have hl : cs.toList.length = 16 := by
    have h := hrv.fit.info
    rw [infoRep] at h
    injection h with h
    exact h.symm
  have hcl : cellsL [cs] = cs.toList := by simp [cellsL]
  rw [hcl] at hr
  obtain ⟨ad, rfl, hlt, hcell⟩ := hr.2 (by omega)
  obtain ⟨u0, hu0⟩ : ∃ u, cs.toList[0]? = some u := ⟨_, List.getElem?_eq_getElem (by omega)⟩
  obtain ⟨g, o, rfl⟩ := addr_plain (hcell 0 u0 hu0)
  refine ⟨g, o, c', cs.toList, rfl, fun j u hu => ?_, hlt, by rw [Array.toArray_toList]; exact hrv, hbel⟩
  have := hcell j u hu
  rwa [Go.WideShapes.add_plain] at this
theorem DW.drop0 {X : Comp → Prop} {w0 w : World} {L0 L : Lab} {g : Nat} {P : Ptrs} {D : DeskD} {bs : List Bk} (h : DW X w0 L0 w L g P D bs) : DW X w0 L0 w L g P D [] := ⟨h.stp, h.dm, trivial, fun _ h => by cases h⟩
set_option maxRecDepth 100000 in
set_option maxHeartbeats 12800000 in
theorem reports_c {L : Lab} {w : World} {g : Nat} {P : Ptrs} {D : DeskD} (hd : DeskM L w g P D) {i s fr : Nat} (hi : i < 4) (hs : s < 8) {ex mt x : Nat} (hex : ex ≤ 63) (hmt : mt < 262144) (hx : x < 4294967296) (hl : laneS (D.hall i) s (x : Int) = some fr) {l : LaneD} (hll : (D.hall i).lane s fr = some l) (hwl : WL l) (hk : KeyOk D i fr) {A : Option Addr} {n c : Nat} (hb : SlV w (.slice A n c) (rembD ex mt x)) :
    Calls Tryz.prog 54 #[.pointer (some ⟨g, 0, none⟩), .pointer (some ⟨g, i * 367, none⟩), .int .i64 (s : Int), .slice A n c] w fun e w' => e = .returned (.tuple #[]) ∧ ∃ L' P', DeskM L' w' g P' (roomD D i s (x : Int) (rateS mt (ex : Int))) ∧ Stp mutX L L' w w' := by
  obtain ⟨p1, p2, p3⟩ := one_remb hex hmt hx
  have HPA := Lib.hid (parseOne_c hb (parse_remb hex hmt hx) (by omega) p2 (.inr (by rw [p1]; rfl)))
  obtain ⟨res, hres⟩ : ∃ res, res = roomD D i s (x : Int) (rateS mt (ex : Int)) := ⟨_, rfl⟩
  obtain ⟨rate, hrate⟩ : ∃ rate, rate = rateS mt (ex : Int) := ⟨_, rfl⟩
  have hrt : rate < 18446744073709551616 := by rw [hrate]; exact rateS_lt (by omega) _
  have HRM : Hid (∀ (Lx : Lab) (wx : World), DeskM Lx wx g P D → Calls Tryz.prog 91 #[.pointer (some ⟨g, 0, none⟩), .pointer (some ⟨g, i * 367, none⟩), .int .i64 (s : Int), .int .u32 (x : Int), .int .u64 (rate : Int)] wx fun e w' => e = .returned (.tuple #[]) ∧ ∃ L' P', DeskM L' w' g P' res ∧ Stp mutX Lx L' wx w') := fun Lx wx hdx => by
    rw [hres, ← hrate]
    exact droom_c hdx hi hs hl hll hwl hk hrt
  have HRATE : Hid (∀ (wx : World) (cs : Array Value), RepV wx cs (rembRep ex mt x) → Calls Tryz.prog 92 #[.agg cs] wx fun e w' => e = .returned (.int .u64 (rate : Int)) ∧ Below wx.heap.size wx w') := fun wx cs hv => by
    rw [hrate]
    exact rateV_c cs (rembRep ex mt x) wx hv (by show mt < _; omega) (by show _ ≤ (ex : Int); omega) (by show (ex : Int) ≤ _; omega)
  rw [← hres]
  have HM0 : Hid (DW mutX w L w L g P D []) := DW.start mutX hd
  clear p1 p2 p3 hex hmt hx hl hll hwl hk hb hd hi hs hres hrate hrt
  go_enter Tryz.func54, Tryz.ntmps54
  go_wp2_with fail
  refine HPA.out.mono ?_
  rintro e0 w1 ⟨gr, o, cr, R, rfl, hrg, hgl, hrv, hbq⟩
  have HM1 : Hid (DW mutX w L w1 L g P D []) := HM0.out.call hbq
  have HRG := Lib.hid hrg
  have HRV := Lib.hid hrv
  have HGL := Lib.hid hgl
  have HRF : Hid (FitL 81 R) := hrv.fit
  have HRL : Hid (R.length = 16) := by
    have h := hrv.fit.info
    rw [infoRep] at h
    injection h with h
    exact h.symm
  obtain ⟨vb, vp, vf, vs, vd, e1, _, _, _, hss, _⟩ := hrv
  obtain ⟨As, cs2, rfl, hcs, hrs⟩ := id hss
  obtain ⟨_, gs, os, hAs, hgs, hcc⟩ := SlR.cells hss (by show 0 < 1; decide) (by decide)
  subst hAs
  obtain ⟨_, hcx⟩ := hcc 0 [x] rfl
  have hcell := hcx 0 (.int .u32 (x : Int)) rfl
  have HR0 : Hid (R[0]? = some (.int .i64 6)) := by show _ = _; rw [← List.getElem?_toArray, e1]; rfl
  have HR12 : Hid (R[12]? = some (.slice (some ⟨gs, os, none⟩) 1 cs2)) := by show _ = _; rw [← List.getElem?_toArray, e1]; rfl
  have HCX : Hid (w1.cell? ⟨gs, os, none⟩ = some (.int .u32 (x : Int))) := by show _ = _; simpa using hcell
  clear e1 hss hcs hrs hcc hcx hcell hrg hgl hbq HPA HM0 hgs
  go_upto_region 4 with fail
  go_loopg [30] 1 (fun gg v wx => (gg = 1 ∧ v = .int .i64 0 ∧ wx = w1) ∨ (gg = 0 ∧ v = .int .i64 1 ∧ ∃ Lx Px, DW mutX w L wx Lx g Px res []))
  case atStart => exact .inl ⟨rfl, rfl, rfl⟩
  case round =>
    rcases hrel with ⟨rfl, rfl, rfl⟩ | ⟨rfl, rfl, hdw⟩
    · obtain ⟨gx, hgx⟩ : ∃ gx, gx = wr.heap.size := ⟨_, rfl⟩
      obtain ⟨w2, hw2⟩ : ∃ w2, w2 = World.setCells (wr.alloc (.cells zRep.toArray 81)) wr.heap.size 0 R := ⟨_, rfl⟩
      have HB2 : Hid (Below wr.heap.size wr w2) := by show Below _ _ _; rw [hw2]; exact below_setCells (balloc (Below.refl _ _) _) (Nat.le_refl _) _ _
      have HX2 : Hid (Blk w2 gx 81 R.toArray) := by
        show Blk _ _ _ _
        rw [hw2, hgx]
        exact blk_setAll (l := zRep) (Blk.new wr _ _) (by rw [HRL.out]; rfl)
      obtain ⟨L2, hL2⟩ : ∃ L2, L2 = tempAt L wr.heap.size := ⟨_, rfl⟩
      have HM2 : Hid (DW mutX w L w2 L2 g P D [(gx, 81, R)]) := by
        show DW _ _ _ _ _ _ _ _ _
        rw [hw2, hgx, hL2]
        exact HM1.out.newset 81 zRep.toArray R (by rw [HRL.out]; rfl)
      go_upto_region 6 with (first
        | ((with_reducible show wpList _ _ _ (⟨some 33, .load _ (.tmp 32), _, _, _, _⟩ :: _) _ _); refine wpList_load_mid rfl 81 (.tmp 32) rfl gr o rfl R _ HRG.out Tryz.underlying81 rfl HRF.out.info ?_)
        | ((with_reducible show wpList _ _ _ (⟨none, .store _ (.tmp 11) (.tmp 33), _, _, _, _⟩ :: _) _ _); refine wpList_store_mid rfl 81 (.tmp 11) (.tmp 33) rfl wr.heap.size 0 R.toArray rfl rfl (there_new wr 81 zRep.toArray _ (by show R.length ≤ 16; rw [HRL.out]; exact Nat.le_refl _)) HRF.out.infos HRF.out.one ?_))
      have hE2 : World.setCells (wr.alloc (.cells #[.int .i64 0, .int .u32 0, .int .u32 0, .int .u64 0, .int .u32 0, .int .u32 0, .int .u32 0, .slice none 0 0, .slice none 0 0, .slice none 0 0, .int .i64 0, .int .u32 0, .slice none 0 0, .int .i64 0, .int .i64 0, .slice none 0 0] 81)) wr.heap.size 0 R = w2 := hw2.symm
      rw [hE2, ← hgx]
      have c0 : w2.cell? ⟨gx, 0, none⟩ = some (.int .i64 6) := by rw [HX2.out.cell, List.getElem?_toArray]; exact HR0.out
      have c12 : w2.cell? ⟨gx, 12, none⟩ = some (.slice (some ⟨gs, os, none⟩) 1 cs2) := by rw [HX2.out.cell, List.getElem?_toArray]; exact HR12.out
      have hgs : gs < wr.heap.size := World.block_lt_of_cell? _ _ HCX.out
      have cx : w2.cell? ⟨gs, os, none⟩ = some (.int .u32 (x : Int)) := (HB2.out.cell (p := ⟨gs, os, none⟩) hgs).trans HCX.out
      have HRX : Hid (w2.rangeAt gx 0 R) := blk_range HX2.out
      have HRV2 : Hid (RepV w2 R.toArray (rembRep ex mt x)) := HRV.out.below HB2.out
      clear hw2 hgx hE2 hL2 hgs
      go_upto_region 19 with fail
      clear c0 c12
      go_loopg [72] 1 (fun gg v wx => (gg = 1 ∧ v = .int .i64 0 ∧ wx = w2) ∨ (gg = 0 ∧ v = .int .i64 1 ∧ ∃ Lx Px, DW mutX w L wx Lx g Px res []))
      case atStart => exact .inl ⟨rfl, rfl, rfl⟩
      case round =>
        rcases hrel with ⟨rfl, rfl, rfl⟩ | ⟨rfl, rfl, hdw⟩
        · go_wp2_with (first
            | ((with_reducible show wpList _ _ _ (⟨some 80, .load _ (.tmp 11), _, _, _, _⟩ :: _) _ _); refine wpList_load_mid rfl 81 (.tmp 11) rfl gx 0 rfl R _ HRX.out Tryz.underlying81 rfl HRF.out.info ?_))
          refine (HRATE.out _ _ HRV2.out).mono ?_
          rintro e0 w3 ⟨rfl, hbq⟩
          have HM3 : Hid (DW mutX w L w3 L2 g P D [(gx, 81, R)]) := HM2.out.call hbq
          clear hbq cx
          go_wp2_with fail
          refine (HRM.out L2 w3 HM3.out.dm).mono ?_
          rintro e0 w4 ⟨rfl, L4, P4, hdq, hsq⟩
          have HM4 : Hid (DW mutX w L w4 L4 g P4 res [(gx, 81, R)]) := HM3.out.step hsq hdq mutX_temp
          clear hdq hsq
          go_wp2_with fail
          go_roundg 0
          case measure => decide
          case rel => exact .inr ⟨rfl, rfl, L4, P4, HM4.out.drop0⟩
        · obtain ⟨Lx, Px, hdw⟩ := hdw
          have HDW := Lib.hid hdw
          clear hdw
          go_wp2_with fail
          go_roundg 0
          case measure => decide
          case rel => exact .inr ⟨rfl, rfl, Lx, Px, HDW.out⟩
    · obtain ⟨Lx, Px, hdw⟩ := hdw
      have HDW := Lib.hid hdw
      clear hdw
      go_wp2_with fail
      first
        | go_end0
        | refine bodyPost_ret (results_none rfl _ _ _) rfl ?_
      exact ⟨rfl, Lx, Px, HDW.out.dm, HDW.out.stp⟩
end Go.Proofs.YtmkifedcanmjoaaGreat
