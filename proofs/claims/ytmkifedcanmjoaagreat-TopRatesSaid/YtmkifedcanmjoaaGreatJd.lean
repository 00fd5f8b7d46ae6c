/- What the reader's about does (the last kind). Conditions: the reader and the report lie in memory. (Printed by gen8a.py.) -/
import Derived.Test.YtmkifedcanmjoaaGreatJc
set_option linter.unusedVariables false
set_option linter.unusedSimpArgs false
namespace Go.Proofs.YtmkifedcanmjoaaGreat
open Go.RowKit
attribute [local go_sem ↓] Go.wp_at_zero Go.wp_at_succ

theorem infoS : (Tryz.prog.info? 32).map (fun i => (i.zero, i.size, i.bytes)) = some (some (.int .u32 0), 1, 4) := infoU32
/-- What stands behind the letters: the exponent, the mantissa, the streams. -/
def rembS (s : RS) : (Nat × Nat) × (List (List Nat) × RS) :=
  let l := numS 4 s
  let n := numS 1 l.2
  let y := numS 3 n.2
  ((y.1 / 262144, y.1 % 262144), itS ssrcS n.1 y.2)
theorem and18 (y : Nat) (h : y < 18446744073709551616) : bits .and .u64 (y : Int) 262143 = ((y % 262144 : Nat) : Int) := by
  have e := u64_and_nat y 262143 h (by decide)
  rw [show (262143 : Nat) = 2 ^ 18 - 1 from rfl, Nat.and_two_pow_sub_one_eq_mod] at e
  exact e
set_option maxRecDepth 100000 in
set_option maxHeartbeats 12800000 in
theorem about6_c (B g gx fr : Nat) (s : RS) (w : World) (h : RdSt w B g s) (hx : Blk w gx 81 (repA 6 fr 0 0 0 0 0 nilV nilV nilV 0 0 nilV 0 0 nilV)) (hB : B ≤ gx) (hne : g ≠ gx) :
    Calls Tryz.prog 82 #[.pointer (some ⟨g, 0, none⟩), .pointer (some ⟨gx, 0, none⟩)] w fun e w' => e = .returned (.tuple #[]) ∧ (∃ v, Blk w' gx 81 (repA 6 fr (numS 4 s).1 0 0 0 0 nilV nilV nilV ((rembS (numS 4 s).2).1.1 : Int) (rembS (numS 4 s).2).1.2 v 0 0 nilV) ∧ w'.ownsRow w.heap.size 32 1 v (rembS (numS 4 s).2).2.1.length (rowC ksS (rembS (numS 4 s).2).2.1)) ∧ RdSt w' B g (rembS (numS 4 s).2).2.2 ∧ Sv (fun j => j = g ∨ j = gx) w w' := by
  obtain ⟨iS, hiS, hzaS, hzbS, hzcS⟩ := info_parts infoS
  obtain ⟨ab, sA, eA, bA⟩ := numS_x 4 s (by decide)
  obtain ⟨x0, s0, e0, b0⟩ := numS_x 4 sA (by decide)
  obtain ⟨n, sn, en, bn⟩ := numS_x 1 s0 (by decide)
  obtain ⟨y, sy, ey, byy⟩ := numS_x 3 sn (by decide)
  obtain ⟨ex, hex⟩ : ∃ ex, ex = y / 262144 := ⟨_, rfl⟩
  obtain ⟨mt, hmt⟩ : ∃ mt, mt = y % 262144 := ⟨_, rfl⟩
  have hre : rembS sA = ((ex, mt), itS ssrcS n sy) := by rw [rembS, hex, hmt]; simp only [e0, en, ey]
  rw [eA]
  simp only
  rw [hre]
  simp only
  have hn : n < 256 := by omega
  have hex1 : (y : Int) / 262144 = (ex : Int) := by omega
  have hex2 : ex < 64 := by omega
  have hex3 : (ex : Int) < 64 := by omega
  have hmt1 : bits .and .u64 (y : Int) 262143 = (mt : Int) := by rw [hmt]; exact and18 y (by omega)
  have hmt2 : mt < 262144 := by omega
  have hmt3 : (mt : Int) < 4294967296 := by omega
  obtain ⟨repC, hrep⟩ : ∃ repC : Value → Array Value, repC = fun v => repA 6 fr ab 0 0 0 0 nilV nilV nilV (ex : Int) mt v 0 0 nilV := ⟨_, rfl⟩
  have H := Lib.hid h
  have HX := Lib.hid hx
  have HBX := Lib.hid hB
  have HNE := Lib.hid hne
  have HGL : Hid (g < w.heap.size ∧ gx < w.heap.size) := ⟨h.lt, hx.lt⟩
  have HBG : Hid (B ≤ g) := h.1
  have HEA := Lib.hid eA
  have HE0 := Lib.hid e0
  have HEN := Lib.hid en
  have HEY := Lib.hid ey
  clear h hx hB hne eA bA e0 b0 en bn ey byy hex hmt hre
  go_enter Tryz.func82, Tryz.ntmps82
  go_upto_region 1 with (first
    | (go_at_call 79
       refine (word_z H.out HEA.out).mono ?_
       rintro e0 w1 ⟨rfl, hr1, hs1⟩
       have hx1 := hs1.blk HX.out (fun e => HNE.out e.symm)
       have k2 : w1.cell? ⟨gx, 2, none⟩ = some (.int .u32 0) := hx1.cell 2
       have f2 := hx1.frozen 2
       have HR1 := Lib.hid hr1
       have HS1 := Lib.hid hs1
       have HX1 := Lib.hid hx1
       clear hr1 hs1 hx1))
  clear k2 f2
  obtain ⟨w2, hw2⟩ : ∃ w2, w2 = w1.setCell ⟨gx, 2, none⟩ (.int .u32 (ab : Int)) := ⟨_, rfl⟩
  have hx2 : Blk w2 gx 81 (repA 6 fr ab 0 0 0 0 nilV nilV nilV 0 0 nilV 0 0 nilV) := by rw [hw2]; exact HX1.out.set_ 2 _
  have HR2 : Hid (RdSt w2 B g sA) := by show RdSt _ _ _ _; rw [hw2]; exact HR1.out.far (p := ⟨gx, 2, none⟩) HBX.out (fun e => HNE.out e.symm) _
  have HS2 : Hid (Sv (fun j => j = g ∨ j = gx) w w2) := by show Sv _ _ _; rw [hw2]; exact (HS1.out.mono (fun _ _ e => .inl e)).set (p := ⟨gx, 2, none⟩) (.inl (.inr rfl)) _
  have k0 : w2.cell? ⟨gx, 0, none⟩ = some (.int .i64 6) := hx2.cell 0
  have HX2 := Lib.hid hx2
  have HREP := Lib.hid hrep
  have HC8 : Hid (∀ v : Value, (repC v)[12]? = some v) := fun v => by rw [hrep]; rfl
  have HS8 : Hid (∀ v u : Value, (repC v).setIfInBounds 12 u = repC u) := fun v u => by rw [hrep]; rfl
  rw [← hw2]
  clear hw2 hx2 hrep HR1 HS1 HX1 HX H
  go_upto_region 18 with (first
    | (go_at_call 79
       refine (word_z HR2.out HE0.out).mono ?_
       rintro e0 w3 ⟨rfl, hr3, hs3⟩
       have HX3 := Lib.hid (hs3.blk HX2.out (fun e => HNE.out e.symm))
       have HS3 : Hid (Sv (fun j => j = g ∨ j = gx) w w3) := HS2.out.trans hs3 (fun _ _ e => .inl e)
       have HR3 := Lib.hid hr3
       clear hr3 hs3)
    | (go_at_call 80
       first
         | ((with_reducible show Calls _ _ _ w3 _)
            refine (num_z HR3.out (k := 1) rfl (by decide) (by decide) HEN.out).mono ?_
            rintro e0 w4 ⟨rfl, hr4, hs4⟩
            have HX4 := Lib.hid (hs4.blk HX3.out (fun e => HNE.out e.symm))
            have HS4 : Hid (Sv (fun j => j = g ∨ j = gx) w w4) := HS3.out.trans hs4 (fun _ _ e => .inl e)
            have HR4 := Lib.hid hr4
            clear hr4 hs4)
         | ((with_reducible show Calls _ _ _ w4 _)
            refine (num_z HR4.out (k := 3) rfl (by decide) (by decide) HEY.out).mono ?_
            rintro e0 w5 ⟨rfl, hr5, hs5⟩
            have hx5 := hs5.blk HX4.out (fun e => HNE.out e.symm)
            have HS5 : Hid (Sv (fun j => j = g ∨ j = gx) w w5) := HS4.out.trans hs5 (fun _ _ e => .inl e)
            have k10 : w5.cell? ⟨gx, 10, none⟩ = some (.int .i64 0) := hx5.cell 10
            have k11 : w5.cell? ⟨gx, 11, none⟩ = some (.int .u32 0) := hx5.cell 11
            have f10 := hx5.frozen 10
            have f11 := hx5.frozen 11
            have HX5 := Lib.hid hx5
            have HR5 := Lib.hid hr5
            clear hr5 hs5 hx5)))
  clear k0
  go_upto_region 19 with fail
  clear k10 k11 f10 f11
  obtain ⟨w6, hw6⟩ : ∃ w6, w6 = (w5.setCell ⟨gx, 10, none⟩ (.int .i64 (ex : Int))).setCell ⟨gx, 11, none⟩ (.int .u32 (mt : Int)) := ⟨_, rfl⟩
  have HX6 : Hid (Blk w6 gx 81 (repC nilV)) := by show Blk _ _ _ _; rw [hw6, HREP.out]; exact (HX5.out.set_ 10 _).set_ 11 _
  have HR6 : Hid (RdSt w6 B g sy) := by show RdSt _ _ _ _; rw [hw6]; exact (HR5.out.far (p := ⟨gx, 10, none⟩) HBX.out (fun e => HNE.out e.symm) _).far (p := ⟨gx, 11, none⟩) HBX.out (fun e => HNE.out e.symm) _
  have HS6 : Hid (Sv (fun j => j = g ∨ j = gx) w w6) := by show Sv _ _ _; rw [hw6]; exact (HS5.out.set (p := ⟨gx, 10, none⟩) (.inl (.inr rfl)) _).set (p := ⟨gx, 11, none⟩) (.inl (.inr rfl)) _
  rw [← hw6]
  clear hw6 HX5 HR5 HS5 HX4 HR4 HS4 HX3 HR3 HS3 HX2 HR2 HS2 hex1 hmt1
  go_upto_region 20 with fail
  go_loopg [94] n (fun gg v94 wx => ∃ (al : Nat) (acc : List (List Nat)) (s1 : RS) (Ao : Option Addr) (co : Nat), al ≤ n ∧ gg = n - al ∧ v94 = .int .i64 (al : Int) ∧ itS ssrcS al sy = (acc, s1) ∧ al = acc.length ∧ RdSt wx B g s1 ∧
    Blk wx gx 81 (repC (.slice Ao al co)) ∧ wx.ownsRow w.heap.size 32 1 (.slice Ao al co) al (rowC ksS acc) ∧ Sv (fun j => j = g ∨ j = gx) w wx)
  case atStart => exact ⟨0, [], sy, none, 0, Nat.zero_le _, rfl, rfl, rfl, rfl, HR6.out, HX6.out, World.ownsRow_nil _ _ _ _, HS6.out⟩
  case round =>
    obtain ⟨al, acc, s1, Ao, co, hal, rfl, rfl, hdo, hall, hr, hx, ho, hs⟩ := hrel
    clear HR6 HX6 HS6
    have HR := Lib.hid hr
    have HX := Lib.hid hx
    have HO := Lib.hid ho
    have HS := Lib.hid hs
    have HAL := Lib.hid hall
    have HDO := Lib.hid hdo
    clear hr hx ho hs hall hdo
    by_cases han : al < n
    · have hani : (al : Int) < (n : Int) := by omega
      obtain ⟨x1, s2, e1, b1⟩ := numS_x 4 s1 (by decide)
      have hp : ssrcS s1 = ([x1], s2) := by rw [ssrcS]; simp only [e1]
      have HP := Lib.hid hp
      have HE1 := Lib.hid e1
      have hx1 : (x1 : Int) < 4294967296 := by omega
      clear e1 b1 hp
      go_upto_region 21 with fail
      have HR0 : Hid (RdSt (World.drew wr) B g s1) := HR.out.below (bdrew (Below.refl _ _))
      have HX0 : Hid (Blk (World.drew wr) gx 81 (repC (.slice Ao al co))) := HX.out
      have HO0 : Hid (World.ownsRow (World.drew wr) w.heap.size 32 1 (.slice Ao al co) al (rowC ksS acc)) := HO.out
      have HS0 : Hid (Sv (fun j => j = g ∨ j = gx) w (World.drew wr)) := HS.out.drew
      refine wp_region_held_drew (S := (fun _ => True)) (by kernel_rfl) (trivial) (fun hHeld => ?_)
      refine wpAnyH_takeAt (i := 0) (v := (.pointer (some ⟨gx, 0, none⟩))) rfl (by kernel_rfl) (by kernel_rfl) (by kernel_rfl) (fun _ _ _ h => h) rfl (Or.inl ⟨by rfl, fun w' hS => ?_⟩) hHeld ?_
      · go_simp
      simp only [List.set_cons_zero, List.set_cons_succ]
      refine wpAnyH_takeAt (i := 1) (v := (.pointer (some ⟨gx, 0, none⟩))) rfl (by kernel_rfl) (by kernel_rfl) (by kernel_rfl) (fun _ _ _ h => h) rfl (Or.inl ⟨by rfl, fun w' hS => ?_⟩) hHeld ?_
      · go_simp
      simp only [List.set_cons_zero, List.set_cons_succ]
      refine wpAnyH_takeAt (i := 2) (v := (.pointer (some ⟨gx, 0, none⟩))) rfl (by kernel_rfl) (by kernel_rfl) (by kernel_rfl) (fun _ _ _ h => h) rfl (Or.inl ⟨by rfl, fun w' hS => ?_⟩) hHeld ?_
      · go_simp
      simp only [List.set_cons_zero, List.set_cons_succ]
      refine wpAnyH_takeAt (i := 3) (v := (.pointer (some ⟨gx, 12, none⟩))) rfl (by kernel_rfl) (by kernel_rfl) (by kernel_rfl) (fun _ _ _ h => h) rfl (Or.inl ⟨by rfl, fun w' hS => ?_⟩) hHeld ?_
      · go_simp
      simp only [List.set_cons_zero, List.set_cons_succ]
      refine wpAnyH_takeAt (i := 5) (v := (.pointer (some ⟨g, 0, none⟩))) rfl (by kernel_rfl) (by kernel_rfl) (by kernel_rfl) (fun _ _ _ h => h) rfl (Or.inl ⟨by rfl, fun w' hS => ?_⟩) hHeld ?_
      · go_simp
      simp only [List.set_cons_zero, List.set_cons_succ]
      refine wpAnyH_ready (rs := [4, 6]) (by kernel_rfl) (by simp) (AllReadyH.cons rfl (fun K' hK => ?_) (AllReadyH.cons rfl (fun K' hK => ?_) AllReadyH.nil))
      · have hcell : (World.drew wr).cell? ⟨gx, 12, none⟩ = some (.slice Ao al co) := ((HX0.out.cell 12).trans (HC8.out _))
        go_simp
        clear hcell
        refine hK.out _ _ trivial (fun hHeld' => ?_)
        clear hK hHeld
        have hHeld := hHeld'
        clear hHeld'
        refine wpAnyH_ready (rs := [6]) (by kernel_rfl) (by simp) (AllReadyH.cons rfl (fun K' hK => ?_) AllReadyH.nil)
        go_simp
        go_at_call 79
        refine (word_z HR0.out HE1.out).mono ?_
        rintro e0 w_1 ⟨rfl, hr_1, hs_1⟩
        go_wp2_with fail
        have HR_1 := Lib.hid hr_1
        have HX_1 := Lib.hid (hs_1.blk HX0.out (fun e => HNE.out e.symm))
        have HO_1 := Lib.hid (hs_1.own HO0.out (fun g' hg' e => by have := (HO0.out.lt g' hg').1; have := HGL.out; omega))
        have HS_1 : Hid (Sv (fun j => j = g ∨ j = gx) w w_1) := HS0.out.trans hs_1 (fun _ _ e => .inl e)
        clear hr_1 hs_1
        refine hK.out _ _ trivial (fun hHeld' => ?_)
        clear hK hHeld
        have hHeld := hHeld'
        clear hHeld'
        refine wpAnyH_ready (rs := [7]) (by kernel_rfl) (by simp) (AllReadyH.cons rfl (fun K' hK => ?_) AllReadyH.nil)
        go_simp
        have HR_2 : Hid (RdSt (World.alloc w_1 (.cells #[(.int .u32 (x1 : Int))] 32)) B g s2) := HR_1.out.below (balloc (Below.refl _ _) _)
        have HX_2 : Hid (Blk (World.alloc w_1 (.cells #[(.int .u32 (x1 : Int))] 32)) gx 81 (repC (.slice Ao al co))) := Blk.alloc HX_1.out _
        have HO_2 : Hid (World.ownsRow (World.alloc w_1 (.cells #[(.int .u32 (x1 : Int))] 32)) w.heap.size 32 1 (.slice Ao al co) al (rowC ksS acc)) := HO_1.out.alloc _
        have HS_2 : Hid (Sv (fun j => j = g ∨ j = gx) w (World.alloc w_1 (.cells #[(.int .u32 (x1 : Int))] 32))) := HS_1.out.alloc _
        have HN_2 : Hid (Reads (World.alloc w_1 (.cells #[(.int .u32 (x1 : Int))] 32)) (World.heap (World.alloc w_1 (.cells #[(.int .u32 (x1 : Int))] 32))).size 1 (some ⟨(World.heap w_1).size, 0, none⟩) 1 (rowC ksS [[x1]])) := reads_blk (Blk.newAt rfl _ _) rfl
        refine hK.out _ _ trivial (fun hHeld' => ?_)
        clear hK hHeld
        have hHeld := hHeld'
        clear hHeld'
        refine wpAnyH_ready (rs := [8]) (by kernel_rfl) (by simp) (AllReadyH.cons rfl (fun K' hK => ?_) AllReadyH.nil)
        refine step_append_any _ (by rfl) (.tmp 100) (.tmp 103) _ (by rfl) w.heap.size 32 iS _ 1 4 Tryz.underlying33 hiS hzaS hzbS hzcS rfl (by omega) (.slice Ao al co) al (rowC ksS acc) (by rfl) HO_2.out
          _ (some ⟨(World.heap w_1).size, 0, none⟩) 1 1 (rowC ksS [[x1]]) (by rfl) HN_2.out (rowC_cell _ _) (by simp only [maxLen]; omega) (by omega) HS_2.out.size ?_
        intro v_3 w_3 hown_3 hg_3 hv_3
        obtain ⟨A_3, c_3, rfl⟩ := own_slice hown_3
        have HR_3 : Hid (RdSt w_3 B g s2) := HR_2.out.sv (M := fun k => (Value.slice Ao al co).ownBlock = some k) ((Sv.refl _ _).grown hg_3 (fun g e => .inl e)) (fun k e => by have := (HO_2.out.lt k e).1; have := HGL.out; have := HBG.out; omega) (fun e => by have := (HO_2.out.lt g e).1; have := HGL.out; omega)
        have HX_3 : Hid (Blk w_3 gx 81 (repC (.slice Ao al co))) := Blk.grown HX_2.out hg_3 (Ne.symm (own_blk_ne HO_2.out HX_2.out (by decide)))
        have HS_3 : Hid (Sv (fun j => j = g ∨ j = gx) w w_3) := HS_2.out.grown hg_3 (fun g' e => .inr (HO_2.out.lt g' e).1)
        have HO_3 := Lib.hid hown_3
        clear hown_3 hg_3 hv_3
        refine hK.out _ _ trivial (fun hHeld' => ?_)
        clear hK hHeld
        have hHeld := hHeld'
        clear hHeld'
        refine wpAnyH_putAt rfl ?_
        simp only [List.set_cons_zero, List.set_cons_succ]
        refine wpAnyH_takeAt (i := 9) (v := (.pointer (some ⟨gx, 0, none⟩))) rfl (by kernel_rfl) (by kernel_rfl) (by kernel_rfl) (fun _ _ _ h => h) rfl (Or.inl ⟨by rfl, fun w' hS => ?_⟩) hHeld ?_
        · go_simp
        simp only [List.set_cons_zero, List.set_cons_succ]
        refine wpAnyH_takeAt (i := 10) (v := (.pointer (some ⟨gx, 12, none⟩))) rfl (by kernel_rfl) (by kernel_rfl) (by kernel_rfl) (fun _ _ _ h => h) rfl (Or.inl ⟨by rfl, fun w' hS => ?_⟩) hHeld ?_
        · go_simp
        simp only [List.set_cons_zero, List.set_cons_succ]
        refine wpAnyH_ready (rs := [11]) (by kernel_rfl) (by simp) (AllReadyH.cons rfl (fun K' hK => ?_) AllReadyH.nil)
        have hcell : w_3.cell? ⟨gx, 12, none⟩ = some (.slice Ao al co) := ((HX_3.out.cell 12).trans (HC8.out _))
        have hfree : w_3.frozen? ⟨gx, 12, none⟩ = false := HX_3.out.frozen 12
        go_simp
        clear hcell hfree
        refine hK.out _ _ trivial (fun hHeld' => ?_)
        clear hK hHeld
        have hHeld := hHeld'
        clear hHeld'
        refine wpAnyH_done (by kernel_rfl) ?_ _
        have HXF : Hid (Blk (World.setCell w_3 ⟨gx, 12, none⟩ (.slice A_3 (al + 1) c_3)) gx 81 (repC (.slice A_3 (al + 1) c_3))) := by show Blk _ _ _ _; rw [← HS8.out (.slice Ao al co)]; exact Blk.set_ HX_3.out 12 _
        have HRF : Hid (RdSt (World.setCell w_3 ⟨gx, 12, none⟩ (.slice A_3 (al + 1) c_3)) B g s2) := HR_3.out.far (p := ⟨gx, 12, none⟩) HBX.out (fun e => HNE.out e.symm) _
        have HSF : Hid (Sv (fun j => j = g ∨ j = gx) w (World.setCell w_3 ⟨gx, 12, none⟩ (.slice A_3 (al + 1) c_3))) := HS_3.out.set (p := ⟨gx, 12, none⟩) (.inl (.inr rfl)) _
        have HOF : Hid (World.ownsRow (World.setCell w_3 ⟨gx, 12, none⟩ (.slice A_3 (al + 1) c_3)) w.heap.size 32 1 (.slice A_3 (al + 1) c_3) (al + 1) (rowC ksS (acc ++ [[x1]]))) := by
          show World.ownsRow _ _ _ _ _ _ _
          rw [rowC_append]
          exact own_set HO_3.out (own_blk_ne HO_3.out HX_3.out (by decide)) 12 _
        generalize (World.setCell w_3 ⟨gx, 12, none⟩ (.slice A_3 (al + 1) c_3)) = wf at *
        go_wp2_with fail
        go_roundg (n - (al + 1))
        case measure => omega
        case rel =>
          refine ⟨al + 1, acc ++ [[x1]], s2, A_3, c_3, by omega, rfl, by go_num, ?_, by rw [List.length_append, ← HAL.out]; rfl, HRF.out, HXF.out, HOF.out, HSF.out⟩
          rw [itS, HDO.out, HP.out]
      · go_simp
        go_at_call 79
        refine (word_z HR0.out HE1.out).mono ?_
        rintro e0 w_5 ⟨rfl, hr_5, hs_5⟩
        go_wp2_with fail
        have HR_5 := Lib.hid hr_5
        have HX_5 := Lib.hid (hs_5.blk HX0.out (fun e => HNE.out e.symm))
        have HO_5 := Lib.hid (hs_5.own HO0.out (fun g' hg' e => by have := (HO0.out.lt g' hg').1; have := HGL.out; omega))
        have HS_5 : Hid (Sv (fun j => j = g ∨ j = gx) w w_5) := HS0.out.trans hs_5 (fun _ _ e => .inl e)
        clear hr_5 hs_5
        refine hK.out _ _ trivial (fun hHeld' => ?_)
        clear hK hHeld
        have hHeld := hHeld'
        clear hHeld'
        refine wpAnyH_ready (rs := [4, 7]) (by kernel_rfl) (by simp) (AllReadyH.cons rfl (fun K' hK => ?_) (AllReadyH.cons rfl (fun K' hK => ?_) AllReadyH.nil))
        · have hcell : w_5.cell? ⟨gx, 12, none⟩ = some (.slice Ao al co) := ((HX_5.out.cell 12).trans (HC8.out _))
          go_simp
          clear hcell
          refine hK.out _ _ trivial (fun hHeld' => ?_)
          clear hK hHeld
          have hHeld := hHeld'
          clear hHeld'
          refine wpAnyH_ready (rs := [7]) (by kernel_rfl) (by simp) (AllReadyH.cons rfl (fun K' hK => ?_) AllReadyH.nil)
          go_simp
          have HR_6 : Hid (RdSt (World.alloc w_5 (.cells #[(.int .u32 (x1 : Int))] 32)) B g s2) := HR_5.out.below (balloc (Below.refl _ _) _)
          have HX_6 : Hid (Blk (World.alloc w_5 (.cells #[(.int .u32 (x1 : Int))] 32)) gx 81 (repC (.slice Ao al co))) := Blk.alloc HX_5.out _
          have HO_6 : Hid (World.ownsRow (World.alloc w_5 (.cells #[(.int .u32 (x1 : Int))] 32)) w.heap.size 32 1 (.slice Ao al co) al (rowC ksS acc)) := HO_5.out.alloc _
          have HS_6 : Hid (Sv (fun j => j = g ∨ j = gx) w (World.alloc w_5 (.cells #[(.int .u32 (x1 : Int))] 32))) := HS_5.out.alloc _
          have HN_6 : Hid (Reads (World.alloc w_5 (.cells #[(.int .u32 (x1 : Int))] 32)) (World.heap (World.alloc w_5 (.cells #[(.int .u32 (x1 : Int))] 32))).size 1 (some ⟨(World.heap w_5).size, 0, none⟩) 1 (rowC ksS [[x1]])) := reads_blk (Blk.newAt rfl _ _) rfl
          refine hK.out _ _ trivial (fun hHeld' => ?_)
          clear hK hHeld
          have hHeld := hHeld'
          clear hHeld'
          refine wpAnyH_ready (rs := [8]) (by kernel_rfl) (by simp) (AllReadyH.cons rfl (fun K' hK => ?_) AllReadyH.nil)
          refine step_append_any _ (by rfl) (.tmp 100) (.tmp 103) _ (by rfl) w.heap.size 32 iS _ 1 4 Tryz.underlying33 hiS hzaS hzbS hzcS rfl (by omega) (.slice Ao al co) al (rowC ksS acc) (by rfl) HO_6.out
            _ (some ⟨(World.heap w_5).size, 0, none⟩) 1 1 (rowC ksS [[x1]]) (by rfl) HN_6.out (rowC_cell _ _) (by simp only [maxLen]; omega) (by omega) HS_6.out.size ?_
          intro v_7 w_7 hown_7 hg_7 hv_7
          obtain ⟨A_7, c_7, rfl⟩ := own_slice hown_7
          have HR_7 : Hid (RdSt w_7 B g s2) := HR_6.out.sv (M := fun k => (Value.slice Ao al co).ownBlock = some k) ((Sv.refl _ _).grown hg_7 (fun g e => .inl e)) (fun k e => by have := (HO_6.out.lt k e).1; have := HGL.out; have := HBG.out; omega) (fun e => by have := (HO_6.out.lt g e).1; have := HGL.out; omega)
          have HX_7 : Hid (Blk w_7 gx 81 (repC (.slice Ao al co))) := Blk.grown HX_6.out hg_7 (Ne.symm (own_blk_ne HO_6.out HX_6.out (by decide)))
          have HS_7 : Hid (Sv (fun j => j = g ∨ j = gx) w w_7) := HS_6.out.grown hg_7 (fun g' e => .inr (HO_6.out.lt g' e).1)
          have HO_7 := Lib.hid hown_7
          clear hown_7 hg_7 hv_7
          refine hK.out _ _ trivial (fun hHeld' => ?_)
          clear hK hHeld
          have hHeld := hHeld'
          clear hHeld'
          refine wpAnyH_putAt rfl ?_
          simp only [List.set_cons_zero, List.set_cons_succ]
          refine wpAnyH_takeAt (i := 9) (v := (.pointer (some ⟨gx, 0, none⟩))) rfl (by kernel_rfl) (by kernel_rfl) (by kernel_rfl) (fun _ _ _ h => h) rfl (Or.inl ⟨by rfl, fun w' hS => ?_⟩) hHeld ?_
          · go_simp
          simp only [List.set_cons_zero, List.set_cons_succ]
          refine wpAnyH_takeAt (i := 10) (v := (.pointer (some ⟨gx, 12, none⟩))) rfl (by kernel_rfl) (by kernel_rfl) (by kernel_rfl) (fun _ _ _ h => h) rfl (Or.inl ⟨by rfl, fun w' hS => ?_⟩) hHeld ?_
          · go_simp
          simp only [List.set_cons_zero, List.set_cons_succ]
          refine wpAnyH_ready (rs := [11]) (by kernel_rfl) (by simp) (AllReadyH.cons rfl (fun K' hK => ?_) AllReadyH.nil)
          have hcell : w_7.cell? ⟨gx, 12, none⟩ = some (.slice Ao al co) := ((HX_7.out.cell 12).trans (HC8.out _))
          have hfree : w_7.frozen? ⟨gx, 12, none⟩ = false := HX_7.out.frozen 12
          go_simp
          clear hcell hfree
          refine hK.out _ _ trivial (fun hHeld' => ?_)
          clear hK hHeld
          have hHeld := hHeld'
          clear hHeld'
          refine wpAnyH_done (by kernel_rfl) ?_ _
          have HXF : Hid (Blk (World.setCell w_7 ⟨gx, 12, none⟩ (.slice A_7 (al + 1) c_7)) gx 81 (repC (.slice A_7 (al + 1) c_7))) := by show Blk _ _ _ _; rw [← HS8.out (.slice Ao al co)]; exact Blk.set_ HX_7.out 12 _
          have HRF : Hid (RdSt (World.setCell w_7 ⟨gx, 12, none⟩ (.slice A_7 (al + 1) c_7)) B g s2) := HR_7.out.far (p := ⟨gx, 12, none⟩) HBX.out (fun e => HNE.out e.symm) _
          have HSF : Hid (Sv (fun j => j = g ∨ j = gx) w (World.setCell w_7 ⟨gx, 12, none⟩ (.slice A_7 (al + 1) c_7))) := HS_7.out.set (p := ⟨gx, 12, none⟩) (.inl (.inr rfl)) _
          have HOF : Hid (World.ownsRow (World.setCell w_7 ⟨gx, 12, none⟩ (.slice A_7 (al + 1) c_7)) w.heap.size 32 1 (.slice A_7 (al + 1) c_7) (al + 1) (rowC ksS (acc ++ [[x1]]))) := by
            show World.ownsRow _ _ _ _ _ _ _
            rw [rowC_append]
            exact own_set HO_7.out (own_blk_ne HO_7.out HX_7.out (by decide)) 12 _
          generalize (World.setCell w_7 ⟨gx, 12, none⟩ (.slice A_7 (al + 1) c_7)) = wf at *
          go_wp2_with fail
          go_roundg (n - (al + 1))
          case measure => omega
          case rel =>
            refine ⟨al + 1, acc ++ [[x1]], s2, A_7, c_7, by omega, rfl, by go_num, ?_, by rw [List.length_append, ← HAL.out]; rfl, HRF.out, HXF.out, HOF.out, HSF.out⟩
            rw [itS, HDO.out, HP.out]
        · go_simp
          have HR_9 : Hid (RdSt (World.alloc w_5 (.cells #[(.int .u32 (x1 : Int))] 32)) B g s2) := HR_5.out.below (balloc (Below.refl _ _) _)
          have HX_9 : Hid (Blk (World.alloc w_5 (.cells #[(.int .u32 (x1 : Int))] 32)) gx 81 (repC (.slice Ao al co))) := Blk.alloc HX_5.out _
          have HO_9 : Hid (World.ownsRow (World.alloc w_5 (.cells #[(.int .u32 (x1 : Int))] 32)) w.heap.size 32 1 (.slice Ao al co) al (rowC ksS acc)) := HO_5.out.alloc _
          have HS_9 : Hid (Sv (fun j => j = g ∨ j = gx) w (World.alloc w_5 (.cells #[(.int .u32 (x1 : Int))] 32))) := HS_5.out.alloc _
          have HN_9 : Hid (Reads (World.alloc w_5 (.cells #[(.int .u32 (x1 : Int))] 32)) (World.heap (World.alloc w_5 (.cells #[(.int .u32 (x1 : Int))] 32))).size 1 (some ⟨(World.heap w_5).size, 0, none⟩) 1 (rowC ksS [[x1]])) := reads_blk (Blk.newAt rfl _ _) rfl
          refine hK.out _ _ trivial (fun hHeld' => ?_)
          clear hK hHeld
          have hHeld := hHeld'
          clear hHeld'
          refine wpAnyH_ready (rs := [4]) (by kernel_rfl) (by simp) (AllReadyH.cons rfl (fun K' hK => ?_) AllReadyH.nil)
          have hcell : (World.alloc w_5 (.cells #[(.int .u32 (x1 : Int))] 32)).cell? ⟨gx, 12, none⟩ = some (.slice Ao al co) := ((HX_9.out.cell 12).trans (HC8.out _))
          go_simp
          clear hcell
          refine hK.out _ _ trivial (fun hHeld' => ?_)
          clear hK hHeld
          have hHeld := hHeld'
          clear hHeld'
          refine wpAnyH_ready (rs := [8]) (by kernel_rfl) (by simp) (AllReadyH.cons rfl (fun K' hK => ?_) AllReadyH.nil)
          refine step_append_any _ (by rfl) (.tmp 100) (.tmp 103) _ (by rfl) w.heap.size 32 iS _ 1 4 Tryz.underlying33 hiS hzaS hzbS hzcS rfl (by omega) (.slice Ao al co) al (rowC ksS acc) (by rfl) HO_9.out
            _ (some ⟨(World.heap w_5).size, 0, none⟩) 1 1 (rowC ksS [[x1]]) (by rfl) HN_9.out (rowC_cell _ _) (by simp only [maxLen]; omega) (by omega) HS_9.out.size ?_
          intro v_10 w_10 hown_10 hg_10 hv_10
          obtain ⟨A_10, c_10, rfl⟩ := own_slice hown_10
          have HR_10 : Hid (RdSt w_10 B g s2) := HR_9.out.sv (M := fun k => (Value.slice Ao al co).ownBlock = some k) ((Sv.refl _ _).grown hg_10 (fun g e => .inl e)) (fun k e => by have := (HO_9.out.lt k e).1; have := HGL.out; have := HBG.out; omega) (fun e => by have := (HO_9.out.lt g e).1; have := HGL.out; omega)
          have HX_10 : Hid (Blk w_10 gx 81 (repC (.slice Ao al co))) := Blk.grown HX_9.out hg_10 (Ne.symm (own_blk_ne HO_9.out HX_9.out (by decide)))
          have HS_10 : Hid (Sv (fun j => j = g ∨ j = gx) w w_10) := HS_9.out.grown hg_10 (fun g' e => .inr (HO_9.out.lt g' e).1)
          have HO_10 := Lib.hid hown_10
          clear hown_10 hg_10 hv_10
          refine hK.out _ _ trivial (fun hHeld' => ?_)
          clear hK hHeld
          have hHeld := hHeld'
          clear hHeld'
          refine wpAnyH_putAt rfl ?_
          simp only [List.set_cons_zero, List.set_cons_succ]
          refine wpAnyH_takeAt (i := 9) (v := (.pointer (some ⟨gx, 0, none⟩))) rfl (by kernel_rfl) (by kernel_rfl) (by kernel_rfl) (fun _ _ _ h => h) rfl (Or.inl ⟨by rfl, fun w' hS => ?_⟩) hHeld ?_
          · go_simp
          simp only [List.set_cons_zero, List.set_cons_succ]
          refine wpAnyH_takeAt (i := 10) (v := (.pointer (some ⟨gx, 12, none⟩))) rfl (by kernel_rfl) (by kernel_rfl) (by kernel_rfl) (fun _ _ _ h => h) rfl (Or.inl ⟨by rfl, fun w' hS => ?_⟩) hHeld ?_
          · go_simp
          simp only [List.set_cons_zero, List.set_cons_succ]
          refine wpAnyH_ready (rs := [11]) (by kernel_rfl) (by simp) (AllReadyH.cons rfl (fun K' hK => ?_) AllReadyH.nil)
          have hcell : w_10.cell? ⟨gx, 12, none⟩ = some (.slice Ao al co) := ((HX_10.out.cell 12).trans (HC8.out _))
          have hfree : w_10.frozen? ⟨gx, 12, none⟩ = false := HX_10.out.frozen 12
          go_simp
          clear hcell hfree
          refine hK.out _ _ trivial (fun hHeld' => ?_)
          clear hK hHeld
          have hHeld := hHeld'
          clear hHeld'
          refine wpAnyH_done (by kernel_rfl) ?_ _
          have HXF : Hid (Blk (World.setCell w_10 ⟨gx, 12, none⟩ (.slice A_10 (al + 1) c_10)) gx 81 (repC (.slice A_10 (al + 1) c_10))) := by show Blk _ _ _ _; rw [← HS8.out (.slice Ao al co)]; exact Blk.set_ HX_10.out 12 _
          have HRF : Hid (RdSt (World.setCell w_10 ⟨gx, 12, none⟩ (.slice A_10 (al + 1) c_10)) B g s2) := HR_10.out.far (p := ⟨gx, 12, none⟩) HBX.out (fun e => HNE.out e.symm) _
          have HSF : Hid (Sv (fun j => j = g ∨ j = gx) w (World.setCell w_10 ⟨gx, 12, none⟩ (.slice A_10 (al + 1) c_10))) := HS_10.out.set (p := ⟨gx, 12, none⟩) (.inl (.inr rfl)) _
          have HOF : Hid (World.ownsRow (World.setCell w_10 ⟨gx, 12, none⟩ (.slice A_10 (al + 1) c_10)) w.heap.size 32 1 (.slice A_10 (al + 1) c_10) (al + 1) (rowC ksS (acc ++ [[x1]]))) := by
            show World.ownsRow _ _ _ _ _ _ _
            rw [rowC_append]
            exact own_set HO_10.out (own_blk_ne HO_10.out HX_10.out (by decide)) 12 _
          generalize (World.setCell w_10 ⟨gx, 12, none⟩ (.slice A_10 (al + 1) c_10)) = wf at *
          go_wp2_with fail
          go_roundg (n - (al + 1))
          case measure => omega
          case rel =>
            refine ⟨al + 1, acc ++ [[x1]], s2, A_10, c_10, by omega, rfl, by go_num, ?_, by rw [List.length_append, ← HAL.out]; rfl, HRF.out, HXF.out, HOF.out, HSF.out⟩
            rw [itS, HDO.out, HP.out]
    · have han2 : al = n := by omega
      subst han2
      go_wp2_with fail
      go_end0
      rw [HDO.out]
      have hxx := HX.out
      rw [HREP.out] at hxx
      exact ⟨rfl, ⟨_, hxx, by rw [← HAL.out]; exact HO.out⟩, HR.out, HS.out⟩
end Go.Proofs.YtmkifedcanmjoaaGreat
