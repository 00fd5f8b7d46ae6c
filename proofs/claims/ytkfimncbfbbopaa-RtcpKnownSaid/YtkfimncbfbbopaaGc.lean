/- Texts of this claim, one behind the other: Remb, Kind, Rep, Clone, Report, ParS. Each says ahead of itself what it proves, and its conditions. -/
import Derived.Test.YtkfimncbfbbopaaGb
import Derived.Test.YtkfimncbfbbopaaGa
import Derived.StillTailTactics
import Derived.Deep.MidRow
import Derived.Deep.CutBlock
import Derived.Great.BuildSlice
/- What the reader's about does (the last kind). Conditions: the reader and the report lie in memory. (Printed by gen8a.py.) -/
set_option linter.unusedVariables false
set_option linter.unusedSimpArgs false
namespace Go.Proofs.Ytkfimncbfbbopaa
open Go.RowKit
attribute [local go_sem ↓] Go.wp_at_zero Go.wp_at_succ

theorem infoS : (Try.prog.info? 33).map (fun i => (i.zero, i.size, i.bytes)) = some (some (.int .u32 0), 1, 4) := infoU32
/-- What stands behind the letters: the exponent, the mantissa, the streams. -/
def rembS (s : RS) : (Nat × Nat) × (List (List Nat) × RS) :=
  let l := numS 4 s
  let n := numS 1 l.2
  let y := numS 3 n.2
  ((y.1 / 262144, y.1 % 262144), itS ssrcS n.1 y.2)
theorem and18 (y : Nat) (h : y < 18446744073709551616) : bits .and .u64 (y : Int) 262143 = ((y % 262144 : Nat) : Int) := by
  have e := u64_and_nat y 262143 h (by decide)
  rw [show (262143 : Nat) = 2 ^ 18 - 1 from rfl, Nat.and_two_pow_sub_one_eq_mod] at e
  exact e
set_option maxRecDepth 100000 in
set_option maxHeartbeats 12800000 in
theorem about6_c (B g gx fr : Nat) (s : RS) (w : World) (h : RdSt w B g s) (hx : Blk w gx 46 (repA 6 fr 0 0 0 0 0 nilV nilV nilV 0 0 nilV 0 0 nilV)) (hB : B ≤ gx) (hne : g ≠ gx) :
    Calls Try.prog 53 #[.pointer (some ⟨g, 0, none⟩), .pointer (some ⟨gx, 0, none⟩)] w fun e w' => e = .returned (.tuple #[]) ∧ (∃ v, Blk w' gx 46 (repA 6 fr (numS 4 s).1 0 0 0 0 nilV nilV nilV ((rembS (numS 4 s).2).1.1 : Int) (rembS (numS 4 s).2).1.2 v 0 0 nilV) ∧ w'.ownsRow w.heap.size 33 1 v (rembS (numS 4 s).2).2.1.length (rowC ksS (rembS (numS 4 s).2).2.1)) ∧ RdSt w' B g (rembS (numS 4 s).2).2.2 ∧ Sv (fun j => j = g ∨ j = gx) w w' := by
  obtain ⟨iS, hiS, hzaS, hzbS, hzcS⟩ := info_parts infoS
  obtain ⟨ab, sA, eA, bA⟩ := numS_x 4 s (by decide)
  obtain ⟨x0, s0, e0, b0⟩ := numS_x 4 sA (by decide)
  obtain ⟨n, sn, en, bn⟩ := numS_x 1 s0 (by decide)
  obtain ⟨y, sy, ey, byy⟩ := numS_x 3 sn (by decide)
  obtain ⟨ex, hex⟩ : ∃ ex, ex = y / 262144 := ⟨_, rfl⟩
  obtain ⟨mt, hmt⟩ : ∃ mt, mt = y % 262144 := ⟨_, rfl⟩
  have hre : rembS sA = ((ex, mt), itS ssrcS n sy) := by rw [rembS, hex, hmt]; simp only [e0, en, ey]
  rw [eA]
  simp only
  rw [hre]
  simp only
  have hn : n < 256 := by omega
  have hex1 : (y : Int) / 262144 = (ex : Int) := by omega
  have hex2 : ex < 64 := by omega
  have hex3 : (ex : Int) < 64 := by omega
  have hmt1 : bits .and .u64 (y : Int) 262143 = (mt : Int) := by rw [hmt]; exact and18 y (by omega)
  have hmt2 : mt < 262144 := by omega
  have hmt3 : (mt : Int) < 4294967296 := by omega
  obtain ⟨repC, hrep⟩ : ∃ repC : Value → Array Value, repC = fun v => repA 6 fr ab 0 0 0 0 nilV nilV nilV (ex : Int) mt v 0 0 nilV := ⟨_, rfl⟩
  have H := Lib.hid h
  have HX := Lib.hid hx
  have HBX := Lib.hid hB
  have HNE := Lib.hid hne
  have HGL : Hid (g < w.heap.size ∧ gx < w.heap.size) := ⟨h.lt, hx.lt⟩
  have HBG : Hid (B ≤ g) := h.1
  have HEA := Lib.hid eA
  have HE0 := Lib.hid e0
  have HEN := Lib.hid en
  have HEY := Lib.hid ey
  clear h hx hB hne eA bA e0 b0 en bn ey byy hex hmt hre
  go_enter Try.func53, Try.ntmps53
  go_upto_region 1 with (first
    | (go_at_call 50
       refine (word_z H.out HEA.out).mono ?_
       rintro e0 w1 ⟨rfl, hr1, hs1⟩
       have hx1 := hs1.blk HX.out (fun e => HNE.out e.symm)
       have k2 : w1.cell? ⟨gx, 2, none⟩ = some (.int .u32 0) := hx1.cell 2
       have f2 := hx1.frozen 2
       have HR1 := Lib.hid hr1
       have HS1 := Lib.hid hs1
       have HX1 := Lib.hid hx1
       clear hr1 hs1 hx1))
  clear k2 f2
  obtain ⟨w2, hw2⟩ : ∃ w2, w2 = w1.setCell ⟨gx, 2, none⟩ (.int .u32 (ab : Int)) := ⟨_, rfl⟩
  have hx2 : Blk w2 gx 46 (repA 6 fr ab 0 0 0 0 nilV nilV nilV 0 0 nilV 0 0 nilV) := by rw [hw2]; exact HX1.out.set_ 2 _
  have HR2 : Hid (RdSt w2 B g sA) := by show RdSt _ _ _ _; rw [hw2]; exact HR1.out.far (p := ⟨gx, 2, none⟩) HBX.out (fun e => HNE.out e.symm) _
  have HS2 : Hid (Sv (fun j => j = g ∨ j = gx) w w2) := by show Sv _ _ _; rw [hw2]; exact (HS1.out.mono (fun _ _ e => .inl e)).set (p := ⟨gx, 2, none⟩) (.inl (.inr rfl)) _
  have k0 : w2.cell? ⟨gx, 0, none⟩ = some (.int .i64 6) := hx2.cell 0
  have HX2 := Lib.hid hx2
  have HREP := Lib.hid hrep
  have HC8 : Hid (∀ v : Value, (repC v)[12]? = some v) := fun v => by rw [hrep]; rfl
  have HS8 : Hid (∀ v u : Value, (repC v).setIfInBounds 12 u = repC u) := fun v u => by rw [hrep]; rfl
  rw [← hw2]
  clear hw2 hx2 hrep HR1 HS1 HX1 HX H
  go_upto_region 18 with (first
    | (go_at_call 50
       refine (word_z HR2.out HE0.out).mono ?_
       rintro e0 w3 ⟨rfl, hr3, hs3⟩
       have HX3 := Lib.hid (hs3.blk HX2.out (fun e => HNE.out e.symm))
       have HS3 : Hid (Sv (fun j => j = g ∨ j = gx) w w3) := HS2.out.trans hs3 (fun _ _ e => .inl e)
       have HR3 := Lib.hid hr3
       clear hr3 hs3)
    | (go_at_call 51
       first
         | ((with_reducible show Calls _ _ _ w3 _)
            refine (num_z HR3.out (k := 1) rfl (by decide) (by decide) HEN.out).mono ?_
            rintro e0 w4 ⟨rfl, hr4, hs4⟩
            have HX4 := Lib.hid (hs4.blk HX3.out (fun e => HNE.out e.symm))
            have HS4 : Hid (Sv (fun j => j = g ∨ j = gx) w w4) := HS3.out.trans hs4 (fun _ _ e => .inl e)
            have HR4 := Lib.hid hr4
            clear hr4 hs4)
         | ((with_reducible show Calls _ _ _ w4 _)
            refine (num_z HR4.out (k := 3) rfl (by decide) (by decide) HEY.out).mono ?_
            rintro e0 w5 ⟨rfl, hr5, hs5⟩
            have hx5 := hs5.blk HX4.out (fun e => HNE.out e.symm)
            have HS5 : Hid (Sv (fun j => j = g ∨ j = gx) w w5) := HS4.out.trans hs5 (fun _ _ e => .inl e)
            have k10 : w5.cell? ⟨gx, 10, none⟩ = some (.int .i64 0) := hx5.cell 10
            have k11 : w5.cell? ⟨gx, 11, none⟩ = some (.int .u32 0) := hx5.cell 11
            have f10 := hx5.frozen 10
            have f11 := hx5.frozen 11
            have HX5 := Lib.hid hx5
            have HR5 := Lib.hid hr5
            clear hr5 hs5 hx5)))
  clear k0
  go_upto_region 19 with fail
  clear k10 k11 f10 f11
  obtain ⟨w6, hw6⟩ : ∃ w6, w6 = (w5.setCell ⟨gx, 10, none⟩ (.int .i64 (ex : Int))).setCell ⟨gx, 11, none⟩ (.int .u32 (mt : Int)) := ⟨_, rfl⟩
  have HX6 : Hid (Blk w6 gx 46 (repC nilV)) := by show Blk _ _ _ _; rw [hw6, HREP.out]; exact (HX5.out.set_ 10 _).set_ 11 _
  have HR6 : Hid (RdSt w6 B g sy) := by show RdSt _ _ _ _; rw [hw6]; exact (HR5.out.far (p := ⟨gx, 10, none⟩) HBX.out (fun e => HNE.out e.symm) _).far (p := ⟨gx, 11, none⟩) HBX.out (fun e => HNE.out e.symm) _
  have HS6 : Hid (Sv (fun j => j = g ∨ j = gx) w w6) := by show Sv _ _ _; rw [hw6]; exact (HS5.out.set (p := ⟨gx, 10, none⟩) (.inl (.inr rfl)) _).set (p := ⟨gx, 11, none⟩) (.inl (.inr rfl)) _
  rw [← hw6]
  clear hw6 HX5 HR5 HS5 HX4 HR4 HS4 HX3 HR3 HS3 HX2 HR2 HS2 hex1 hmt1
  go_upto_region 20 with fail
  go_loopg [94] n (fun gg v94 wx => ∃ (al : Nat) (acc : List (List Nat)) (s1 : RS) (Ao : Option Addr) (co : Nat), al ≤ n ∧ gg = n - al ∧ v94 = .int .i64 (al : Int) ∧ itS ssrcS al sy = (acc, s1) ∧ al = acc.length ∧ RdSt wx B g s1 ∧
    Blk wx gx 46 (repC (.slice Ao al co)) ∧ wx.ownsRow w.heap.size 33 1 (.slice Ao al co) al (rowC ksS acc) ∧ Sv (fun j => j = g ∨ j = gx) w wx)
  case atStart => exact ⟨0, [], sy, none, 0, Nat.zero_le _, rfl, rfl, rfl, rfl, HR6.out, HX6.out, World.ownsRow_nil _ _ _ _, HS6.out⟩
  case round =>
    obtain ⟨al, acc, s1, Ao, co, hal, rfl, rfl, hdo, hall, hr, hx, ho, hs⟩ := hrel
    clear HR6 HX6 HS6
    have HR := Lib.hid hr
    have HX := Lib.hid hx
    have HO := Lib.hid ho
    have HS := Lib.hid hs
    have HAL := Lib.hid hall
    have HDO := Lib.hid hdo
    clear hr hx ho hs hall hdo
    by_cases han : al < n
    · have hani : (al : Int) < (n : Int) := by omega
      obtain ⟨x1, s2, e1, b1⟩ := numS_x 4 s1 (by decide)
      have hp : ssrcS s1 = ([x1], s2) := by rw [ssrcS]; simp only [e1]
      have HP := Lib.hid hp
      have HE1 := Lib.hid e1
      have hx1 : (x1 : Int) < 4294967296 := by omega
      clear e1 b1 hp
      go_upto_region 21 with fail
      have HR0 : Hid (RdSt (World.drew wr) B g s1) := HR.out.below (bdrew (Below.refl _ _))
      have HX0 : Hid (Blk (World.drew wr) gx 46 (repC (.slice Ao al co))) := HX.out
      have HO0 : Hid (World.ownsRow (World.drew wr) w.heap.size 33 1 (.slice Ao al co) al (rowC ksS acc)) := HO.out
      have HS0 : Hid (Sv (fun j => j = g ∨ j = gx) w (World.drew wr)) := HS.out.drew
      refine wp_region_held_drew (S := (fun _ => True)) (by kernel_rfl) (trivial) (fun hHeld => ?_)
      refine wpAnyH_takeAt (i := 0) (v := (.pointer (some ⟨gx, 0, none⟩))) rfl (by kernel_rfl) (by kernel_rfl) (by kernel_rfl) (fun _ _ _ h => h) rfl (Or.inl ⟨by rfl, fun w' hS => ?_⟩) hHeld ?_
      · go_simp
      simp only [List.set_cons_zero, List.set_cons_succ]
      refine wpAnyH_takeAt (i := 1) (v := (.pointer (some ⟨gx, 0, none⟩))) rfl (by kernel_rfl) (by kernel_rfl) (by kernel_rfl) (fun _ _ _ h => h) rfl (Or.inl ⟨by rfl, fun w' hS => ?_⟩) hHeld ?_
      · go_simp
      simp only [List.set_cons_zero, List.set_cons_succ]
      refine wpAnyH_takeAt (i := 2) (v := (.pointer (some ⟨gx, 0, none⟩))) rfl (by kernel_rfl) (by kernel_rfl) (by kernel_rfl) (fun _ _ _ h => h) rfl (Or.inl ⟨by rfl, fun w' hS => ?_⟩) hHeld ?_
      · go_simp
      simp only [List.set_cons_zero, List.set_cons_succ]
      refine wpAnyH_takeAt (i := 3) (v := (.pointer (some ⟨gx, 12, none⟩))) rfl (by kernel_rfl) (by kernel_rfl) (by kernel_rfl) (fun _ _ _ h => h) rfl (Or.inl ⟨by rfl, fun w' hS => ?_⟩) hHeld ?_
      · go_simp
      simp only [List.set_cons_zero, List.set_cons_succ]
      refine wpAnyH_takeAt (i := 5) (v := (.pointer (some ⟨g, 0, none⟩))) rfl (by kernel_rfl) (by kernel_rfl) (by kernel_rfl) (fun _ _ _ h => h) rfl (Or.inl ⟨by rfl, fun w' hS => ?_⟩) hHeld ?_
      · go_simp
      simp only [List.set_cons_zero, List.set_cons_succ]
      refine wpAnyH_ready (rs := [4, 6]) (by kernel_rfl) (by simp) (AllReadyH.cons rfl (fun K' hK => ?_) (AllReadyH.cons rfl (fun K' hK => ?_) AllReadyH.nil))
      · have hcell : (World.drew wr).cell? ⟨gx, 12, none⟩ = some (.slice Ao al co) := ((HX0.out.cell 12).trans (HC8.out _))
        go_simp
        clear hcell
        refine hK.out _ _ trivial (fun hHeld' => ?_)
        clear hK hHeld
        have hHeld := hHeld'
        clear hHeld'
        refine wpAnyH_ready (rs := [6]) (by kernel_rfl) (by simp) (AllReadyH.cons rfl (fun K' hK => ?_) AllReadyH.nil)
        go_simp
        go_at_call 50
        refine (word_z HR0.out HE1.out).mono ?_
        rintro e0 w_1 ⟨rfl, hr_1, hs_1⟩
        go_wp2_with fail
        have HR_1 := Lib.hid hr_1
        have HX_1 := Lib.hid (hs_1.blk HX0.out (fun e => HNE.out e.symm))
        have HO_1 := Lib.hid (hs_1.own HO0.out (fun g' hg' e => by have := (HO0.out.lt g' hg').1; have := HGL.out; omega))
        have HS_1 : Hid (Sv (fun j => j = g ∨ j = gx) w w_1) := HS0.out.trans hs_1 (fun _ _ e => .inl e)
        clear hr_1 hs_1
        refine hK.out _ _ trivial (fun hHeld' => ?_)
        clear hK hHeld
        have hHeld := hHeld'
        clear hHeld'
        refine wpAnyH_ready (rs := [7]) (by kernel_rfl) (by simp) (AllReadyH.cons rfl (fun K' hK => ?_) AllReadyH.nil)
        go_simp
        have HR_2 : Hid (RdSt (World.alloc w_1 (.cells #[(.int .u32 (x1 : Int))] 33)) B g s2) := HR_1.out.below (balloc (Below.refl _ _) _)
        have HX_2 : Hid (Blk (World.alloc w_1 (.cells #[(.int .u32 (x1 : Int))] 33)) gx 46 (repC (.slice Ao al co))) := Blk.alloc HX_1.out _
        have HO_2 : Hid (World.ownsRow (World.alloc w_1 (.cells #[(.int .u32 (x1 : Int))] 33)) w.heap.size 33 1 (.slice Ao al co) al (rowC ksS acc)) := HO_1.out.alloc _
        have HS_2 : Hid (Sv (fun j => j = g ∨ j = gx) w (World.alloc w_1 (.cells #[(.int .u32 (x1 : Int))] 33))) := HS_1.out.alloc _
        have HN_2 : Hid (Reads (World.alloc w_1 (.cells #[(.int .u32 (x1 : Int))] 33)) (World.heap (World.alloc w_1 (.cells #[(.int .u32 (x1 : Int))] 33))).size 1 (some ⟨(World.heap w_1).size, 0, none⟩) 1 (rowC ksS [[x1]])) := reads_blk (Blk.newAt rfl _ _) rfl
        refine hK.out _ _ trivial (fun hHeld' => ?_)
        clear hK hHeld
        have hHeld := hHeld'
        clear hHeld'
        refine wpAnyH_ready (rs := [8]) (by kernel_rfl) (by simp) (AllReadyH.cons rfl (fun K' hK => ?_) AllReadyH.nil)
        refine step_append_any _ (by rfl) (.tmp 100) (.tmp 103) _ (by rfl) w.heap.size 33 iS _ 1 4 Try.underlying38 hiS hzaS hzbS hzcS rfl (by omega) (.slice Ao al co) al (rowC ksS acc) (by rfl) HO_2.out
          _ (some ⟨(World.heap w_1).size, 0, none⟩) 1 1 (rowC ksS [[x1]]) (by rfl) HN_2.out (rowC_cell _ _) (by simp only [maxLen]; omega) (by omega) HS_2.out.size ?_
        intro v_3 w_3 hown_3 hg_3 hv_3
        obtain ⟨A_3, c_3, rfl⟩ := own_slice hown_3
        have HR_3 : Hid (RdSt w_3 B g s2) := HR_2.out.sv (M := fun k => (Value.slice Ao al co).ownBlock = some k) ((Sv.refl _ _).grown hg_3 (fun g e => .inl e)) (fun k e => by have := (HO_2.out.lt k e).1; have := HGL.out; have := HBG.out; omega) (fun e => by have := (HO_2.out.lt g e).1; have := HGL.out; omega)
        have HX_3 : Hid (Blk w_3 gx 46 (repC (.slice Ao al co))) := Blk.grown HX_2.out hg_3 (Ne.symm (own_blk_ne HO_2.out HX_2.out (by decide)))
        have HS_3 : Hid (Sv (fun j => j = g ∨ j = gx) w w_3) := HS_2.out.grown hg_3 (fun g' e => .inr (HO_2.out.lt g' e).1)
        have HO_3 := Lib.hid hown_3
        clear hown_3 hg_3 hv_3
        refine hK.out _ _ trivial (fun hHeld' => ?_)
        clear hK hHeld
        have hHeld := hHeld'
        clear hHeld'
        refine wpAnyH_putAt rfl ?_
        simp only [List.set_cons_zero, List.set_cons_succ]
        refine wpAnyH_takeAt (i := 9) (v := (.pointer (some ⟨gx, 0, none⟩))) rfl (by kernel_rfl) (by kernel_rfl) (by kernel_rfl) (fun _ _ _ h => h) rfl (Or.inl ⟨by rfl, fun w' hS => ?_⟩) hHeld ?_
        · go_simp
        simp only [List.set_cons_zero, List.set_cons_succ]
        refine wpAnyH_takeAt (i := 10) (v := (.pointer (some ⟨gx, 12, none⟩))) rfl (by kernel_rfl) (by kernel_rfl) (by kernel_rfl) (fun _ _ _ h => h) rfl (Or.inl ⟨by rfl, fun w' hS => ?_⟩) hHeld ?_
        · go_simp
        simp only [List.set_cons_zero, List.set_cons_succ]
        refine wpAnyH_ready (rs := [11]) (by kernel_rfl) (by simp) (AllReadyH.cons rfl (fun K' hK => ?_) AllReadyH.nil)
        have hcell : w_3.cell? ⟨gx, 12, none⟩ = some (.slice Ao al co) := ((HX_3.out.cell 12).trans (HC8.out _))
        have hfree : w_3.frozen? ⟨gx, 12, none⟩ = false := HX_3.out.frozen 12
        go_simp
        clear hcell hfree
        refine hK.out _ _ trivial (fun hHeld' => ?_)
        clear hK hHeld
        have hHeld := hHeld'
        clear hHeld'
        refine wpAnyH_done (by kernel_rfl) ?_ _
        have HXF : Hid (Blk (World.setCell w_3 ⟨gx, 12, none⟩ (.slice A_3 (al + 1) c_3)) gx 46 (repC (.slice A_3 (al + 1) c_3))) := by show Blk _ _ _ _; rw [← HS8.out (.slice Ao al co)]; exact Blk.set_ HX_3.out 12 _
        have HRF : Hid (RdSt (World.setCell w_3 ⟨gx, 12, none⟩ (.slice A_3 (al + 1) c_3)) B g s2) := HR_3.out.far (p := ⟨gx, 12, none⟩) HBX.out (fun e => HNE.out e.symm) _
        have HSF : Hid (Sv (fun j => j = g ∨ j = gx) w (World.setCell w_3 ⟨gx, 12, none⟩ (.slice A_3 (al + 1) c_3))) := HS_3.out.set (p := ⟨gx, 12, none⟩) (.inl (.inr rfl)) _
        have HOF : Hid (World.ownsRow (World.setCell w_3 ⟨gx, 12, none⟩ (.slice A_3 (al + 1) c_3)) w.heap.size 33 1 (.slice A_3 (al + 1) c_3) (al + 1) (rowC ksS (acc ++ [[x1]]))) := by
          show World.ownsRow _ _ _ _ _ _ _
          rw [rowC_append]
          exact own_set HO_3.out (own_blk_ne HO_3.out HX_3.out (by decide)) 12 _
        generalize (World.setCell w_3 ⟨gx, 12, none⟩ (.slice A_3 (al + 1) c_3)) = wf at *
        go_wp2_with fail
        go_roundg (n - (al + 1))
        case measure => omega
        case rel =>
          refine ⟨al + 1, acc ++ [[x1]], s2, A_3, c_3, by omega, rfl, by go_num, ?_, by rw [List.length_append, ← HAL.out]; rfl, HRF.out, HXF.out, HOF.out, HSF.out⟩
          rw [itS, HDO.out, HP.out]
      · go_simp
        go_at_call 50
        refine (word_z HR0.out HE1.out).mono ?_
        rintro e0 w_5 ⟨rfl, hr_5, hs_5⟩
        go_wp2_with fail
        have HR_5 := Lib.hid hr_5
        have HX_5 := Lib.hid (hs_5.blk HX0.out (fun e => HNE.out e.symm))
        have HO_5 := Lib.hid (hs_5.own HO0.out (fun g' hg' e => by have := (HO0.out.lt g' hg').1; have := HGL.out; omega))
        have HS_5 : Hid (Sv (fun j => j = g ∨ j = gx) w w_5) := HS0.out.trans hs_5 (fun _ _ e => .inl e)
        clear hr_5 hs_5
        refine hK.out _ _ trivial (fun hHeld' => ?_)
        clear hK hHeld
        have hHeld := hHeld'
        clear hHeld'
        refine wpAnyH_ready (rs := [4, 7]) (by kernel_rfl) (by simp) (AllReadyH.cons rfl (fun K' hK => ?_) (AllReadyH.cons rfl (fun K' hK => ?_) AllReadyH.nil))
        · have hcell : w_5.cell? ⟨gx, 12, none⟩ = some (.slice Ao al co) := ((HX_5.out.cell 12).trans (HC8.out _))
          go_simp
          clear hcell
          refine hK.out _ _ trivial (fun hHeld' => ?_)
          clear hK hHeld
          have hHeld := hHeld'
          clear hHeld'
          refine wpAnyH_ready (rs := [7]) (by kernel_rfl) (by simp) (AllReadyH.cons rfl (fun K' hK => ?_) AllReadyH.nil)
          go_simp
          have HR_6 : Hid (RdSt (World.alloc w_5 (.cells #[(.int .u32 (x1 : Int))] 33)) B g s2) := HR_5.out.below (balloc (Below.refl _ _) _)
          have HX_6 : Hid (Blk (World.alloc w_5 (.cells #[(.int .u32 (x1 : Int))] 33)) gx 46 (repC (.slice Ao al co))) := Blk.alloc HX_5.out _
          have HO_6 : Hid (World.ownsRow (World.alloc w_5 (.cells #[(.int .u32 (x1 : Int))] 33)) w.heap.size 33 1 (.slice Ao al co) al (rowC ksS acc)) := HO_5.out.alloc _
          have HS_6 : Hid (Sv (fun j => j = g ∨ j = gx) w (World.alloc w_5 (.cells #[(.int .u32 (x1 : Int))] 33))) := HS_5.out.alloc _
          have HN_6 : Hid (Reads (World.alloc w_5 (.cells #[(.int .u32 (x1 : Int))] 33)) (World.heap (World.alloc w_5 (.cells #[(.int .u32 (x1 : Int))] 33))).size 1 (some ⟨(World.heap w_5).size, 0, none⟩) 1 (rowC ksS [[x1]])) := reads_blk (Blk.newAt rfl _ _) rfl
          refine hK.out _ _ trivial (fun hHeld' => ?_)
          clear hK hHeld
          have hHeld := hHeld'
          clear hHeld'
          refine wpAnyH_ready (rs := [8]) (by kernel_rfl) (by simp) (AllReadyH.cons rfl (fun K' hK => ?_) AllReadyH.nil)
          refine step_append_any _ (by rfl) (.tmp 100) (.tmp 103) _ (by rfl) w.heap.size 33 iS _ 1 4 Try.underlying38 hiS hzaS hzbS hzcS rfl (by omega) (.slice Ao al co) al (rowC ksS acc) (by rfl) HO_6.out
            _ (some ⟨(World.heap w_5).size, 0, none⟩) 1 1 (rowC ksS [[x1]]) (by rfl) HN_6.out (rowC_cell _ _) (by simp only [maxLen]; omega) (by omega) HS_6.out.size ?_
          intro v_7 w_7 hown_7 hg_7 hv_7
          obtain ⟨A_7, c_7, rfl⟩ := own_slice hown_7
          have HR_7 : Hid (RdSt w_7 B g s2) := HR_6.out.sv (M := fun k => (Value.slice Ao al co).ownBlock = some k) ((Sv.refl _ _).grown hg_7 (fun g e => .inl e)) (fun k e => by have := (HO_6.out.lt k e).1; have := HGL.out; have := HBG.out; omega) (fun e => by have := (HO_6.out.lt g e).1; have := HGL.out; omega)
          have HX_7 : Hid (Blk w_7 gx 46 (repC (.slice Ao al co))) := Blk.grown HX_6.out hg_7 (Ne.symm (own_blk_ne HO_6.out HX_6.out (by decide)))
          have HS_7 : Hid (Sv (fun j => j = g ∨ j = gx) w w_7) := HS_6.out.grown hg_7 (fun g' e => .inr (HO_6.out.lt g' e).1)
          have HO_7 := Lib.hid hown_7
          clear hown_7 hg_7 hv_7
          refine hK.out _ _ trivial (fun hHeld' => ?_)
          clear hK hHeld
          have hHeld := hHeld'
          clear hHeld'
          refine wpAnyH_putAt rfl ?_
          simp only [List.set_cons_zero, List.set_cons_succ]
          refine wpAnyH_takeAt (i := 9) (v := (.pointer (some ⟨gx, 0, none⟩))) rfl (by kernel_rfl) (by kernel_rfl) (by kernel_rfl) (fun _ _ _ h => h) rfl (Or.inl ⟨by rfl, fun w' hS => ?_⟩) hHeld ?_
          · go_simp
          simp only [List.set_cons_zero, List.set_cons_succ]
          refine wpAnyH_takeAt (i := 10) (v := (.pointer (some ⟨gx, 12, none⟩))) rfl (by kernel_rfl) (by kernel_rfl) (by kernel_rfl) (fun _ _ _ h => h) rfl (Or.inl ⟨by rfl, fun w' hS => ?_⟩) hHeld ?_
          · go_simp
          simp only [List.set_cons_zero, List.set_cons_succ]
          refine wpAnyH_ready (rs := [11]) (by kernel_rfl) (by simp) (AllReadyH.cons rfl (fun K' hK => ?_) AllReadyH.nil)
          have hcell : w_7.cell? ⟨gx, 12, none⟩ = some (.slice Ao al co) := ((HX_7.out.cell 12).trans (HC8.out _))
          have hfree : w_7.frozen? ⟨gx, 12, none⟩ = false := HX_7.out.frozen 12
          go_simp
          clear hcell hfree
          refine hK.out _ _ trivial (fun hHeld' => ?_)
          clear hK hHeld
          have hHeld := hHeld'
          clear hHeld'
          refine wpAnyH_done (by kernel_rfl) ?_ _
          have HXF : Hid (Blk (World.setCell w_7 ⟨gx, 12, none⟩ (.slice A_7 (al + 1) c_7)) gx 46 (repC (.slice A_7 (al + 1) c_7))) := by show Blk _ _ _ _; rw [← HS8.out (.slice Ao al co)]; exact Blk.set_ HX_7.out 12 _
          have HRF : Hid (RdSt (World.setCell w_7 ⟨gx, 12, none⟩ (.slice A_7 (al + 1) c_7)) B g s2) := HR_7.out.far (p := ⟨gx, 12, none⟩) HBX.out (fun e => HNE.out e.symm) _
          have HSF : Hid (Sv (fun j => j = g ∨ j = gx) w (World.setCell w_7 ⟨gx, 12, none⟩ (.slice A_7 (al + 1) c_7))) := HS_7.out.set (p := ⟨gx, 12, none⟩) (.inl (.inr rfl)) _
          have HOF : Hid (World.ownsRow (World.setCell w_7 ⟨gx, 12, none⟩ (.slice A_7 (al + 1) c_7)) w.heap.size 33 1 (.slice A_7 (al + 1) c_7) (al + 1) (rowC ksS (acc ++ [[x1]]))) := by
            show World.ownsRow _ _ _ _ _ _ _
            rw [rowC_append]
            exact own_set HO_7.out (own_blk_ne HO_7.out HX_7.out (by decide)) 12 _
          generalize (World.setCell w_7 ⟨gx, 12, none⟩ (.slice A_7 (al + 1) c_7)) = wf at *
          go_wp2_with fail
          go_roundg (n - (al + 1))
          case measure => omega
          case rel =>
            refine ⟨al + 1, acc ++ [[x1]], s2, A_7, c_7, by omega, rfl, by go_num, ?_, by rw [List.length_append, ← HAL.out]; rfl, HRF.out, HXF.out, HOF.out, HSF.out⟩
            rw [itS, HDO.out, HP.out]
        · go_simp
          have HR_9 : Hid (RdSt (World.alloc w_5 (.cells #[(.int .u32 (x1 : Int))] 33)) B g s2) := HR_5.out.below (balloc (Below.refl _ _) _)
          have HX_9 : Hid (Blk (World.alloc w_5 (.cells #[(.int .u32 (x1 : Int))] 33)) gx 46 (repC (.slice Ao al co))) := Blk.alloc HX_5.out _
          have HO_9 : Hid (World.ownsRow (World.alloc w_5 (.cells #[(.int .u32 (x1 : Int))] 33)) w.heap.size 33 1 (.slice Ao al co) al (rowC ksS acc)) := HO_5.out.alloc _
          have HS_9 : Hid (Sv (fun j => j = g ∨ j = gx) w (World.alloc w_5 (.cells #[(.int .u32 (x1 : Int))] 33))) := HS_5.out.alloc _
          have HN_9 : Hid (Reads (World.alloc w_5 (.cells #[(.int .u32 (x1 : Int))] 33)) (World.heap (World.alloc w_5 (.cells #[(.int .u32 (x1 : Int))] 33))).size 1 (some ⟨(World.heap w_5).size, 0, none⟩) 1 (rowC ksS [[x1]])) := reads_blk (Blk.newAt rfl _ _) rfl
          refine hK.out _ _ trivial (fun hHeld' => ?_)
          clear hK hHeld
          have hHeld := hHeld'
          clear hHeld'
          refine wpAnyH_ready (rs := [4]) (by kernel_rfl) (by simp) (AllReadyH.cons rfl (fun K' hK => ?_) AllReadyH.nil)
          have hcell : (World.alloc w_5 (.cells #[(.int .u32 (x1 : Int))] 33)).cell? ⟨gx, 12, none⟩ = some (.slice Ao al co) := ((HX_9.out.cell 12).trans (HC8.out _))
          go_simp
          clear hcell
          refine hK.out _ _ trivial (fun hHeld' => ?_)
          clear hK hHeld
          have hHeld := hHeld'
          clear hHeld'
          refine wpAnyH_ready (rs := [8]) (by kernel_rfl) (by simp) (AllReadyH.cons rfl (fun K' hK => ?_) AllReadyH.nil)
          refine step_append_any _ (by rfl) (.tmp 100) (.tmp 103) _ (by rfl) w.heap.size 33 iS _ 1 4 Try.underlying38 hiS hzaS hzbS hzcS rfl (by omega) (.slice Ao al co) al (rowC ksS acc) (by rfl) HO_9.out
            _ (some ⟨(World.heap w_5).size, 0, none⟩) 1 1 (rowC ksS [[x1]]) (by rfl) HN_9.out (rowC_cell _ _) (by simp only [maxLen]; omega) (by omega) HS_9.out.size ?_
          intro v_10 w_10 hown_10 hg_10 hv_10
          obtain ⟨A_10, c_10, rfl⟩ := own_slice hown_10
          have HR_10 : Hid (RdSt w_10 B g s2) := HR_9.out.sv (M := fun k => (Value.slice Ao al co).ownBlock = some k) ((Sv.refl _ _).grown hg_10 (fun g e => .inl e)) (fun k e => by have := (HO_9.out.lt k e).1; have := HGL.out; have := HBG.out; omega) (fun e => by have := (HO_9.out.lt g e).1; have := HGL.out; omega)
          have HX_10 : Hid (Blk w_10 gx 46 (repC (.slice Ao al co))) := Blk.grown HX_9.out hg_10 (Ne.symm (own_blk_ne HO_9.out HX_9.out (by decide)))
          have HS_10 : Hid (Sv (fun j => j = g ∨ j = gx) w w_10) := HS_9.out.grown hg_10 (fun g' e => .inr (HO_9.out.lt g' e).1)
          have HO_10 := Lib.hid hown_10
          clear hown_10 hg_10 hv_10
          refine hK.out _ _ trivial (fun hHeld' => ?_)
          clear hK hHeld
          have hHeld := hHeld'
          clear hHeld'
          refine wpAnyH_putAt rfl ?_
          simp only [List.set_cons_zero, List.set_cons_succ]
          refine wpAnyH_takeAt (i := 9) (v := (.pointer (some ⟨gx, 0, none⟩))) rfl (by kernel_rfl) (by kernel_rfl) (by kernel_rfl) (fun _ _ _ h => h) rfl (Or.inl ⟨by rfl, fun w' hS => ?_⟩) hHeld ?_
          · go_simp
          simp only [List.set_cons_zero, List.set_cons_succ]
          refine wpAnyH_takeAt (i := 10) (v := (.pointer (some ⟨gx, 12, none⟩))) rfl (by kernel_rfl) (by kernel_rfl) (by kernel_rfl) (fun _ _ _ h => h) rfl (Or.inl ⟨by rfl, fun w' hS => ?_⟩) hHeld ?_
          · go_simp
          simp only [List.set_cons_zero, List.set_cons_succ]
          refine wpAnyH_ready (rs := [11]) (by kernel_rfl) (by simp) (AllReadyH.cons rfl (fun K' hK => ?_) AllReadyH.nil)
          have hcell : w_10.cell? ⟨gx, 12, none⟩ = some (.slice Ao al co) := ((HX_10.out.cell 12).trans (HC8.out _))
          have hfree : w_10.frozen? ⟨gx, 12, none⟩ = false := HX_10.out.frozen 12
          go_simp
          clear hcell hfree
          refine hK.out _ _ trivial (fun hHeld' => ?_)
          clear hK hHeld
          have hHeld := hHeld'
          clear hHeld'
          refine wpAnyH_done (by kernel_rfl) ?_ _
          have HXF : Hid (Blk (World.setCell w_10 ⟨gx, 12, none⟩ (.slice A_10 (al + 1) c_10)) gx 46 (repC (.slice A_10 (al + 1) c_10))) := by show Blk _ _ _ _; rw [← HS8.out (.slice Ao al co)]; exact Blk.set_ HX_10.out 12 _
          have HRF : Hid (RdSt (World.setCell w_10 ⟨gx, 12, none⟩ (.slice A_10 (al + 1) c_10)) B g s2) := HR_10.out.far (p := ⟨gx, 12, none⟩) HBX.out (fun e => HNE.out e.symm) _
          have HSF : Hid (Sv (fun j => j = g ∨ j = gx) w (World.setCell w_10 ⟨gx, 12, none⟩ (.slice A_10 (al + 1) c_10))) := HS_10.out.set (p := ⟨gx, 12, none⟩) (.inl (.inr rfl)) _
          have HOF : Hid (World.ownsRow (World.setCell w_10 ⟨gx, 12, none⟩ (.slice A_10 (al + 1) c_10)) w.heap.size 33 1 (.slice A_10 (al + 1) c_10) (al + 1) (rowC ksS (acc ++ [[x1]]))) := by
            show World.ownsRow _ _ _ _ _ _ _
            rw [rowC_append]
            exact own_set HO_10.out (own_blk_ne HO_10.out HX_10.out (by decide)) 12 _
          generalize (World.setCell w_10 ⟨gx, 12, none⟩ (.slice A_10 (al + 1) c_10)) = wf at *
          go_wp2_with fail
          go_roundg (n - (al + 1))
          case measure => omega
          case rel =>
            refine ⟨al + 1, acc ++ [[x1]], s2, A_10, c_10, by omega, rfl, by go_num, ?_, by rw [List.length_append, ← HAL.out]; rfl, HRF.out, HXF.out, HOF.out, HSF.out⟩
            rw [itS, HDO.out, HP.out]
    · have han2 : al = n := by omega
      subst han2
      go_wp2_with fail
      go_end0
      rw [HDO.out]
      have hxx := HX.out
      rw [HREP.out] at hxx
      exact ⟨rfl, ⟨_, hxx, by rw [← HAL.out]; exact HO.out⟩, HR.out, HS.out⟩
end Go.Proofs.Ytkfimncbfbbopaa
/- What kind and Is do (contracts). Conditions: the bytes lie in memory. -/
set_option linter.unusedVariables false
set_option linter.unusedSimpArgs false
namespace Go.Proofs.Ytkfimncbfbbopaa
open Go.RowKit
attribute [local go_sem ↓] Go.wp_at_zero Go.wp_at_succ

def lettersL : List UInt8 := [82, 69, 77, 66]
def rembB (b : List UInt8) : Bool := decide (12 ≤ b.length) && ((b.drop 8).take 4 == lettersL)
def kindS (t c : Int) (b : List UInt8) : Int :=
  if t = 200 then 1 else if t = 201 then 2 else if t = 205 ∧ c = 1 then 3 else if t = 206 ∧ c = 1 then 4 else if t = 206 ∧ c = 4 then 5 else if t = 206 ∧ c = 15 ∧ rembB b = true then 6 else 7
def isB (b : List UInt8) : Bool := decide (2 ≤ b.length) && decide (192 ≤ (b.getD 1 0).toNat) && decide ((b.getD 1 0).toNat ≤ 223)
theorem beq_no {t k : Int} (h : ¬ t = k) : (t == k) = false := by simpa using h
set_option maxRecDepth 100000 in
set_option maxHeartbeats 6400000 in
theorem kind_c (t c : Int) (b : List UInt8) (A : Option Addr) (n cap : Nat) (w : World) (h : SlV w (.slice A n cap) b) :
    Calls Try.prog 43 #[.int .i64 t, .int .i64 c, .slice A n cap] w fun e w' => e = .returned (.int .i64 (kindS t c b)) ∧ w = w' := by
  have HN := Lib.hid h.num
  have H := Lib.hid h
  clear h
  by_cases h1 : t = 200
  · subst h1
    go_enter Try.func43, Try.ntmps43
    go_wp2
    go_ret
    exact ⟨rfl, rfl⟩
  by_cases h2 : t = 201
  · subst h2
    go_enter Try.func43, Try.ntmps43
    go_wp2
    go_ret
    exact ⟨rfl, rfl⟩
  by_cases h5 : t = 205
  · subst h5
    by_cases hc : c = 1
    · subst hc
      go_enter Try.func43, Try.ntmps43
      go_wp2
      go_ret
      exact ⟨rfl, rfl⟩
    · have q1 := beq_no hc
      have HX : Hid (kindS 205 c b = 7) := by show _ = _; simp [kindS, hc]
      clear hc h1 h2
      go_enter Try.func43, Try.ntmps43
      go_wp2
      go_ret
      exact ⟨by rw [HX.out]; rfl, rfl⟩
  by_cases h6 : t = 206
  · subst h6
    by_cases hc1 : c = 1
    · subst hc1
      go_enter Try.func43, Try.ntmps43
      go_wp2
      go_ret
      exact ⟨rfl, rfl⟩
    by_cases hc4 : c = 4
    · subst hc4
      go_enter Try.func43, Try.ntmps43
      go_wp2
      go_ret
      exact ⟨rfl, rfl⟩
    by_cases hc15 : c = 15
    · subst hc15
      by_cases hl : 12 ≤ n
      · have hli : (12 : Int) ≤ (n : Int) := by omega
        have hcap : n ≤ cap := by obtain ⟨_, _, e, hc, _⟩ := H.out; injection e with e1 e2 e3; omega
        have hcut : ∀ wx : World, (Instr.slice 22 (.slice A n cap) (some (.int .i64 8)) (some (.int .i64 12)) none).run Try.prog wx = .ok (.slice (cutA A cap 8) 4 (cap - 8)) wx := fun wx => cut_mid wx A n cap 8 12 4 (by decide) (by omega) rfl
        have hmid : SlB w w.heap.size (.slice (cutA A cap 8) 4 (cap - 8)) ((b.drop 8).take 4) := SlB.mid (k := 8) (d := 4) H.out (by omega)
        obtain ⟨m, hm⟩ : ∃ m, m = (b.drop 8).take 4 := ⟨_, rfl⟩
        rw [← hm] at hmid
        have hml : m.length = 4 := (hmid.num).symm
        have hst : (convert 22 9 (.slice (cutA A cap 8) 4 (cap - 8))).run Try.prog w = .ok (.string ⟨m.toArray⟩) w := by
          have := str_of (c := cap - 8) (hml ▸ hmid.rd)
          rw [hml] at this
          exact this
        obtain ⟨S, hS⟩ : ∃ S : ByteArray, S = ⟨m.toArray⟩ := ⟨_, rfl⟩
        rw [← hS] at hst
        by_cases hR : m = lettersL
        · have hSe : S = ⟨#[82, 69, 77, 66]⟩ := by rw [hS, hR]; rfl
          have HX : Hid (kindS 206 15 b = 6) := by
            show _ = _
            have hb : rembB b = true := by rw [rembB, ← hm, hR]; simp; have := HN.out; omega
            simp [kindS, hb]
          subst hSe
          clear hS hR hm hml hmid hc1 hc4 h1 h2 h5
          go_enter Try.func43, Try.ntmps43
          go_wp2
          go_ret
          exact ⟨by rw [HX.out]; rfl, rfl⟩
        · have q2 : (S.toList == [82, 69, 77, 66]) = false := by
            rw [beq_eq_false_iff_ne, hS]
            intro e
            exact hR (by rw [ByteArray.toList_eq] at e; exact e)
          have HX : Hid (kindS 206 15 b = 7) := by
            show _ = _
            have hb : rembB b = false := by rw [rembB, ← hm]; simp [hR]
            simp [kindS, hb]
          clear hS hR hm hml hmid hc1 hc4 h1 h2 h5
          go_enter Try.func43, Try.ntmps43
          go_wp2
          go_ret
          exact ⟨by rw [HX.out]; rfl, rfl⟩
      · have hli : ¬ (12 : Int) ≤ (n : Int) := by omega
        have HX : Hid (kindS 206 15 b = 7) := by
          show _ = _
          have hb : rembB b = false := by rw [rembB]; simp; intro h; have := HN.out; omega
          simp [kindS, hb]
        clear hc1 hc4 h1 h2 h5
        go_enter Try.func43, Try.ntmps43
        go_wp2
        go_ret
        exact ⟨by rw [HX.out]; rfl, rfl⟩
    · have q1 := beq_no hc1
      have q4 := beq_no hc4
      have q15 := beq_no hc15
      have HX : Hid (kindS 206 c b = 7) := by show _ = _; simp [kindS, hc1, hc4, hc15]
      clear hc1 hc4 hc15 h1 h2 h5
      go_enter Try.func43, Try.ntmps43
      go_wp2
      go_ret
      exact ⟨by rw [HX.out]; rfl, rfl⟩
  have q1 := beq_no h1
  have q2 := beq_no h2
  have q5 := beq_no h5
  have q6 := beq_no h6
  have HX : Hid (kindS t c b = 7) := by show _ = _; simp [kindS, h1, h2, h5, h6]
  clear h1 h2 h5 h6
  go_enter Try.func43, Try.ntmps43
  go_wp2
  go_ret
  exact ⟨by rw [HX.out]; rfl, rfl⟩
set_option maxHeartbeats 1600000 in
theorem is_c (b : List UInt8) (A : Option Addr) (n cap : Nat) (w : World) (h : SlV w (.slice A n cap) b) :
    Calls Try.prog 12 #[.slice A n cap] w fun e w' => e = .returned (.bool (isB b)) ∧ w = w' := by
  have hn := h.num
  by_cases hl : 2 ≤ n
  · have hli : (2 : Int) ≤ (n : Int) := by omega
    obtain ⟨g, o, rfl, hg, hc⟩ := head_cells (hn ▸ h.rd) (by omega)
    have c1 := hc 1 (by omega)
    obtain ⟨y, hy⟩ : ∃ y, y = b.getD 1 0 := ⟨_, rfl⟩
    rw [← hy] at c1
    have hyl := U8.lt y
    have HX : Hid (isB b = (decide (192 ≤ y.toNat) && decide (y.toNat ≤ 223))) := by show _ = _; rw [isB, ← hy, decide_eq_true (show 2 ≤ b.length by omega)]; simp
    clear h hn hc hy
    by_cases h1 : 192 ≤ y.toNat
    · have h1i : (192 : Int) ≤ (y.toNat : Int) := by omega
      by_cases h2 : y.toNat ≤ 223
      · have h2i : (y.toNat : Int) ≤ 223 := by omega
        have HX2 : Hid (isB b = true) := by show _ = _; rw [HX.out]; simp [h1, h2]
        go_enter Try.func12, Try.ntmps12
        go_wp2
        go_ret
        exact ⟨by rw [HX2.out]; rfl, rfl⟩
      · have h2i : ¬ (y.toNat : Int) ≤ 223 := by omega
        have h2j : decide ((y.toNat : Int) ≤ 223) = false := by simp; omega
        have HX2 : Hid (isB b = false) := by show _ = _; rw [HX.out]; simp [h2]
        go_enter Try.func12, Try.ntmps12
        go_wp2
        go_ret
        exact ⟨by rw [HX2.out]; rfl, rfl⟩
    · have h1i : ¬ (192 : Int) ≤ (y.toNat : Int) := by omega
      have h1j : decide ((192 : Int) ≤ (y.toNat : Int)) = false := by simp; omega
      have HX2 : Hid (isB b = false) := by show _ = _; rw [HX.out]; simp [h1]
      go_enter Try.func12, Try.ntmps12
      go_wp2
      go_ret
      exact ⟨by rw [HX2.out]; rfl, rfl⟩
  · have hli : ¬ (2 : Int) ≤ (n : Int) := by omega
    have hlj : decide ((2 : Int) ≤ (n : Int)) = false := by simp; omega
    have HX2 : Hid (isB b = false) := by show _ = _; rw [isB]; simp; intro h; omega
    clear h hn
    go_enter Try.func12, Try.ntmps12
    go_wp2
    go_ret
    exact ⟨by rw [HX2.out]; rfl, rfl⟩
end Go.Proofs.Ytkfimncbfbbopaa
/- Reports in memory, and what a report is read as (plain). Conditions: as each says. -/
set_option linter.unusedVariables false
namespace Go.Proofs.Ytkfimncbfbbopaa
open Go.RowKit

structure Rep where
  kind : Int
  fr : Nat
  ab : Nat
  ntp : Nat
  ts : Nat
  pk : Nat
  oc : Nat
  blocks : List (List Nat)
  pairs : List (List Nat)
  firs : List (List Nat)
  ex : Int
  mt : Nat
  ssrcs : List (List Nat)
  ty : Int
  ct : Int
  body : List UInt8
def rep0 : Rep := ⟨0, 0, 0, 0, 0, 0, 0, [], [], [], 0, 0, [], 0, 0, []⟩
/-- v is a slice of rows of numbers. -/
def SlR (w : World) (ks : List IntKind) (v : Value) (l : List (List Nat)) : Prop := ∃ A c, v = .slice A l.length c ∧ l.length ≤ c ∧ Reads w w.heap.size ks.length A l.length (rowC ks l)
/-- The cells of a report that reads as r. -/
def RepV (w : World) (cs : Array Value) (r : Rep) : Prop := ∃ vb vp vf vs vd, cs = repA r.kind r.fr r.ab r.ntp r.ts r.pk r.oc vb vp vf r.ex r.mt vs r.ty r.ct vd ∧
  SlR w ks7 vb r.blocks ∧ SlR w ksP vp r.pairs ∧ SlR w ksF vf r.firs ∧ SlR w ksS vs r.ssrcs ∧ SlV w vd r.body
section
variable {w w' : World} {ks : List IntKind} {v : Value} {l : List (List Nat)}
theorem SlR.nil (w : World) (ks : List IntKind) : SlR w ks nilV [] := ⟨none, 0, rfl, Nat.le_refl _, by simp [rowC], fun h => absurd h (by simp)⟩
theorem SlR.below (h : SlR w ks v l) (hb : Below w.heap.size w w') : SlR w' ks v l := by
  obtain ⟨A, c, e, hc, hr⟩ := h
  exact ⟨A, c, e, hc, (hr.below hb).more hb.size⟩
theorem SlR.own {base n : Nat} {e : TypeId} (h : w.ownsRow base e ks.length v n (rowC ks l)) (hn : n = l.length) : SlR w ks v l := by
  subst hn
  obtain ⟨A, c, rfl⟩ := own_slice h
  exact ⟨A, c, rfl, own_bound h, Reads.of_own h⟩
theorem RepV.below {cs : Array Value} {r : Rep} (h : RepV w cs r) (hb : Below w.heap.size w w') : RepV w' cs r := by
  obtain ⟨vb, vp, vf, vs, vd, e, h1, h2, h3, h4, h5⟩ := h
  exact ⟨vb, vp, vf, vs, vd, e, h1.below hb, h2.below hb, h3.below hb, h4.below hb, h5.below hb⟩
end
theorem blk_range {w : World} {g : Nat} {t : TypeId} {l : List Value} (h : Blk w g t l.toArray) : w.rangeAt g 0 l := fun j v hv => by
  rw [Nat.zero_add, Blk.cell h, List.getElem?_toArray]; exact hv
theorem blk_there {w : World} {g : Nat} {t : TypeId} {l : List Value} {n : Nat} (h : Blk w g t l.toArray) (hn : l.length = n) : w.there g 0 n := fun j hj => by
  rw [Nat.zero_add]
  exact ⟨by rw [Blk.cell h, List.getElem?_toArray, List.getElem?_eq_getElem (by omega)]; rfl, Blk.frozen h j⟩
theorem blk_setAllAux {g : Nat} {t : TypeId} : ∀ (l' pre l : List Value) (w : World), l.length = l'.length → Blk w g t (pre ++ l).toArray → Blk (w.setCells g pre.length l') g t (pre ++ l').toArray
  | [], pre, l, w, h, hb => by
    have : l = [] := List.eq_nil_of_length_eq_zero h
    subst this
    exact hb
  | y :: ys, pre, l, w, h, hb => by
    match l, h with
    | x :: xs, h =>
      have h1 := Blk.set_ hb pre.length y
      rw [List.setIfInBounds_toArray] at h1
      have e : (pre ++ x :: xs).set pre.length y = (pre ++ [y]) ++ xs := by simp
      rw [e] at h1
      have := blk_setAllAux ys (pre ++ [y]) xs _ (by simpa using h) h1
      rw [List.length_append] at this
      simp only [List.append_assoc, List.singleton_append] at this
      exact this
theorem blk_setAll {w : World} {g : Nat} {t : TypeId} {l l' : List Value} (h : Blk w g t l.toArray) (hl : l'.length = l.length) : Blk (w.setCells g 0 l') g t l'.toArray :=
  blk_setAllAux l' [] l w hl.symm h
theorem below_setCells {w W : World} (h : Below w.heap.size w W) {g : Nat} (hg : w.heap.size ≤ g) : ∀ (vs : List Value) (o : Nat), Below w.heap.size w (W.setCells g o vs)
  | [], _ => h
  | v :: vs, o => below_setCells (bset h hg v) hg vs (o + 1)
theorem bytes_one (l : List UInt8) : (l.map u8v).toArray.all (·.oneCell') = true := all_oneCell_toArray (u8_one l)
/-- Two results, the first of which lives in a variable. -/
theorem results_ct {P : Program} {fn : Func} {t s : Tmp} {ty : TypeId} (h : fn.results = #[.cell t ty, .tmp s]) (tmps : Array Value) (w : World) (b : Nat) (v u : Value) (ht : tmps.getD t undef = .pointer (some ⟨b, 0, none⟩)) (hs : tmps.getD s undef = u)
    (hl : (loadVar ty ⟨b, 0, none⟩).run P w = .ok v w) : (results fn tmps).run P w = .ok (.tuple #[v, u]) w := by
  have ha : (asAddr (tmps.getD t undef)).run P w = .ok ⟨b, 0, none⟩ w := by rw [ht]; rfl
  simp [results, h]
  rw [Array.getD_eq_getD_getElem?] at ha hs
  rw [ha]
  simp only [Result.andThen_ok, hs]
  rw [hl]
  rfl
theorem infoRep : (Try.prog.info? 46).map (·.size) = some 16 := by kernel_rfl
theorem Blk.farAll {g g' : Nat} {t : TypeId} {cs : Array Value} (hg : g ≠ g') : ∀ (vs : List Value) (o : Nat) (w : World), Blk w g t cs → Blk (w.setCells g' o vs) g t cs
  | [], _, _, h => h
  | v :: vs, o, w, h => Blk.farAll hg vs (o + 1) _ (Blk.far h (p := ⟨g', o, none⟩) hg v)
theorem own_setAll {g : Nat} {base e size n : Nat} {v : Value} {xs : List Value} (hne : v.ownBlock ≠ some g) : ∀ (vs : List Value) (o : Nat) (w : World), w.ownsRow base e size v n xs → (w.setCells g o vs).ownsRow base e size v n xs
  | [], _, _, h => h
  | u :: vs, o, w, h => own_setAll hne vs (o + 1) _ (own_set h hne o u)
/-- The cells of a report that reads as r, its slices rows of the call's own. -/
def RepO (w : World) (B : Nat) (cs : Array Value) (r : Rep) : Prop := ∃ vb vp vf vs vd, cs = repA r.kind r.fr r.ab r.ntp r.ts r.pk r.oc vb vp vf r.ex r.mt vs r.ty r.ct vd ∧
  w.ownsRow B 81 7 vb r.blocks.length (rowC ks7 r.blocks) ∧ w.ownsRow B 57 2 vp r.pairs.length (rowC ksP r.pairs) ∧ w.ownsRow B 82 2 vf r.firs.length (rowC ksF r.firs) ∧ w.ownsRow B 33 1 vs r.ssrcs.length (rowC ksS r.ssrcs) ∧ ByteRow w B vd r.body
section
variable {w w' : World} {B : Nat} {cs : Array Value} {r : Rep}
theorem RepO.toV (h : RepO w B cs r) : RepV w cs r := by
  obtain ⟨vb, vp, vf, vs, vd, e, h1, h2, h3, h4, h5⟩ := h
  exact ⟨vb, vp, vf, vs, vd, e, SlR.own (ks := ks7) h1 rfl, SlR.own (ks := ksP) h2 rfl, SlR.own (ks := ksF) h3 rfl, SlR.own (ks := ksS) h4 rfl, SlV.own h5⟩
/-- What leaves all rows of other types than report, reader, alone. -/
theorem RepO.keep (h : RepO w B cs r) (hk : ∀ (e : TypeId) (size n : Nat) (v : Value) (xs : List Value), (e = 81 ∨ e = 57 ∨ e = 82 ∨ e = 33 ∨ e = 5) → w.ownsRow B e size v n xs → w'.ownsRow B e size v n xs) : RepO w' B cs r := by
  obtain ⟨vb, vp, vf, vs, vd, e, h1, h2, h3, h4, h5⟩ := h
  exact ⟨vb, vp, vf, vs, vd, e, hk _ _ _ _ _ (.inl rfl) h1, hk _ _ _ _ _ (.inr (.inl rfl)) h2, hk _ _ _ _ _ (.inr (.inr (.inl rfl))) h3, hk _ _ _ _ _ (.inr (.inr (.inr (.inl rfl)))) h4, hk _ _ _ _ _ (.inr (.inr (.inr (.inr rfl)))) h5⟩
theorem RepO.one (h : RepO w B cs r) : cs.all (·.oneCell') = true := by
  obtain ⟨vb, vp, vf, vs, vd, e, h1, h2, h3, h4, h5⟩ := h
  obtain ⟨_, _, rfl⟩ := own_slice h1
  obtain ⟨_, _, rfl⟩ := own_slice h2
  obtain ⟨_, _, rfl⟩ := own_slice h3
  obtain ⟨_, _, rfl⟩ := own_slice h4
  obtain ⟨_, _, rfl⟩ := own_slice h5
  rw [e]
  simp [repA, Value.oneCell']
theorem RepO.below (h : RepO w B cs r) (hb : Below w.heap.size w w') : RepO w' B cs r := h.keep fun _ _ _ _ _ _ ho => own_below ho hb
theorem RepO.lower {B' : Nat} (h : RepO w B cs r) (hB : B' ≤ B) : RepO w B' cs r := by
  obtain ⟨vb, vp, vf, vs, vd, e, h1, h2, h3, h4, h5⟩ := h
  exact ⟨vb, vp, vf, vs, vd, e, own_lower h1 hB, own_lower h2 hB, own_lower h3 hB, own_lower h4 hB, own_lower h5 hB⟩
theorem RepO.setAll {g : Nat} {cs0 : Array Value} (h : RepO w B cs r) (hg : Blk w g 46 cs0) (l : List Value) : RepO (w.setCells g 0 l) B cs r :=
  h.keep fun e _ _ _ _ he ho => own_setAll (own_blk_ne ho hg (by rcases he with rfl | rfl | rfl | rfl | rfl <;> decide)) _ _ _ ho
theorem RepO.set {g : Nat} {cs0 : Array Value} (h : RepO w B cs r) (hg : Blk w g 46 cs0) (i : Nat) (u : Value) : RepO (w.setCell ⟨g, i, none⟩ u) B cs r :=
  h.keep fun e _ _ _ _ he ho => own_set ho (own_blk_ne ho hg (by rcases he with rfl | rfl | rfl | rfl | rfl <;> decide)) _ _
end
theorem repA_size (k : Int) (fr ab ntp ts pk oc : Nat) (vb vp vf : Value) (ex : Int) (mt : Nat) (vs : Value) (ty ct : Int) (vd : Value) : (repA k fr ab ntp ts pk oc vb vp vf ex mt vs ty ct vd).size = 16 := rfl
/-- What a report of a type and a count is read as, and whether it is one. -/
def reportS (t c : Nat) (b : List UInt8) : Rep × Bool :=
  let k := kindS t c b
  let a := numS 4 (b, false)
  if k = 7 then ({ rep0 with kind := 7, ty := t, ct := c, body := b }, true)
  else if k = 1 then
    let n := numS 8 a.2
    let x := numS 4 n.2
    let y := numS 4 x.2
    let z := numS 4 y.2
    let l := blksS c z.2
    ({ rep0 with kind := 1, fr := a.1, ntp := n.1, ts := x.1, pk := y.1, oc := z.1, blocks := l.1 }, !l.2.2 && l.2.1.isEmpty)
  else if k = 2 then
    let l := blksS c a.2
    ({ rep0 with kind := 2, fr := a.1, blocks := l.1 }, !l.2.2 && l.2.1.isEmpty)
  else if k = 3 then
    let m := numS 4 a.2
    let l := doS pairS (a.2.1.length + 1) m.2
    ({ rep0 with kind := 3, fr := a.1, ab := m.1, pairs := l.1 }, !l.2.2 && l.2.1.isEmpty)
  else if k = 4 then
    let m := numS 4 a.2
    ({ rep0 with kind := 4, fr := a.1, ab := m.1 }, !m.2.2 && m.2.1.isEmpty)
  else if k = 5 then
    let m := numS 4 a.2
    let l := doS firS (a.2.1.length + 1) m.2
    ({ rep0 with kind := 5, fr := a.1, ab := m.1, firs := l.1 }, !l.2.2 && l.2.1.isEmpty)
  else
    let m := numS 4 a.2
    let l := rembS m.2
    ({ rep0 with kind := 6, fr := a.1, ab := m.1, ex := l.1.1, mt := l.1.2, ssrcs := l.2.1 }, !l.2.2.2 && l.2.2.1.isEmpty)
end Go.Proofs.Ytkfimncbfbbopaa
/- What bytes.Clone does (contract). Conditions: the bytes lie in memory. -/
set_option linter.unusedVariables false
set_option linter.unusedSimpArgs false
namespace Go.Proofs.Ytkfimncbfbbopaa
open Go.RowKit
attribute [local go_sem ↓] Go.wp_at_zero Go.wp_at_succ

set_option maxHeartbeats 800000 in
theorem clone_o (b : List UInt8) (A : Option Addr) (n c : Nat) (w : World) (h : SlV w (.slice A n c) b) (hl : n ≤ 140737488355328) :
    Calls Try.prog 49 #[.slice A n c] w fun e w' => ∃ A' c', e = .returned (.slice A' n c') ∧ ByteRow w' w.heap.size (.slice A' n c') b ∧ Below w.heap.size w w' := by
  obtain ⟨iB, hiB, hz0, hz1, hz2⟩ := info_parts infoByte
  obtain ⟨A1, c1, e, hc, hr⟩ := h
  injection e with e1 e2 e3
  subst e1 e2 e3
  cases A with
  | none =>
    have hb : b = [] := by
      rcases Nat.eq_zero_or_pos b.length with h0 | h0
      · exact List.eq_nil_of_length_eq_zero h0
      · obtain ⟨_, e, _⟩ := hr.2 h0
        cases e
    subst hb
    have hq := fun (wx : World) (n c : Nat) => Lib.run_eql_slice_nil (P := Try.prog) wx 22 5 none n c 0 0 Try.underlying22
    clear hr
    go_enter Try.func49, Try.ntmps49
    go_wp2
    go_ret
    exact ⟨none, 0, rfl, World.ownsRow_nil _ _ _ _, Below.refl _ _⟩
  | some ad =>
    have hq := fun (wx : World) (n c : Nat) => Lib.run_eql_slice_nil (P := Try.prog) wx 22 5 (some ad) n c 0 0 Try.underlying22
    have HR := Lib.hid hr
    clear hr
    go_enter Try.func49, Try.ntmps49
    go_wp2_with
     (at_builtin
      refine wpList_append_any _ rfl (.tmp 5) (.tmp 6) _ rfl w.heap.size 5 iB _ 1 1 Try.underlying22 hiB hz0 hz1 hz2 rfl (by omega) (.slice (some ⟨w.heap.size, 0, none⟩) 0 0) 0 [] rfl (own_empty w _ _)
        (w.alloc (.cells #[] 5)).heap.size (some ad) b.length c (b.map u8v) rfl (HR.out.to_ (balloc (Below.refl _ _) _)) (u8_one b) (by simp only [maxLen]; omega) (by omega) (by simp) ?_
      intro v1 w1 hown1 hg1 hat1
      rw [Nat.zero_add, List.nil_append] at hown1
      obtain ⟨A1, c1, rfl⟩ := own_slice hown1
      have HO1 := Lib.hid hown1
      have HB1 := Lib.hid (fresh_below hg1)
      clear hown1 hg1 hat1)
    go_ret
    exact ⟨A1, c1, rfl, HO1.out, HB1.out⟩
end Go.Proofs.Ytkfimncbfbbopaa
/- What report does (contract). Conditions: the bytes lie in memory. -/
set_option linter.unusedVariables false
set_option linter.unusedSimpArgs false
namespace Go.Proofs.Ytkfimncbfbbopaa
open Go.RowKit
attribute [local go_sem ↓] Go.wp_at_zero Go.wp_at_succ

theorem kindS_rng (t c : Int) (b : List UInt8) : 1 ≤ kindS t c b ∧ kindS t c b ≤ 7 := by
  unfold kindS
  split <;> (try split) <;> (try split) <;> (try split) <;> (try split) <;> (try split) <;> omega
set_option maxRecDepth 100000 in
set_option maxHeartbeats 12800000 in
theorem report_c (t c : Nat) (b : List UInt8) (A : Option Addr) (n cap : Nat) (w : World) (h : SlV w (.slice A n cap) b) (hn : n ≤ 1200) (hc : c ≤ 31) (ht : t ≤ 255) :
    Calls Try.prog 31 #[.int .i64 (t : Int), .int .i64 (c : Int), .slice A n cap] w fun e w' => ∃ cs, e = .returned (.tuple #[.agg cs, .bool (reportS t c b).2]) ∧ RepO w' w.heap.size cs (reportS t c b).1 ∧ Below w.heap.size w w' := by
  have HN := Lib.hid h.num
  have H := Lib.hid h
  obtain ⟨K, hK⟩ : ∃ K, K = kindS t c b := ⟨_, rfl⟩
  have hK7 : 1 ≤ K ∧ K ≤ 7 := by rw [hK]; exact kindS_rng _ _ _
  have HK := Lib.hid hK
  clear h hK
  go_enter Try.func31, Try.ntmps31
  go_upto_region 3 with (first
    | (go_at_call 43
       refine (kind_c t c b A n cap _ (H.out.below (balloc (Below.refl _ _) _))).mono ?_
       rintro e0 w1 ⟨he, rfl⟩
       rw [← HK.out] at he
       subst he))
  obtain ⟨w1, hw1⟩ : ∃ w1, w1 = ((w.alloc (.cells (repA 0 0 0 0 0 0 0 nilV nilV nilV 0 0 nilV 0 0 nilV) 46)).alloc (.cells (repA K 0 0 0 0 0 0 nilV nilV nilV 0 0 nilV 0 0 nilV) 46)).alloc (.cells #[.slice A n cap, .bool false] 98) := ⟨_, rfl⟩
  change Code.wp _ _ _ _ (((w.alloc (.cells (repA 0 0 0 0 0 0 0 nilV nilV nilV 0 0 nilV 0 0 nilV) 46)).alloc (.cells (repA K 0 0 0 0 0 0 nilV nilV nilV 0 0 nilV 0 0 nilV) 46)).alloc (.cells #[.slice A n cap, .bool false] 98))
  obtain ⟨gr, hgr⟩ : ∃ gr, gr = w.heap.size := ⟨_, rfl⟩
  obtain ⟨gx, hgx⟩ : ∃ gx, gx = w.heap.size + 1 := ⟨_, rfl⟩
  obtain ⟨g, hg⟩ : ∃ g, g = w.heap.size + 1 + 1 := ⟨_, rfl⟩
  have HZ1 : Hid (Blk w1 gr 46 (repA 0 0 0 0 0 0 0 nilV nilV nilV 0 0 nilV 0 0 nilV)) := by show Blk _ _ _ _; rw [hw1]; exact ((Blk.newAt hgr _ _).alloc _).alloc _
  have HX1 : Hid (Blk w1 gx 46 (repA K 0 0 0 0 0 0 nilV nilV nilV 0 0 nilV 0 0 nilV)) := by show Blk _ _ _ _; rw [hw1]; exact (Blk.newAt (by simp; exact hgx) _ _).alloc _
  have HB1 : Hid (Below w.heap.size w w1) := by show Below _ _ _; rw [hw1]; exact balloc (balloc (balloc (Below.refl _ _) _) _) _
  have HR1 : Hid (RdSt w1 w.heap.size g (b, false)) := by
    refine ⟨by omega, by show b.length ≤ _; have := HN.out; omega, A, cap, ?_, ?_⟩
    · show Blk _ _ _ #[.slice A b.length cap, .bool false]
      rw [← HN.out, hw1]
      exact Blk.newAt (by simp; exact hg) _ _
    · show SlB _ _ (.slice A b.length cap) b
      rw [← HN.out]
      exact SlB.belowB (H.out.toB (Nat.le_refl _)) HB1.out
  have HLT : Hid (w.heap.size ≤ gr ∧ gr < gx ∧ gx < g) := ⟨by omega, by omega, by omega⟩
  rw [← hw1, ← hgr]
  rw [hgr, ← hg, ← hgx, ← hgr]
  clear hw1 hgr hgx hg
  by_cases hk7 : K = 7
  · subst hk7
    have k0 : w1.cell? ⟨gx, 0, none⟩ = some (.int .i64 7) := HX1.out.cell 0
    have HRS : Hid (reportS t c b = ({ rep0 with kind := 7, ty := t, ct := c, body := b }, true)) := by show _ = _; rw [reportS, ← HK.out]; simp
    go_upto_region 4 with fail
    clear k0
    go_upto_region 5 with (first
      | (go_at_call 49
         refine (clone_o b A n cap w1 (H.out.below HB1.out) (by omega)).mono ?_
         rintro e0 w2 ⟨A2, c2, rfl, hs2, hb2⟩
         have hx2 := HX1.out.below hb2
         have HZ2 := Lib.hid (HZ1.out.below hb2)
         have k13 : w2.cell? ⟨gx, 13, none⟩ = some (.int .i64 0) := hx2.cell 13
         have k14 : w2.cell? ⟨gx, 14, none⟩ = some (.int .i64 0) := hx2.cell 14
         have k15 : w2.cell? ⟨gx, 15, none⟩ = some (.slice none 0 0) := hx2.cell 15
         have f13 := hx2.frozen 13
         have f14 := hx2.frozen 14
         have f15 := hx2.frozen 15
         have HX2 := Lib.hid hx2
         have HS2 := Lib.hid hs2
         have HB2 : Hid (Below w.heap.size w w2) := bcall HB1.out hb2
         have HBS : Hid (w1.heap.size ≤ w2.heap.size) := hb2.size
         clear hs2 hb2 hx2))
    clear k13 k14 k15 f13 f14 f15
    obtain ⟨w3, hw3⟩ : ∃ w3, w3 = ((w2.setCell ⟨gx, 13, none⟩ (.int .i64 (t : Int))).setCell ⟨gx, 14, none⟩ (.int .i64 (c : Int))).setCell ⟨gx, 15, none⟩ (.slice A2 n c2) := ⟨_, rfl⟩
    rw [← hw3]
    obtain ⟨R, hR⟩ : ∃ R, R = (repA 7 0 0 0 0 0 0 nilV nilV nilV 0 0 nilV (t : Int) (c : Int) (.slice A2 n c2)).toList := ⟨_, rfl⟩
    have HX3 : Hid (Blk w3 gx 46 R.toArray) := by show Blk _ _ _ _; rw [hR, hw3]; exact ((HX2.out.set_ 13 _).set_ 14 _).set_ 15 _
    have hxz : gx ≠ gr := by have := HLT.out; omega
    have HZ3 : Hid (Blk w3 gr 46 (repA 0 0 0 0 0 0 0 nilV nilV nilV 0 0 nilV 0 0 nilV)) := by show Blk _ _ _ _; rw [hw3]; exact ((HZ2.out.far (p := ⟨gx, 13, none⟩) (Ne.symm hxz) _).far (p := ⟨gx, 14, none⟩) (Ne.symm hxz) _).far (p := ⟨gx, 15, none⟩) (Ne.symm hxz) _
    have hwx : w.heap.size ≤ gx := by have := HLT.out; omega
    have HB3 : Hid (Below w.heap.size w w3) := by show Below _ _ _; rw [hw3]; exact bset (bset (bset HB2.out (p := ⟨gx, 13, none⟩) hwx _) (p := ⟨gx, 14, none⟩) hwx _) (p := ⟨gx, 15, none⟩) hwx _
    have HS3 : Hid (RepO w3 w.heap.size (repA 7 0 0 0 0 0 0 nilV nilV nilV 0 0 nilV (t : Int) (c : Int) (.slice A2 n c2)) { rep0 with kind := 7, ty := t, ct := c, body := b }) := by
      have h2 : RepO w2 w.heap.size (repA 7 0 0 0 0 0 0 nilV nilV nilV 0 0 nilV (t : Int) (c : Int) (.slice A2 n c2)) { rep0 with kind := 7, ty := t, ct := c, body := b } :=
        ⟨nilV, nilV, nilV, nilV, .slice A2 n c2, rfl, World.ownsRow_nil _ _ _ _, World.ownsRow_nil _ _ _ _, World.ownsRow_nil _ _ _ _, World.ownsRow_nil _ _ _ _, own_lower HS2.out HB1.out.size⟩
      show RepO _ _ _ _
      rw [hw3]
      exact ((h2.set HX2.out 13 _).set (HX2.out.set_ 13 _) 14 _).set ((HX2.out.set_ 13 _).set_ 14 _) 15 _
    have HRL : Hid (R.length = 16) := by show _ = _; rw [hR]; rfl
    have HR1 : Hid (R.toArray.all (·.oneCell') = true) := by show _ = _; rw [hR]; simp [repA, Value.oneCell', nilV]
    have HRA : Hid (R.toArray = repA 7 0 0 0 0 0 0 nilV nilV nilV 0 0 nilV (t : Int) (c : Int) (.slice A2 n c2)) := by show _ = _; rw [hR]
    clear hw3 hR
    have HI : Hid ((Try.prog.info? 46).map (·.size) = some R.length) := by show _ = _; rw [HRL.out]; exact infoRep
    have HJ : Hid ((Try.prog.info? 46).map (·.size) = some R.toArray.size) := by show _ = _; rw [List.size_toArray, HRL.out]; exact infoRep
    have HRG : Hid (w3.rangeAt gx 0 R) := blk_range HX3.out
    have HTH : Hid (w3.there gr 0 R.toArray.size) := by show World.there _ _ _ R.toArray.size; rw [List.size_toArray, HRL.out]; exact blk_there (l := (repA 0 0 0 0 0 0 0 nilV nilV nilV 0 0 nilV 0 0 nilV).toList) HZ3.out rfl
    go_wp2_with (first
      | ((with_reducible show wpList _ _ _ (⟨some 28, .load 46 (.tmp 8), _, _, _, _⟩ :: _) _ _); refine wpList_load_mid rfl 46 (.tmp 8) rfl gx 0 rfl R _ HRG.out Try.underlying46 rfl HI.out ?_)
      | ((with_reducible show wpList _ _ _ (⟨none, .store 46 (.tmp 6) (.tmp 28), _, _, _, _⟩ :: _) _ _); refine wpList_store_mid rfl 46 (.tmp 6) (.tmp 28) rfl gr 0 R.toArray rfl rfl HTH.out HJ.out HR1.out ?_))
    have hst : Blk (w3.setCells gr 0 R) gr 46 R.toArray := blk_setAll (l := (repA 0 0 0 0 0 0 0 nilV nilV nilV 0 0 nilV 0 0 nilV).toList) HZ3.out (by rw [HRL.out]; rfl)
    have hload := run_loadVar_mid (P := Try.prog) (w3.setCells gr 0 R) gr 0 46 R _ (blk_range hst) Try.underlying46 rfl HI.out
    refine bodyPost_ret (results_ct rfl _ _ gr _ _ rfl rfl hload) rfl ⟨R.toArray, by rw [HRS.out]; rfl, ?_, ?_⟩
    · rw [HRS.out, HRA.out]
      exact HS3.out.setAll HZ3.out R
    · exact below_setCells HB3.out (by have := HLT.out; omega) _ _
  · have k0 : w1.cell? ⟨gx, 0, none⟩ = some (.int .i64 K) := HX1.out.cell 0
    have q7 := beq_no hk7
    go_upto_region 6 with fail
    clear k0 q7
    obtain ⟨fr, sF, eF, bF⟩ := numS_x 4 (b, false) (by decide)
    have HEF := Lib.hid eF
    clear eF bF
    go_upto_region 7 with (first
      | (go_at_call 50
         refine (word_z HR1.out HEF.out).mono ?_
         rintro e0 w2 ⟨rfl, hr2, hs2⟩
         have hx2 := hs2.blk HX1.out (fun e => by have := HLT.out; omega)
         have k1 : w2.cell? ⟨gx, 1, none⟩ = some (.int .u32 0) := hx2.cell 1
         have f1 := hx2.frozen 1
         have HZ2 := Lib.hid (hs2.blk HZ1.out (fun e => by have := HLT.out; omega))
         have HR2 := Lib.hid hr2
         have HS2 := Lib.hid hs2
         have HX2 := Lib.hid hx2
         clear hr2 hs2 hx2))
    clear k1 f1
    obtain ⟨w3, hw3⟩ : ∃ w3, w3 = w2.setCell ⟨gx, 1, none⟩ (.int .u32 (fr : Int)) := ⟨_, rfl⟩
    rw [← hw3]
    have HX3 : Hid (Blk w3 gx 46 (repA K fr 0 0 0 0 0 nilV nilV nilV 0 0 nilV 0 0 nilV)) := by show Blk _ _ _ _; rw [hw3]; exact HX2.out.set_ 1 _
    have HZ3 : Hid (Blk w3 gr 46 (repA 0 0 0 0 0 0 0 nilV nilV nilV 0 0 nilV 0 0 nilV)) := by show Blk _ _ _ _; rw [hw3]; exact HZ2.out.far (p := ⟨gx, 1, none⟩) (by have := HLT.out; show gr ≠ gx; omega) _
    have HR3 : Hid (RdSt w3 w.heap.size g sF) := by show RdSt _ _ _ _; rw [hw3]; exact HR2.out.far (p := ⟨gx, 1, none⟩) (by have := HLT.out; show _ ≤ gx; omega) (by have := HLT.out; show gx ≠ g; omega) _
    have HB3 : Hid (Below w.heap.size w w3) := by
      show Below _ _ _
      rw [hw3]
      exact bset (HB1.out.trans (HS2.out.toBelow (fun k hk => by have := HLT.out; omega) HB1.out.size)) (p := ⟨gx, 1, none⟩) (by have := HLT.out; show _ ≤ gx; omega) _
    clear hw3 HX2 HZ2 HR2 HS2 HX1 HZ1 HR1 HB1
    have k0 : w3.cell? ⟨gx, 0, none⟩ = some (.int .i64 K) := HX3.out.cell 0
    go_upto_block 0 with fail
    clear k0
    go_cut [] (fun wx => ∃ cs r s', Blk wx gx 46 cs ∧ RepO wx w.heap.size cs r ∧ RdSt wx w.heap.size g s' ∧ Blk wx gr 46 (repA 0 0 0 0 0 0 0 nilV nilV nilV 0 0 nilV 0 0 nilV) ∧ Below w.heap.size w wx ∧ reportS t c b = (r, !s'.2 && s'.1.isEmpty))
    case first =>
      have hsl : sF.1.length ≤ 1200 := by
        have h1 : sF.1.length ≤ b.length := by have := numS_len 4 (b, false); rw [HEF.out] at this; exact this
        have := HN.out
        omega
      have HSL := Lib.hid hsl
      clear hsl
      have HNE : Hid (g ≠ gx) := by have := HLT.out; show _ ≠ _; omega
      have HWG : Hid (w.heap.size ≤ gx ∧ w.heap.size ≤ g) := by have := HLT.out; exact ⟨by omega, by omega⟩
      rcases (show K = 1 ∨ K = 2 ∨ K = 3 ∨ K = 4 ∨ K = 5 ∨ K = 6 by omega) with rfl | rfl | rfl | rfl | rfl | rfl
      · obtain ⟨ntp, s1, e1, b1⟩ := numS_x 8 sF (by decide)
        obtain ⟨ts, s2, e2, b2⟩ := numS_x 4 s1 (by decide)
        obtain ⟨pk, s3, e3, b3⟩ := numS_x 4 s2 (by decide)
        obtain ⟨oc, s4, e4, b4⟩ := numS_x 4 s3 (by decide)
        have HRS : Hid (reportS t c b = ({ rep0 with kind := 1, fr := fr, ntp := ntp, ts := ts, pk := pk, oc := oc, blocks := (blksS c s4).1 }, !(blksS c s4).2.2 && (blksS c s4).2.1.isEmpty)) := by
          show _ = _
          rw [reportS, ← HK.out, HEF.out]
          simp only [e1, e2, e3, e4]
          rfl
        have HE1 := Lib.hid e1
        have HE2 := Lib.hid e2
        have HE3 := Lib.hid e3
        have HE4 := Lib.hid e4
        clear e1 e2 e3 e4 b1 b2 b3 b4
        have hng : gx ≠ g := fun e => HNE.out e.symm
        have hzx : gr ≠ gx := by have := HLT.out; omega
        have HNG := Lib.hid hng
        have HZX := Lib.hid hzx
        clear hng hzx
        go_upto_region 11 with (first
          | (go_at_call 51
             refine (num_z HR3.out (k := 8) rfl (by decide) (by decide) HE1.out).mono ?_
             rintro e0 w4 ⟨rfl, hr4, hs4⟩
             have hx4 := hs4.blk HX3.out (fun e => HNG.out e)
             have k3 : w4.cell? ⟨gx, 3, none⟩ = some (.int .u64 0) := hx4.cell 3
             have f3 := hx4.frozen 3
             have HR4 := Lib.hid hr4
             have HS4 := Lib.hid hs4
             have HX4 := Lib.hid hx4
             have HZ4 := Lib.hid (hs4.blk HZ3.out (fun e => by have := HLT.out; omega))
             clear hr4 hs4 hx4))
        clear k3 f3
        obtain ⟨w5, hw5⟩ : ∃ w5, w5 = w4.setCell ⟨gx, 3, none⟩ (.int .u64 (ntp : Int)) := ⟨_, rfl⟩
        rw [← hw5]
        have HX5 : Hid (Blk w5 gx 46 (repA 1 fr 0 ntp 0 0 0 nilV nilV nilV 0 0 nilV 0 0 nilV)) := by show Blk _ _ _ _; rw [hw5]; exact HX4.out.set_ 3 _
        have HZ5 : Hid (Blk w5 gr 46 (repA 0 0 0 0 0 0 0 nilV nilV nilV 0 0 nilV 0 0 nilV)) := by show Blk _ _ _ _; rw [hw5]; exact HZ4.out.far (p := ⟨gx, 3, none⟩) HZX.out _
        have HR5 : Hid (RdSt w5 w.heap.size g s1) := by show RdSt _ _ _ _; rw [hw5]; exact HR4.out.far (p := ⟨gx, 3, none⟩) HWG.out.1 HNG.out _
        have HB5 : Hid (Below w.heap.size w w5) := by
          show Below _ _ _
          rw [hw5]
          exact bset (HB3.out.trans (HS4.out.toBelow (fun k hk => by have := HWG.out; omega) HB3.out.size)) (p := ⟨gx, 3, none⟩) HWG.out.1 _
        clear hw5 HX4 HZ4 HR4 HS4
        go_upto_region 12 with (first
          | (go_at_call 50
             first
               | ((with_reducible show Calls _ _ _ w5 _)
                  refine (word_z HR5.out HE2.out).mono ?_
                  rintro e0 w6 ⟨rfl, hr6, hs6⟩
                  have HR6 := Lib.hid hr6
                  have HS6 := Lib.hid hs6
                  clear hr6 hs6)
               | ((with_reducible show Calls _ _ _ w6 _)
                  refine (word_z HR6.out HE3.out).mono ?_
                  rintro e0 w7 ⟨rfl, hr7, hs7⟩
                  have HR7 := Lib.hid hr7
                  have HS7 := Lib.hid (HS6.out.trans_ hs7)
                  clear hr7 hs7)
               | ((with_reducible show Calls _ _ _ w7 _)
                  refine (word_z HR7.out HE4.out).mono ?_
                  rintro e0 w8 ⟨rfl, hr8, hs8⟩
                  have HR8 := Lib.hid hr8
                  have HS8 := Lib.hid (HS7.out.trans_ hs8)
                  have hx8 := HS8.out.blk HX5.out (fun e => HNG.out e)
                  have k4 : w8.cell? ⟨gx, 4, none⟩ = some (.int .u32 0) := hx8.cell 4
                  have k5 : w8.cell? ⟨gx, 5, none⟩ = some (.int .u32 0) := hx8.cell 5
                  have k6 : w8.cell? ⟨gx, 6, none⟩ = some (.int .u32 0) := hx8.cell 6
                  have f4 := hx8.frozen 4
                  have f5 := hx8.frozen 5
                  have f6 := hx8.frozen 6
                  have HX8 := Lib.hid hx8
                  have HZ8 := Lib.hid (HS8.out.blk HZ5.out (fun e => by have := HLT.out; omega))
                  clear hr8 hs8 hx8)))
        clear k4 k5 k6 f4 f5 f6
        obtain ⟨w9, hw9⟩ : ∃ w9, w9 = ((w8.setCell ⟨gx, 4, none⟩ (.int .u32 (ts : Int))).setCell ⟨gx, 5, none⟩ (.int .u32 (pk : Int))).setCell ⟨gx, 6, none⟩ (.int .u32 (oc : Int)) := ⟨_, rfl⟩
        rw [← hw9]
        have HX9 : Hid (Blk w9 gx 46 (repA 1 fr 0 ntp ts pk oc nilV nilV nilV 0 0 nilV 0 0 nilV)) := by show Blk _ _ _ _; rw [hw9]; exact ((HX8.out.set_ 4 _).set_ 5 _).set_ 6 _
        have HZ9 : Hid (Blk w9 gr 46 (repA 0 0 0 0 0 0 0 nilV nilV nilV 0 0 nilV 0 0 nilV)) := by show Blk _ _ _ _; rw [hw9]; exact ((HZ8.out.far (p := ⟨gx, 4, none⟩) HZX.out _).far (p := ⟨gx, 5, none⟩) HZX.out _).far (p := ⟨gx, 6, none⟩) HZX.out _
        have HR9 : Hid (RdSt w9 w.heap.size g s4) := by show RdSt _ _ _ _; rw [hw9]; exact ((HR8.out.far (p := ⟨gx, 4, none⟩) HWG.out.1 HNG.out _).far (p := ⟨gx, 5, none⟩) HWG.out.1 HNG.out _).far (p := ⟨gx, 6, none⟩) HWG.out.1 HNG.out _
        have HB9 : Hid (Below w.heap.size w w9) := by
          show Below _ _ _
          rw [hw9]
          exact bset (bset (bset (HB5.out.trans (HS8.out.toBelow (fun k hk => by have := HWG.out; omega) HB5.out.size)) (p := ⟨gx, 4, none⟩) HWG.out.1 _) (p := ⟨gx, 5, none⟩) HWG.out.1 _) (p := ⟨gx, 6, none⟩) HWG.out.1 _
        clear hw9 HX8 HZ8 HR8 HS8 HR6 HS6 HR7 HS7
        have HBC := Lib.hid (blocks_c w.heap.size g c s4 w9 HR9.out hc)
        go_wp2_with (first
          | (go_at_call 52
             refine HBC.out.mono ?_
             rintro e0 wA ⟨vA, rfl, ho, hrA, hsA⟩
             obtain ⟨Av, cv, rfl⟩ := own_slice ho
             have hxA := hsA.blk HX9.out (fun e => HNG.out e)
             have k7 : wA.cell? ⟨gx, 7, none⟩ = some (.slice none 0 0) := hxA.cell 7
             have f7 := hxA.frozen 7
             have HXA := Lib.hid hxA
             have HZA := Lib.hid (hsA.blk HZ9.out (fun e => by have := HLT.out; omega))
             have HOA := Lib.hid ho
             have HRA := Lib.hid hrA
             have HSA := Lib.hid hsA
             clear ho hrA hsA hxA))
        go_meet
        refine ⟨_, _, _, HXA.out.set_ 7 (.slice Av c cv), ?_, HRA.out.far (p := ⟨gx, 7, none⟩) HWG.out.1 HNG.out _, HZA.out.far (p := ⟨gx, 7, none⟩) HZX.out _, bset (HB9.out.trans (HSA.out.toBelow (fun k hk => by have := HWG.out; omega) HB9.out.size)) (p := ⟨gx, 7, none⟩) HWG.out.1 _, HRS.out⟩
        refine RepO.set (cs := repA 1 fr 0 ntp ts pk oc (.slice Av c cv) nilV nilV 0 0 nilV 0 0 nilV) (cs0 := repA 1 fr 0 ntp ts pk oc nilV nilV nilV 0 0 nilV 0 0 nilV) ?_ HXA.out 7 (.slice Av c cv)
        exact ⟨.slice Av c cv, nilV, nilV, nilV, nilV, rfl, by rw [blksS_len]; exact own_lower HOA.out HB9.out.size, World.ownsRow_nil _ _ _ _, World.ownsRow_nil _ _ _ _, World.ownsRow_nil _ _ _ _, World.ownsRow_nil _ _ _ _⟩
      · have HRS : Hid (reportS t c b = ({ rep0 with kind := 2, fr := fr, blocks := (blksS c sF).1 }, !(blksS c sF).2.2 && (blksS c sF).2.1.isEmpty)) := by
          show _ = _
          rw [reportS, ← HK.out, HEF.out]
          rfl
        have HBC := Lib.hid (blocks_c w.heap.size g c sF w3 HR3.out hc)
        go_wp2_with (first
          | (go_at_call 52
             refine HBC.out.mono ?_
             rintro e0 wA ⟨vA, rfl, ho, hrA, hsA⟩
             obtain ⟨Av, cv, rfl⟩ := own_slice ho
             have hxA := hsA.blk HX3.out (fun e => HNE.out e.symm)
             have k7 : wA.cell? ⟨gx, 7, none⟩ = some (.slice none 0 0) := hxA.cell 7
             have f7 := hxA.frozen 7
             have HXA := Lib.hid hxA
             have HZA := Lib.hid (hsA.blk HZ3.out (fun e => by have := HLT.out; omega))
             have HOA := Lib.hid ho
             have HRA := Lib.hid hrA
             have HSA := Lib.hid hsA
             clear ho hrA hsA hxA))
        go_meet
        refine ⟨_, _, _, HXA.out.set_ 7 (.slice Av c cv), ?_, HRA.out.far (p := ⟨gx, 7, none⟩) HWG.out.1 (fun e => HNE.out e.symm) _, HZA.out.far (p := ⟨gx, 7, none⟩) (by have := HLT.out; show gr ≠ gx; omega) _, bset (HB3.out.trans (HSA.out.toBelow (fun k hk => by have := HWG.out; omega) HB3.out.size)) (p := ⟨gx, 7, none⟩) HWG.out.1 _, HRS.out⟩
        refine RepO.set (cs := repA 2 fr 0 0 0 0 0 (.slice Av c cv) nilV nilV 0 0 nilV 0 0 nilV) (cs0 := repA 2 fr 0 0 0 0 0 nilV nilV nilV 0 0 nilV 0 0 nilV) ?_ HXA.out 7 (.slice Av c cv)
        exact ⟨.slice Av c cv, nilV, nilV, nilV, nilV, rfl, by rw [blksS_len]; exact own_lower HOA.out HB3.out.size, World.ownsRow_nil _ _ _ _, World.ownsRow_nil _ _ _ _, World.ownsRow_nil _ _ _ _, World.ownsRow_nil _ _ _ _⟩
      · go_wp2_with (first
          | (go_at_call 53
             refine (about3_c w.heap.size g gx fr sF w3 HR3.out HX3.out HWG.out.1 HNE.out HSL.out).mono ?_
             rintro e0 w4 ⟨rfl, hh4, hr4, hs4⟩
             have HH4 := Lib.hid hh4
             have HR4 := Lib.hid hr4
             have HS4 := Lib.hid hs4
             clear hh4 hr4 hs4))
        go_meet
        have hb4 : Below w.heap.size w w4 := HB3.out.trans (HS4.out.toBelow (fun k hk => by have := HWG.out; omega) HB3.out.size)
        have hz4 := HS4.out.blk HZ3.out (fun e => by have := HLT.out; omega)
        have hrs : reportS t c b = reportS t c b := rfl
        obtain ⟨v, hv, ho⟩ := HH4.out
        refine ⟨_, { rep0 with kind := 3, fr := fr, ab := (numS 4 sF).1, pairs := (doS pairS (sF.1.length + 1) (numS 4 sF).2).1 }, _, hv, ⟨nilV, v, nilV, nilV, nilV, rfl, World.ownsRow_nil _ _ _ _, own_lower ho HB3.out.size, World.ownsRow_nil _ _ _ _, World.ownsRow_nil _ _ _ _, World.ownsRow_nil _ _ _ _⟩, HR4.out, hz4, hb4, ?_⟩
        rw [reportS, ← HK.out, HEF.out]
        rfl
      · go_wp2_with (first
          | (go_at_call 53
             refine (about4_c w.heap.size g gx fr sF w3 HR3.out HX3.out HWG.out.1 HNE.out).mono ?_
             rintro e0 w4 ⟨rfl, hh4, hr4, hs4⟩
             have HH4 := Lib.hid hh4
             have HR4 := Lib.hid hr4
             have HS4 := Lib.hid hs4
             clear hh4 hr4 hs4))
        go_meet
        have hb4 : Below w.heap.size w w4 := HB3.out.trans (HS4.out.toBelow (fun k hk => by have := HWG.out; omega) HB3.out.size)
        have hz4 := HS4.out.blk HZ3.out (fun e => by have := HLT.out; omega)
        have hrs : reportS t c b = reportS t c b := rfl
        refine ⟨_, { rep0 with kind := 4, fr := fr, ab := (numS 4 sF).1 }, _, HH4.out, ⟨nilV, nilV, nilV, nilV, nilV, rfl, World.ownsRow_nil _ _ _ _, World.ownsRow_nil _ _ _ _, World.ownsRow_nil _ _ _ _, World.ownsRow_nil _ _ _ _, World.ownsRow_nil _ _ _ _⟩, HR4.out, hz4, hb4, ?_⟩
        rw [reportS, ← HK.out, HEF.out]
        rfl
      · go_wp2_with (first
          | (go_at_call 53
             refine (about5_c w.heap.size g gx fr sF w3 HR3.out HX3.out HWG.out.1 HNE.out HSL.out).mono ?_
             rintro e0 w4 ⟨rfl, hh4, hr4, hs4⟩
             have HH4 := Lib.hid hh4
             have HR4 := Lib.hid hr4
             have HS4 := Lib.hid hs4
             clear hh4 hr4 hs4))
        go_meet
        have hb4 : Below w.heap.size w w4 := HB3.out.trans (HS4.out.toBelow (fun k hk => by have := HWG.out; omega) HB3.out.size)
        have hz4 := HS4.out.blk HZ3.out (fun e => by have := HLT.out; omega)
        have hrs : reportS t c b = reportS t c b := rfl
        obtain ⟨v, hv, ho⟩ := HH4.out
        refine ⟨_, { rep0 with kind := 5, fr := fr, ab := (numS 4 sF).1, firs := (doS firS (sF.1.length + 1) (numS 4 sF).2).1 }, _, hv, ⟨nilV, nilV, v, nilV, nilV, rfl, World.ownsRow_nil _ _ _ _, World.ownsRow_nil _ _ _ _, own_lower ho HB3.out.size, World.ownsRow_nil _ _ _ _, World.ownsRow_nil _ _ _ _⟩, HR4.out, hz4, hb4, ?_⟩
        rw [reportS, ← HK.out, HEF.out]
        rfl
      · go_wp2_with (first
          | (go_at_call 53
             refine (about6_c w.heap.size g gx fr sF w3 HR3.out HX3.out HWG.out.1 HNE.out).mono ?_
             rintro e0 w4 ⟨rfl, hh4, hr4, hs4⟩
             have HH4 := Lib.hid hh4
             have HR4 := Lib.hid hr4
             have HS4 := Lib.hid hs4
             clear hh4 hr4 hs4))
        go_meet
        have hb4 : Below w.heap.size w w4 := HB3.out.trans (HS4.out.toBelow (fun k hk => by have := HWG.out; omega) HB3.out.size)
        have hz4 := HS4.out.blk HZ3.out (fun e => by have := HLT.out; omega)
        have hrs : reportS t c b = reportS t c b := rfl
        obtain ⟨v, hv, ho⟩ := HH4.out
        refine ⟨_, { rep0 with kind := 6, fr := fr, ab := (numS 4 sF).1, ex := ((rembS (numS 4 sF).2).1.1 : Int), mt := (rembS (numS 4 sF).2).1.2, ssrcs := (rembS (numS 4 sF).2).2.1 }, _, hv, ⟨nilV, nilV, nilV, v, nilV, rfl, World.ownsRow_nil _ _ _ _, World.ownsRow_nil _ _ _ _, World.ownsRow_nil _ _ _ _, own_lower ho HB3.out.size, World.ownsRow_nil _ _ _ _⟩, HR4.out, hz4, hb4, ?_⟩
        rw [reportS, ← HK.out, HEF.out]
        rfl
    case rest =>
      obtain ⟨cs, r, s', hx, hro, hr, hz, hb, hrs⟩ := hcut
      obtain ⟨R, hR⟩ : ∃ R, R = cs.toList := ⟨_, rfl⟩
      have hRa : R.toArray = cs := by rw [hR]
      have hsz : R.length = 16 := by
        obtain ⟨_, _, _, _, _, e, _⟩ := hro
        rw [hR, e]
        rfl
      have HONE : Hid (R.toArray.all (·.oneCell') = true) := by show _ = _; rw [hRa]; exact hro.one
      rw [← hRa] at hx hro
      obtain ⟨b', bad⟩ := s'
      obtain ⟨hq1, hq2, Aq, cq, hq3, hq4⟩ := hr
      have kb : wc.cell? ⟨g, 1, none⟩ = some (.bool bad) := hq3.cell 1
      obtain ⟨q, hq⟩ : ∃ q, q = b'.length := ⟨_, rfl⟩
      have kg : wc.cell? ⟨g, 0, none⟩ = some (.slice Aq q cq) := by have := hq3.cell 0; rw [hq]; exact this
      have HQ := Lib.hid hq
      have HBG : Hid (Blk wc g 98 #[.slice Aq q cq, .bool bad]) := by show Blk _ _ _ _; rw [hq]; exact hq3
      have HX := Lib.hid hx
      have HRO := Lib.hid hro
      have HZ := Lib.hid hz
      have HB := Lib.hid hb
      have HRS := Lib.hid hrs
      clear hq hx hro hz hb hrs hq1 hq2 hq3 hq4 hR hRa
      have HI : Hid ((Try.prog.info? 46).map (·.size) = some R.length) := by show _ = _; rw [hsz]; exact infoRep
      have HJ : Hid ((Try.prog.info? 46).map (·.size) = some R.toArray.size) := by show _ = _; rw [List.size_toArray, hsz]; exact infoRep
      have HRG : Hid (wc.rangeAt gx 0 R) := blk_range HX.out
      have HTH : Hid (wc.there gr 0 R.toArray.size) := by show World.there _ _ _ R.toArray.size; rw [List.size_toArray, hsz]; exact blk_there (l := (repA 0 0 0 0 0 0 0 nilV nilV nilV 0 0 nilV 0 0 nilV).toList) HZ.out rfl
      have HSZ := Lib.hid hsz
      clear hsz
      go_upto_region 15 with fail
      have HSS : Hid (((World.setCells (World.drew wc) gr 0 R).cell? ⟨g, 0, none⟩ = some (.slice Aq q cq) ∧ (World.setCells (World.drew wc) gr 0 R).cell? ⟨g, 1, none⟩ = some (.bool bad)) ∧ (World.setCells (World.drew wc) gr 0 R).rangeAt gx 0 R) := by
        have h1 : Blk (World.setCells (World.drew wc) gr 0 R) g _ _ := Blk.farAll (by have := HLT.out; omega) _ _ _ (show Blk (World.drew wc) _ _ _ from HBG.out)
        have h2 : Blk (World.setCells (World.drew wc) gr 0 R) gx _ _ := Blk.farAll (by have := HLT.out; omega) _ _ _ (show Blk (World.drew wc) _ _ _ from HX.out)
        exact ⟨⟨h1.cell 0, h1.cell 1⟩, blk_range h2⟩
      have hst : Blk (World.setCells (World.drew wc) gr 0 R) gr 46 R.toArray := blk_setAll (l := (repA 0 0 0 0 0 0 0 nilV nilV nilV 0 0 nilV 0 0 nilV).toList) (show Blk (World.drew wc) _ _ _ from HZ.out) (by rw [HSZ.out]; rfl)
      have HLOAD := Lib.hid (run_loadVar_mid (P := Try.prog) (World.setCells (World.drew wc) gr 0 R) gr 0 46 R _ (blk_range hst) Try.underlying46 rfl HI.out)
      have HBF : Hid (Below w.heap.size w (World.setCells (World.drew wc) gr 0 R)) := below_setCells (bdrew HB.out) (by have := HLT.out; omega) _ _
      have HROF : Hid (RepO (World.setCells (World.drew wc) gr 0 R) w.heap.size R.toArray r) := RepO.setAll (show RepO (World.drew wc) _ _ _ from HRO.out.below (bdrew (Below.refl _ _))) (show Blk (World.drew wc) _ _ _ from HZ.out) R
      have HKG := Lib.hid kg
      have HKB := Lib.hid kb
      clear hst kg kb
      cases bad with
      | true =>
        refine wp_region_held_drew (S := (fun w' => (w'.cell? ⟨g, 0, none⟩ = some (.slice Aq q cq) ∧ w'.cell? ⟨g, 1, none⟩ = some (.bool true)) ∧ w'.rangeAt gx 0 R)) (by kernel_rfl) (⟨⟨HKG.out, HKB.out⟩, HRG.out⟩) (fun hHeld => ?_)
        refine wpAnyH_takeAt (i := 0) (v := (.agg R.toArray)) rfl (by kernel_rfl) (by kernel_rfl) (by kernel_rfl) (fun _ _ _ h => h) rfl (yieldsIf_load_mid (by rfl) 46 _ rfl gx 0 rfl R _ (fun w' hS => hS.2) Try.underlying46 rfl HI.out) hHeld ?_
        simp only [List.set_cons_zero, List.set_cons_succ]
        refine wpAnyH_takeAt (i := 1) (v := (.pointer (some ⟨g, 0, none⟩))) rfl (by kernel_rfl) (by kernel_rfl) (by kernel_rfl) (fun _ _ _ h => h) rfl (Or.inl ⟨by rfl, fun w' hS => ?_⟩) hHeld ?_
        · go_simp
        simp only [List.set_cons_zero, List.set_cons_succ]
        refine wpAnyH_takeAt (i := 2) (v := (.pointer (some ⟨g, 0, none⟩))) rfl (by kernel_rfl) (by kernel_rfl) (by kernel_rfl) (fun _ _ _ h => h) rfl (Or.inl ⟨by rfl, fun w' hS => ?_⟩) hHeld ?_
        · go_simp
        simp only [List.set_cons_zero, List.set_cons_succ]
        refine wpAnyH_takeAt (i := 3) (v := (.pointer (some ⟨g, 1, none⟩))) rfl (by kernel_rfl) (by kernel_rfl) (by kernel_rfl) (fun _ _ _ h => h) rfl (Or.inl ⟨by rfl, fun w' hS => ?_⟩) hHeld ?_
        · go_simp
        simp only [List.set_cons_zero, List.set_cons_succ]
        refine wpAnyH_takeAt (i := 4) (v := (.bool true)) rfl (by kernel_rfl) (by kernel_rfl) (by kernel_rfl) (fun _ _ _ h => h) rfl (Or.inl ⟨by rfl, fun w' hS => ?_⟩) hHeld ?_
        · have hc := hS.1.2
          go_simp
        simp only [List.set_cons_zero, List.set_cons_succ]
        refine wpAnyH_takeAt (i := 5) (v := (.bool false)) rfl (by kernel_rfl) (by kernel_rfl) (by kernel_rfl) (fun _ _ _ h => h) rfl (Or.inl ⟨by rfl, fun w' hS => ?_⟩) hHeld ?_
        · go_simp
        simp only [List.set_cons_zero, List.set_cons_succ]
        refine wpAnyH_takeAt (i := 6) (v := (.bool false)) rfl (by kernel_rfl) (by kernel_rfl) (by kernel_rfl) (fun _ _ _ h => h) rfl (Or.inl ⟨by rfl, fun w' hS => ?_⟩) hHeld ?_
        · go_simp
        simp only [List.set_cons_zero, List.set_cons_succ]
        refine wpAnyH_takeAt (i := 7) (v := undef) rfl (by kernel_rfl) (by kernel_rfl) (by kernel_rfl) (fun _ _ _ h => h) rfl (Or.inr ⟨by rfl, rfl⟩) hHeld ?_
        simp only [List.set_cons_zero, List.set_cons_succ]
        refine wpAnyH_takeAt (i := 8) (v := undef) rfl (by kernel_rfl) (by kernel_rfl) (by kernel_rfl) (fun _ _ _ h => h) rfl (Or.inr ⟨by rfl, rfl⟩) hHeld ?_
        simp only [List.set_cons_zero, List.set_cons_succ]
        refine wpAnyH_takeAt (i := 9) (v := undef) rfl (by kernel_rfl) (by kernel_rfl) (by kernel_rfl) (fun _ _ _ h => h) rfl (Or.inr ⟨by rfl, rfl⟩) hHeld ?_
        simp only [List.set_cons_zero, List.set_cons_succ]
        refine wpAnyH_takeAt (i := 10) (v := undef) rfl (by kernel_rfl) (by kernel_rfl) (by kernel_rfl) (fun _ _ _ h => h) rfl (Or.inr ⟨by rfl, rfl⟩) hHeld ?_
        simp only [List.set_cons_zero, List.set_cons_succ]
        refine wpAnyH_takeAt (i := 11) (v := undef) rfl (by kernel_rfl) (by kernel_rfl) (by kernel_rfl) (fun _ _ _ h => h) rfl (Or.inr ⟨by rfl, rfl⟩) hHeld ?_
        simp only [List.set_cons_zero, List.set_cons_succ]
        refine wpAnyH_takeAt (i := 12) (v := undef) rfl (by kernel_rfl) (by kernel_rfl) (by kernel_rfl) (fun _ _ _ h => h) rfl (Or.inr ⟨by rfl, rfl⟩) hHeld ?_
        simp only [List.set_cons_zero, List.set_cons_succ]
        refine wpAnyH_takeAt (i := 13) (v := (.bool false)) rfl (by kernel_rfl) (by kernel_rfl) (by kernel_rfl) (fun _ _ _ h => h) rfl (Or.inl ⟨by rfl, fun w' hS => ?_⟩) hHeld ?_
        · go_simp
        simp only [List.set_cons_zero, List.set_cons_succ]
        refine wpAnyH_ready (rs := [14]) (by kernel_rfl) (by simp) (AllReadyH.cons rfl (fun K' hK => ?_) AllReadyH.nil)
        rw [if_pos (by rfl)]
        refine wp_store_mid 46 (.tmp 6) (.tmp 60) (by rfl) gr 0 R.toArray (by rfl) (by rfl) (show World.there (World.drew wc) _ _ _ from HTH.out) HJ.out HONE.out ?_
        refine hK.out _ _ HSS.out (fun hHeld' => ?_)
        clear hK hHeld
        have hHeld := hHeld'
        clear hHeld'
        refine wpAnyH_putNone rfl ?_
        refine wpAnyH_takeAt (i := 15) (v := (.bool false)) rfl (by kernel_rfl) (by kernel_rfl) (by kernel_rfl) (fun _ _ _ h => h) rfl (Or.inl ⟨by rfl, fun w' hS => ?_⟩) hHeld ?_
        · go_simp
        simp only [List.set_cons_zero, List.set_cons_succ]
        refine wpAnyH_done (by kernel_rfl) ?_ _
        go_wp2_with fail
        refine bodyPost_ret (results_ct rfl _ _ gr _ _ rfl rfl HLOAD.out) rfl ⟨R.toArray, by rw [HRS.out]; simp, ?_, HBF.out⟩
        rw [HRS.out]
        exact HROF.out
      | false =>
        by_cases hq0 : q = 0
        · have HQE : Hid (b' = []) := List.eq_nil_of_length_eq_zero (by rw [← HQ.out]; exact hq0)
          subst hq0
          refine wp_region_held_drew (S := (fun w' => (w'.cell? ⟨g, 0, none⟩ = some (.slice Aq 0 cq) ∧ w'.cell? ⟨g, 1, none⟩ = some (.bool false)) ∧ w'.rangeAt gx 0 R)) (by kernel_rfl) (⟨⟨HKG.out, HKB.out⟩, HRG.out⟩) (fun hHeld => ?_)
          refine wpAnyH_takeAt (i := 0) (v := (.agg R.toArray)) rfl (by kernel_rfl) (by kernel_rfl) (by kernel_rfl) (fun _ _ _ h => h) rfl (yieldsIf_load_mid (by rfl) 46 _ rfl gx 0 rfl R _ (fun w' hS => hS.2) Try.underlying46 rfl HI.out) hHeld ?_
          simp only [List.set_cons_zero, List.set_cons_succ]
          refine wpAnyH_takeAt (i := 1) (v := (.pointer (some ⟨g, 0, none⟩))) rfl (by kernel_rfl) (by kernel_rfl) (by kernel_rfl) (fun _ _ _ h => h) rfl (Or.inl ⟨by rfl, fun w' hS => ?_⟩) hHeld ?_
          · go_simp
          simp only [List.set_cons_zero, List.set_cons_succ]
          refine wpAnyH_takeAt (i := 2) (v := (.pointer (some ⟨g, 0, none⟩))) rfl (by kernel_rfl) (by kernel_rfl) (by kernel_rfl) (fun _ _ _ h => h) rfl (Or.inl ⟨by rfl, fun w' hS => ?_⟩) hHeld ?_
          · go_simp
          simp only [List.set_cons_zero, List.set_cons_succ]
          refine wpAnyH_takeAt (i := 3) (v := (.pointer (some ⟨g, 1, none⟩))) rfl (by kernel_rfl) (by kernel_rfl) (by kernel_rfl) (fun _ _ _ h => h) rfl (Or.inl ⟨by rfl, fun w' hS => ?_⟩) hHeld ?_
          · go_simp
          simp only [List.set_cons_zero, List.set_cons_succ]
          refine wpAnyH_takeAt (i := 4) (v := (.bool false)) rfl (by kernel_rfl) (by kernel_rfl) (by kernel_rfl) (fun _ _ _ h => h) rfl (Or.inl ⟨by rfl, fun w' hS => ?_⟩) hHeld ?_
          · have hc := hS.1.2
            go_simp
          simp only [List.set_cons_zero, List.set_cons_succ]
          refine wpAnyH_takeAt (i := 5) (v := (.bool true)) rfl (by kernel_rfl) (by kernel_rfl) (by kernel_rfl) (fun _ _ _ h => h) rfl (Or.inl ⟨by rfl, fun w' hS => ?_⟩) hHeld ?_
          · go_simp
          simp only [List.set_cons_zero, List.set_cons_succ]
          refine wpAnyH_takeAt (i := 6) (v := (.bool true)) rfl (by kernel_rfl) (by kernel_rfl) (by kernel_rfl) (fun _ _ _ h => h) rfl (Or.inl ⟨by rfl, fun w' hS => ?_⟩) hHeld ?_
          · go_simp
          simp only [List.set_cons_zero, List.set_cons_succ]
          refine wpAnyH_takeAt (i := 7) (v := (.pointer (some ⟨g, 0, none⟩))) rfl (by kernel_rfl) (by kernel_rfl) (by kernel_rfl) (fun _ _ _ h => h) rfl (Or.inl ⟨by rfl, fun w' hS => ?_⟩) hHeld ?_
          · go_simp
          simp only [List.set_cons_zero, List.set_cons_succ]
          refine wpAnyH_takeAt (i := 8) (v := (.pointer (some ⟨g, 0, none⟩))) rfl (by kernel_rfl) (by kernel_rfl) (by kernel_rfl) (fun _ _ _ h => h) rfl (Or.inl ⟨by rfl, fun w' hS => ?_⟩) hHeld ?_
          · go_simp
          simp only [List.set_cons_zero, List.set_cons_succ]
          refine wpAnyH_takeAt (i := 9) (v := (.pointer (some ⟨g, 0, none⟩))) rfl (by kernel_rfl) (by kernel_rfl) (by kernel_rfl) (fun _ _ _ h => h) rfl (Or.inl ⟨by rfl, fun w' hS => ?_⟩) hHeld ?_
          · go_simp
          simp only [List.set_cons_zero, List.set_cons_succ]
          refine wpAnyH_takeAt (i := 10) (v := (.slice Aq 0 cq)) rfl (by kernel_rfl) (by kernel_rfl) (by kernel_rfl) (fun _ _ _ h => h) rfl (Or.inl ⟨by rfl, fun w' hS => ?_⟩) hHeld ?_
          · have hc := hS.1.1
            go_simp
          simp only [List.set_cons_zero, List.set_cons_succ]
          refine wpAnyH_takeAt (i := 11) (v := (.int .i64 0)) rfl (by kernel_rfl) (by kernel_rfl) (by kernel_rfl) (fun _ _ _ h => h) rfl (Or.inl ⟨by rfl, fun w' hS => ?_⟩) hHeld ?_
          · go_simp
          simp only [List.set_cons_zero, List.set_cons_succ]
          refine wpAnyH_takeAt (i := 12) (v := (.bool true)) rfl (by kernel_rfl) (by kernel_rfl) (by kernel_rfl) (fun _ _ _ h => h) rfl (Or.inl ⟨by rfl, fun w' hS => ?_⟩) hHeld ?_
          · go_simp
          simp only [List.set_cons_zero, List.set_cons_succ]
          refine wpAnyH_takeAt (i := 13) (v := (.bool true)) rfl (by kernel_rfl) (by kernel_rfl) (by kernel_rfl) (fun _ _ _ h => h) rfl (Or.inl ⟨by rfl, fun w' hS => ?_⟩) hHeld ?_
          · go_simp
          simp only [List.set_cons_zero, List.set_cons_succ]
          refine wpAnyH_ready (rs := [14]) (by kernel_rfl) (by simp) (AllReadyH.cons rfl (fun K' hK => ?_) AllReadyH.nil)
          rw [if_pos (by rfl)]
          refine wp_store_mid 46 (.tmp 6) (.tmp 60) (by rfl) gr 0 R.toArray (by rfl) (by rfl) (show World.there (World.drew wc) _ _ _ from HTH.out) HJ.out HONE.out ?_
          refine hK.out _ _ HSS.out (fun hHeld' => ?_)
          clear hK hHeld
          have hHeld := hHeld'
          clear hHeld'
          refine wpAnyH_putNone rfl ?_
          refine wpAnyH_takeAt (i := 15) (v := (.bool true)) rfl (by kernel_rfl) (by kernel_rfl) (by kernel_rfl) (fun _ _ _ h => h) rfl (Or.inl ⟨by rfl, fun w' hS => ?_⟩) hHeld ?_
          · go_simp
          simp only [List.set_cons_zero, List.set_cons_succ]
          refine wpAnyH_done (by kernel_rfl) ?_ _
          go_wp2_with fail
          refine bodyPost_ret (results_ct rfl _ _ gr _ _ rfl rfl HLOAD.out) rfl ⟨R.toArray, by rw [HRS.out]; simp [HQE.out], ?_, HBF.out⟩
          rw [HRS.out]
          exact HROF.out
        · have HQE : Hid (b'.isEmpty = false) := by show _ = _; cases b' with | nil => exact absurd HQ.out hq0 | cons _ _ => rfl
          have hq1 : ¬ (q : Int) = 0 := by omega
          have hq2 : ((q : Int) == 0) = false := by simpa using hq1
          clear hq0 hq1
          refine wp_region_held_drew (S := (fun w' => (w'.cell? ⟨g, 0, none⟩ = some (.slice Aq q cq) ∧ w'.cell? ⟨g, 1, none⟩ = some (.bool false)) ∧ w'.rangeAt gx 0 R)) (by kernel_rfl) (⟨⟨HKG.out, HKB.out⟩, HRG.out⟩) (fun hHeld => ?_)
          refine wpAnyH_takeAt (i := 0) (v := (.agg R.toArray)) rfl (by kernel_rfl) (by kernel_rfl) (by kernel_rfl) (fun _ _ _ h => h) rfl (yieldsIf_load_mid (by rfl) 46 _ rfl gx 0 rfl R _ (fun w' hS => hS.2) Try.underlying46 rfl HI.out) hHeld ?_
          simp only [List.set_cons_zero, List.set_cons_succ]
          refine wpAnyH_takeAt (i := 1) (v := (.pointer (some ⟨g, 0, none⟩))) rfl (by kernel_rfl) (by kernel_rfl) (by kernel_rfl) (fun _ _ _ h => h) rfl (Or.inl ⟨by rfl, fun w' hS => ?_⟩) hHeld ?_
          · go_simp
          simp only [List.set_cons_zero, List.set_cons_succ]
          refine wpAnyH_takeAt (i := 2) (v := (.pointer (some ⟨g, 0, none⟩))) rfl (by kernel_rfl) (by kernel_rfl) (by kernel_rfl) (fun _ _ _ h => h) rfl (Or.inl ⟨by rfl, fun w' hS => ?_⟩) hHeld ?_
          · go_simp
          simp only [List.set_cons_zero, List.set_cons_succ]
          refine wpAnyH_takeAt (i := 3) (v := (.pointer (some ⟨g, 1, none⟩))) rfl (by kernel_rfl) (by kernel_rfl) (by kernel_rfl) (fun _ _ _ h => h) rfl (Or.inl ⟨by rfl, fun w' hS => ?_⟩) hHeld ?_
          · go_simp
          simp only [List.set_cons_zero, List.set_cons_succ]
          refine wpAnyH_takeAt (i := 4) (v := (.bool false)) rfl (by kernel_rfl) (by kernel_rfl) (by kernel_rfl) (fun _ _ _ h => h) rfl (Or.inl ⟨by rfl, fun w' hS => ?_⟩) hHeld ?_
          · have hc := hS.1.2
            go_simp
          simp only [List.set_cons_zero, List.set_cons_succ]
          refine wpAnyH_takeAt (i := 5) (v := (.bool true)) rfl (by kernel_rfl) (by kernel_rfl) (by kernel_rfl) (fun _ _ _ h => h) rfl (Or.inl ⟨by rfl, fun w' hS => ?_⟩) hHeld ?_
          · go_simp
          simp only [List.set_cons_zero, List.set_cons_succ]
          refine wpAnyH_takeAt (i := 6) (v := (.bool true)) rfl (by kernel_rfl) (by kernel_rfl) (by kernel_rfl) (fun _ _ _ h => h) rfl (Or.inl ⟨by rfl, fun w' hS => ?_⟩) hHeld ?_
          · go_simp
          simp only [List.set_cons_zero, List.set_cons_succ]
          refine wpAnyH_takeAt (i := 7) (v := (.pointer (some ⟨g, 0, none⟩))) rfl (by kernel_rfl) (by kernel_rfl) (by kernel_rfl) (fun _ _ _ h => h) rfl (Or.inl ⟨by rfl, fun w' hS => ?_⟩) hHeld ?_
          · go_simp
          simp only [List.set_cons_zero, List.set_cons_succ]
          refine wpAnyH_takeAt (i := 8) (v := (.pointer (some ⟨g, 0, none⟩))) rfl (by kernel_rfl) (by kernel_rfl) (by kernel_rfl) (fun _ _ _ h => h) rfl (Or.inl ⟨by rfl, fun w' hS => ?_⟩) hHeld ?_
          · go_simp
          simp only [List.set_cons_zero, List.set_cons_succ]
          refine wpAnyH_takeAt (i := 9) (v := (.pointer (some ⟨g, 0, none⟩))) rfl (by kernel_rfl) (by kernel_rfl) (by kernel_rfl) (fun _ _ _ h => h) rfl (Or.inl ⟨by rfl, fun w' hS => ?_⟩) hHeld ?_
          · go_simp
          simp only [List.set_cons_zero, List.set_cons_succ]
          refine wpAnyH_takeAt (i := 10) (v := (.slice Aq q cq)) rfl (by kernel_rfl) (by kernel_rfl) (by kernel_rfl) (fun _ _ _ h => h) rfl (Or.inl ⟨by rfl, fun w' hS => ?_⟩) hHeld ?_
          · have hc := hS.1.1
            go_simp
          simp only [List.set_cons_zero, List.set_cons_succ]
          refine wpAnyH_takeAt (i := 11) (v := (.int .i64 (q : Int))) rfl (by kernel_rfl) (by kernel_rfl) (by kernel_rfl) (fun _ _ _ h => h) rfl (Or.inl ⟨by rfl, fun w' hS => ?_⟩) hHeld ?_
          · go_simp
          simp only [List.set_cons_zero, List.set_cons_succ]
          refine wpAnyH_takeAt (i := 12) (v := (.bool false)) rfl (by kernel_rfl) (by kernel_rfl) (by kernel_rfl) (fun _ _ _ h => h) rfl (Or.inl ⟨by rfl, fun w' hS => ?_⟩) hHeld ?_
          · go_simp
          simp only [List.set_cons_zero, List.set_cons_succ]
          refine wpAnyH_takeAt (i := 13) (v := (.bool false)) rfl (by kernel_rfl) (by kernel_rfl) (by kernel_rfl) (fun _ _ _ h => h) rfl (Or.inl ⟨by rfl, fun w' hS => ?_⟩) hHeld ?_
          · go_simp
          simp only [List.set_cons_zero, List.set_cons_succ]
          refine wpAnyH_ready (rs := [14]) (by kernel_rfl) (by simp) (AllReadyH.cons rfl (fun K' hK => ?_) AllReadyH.nil)
          rw [if_pos (by rfl)]
          refine wp_store_mid 46 (.tmp 6) (.tmp 60) (by rfl) gr 0 R.toArray (by rfl) (by rfl) (show World.there (World.drew wc) _ _ _ from HTH.out) HJ.out HONE.out ?_
          refine hK.out _ _ HSS.out (fun hHeld' => ?_)
          clear hK hHeld
          have hHeld := hHeld'
          clear hHeld'
          refine wpAnyH_putNone rfl ?_
          refine wpAnyH_takeAt (i := 15) (v := (.bool false)) rfl (by kernel_rfl) (by kernel_rfl) (by kernel_rfl) (fun _ _ _ h => h) rfl (Or.inl ⟨by rfl, fun w' hS => ?_⟩) hHeld ?_
          · go_simp
          simp only [List.set_cons_zero, List.set_cons_succ]
          refine wpAnyH_done (by kernel_rfl) ?_ _
          go_wp2_with fail
          refine bodyPost_ret (results_ct rfl _ _ gr _ _ rfl rfl HLOAD.out) rfl ⟨R.toArray, by rw [HRS.out]; simp [HQE.out], ?_, HBF.out⟩
          rw [HRS.out]
          exact HROF.out
end Go.Proofs.Ytkfimncbfbbopaa
/- What Parse reads (plain), and lists of reports in memory. Conditions: as each says. -/
set_option linter.unusedVariables false
namespace Go.Proofs.Ytkfimncbfbbopaa
open Go.RowKit

def lenS (b : List UInt8) : Nat := 4 + 4 * (256 * (b.getD 2 0).toNat + (b.getD 3 0).toNat)
def headB (b : List UInt8) : Bool := decide ((b.getD 0 0).toNat &&& 224 = 128)
def oneS (b : List UInt8) : Rep × Bool := reportS (b.getD 1 0).toNat ((b.getD 0 0).toNat &&& 31) ((b.take (lenS b)).drop 4)
def parN : Nat → List UInt8 → List Rep → List Rep × Int
  | 0, _, acc => (acc, 0)
  | f + 1, b, acc =>
    if b.length = 0 then (acc, 0)
    else if b.length < 4 then ([], 3)
    else if (headB b && isB b) = false then ([], 2)
    else if b.length < lenS b then ([], 3)
    else if (oneS b).2 = false then ([], 2)
    else parN f (b.drop (lenS b)) (acc ++ [(oneS b).1])
def parseS (b : List UInt8) : List Rep × Int := if 1200 < b.length then ([], 4) else if b.length = 0 then ([], 3) else parN (b.length + 1) b []
def RepsO (w : World) (B : Nat) (css : List (Array Value)) (rs : List Rep) : Prop := css.length = rs.length ∧ ∀ (i : Nat) (cs : Array Value) (r : Rep), css[i]? = some cs → rs[i]? = some r → RepO w B cs r
def RepsV (w : World) (css : List (Array Value)) (rs : List Rep) : Prop := css.length = rs.length ∧ ∀ (i : Nat) (cs : Array Value) (r : Rep), css[i]? = some cs → rs[i]? = some r → RepV w cs r
def cellsL (css : List (Array Value)) : List Value := css.flatMap Array.toList
theorem cellsL_snoc (css : List (Array Value)) (cs : Array Value) : cellsL (css ++ [cs]) = cellsL css ++ cs.toList := by simp [cellsL]
section
variable {w w' : World} {B : Nat} {css : List (Array Value)} {rs : List Rep}
theorem RepsO.nil (w : World) (B : Nat) : RepsO w B [] [] := ⟨rfl, fun i cs r h => by simp at h⟩
theorem RepsO.keep (h : RepsO w B css rs) (hk : ∀ cs r, RepO w B cs r → RepO w' B cs r) : RepsO w' B css rs := ⟨h.1, fun i cs r h1 h2 => hk cs r (h.2 i cs r h1 h2)⟩
theorem RepsO.below (h : RepsO w B css rs) (hb : Below w.heap.size w w') : RepsO w' B css rs := h.keep fun _ _ h => h.below hb
theorem RepsO.snoc {cs : Array Value} {r : Rep} (h : RepsO w B css rs) (h1 : RepO w B cs r) : RepsO w B (css ++ [cs]) (rs ++ [r]) := by
  refine ⟨by rw [List.length_append, List.length_append, h.1]; rfl, fun i c x hc hx => ?_⟩
  by_cases hi : i < css.length
  · rw [List.getElem?_append_left hi] at hc
    rw [List.getElem?_append_left (by rw [← h.1]; exact hi)] at hx
    exact h.2 i c x hc hx
  · rw [List.getElem?_append_right (by omega)] at hc
    rw [List.getElem?_append_right (by rw [← h.1]; omega), ← h.1] at hx
    match hj : i - css.length, hc, hx with
    | 0, hc, hx =>
      simp at hc hx
      subst hc hx
      exact h1
    | j + 1, hc, hx => simp at hc
theorem RepsO.toV (h : RepsO w B css rs) : RepsV w css rs := ⟨h.1, fun i cs r h1 h2 => (h.2 i cs r h1 h2).toV⟩
theorem RepsV.below (h : RepsV w css rs) (hb : Below w.heap.size w w') : RepsV w' css rs := ⟨h.1, fun i cs r h1 h2 => (h.2 i cs r h1 h2).below hb⟩
end
/-- A row is as it was where another row, of other elements, grows. -/
theorem own_grown_far {w w' : World} {B e s n B' e' s' n' : Nat} {v v' : Value} {xs xs' : List Value} (h : w.ownsRow B e s v n xs) (ho : w.ownsRow B' e' s' v' n' xs') (hne : e ≠ e') (hg : w.grownBy w' v'.ownBlock) : w'.ownsRow B e s v n xs :=
  (Sv.own (M := fun k => v'.ownBlock = some k) ((Sv.refl _ _).grown hg fun g e => .inl e) h fun g hg' hm => by
    obtain ⟨_, cs, h1⟩ := own_tag h g hg'
    obtain ⟨_, cs', h2⟩ := own_tag ho g hm
    rw [h1] at h2
    injection h2 with h2
    injection h2 with _ h3
    exact hne h3)
theorem RepO.grown {w w' : World} {B B' n : Nat} {cs : Array Value} {r : Rep} {v : Value} {xs : List Value} (h : RepO w B cs r) (ho : w.ownsRow B' 46 16 v n xs) (hg : w.grownBy w' v.ownBlock) : RepO w' B cs r :=
  h.keep fun e _ _ _ _ he h1 => own_grown_far h1 ho (by rcases he with rfl | rfl | rfl | rfl | rfl <;> decide) hg
theorem infoRepZ : (Try.prog.info? 46).map (fun i => (i.zero, i.size, i.bytes)) = some (some (.agg (repA 0 0 0 0 0 0 0 nilV nilV nilV 0 0 nilV 0 0 nilV)), 16, 192) := by kernel_rfl
theorem split16 {X : List Value} (h : X.length = 16) : ∃ a b c d e f g i j k l m n o p q, X = [a, b, c, d, e, f, g, i, j, k, l, m, n, o, p, q] := by
  match X, h with
  | [a, b, c, d, e, f, g, i, j, k, l, m, n, o, p, q], _ => exact ⟨a, b, c, d, e, f, g, i, j, k, l, m, n, o, p, q, rfl⟩
theorem fillR (X : List Value) (hX : X.length = 16) : Instr.fill (fun i => some (i * 16, 16)) ((Array.range (1 * 16)).map ((Value.agg (repA 0 0 0 0 0 0 0 nilV nilV nilV 0 0 nilV 0 0 nilV)).cells[· % (Value.agg (repA 0 0 0 0 0 0 0 nilV nilV nilV 0 0 nilV 0 0 nilV)).cells.size]!)) [(0, .agg X.toArray)] = some X.toArray := by
  obtain ⟨a, b, c, d, e, f, g, i, j, k, l, m, n, o, p, q, rfl⟩ := split16 hX
  kernel_rfl
theorem wpList_buildR {ops : Array Oper} {rest : List Oper} {op : Oper} {a : Act} {w : World} {Q : Exit → Act → World → Prop} (hgd : op.guard = none) (x : Operand) (ho : op.op = .buildSlice 24 1 #[(0, x)]) (X : List Value) (hX : X.length = 16) (hx : a.eval x = .agg X.toArray)
    (h : wpList Try.prog ops Q rest (a.put op.dst (.slice (some ⟨w.heap.size, 0, none⟩) 1 1)) (w.alloc (.cells X.toArray 46))) : wpList Try.prog ops Q (op :: rest) a w := by
  obtain ⟨ie, hi, h0, h1, h2⟩ := info_parts infoRepZ
  refine wpList_plain hgd fun K hK => wp_buildSlice 24 46 1 #[(0, x)] ho X.toArray ie _ Try.underlying24 hi h0 (by rw [h1]; decide) (by rw [h1]; decide) ?_ (hK _ _ h)
  rw [h1]
  simp only [List.map_toArray, List.map_cons, List.map_nil, hx]
  exact fillR X hX
theorem or_join {x y : Nat} (hx : x < 256) (hy : y < 256) : bits .or .i64 ((x : Int) * 256) (y : Int) = ((x * 256 + y : Nat) : Int) := by
  have := bits_join .i64 63 (by decide) (fun n h0 h1 => by simp [IntKind.wrap, IntKind.bits, IntKind.signed]; omega) 8 ((x : Int) * 256) (y : Int) (by omega) (by omega) (by omega) (by omega) (by omega) (by omega)
  rw [this]
  omega
end Go.Proofs.Ytkfimncbfbbopaa
