/- What the reader's about does (contracts, one for each kind). Conditions: the reader and the report lie in memory. (Printed by gen8a.py.) -/
import Derived.Test.YtkfimncbfbbopaaGa
set_option linter.unusedVariables false
set_option linter.unusedSimpArgs false
namespace Go.Proofs.Ytkfimncbfbbopaa
open Go.RowKit
attribute [local go_sem ↓] Go.wp_at_zero Go.wp_at_succ

def ksP : List IntKind := [.u16, .u16]
def ksF : List IntKind := [.u32, .u8]
def ksS : List IntKind := [.u32]
theorem infoPair : (Try.prog.info? 57).map (fun i => (i.zero, i.size, i.bytes)) = some (some (.agg #[.int .u16 0, .int .u16 0]), 2, 4) := by kernel_rfl
theorem infoFir : (Try.prog.info? 82).map (fun i => (i.zero, i.size, i.bytes)) = some (some (.agg #[.int .u32 0, .int .u8 0]), 2, 8) := by kernel_rfl
theorem infoU32 : (Try.prog.info? 33).map (fun i => (i.zero, i.size, i.bytes)) = some (some (.int .u32 0), 1, 4) := by kernel_rfl
/-- A report's cells. -/
def repA (k : Int) (fr ab ntp ts pk oc : Nat) (vb vp vf : Value) (ex : Int) (mt : Nat) (vs : Value) (ty ct : Int) (vd : Value) : Array Value :=
  #[.int .i64 k, .int .u32 (fr : Int), .int .u32 (ab : Int), .int .u64 (ntp : Int), .int .u32 (ts : Int), .int .u32 (pk : Int), .int .u32 (oc : Int), vb, vp, vf, .int .i64 ex, .int .u32 (mt : Int), vs, .int .i64 ty, .int .i64 ct, vd]
def nilV : Value := .slice none 0 0
/-- Rounds until nothing is left. -/
def doS (f : RS → List Nat × RS) : Nat → RS → List (List Nat) × RS
  | 0, s => ([], s)
  | n + 1, s => if (f s).2.1 = [] then ([(f s).1], (f s).2) else ((f s).1 :: (doS f n (f s).2).1, (doS f n (f s).2).2)
def itS (f : RS → List Nat × RS) : Nat → RS → List (List Nat) × RS
  | 0, s => ([], s)
  | n + 1, s => ((itS f n s).1 ++ [(f (itS f n s).2).1], (f (itS f n s).2).2)
def pairS (s : RS) : List Nat × RS := ([(numS 2 s).1, (numS 2 (numS 2 s).2).1], (numS 2 (numS 2 s).2).2)
def firS (s : RS) : List Nat × RS :=
  ([(numS 4 s).1, (numS 1 (numS 4 s).2).1], ((numS 3 (numS 1 (numS 4 s).2).2).2.1, (numS 3 (numS 1 (numS 4 s).2).2).2.2 || decide ((numS 3 (numS 1 (numS 4 s).2).2).1 ≠ 0)))
def ssrcS (s : RS) : List Nat × RS := ([(numS 4 s).1], (numS 4 s).2)
theorem numS_shorter (k : Nat) (s : RS) (hk : 0 < k) (h : s.1 ≠ []) : (numS k s).2.1.length < s.1.length := by
  have hp : 0 < s.1.length := List.length_pos_iff.2 h
  unfold numS
  split
  · simpa using hp
  · simp; omega
theorem numS_nil (k : Nat) (s : RS) (hk : 0 < k) (h : s.1 = []) : (numS k s).2.1 = [] := by
  unfold numS
  rw [if_pos (by rw [h]; exact hk)]
theorem numS_le (k : Nat) (s : RS) : (numS k s).2.1.length ≤ s.1.length := numS_len k s
/-- A round takes something, where there is something. -/
def Shrinks (f : RS → List Nat × RS) : Prop := ∀ s : RS, (f s).2.1 ≠ [] → (f s).2.1.length < s.1.length
theorem doS_more {f : RS → List Nat × RS} (n : Nat) {s s' : RS} {x : List Nat} (h : f s = (x, s')) (hne : s'.1 ≠ []) : doS f (n + 1) s = (x :: (doS f n s').1, (doS f n s').2) := by
  rw [doS, h, if_neg hne]
theorem doS_end {f : RS → List Nat × RS} (n : Nat) {s s' : RS} {x : List Nat} (h : f s = (x, s')) (he : s'.1 = []) : doS f (n + 1) s = ([x], s') := by
  rw [doS, h, if_pos he]
theorem shr_pair : Shrinks pairS := fun s h => by
  have hne : s.1 ≠ [] := fun e => h (by show (numS 2 (numS 2 s).2).2.1 = []; exact numS_nil 2 _ (by decide) (numS_nil 2 _ (by decide) e))
  have h1 := numS_shorter 2 s (by decide) hne
  have h2 := numS_len 2 (numS 2 s).2
  show (numS 2 (numS 2 s).2).2.1.length < _
  omega
theorem shr_fir : Shrinks firS := fun s h => by
  have hne : s.1 ≠ [] := fun e => h (by show (numS 3 (numS 1 (numS 4 s).2).2).2.1 = []; exact numS_nil 3 _ (by decide) (numS_nil 1 _ (by decide) (numS_nil 4 _ (by decide) e)))
  have h1 := numS_shorter 4 s (by decide) hne
  have h2 := numS_len 1 (numS 4 s).2
  have h3 := numS_len 3 (numS 1 (numS 4 s).2).2
  show (numS 3 (numS 1 (numS 4 s).2).2).2.1.length < _
  omega
set_option maxRecDepth 100000 in
set_option maxHeartbeats 12800000 in
theorem about3_c (B g gx fr : Nat) (s : RS) (w : World) (h : RdSt w B g s) (hx : Blk w gx 46 (repA 3 fr 0 0 0 0 0 nilV nilV nilV 0 0 nilV 0 0 nilV)) (hB : B ≤ gx) (hne : g ≠ gx) (hbl : s.1.length ≤ 1200) :
    Calls Try.prog 53 #[.pointer (some ⟨g, 0, none⟩), .pointer (some ⟨gx, 0, none⟩)] w fun e w' => e = .returned (.tuple #[]) ∧ (∃ v, Blk w' gx 46 (repA 3 fr (numS 4 s).1 0 0 0 0 nilV v nilV 0 0 nilV 0 0 nilV) ∧ w'.ownsRow w.heap.size 57 2 v (doS pairS (s.1.length + 1) (numS 4 s).2).1.length (rowC ksP (doS pairS (s.1.length + 1) (numS 4 s).2).1)) ∧ RdSt w' B g (doS pairS (s.1.length + 1) (numS 4 s).2).2 ∧ Sv (fun j => j = g ∨ j = gx) w w' := by
  obtain ⟨iP, hiP, hzaP, hzbP, hzcP⟩ := info_parts infoPair
  obtain ⟨ab, sA, eA, bA⟩ := numS_x 4 s (by decide)
  have hsl : sA.1.length ≤ s.1.length := by have := numS_len 4 s; rw [eA] at this; exact this
  obtain ⟨F, hF⟩ : ∃ F, F = s.1.length + 1 := ⟨_, rfl⟩
  rw [eA, ← hF]
  obtain ⟨repC, hrep⟩ : ∃ repC : Value → Array Value, repC = fun v => repA 3 fr ab 0 0 0 0 nilV v nilV 0 0 nilV 0 0 nilV := ⟨_, rfl⟩
  have H := Lib.hid h
  have HX := Lib.hid hx
  have HBX := Lib.hid hB
  have HNE := Lib.hid hne
  have HGL : Hid (g < w.heap.size ∧ gx < w.heap.size) := ⟨h.lt, hx.lt⟩
  have HBG : Hid (B ≤ g) := h.1
  have HEA := Lib.hid eA
  have HSL : Hid (sA.1.length < F) := by show _ < _; omega
  have HFB : Hid (F ≤ 1201) := by show _ ≤ _; omega
  clear h hx hB hne eA bA hsl hbl hF
  go_enter Try.func53, Try.ntmps53
  go_upto_region 1 with (first
    | (go_at_call 50
       refine (word_z H.out HEA.out).mono ?_
       rintro e0 w1 ⟨rfl, hr1, hs1⟩
       have hx1 := hs1.blk HX.out (fun e => HNE.out e.symm)
       have k2 : w1.cell? ⟨gx, 2, none⟩ = some (.int .u32 0) := hx1.cell 2
       have f2 := hx1.frozen 2
       have HR1 := Lib.hid hr1
       have HS1 := Lib.hid hs1
       have HX1 := Lib.hid hx1
       clear hr1 hs1 hx1))
  clear k2 f2
  obtain ⟨w2, hw2⟩ : ∃ w2, w2 = w1.setCell ⟨gx, 2, none⟩ (.int .u32 (ab : Int)) := ⟨_, rfl⟩
  have hx2 : Blk w2 gx 46 (repC nilV) := by rw [hw2, hrep]; exact HX1.out.set_ 2 _
  have HR2 : Hid (RdSt w2 B g sA) := by show RdSt _ _ _ _; rw [hw2]; exact HR1.out.far (p := ⟨gx, 2, none⟩) HBX.out (fun e => HNE.out e.symm) _
  have HS2 : Hid (Sv (fun j => j = g ∨ j = gx) w w2) := by show Sv _ _ _; rw [hw2]; exact (HS1.out.mono (fun _ _ e => .inl e)).set (p := ⟨gx, 2, none⟩) (.inl (.inr rfl)) _
  have k0 : w2.cell? ⟨gx, 0, none⟩ = some (.int .i64 3) := by have := hx2.cell 0; rw [hrep] at this; exact this
  have HX2 := Lib.hid hx2
  have HREP := Lib.hid hrep
  have HC8 : Hid (∀ v : Value, (repC v)[8]? = some v) := fun v => by rw [hrep]; rfl
  have HS8 : Hid (∀ v u : Value, (repC v).setIfInBounds 8 u = repC u) := fun v u => by rw [hrep]; rfl
  rw [← hw2]
  clear hw2 hx2 hrep HR1 HS1 HX1 HX H
  go_upto_region 4 with fail
  go_loopg [4] F (fun gg v4 wx => ∃ (acc : List (List Nat)) (s1 : RS) (fuel al : Nat) (Ao : Option Addr) (co : Nat),
    ((v4 = .bool true ∧ gg = fuel ∧ s1.1.length < fuel ∧ fuel + al ≤ F ∧ doS pairS F sA = (acc ++ (doS pairS fuel s1).1, (doS pairS fuel s1).2)) ∨ (v4 = .bool false ∧ gg = 0 ∧ doS pairS F sA = (acc, s1))) ∧
    al = acc.length ∧ al ≤ F ∧ RdSt wx B g s1 ∧ Blk wx gx 46 (repC (.slice Ao al co)) ∧ wx.ownsRow w.heap.size 57 2 (.slice Ao al co) al (rowC ksP acc) ∧ Sv (fun j => j = g ∨ j = gx) w wx)
  case atStart => exact ⟨[], sA, F, 0, none, 0, .inl ⟨rfl, rfl, HSL.out, by omega, rfl⟩, rfl, by omega, HR2.out, HX2.out, World.ownsRow_nil _ _ _ _, HS2.out⟩
  case round =>
    obtain ⟨acc, s1, fuel, al, Ao, co, hcase, hal, halF, hr, hx, ho, hs⟩ := hrel
    clear HR2 HX2 HS2
    have HR := Lib.hid hr
    have HX := Lib.hid hx
    have HO := Lib.hid ho
    have HS := Lib.hid hs
    have HAL := Lib.hid hal
    clear hr hx ho hs hal
    rcases hcase with ⟨rfl, hgf, hfu, hfal, hdo⟩ | ⟨rfl, rfl, hdo⟩
    · have hgf2 := hgf.symm
      subst hgf2
      clear hgf
      have HDO := Lib.hid hdo
      obtain ⟨x1, s', e1, b1⟩ := numS_x 2 s1 (by decide)
      obtain ⟨x2, s2, e2, b2⟩ := numS_x 2 s' (by decide)
      have hp : pairS s1 = ([x1, x2], s2) := by rw [pairS]; simp only [e1, e2]
      have HP := Lib.hid hp
      have hx1 : (x1 : Int) < 65536 := by omega
      have hx2 : (x2 : Int) < 65536 := by omega
      have hx1w : IntKind.u16.wrap (x1 : Int) = (x1 : Int) := by rw [IntKind.wrap_u16]; omega
      have hx2w : IntKind.u16.wrap (x2 : Int) = (x2 : Int) := by rw [IntKind.wrap_u16]; omega
      have HE1 := Lib.hid e1
      have HE2 := Lib.hid e2
      have HFU := Lib.hid hfu
      have hFb := HFB.out
      clear hdo e1 e2 hp b1 b2 hfu k0
      go_upto_region 6 with fail
      have HR0 : Hid (RdSt (World.drew wr) B g s1) := HR.out.below (bdrew (Below.refl _ _))
      have HX0 : Hid (Blk (World.drew wr) gx 46 (repC (.slice Ao al co))) := HX.out
      have HO0 : Hid (World.ownsRow (World.drew wr) w.heap.size 57 2 (.slice Ao al co) al (rowC ksP acc)) := HO.out
      have HS0 : Hid (Sv (fun j => j = g ∨ j = gx) w (World.drew wr)) := HS.out.drew
      refine wp_region_held_drew (S := (fun _ => True)) (by kernel_rfl) (trivial) (fun hHeld => ?_)
      refine wpAnyH_takeAt (i := 0) (v := (.pointer (some ⟨gx, 0, none⟩))) rfl (by kernel_rfl) (by kernel_rfl) (by kernel_rfl) (fun _ _ _ h => h) rfl (Or.inl ⟨by rfl, fun w' hS => ?_⟩) hHeld ?_
      · go_simp
      simp only [List.set_cons_zero, List.set_cons_succ]
      refine wpAnyH_takeAt (i := 1) (v := (.pointer (some ⟨gx, 0, none⟩))) rfl (by kernel_rfl) (by kernel_rfl) (by kernel_rfl) (fun _ _ _ h => h) rfl (Or.inl ⟨by rfl, fun w' hS => ?_⟩) hHeld ?_
      · go_simp
      simp only [List.set_cons_zero, List.set_cons_succ]
      refine wpAnyH_takeAt (i := 2) (v := (.pointer (some ⟨gx, 0, none⟩))) rfl (by kernel_rfl) (by kernel_rfl) (by kernel_rfl) (fun _ _ _ h => h) rfl (Or.inl ⟨by rfl, fun w' hS => ?_⟩) hHeld ?_
      · go_simp
      simp only [List.set_cons_zero, List.set_cons_succ]
      refine wpAnyH_takeAt (i := 3) (v := (.pointer (some ⟨gx, 8, none⟩))) rfl (by kernel_rfl) (by kernel_rfl) (by kernel_rfl) (fun _ _ _ h => h) rfl (Or.inl ⟨by rfl, fun w' hS => ?_⟩) hHeld ?_
      · go_simp
      simp only [List.set_cons_zero, List.set_cons_succ]
      refine wpAnyH_takeAt (i := 5) (v := (.pointer (some ⟨g, 0, none⟩))) rfl (by kernel_rfl) (by kernel_rfl) (by kernel_rfl) (fun _ _ _ h => h) rfl (Or.inl ⟨by rfl, fun w' hS => ?_⟩) hHeld ?_
      · go_simp
      simp only [List.set_cons_zero, List.set_cons_succ]
      refine wpAnyH_takeAt (i := 8) (v := (.pointer (some ⟨g, 0, none⟩))) rfl (by kernel_rfl) (by kernel_rfl) (by kernel_rfl) (fun _ _ _ h => h) rfl (Or.inl ⟨by rfl, fun w' hS => ?_⟩) hHeld ?_
      · go_simp
      simp only [List.set_cons_zero, List.set_cons_succ]
      refine wpAnyH_ready (rs := [4, 6]) (by kernel_rfl) (by simp) (AllReadyH.cons rfl (fun K' hK => ?_) (AllReadyH.cons rfl (fun K' hK => ?_) AllReadyH.nil))
      · have hcell : (World.drew wr).cell? ⟨gx, 8, none⟩ = some (.slice Ao al co) := ((HX0.out.cell 8).trans (HC8.out _))
        go_simp
        clear hcell
        refine hK.out _ _ trivial (fun hHeld' => ?_)
        clear hK hHeld
        have hHeld := hHeld'
        clear hHeld'
        refine wpAnyH_ready (rs := [6]) (by kernel_rfl) (by simp) (AllReadyH.cons rfl (fun K' hK => ?_) AllReadyH.nil)
        go_simp
        go_at_call 51
        refine (num_z HR0.out (k := 2) rfl (by decide) (by decide) HE1.out).mono ?_
        rintro e0 w_1 ⟨rfl, hr_1, hs_1⟩
        go_wp2_with fail
        have HR_1 := Lib.hid hr_1
        have HX_1 := Lib.hid (hs_1.blk HX0.out (fun e => HNE.out e.symm))
        have HO_1 := Lib.hid (hs_1.own HO0.out (fun g' hg' e => by have := (HO0.out.lt g' hg').1; have := HGL.out; omega))
        have HS_1 : Hid (Sv (fun j => j = g ∨ j = gx) w w_1) := HS0.out.trans hs_1 (fun _ _ e => .inl e)
        clear hr_1 hs_1
        refine hK.out _ _ trivial (fun hHeld' => ?_)
        clear hK hHeld
        have hHeld := hHeld'
        clear hHeld'
        refine wpAnyH_takeAt (i := 7) (v := (.int .u16 (x1 : Int))) rfl (by kernel_rfl) (by kernel_rfl) (by kernel_rfl) (fun _ _ _ h => h) rfl (Or.inl ⟨by rfl, fun w' hS => ?_⟩) hHeld ?_
        · go_simp
        simp only [List.set_cons_zero, List.set_cons_succ]
        refine wpAnyH_ready (rs := [9]) (by kernel_rfl) (by simp) (AllReadyH.cons rfl (fun K' hK => ?_) AllReadyH.nil)
        go_simp
        go_at_call 51
        refine (num_z HR_1.out (k := 2) rfl (by decide) (by decide) HE2.out).mono ?_
        rintro e0 w_2 ⟨rfl, hr_2, hs_2⟩
        go_wp2_with fail
        have HR_2 := Lib.hid hr_2
        have HX_2 := Lib.hid (hs_2.blk HX_1.out (fun e => HNE.out e.symm))
        have HO_2 := Lib.hid (hs_2.own HO_1.out (fun g' hg' e => by have := (HO_1.out.lt g' hg').1; have := HGL.out; omega))
        have HS_2 : Hid (Sv (fun j => j = g ∨ j = gx) w w_2) := HS_1.out.trans hs_2 (fun _ _ e => .inl e)
        clear hr_2 hs_2
        refine hK.out _ _ trivial (fun hHeld' => ?_)
        clear hK hHeld
        have hHeld := hHeld'
        clear hHeld'
        refine wpAnyH_takeAt (i := 10) (v := (.int .u16 (x2 : Int))) rfl (by kernel_rfl) (by kernel_rfl) (by kernel_rfl) (fun _ _ _ h => h) rfl (Or.inl ⟨by rfl, fun w' hS => ?_⟩) hHeld ?_
        · go_simp
        simp only [List.set_cons_zero, List.set_cons_succ]
        refine wpAnyH_takeAt (i := 11) (v := (.agg #[(.int .u16 (x1 : Int)), (.int .u16 (x2 : Int))])) rfl (by kernel_rfl) (by kernel_rfl) (by kernel_rfl) (fun _ _ _ h => h) rfl (Or.inl ⟨by rfl, fun w' hS => ?_⟩) hHeld ?_
        · go_simp
        simp only [List.set_cons_zero, List.set_cons_succ]
        refine wpAnyH_ready (rs := [12]) (by kernel_rfl) (by simp) (AllReadyH.cons rfl (fun K' hK => ?_) AllReadyH.nil)
        go_simp
        have HR_3 : Hid (RdSt (World.alloc w_2 (.cells #[(.int .u16 (x1 : Int)), (.int .u16 (x2 : Int))] 57)) B g s2) := HR_2.out.below (balloc (Below.refl _ _) _)
        have HX_3 : Hid (Blk (World.alloc w_2 (.cells #[(.int .u16 (x1 : Int)), (.int .u16 (x2 : Int))] 57)) gx 46 (repC (.slice Ao al co))) := Blk.alloc HX_2.out _
        have HO_3 : Hid (World.ownsRow (World.alloc w_2 (.cells #[(.int .u16 (x1 : Int)), (.int .u16 (x2 : Int))] 57)) w.heap.size 57 2 (.slice Ao al co) al (rowC ksP acc)) := HO_2.out.alloc _
        have HS_3 : Hid (Sv (fun j => j = g ∨ j = gx) w (World.alloc w_2 (.cells #[(.int .u16 (x1 : Int)), (.int .u16 (x2 : Int))] 57))) := HS_2.out.alloc _
        have HN_3 : Hid (Reads (World.alloc w_2 (.cells #[(.int .u16 (x1 : Int)), (.int .u16 (x2 : Int))] 57)) (World.heap (World.alloc w_2 (.cells #[(.int .u16 (x1 : Int)), (.int .u16 (x2 : Int))] 57))).size 2 (some ⟨(World.heap w_2).size, 0, none⟩) 1 (rowC ksP [[x1, x2]])) := reads_blk (Blk.newAt rfl _ _) rfl
        refine hK.out _ _ trivial (fun hHeld' => ?_)
        clear hK hHeld
        have hHeld := hHeld'
        clear hHeld'
        refine wpAnyH_ready (rs := [13]) (by kernel_rfl) (by simp) (AllReadyH.cons rfl (fun K' hK => ?_) AllReadyH.nil)
        refine step_append_any _ (by rfl) (.tmp 30) (.tmp 38) _ (by rfl) w.heap.size 57 iP _ 2 4 Try.underlying43 hiP hzaP hzbP hzcP rfl (by omega) (.slice Ao al co) al (rowC ksP acc) (by rfl) HO_3.out
          _ (some ⟨(World.heap w_2).size, 0, none⟩) 1 1 (rowC ksP [[x1, x2]]) (by rfl) HN_3.out (rowC_cell _ _) (by simp only [maxLen]; omega) (by omega) HS_3.out.size ?_
        intro v_4 w_4 hown_4 hg_4 hv_4
        obtain ⟨A_4, c_4, rfl⟩ := own_slice hown_4
        have HR_4 : Hid (RdSt w_4 B g s2) := HR_3.out.sv (M := fun k => (Value.slice Ao al co).ownBlock = some k) ((Sv.refl _ _).grown hg_4 (fun g e => .inl e)) (fun k e => by have := (HO_3.out.lt k e).1; have := HGL.out; have := HBG.out; omega) (fun e => by have := (HO_3.out.lt g e).1; have := HGL.out; omega)
        have HX_4 : Hid (Blk w_4 gx 46 (repC (.slice Ao al co))) := Blk.grown HX_3.out hg_4 (Ne.symm (own_blk_ne HO_3.out HX_3.out (by decide)))
        have HS_4 : Hid (Sv (fun j => j = g ∨ j = gx) w w_4) := HS_3.out.grown hg_4 (fun g' e => .inr (HO_3.out.lt g' e).1)
        have HO_4 := Lib.hid hown_4
        clear hown_4 hg_4 hv_4
        refine hK.out _ _ trivial (fun hHeld' => ?_)
        clear hK hHeld
        have hHeld := hHeld'
        clear hHeld'
        refine wpAnyH_putAt rfl ?_
        simp only [List.set_cons_zero, List.set_cons_succ]
        refine wpAnyH_takeAt (i := 14) (v := (.pointer (some ⟨gx, 0, none⟩))) rfl (by kernel_rfl) (by kernel_rfl) (by kernel_rfl) (fun _ _ _ h => h) rfl (Or.inl ⟨by rfl, fun w' hS => ?_⟩) hHeld ?_
        · go_simp
        simp only [List.set_cons_zero, List.set_cons_succ]
        refine wpAnyH_takeAt (i := 15) (v := (.pointer (some ⟨gx, 8, none⟩))) rfl (by kernel_rfl) (by kernel_rfl) (by kernel_rfl) (fun _ _ _ h => h) rfl (Or.inl ⟨by rfl, fun w' hS => ?_⟩) hHeld ?_
        · go_simp
        simp only [List.set_cons_zero, List.set_cons_succ]
        refine wpAnyH_ready (rs := [16]) (by kernel_rfl) (by simp) (AllReadyH.cons rfl (fun K' hK => ?_) AllReadyH.nil)
        have hcell : w_4.cell? ⟨gx, 8, none⟩ = some (.slice Ao al co) := ((HX_4.out.cell 8).trans (HC8.out _))
        have hfree : w_4.frozen? ⟨gx, 8, none⟩ = false := HX_4.out.frozen 8
        go_simp
        clear hcell hfree
        refine hK.out _ _ trivial (fun hHeld' => ?_)
        clear hK hHeld
        have hHeld := hHeld'
        clear hHeld'
        refine wpAnyH_done (by kernel_rfl) ?_ _
        have HXF : Hid (Blk (World.setCell w_4 ⟨gx, 8, none⟩ (.slice A_4 (al + 1) c_4)) gx 46 (repC (.slice A_4 (al + 1) c_4))) := by show Blk _ _ _ _; rw [← HS8.out (.slice Ao al co)]; exact Blk.set_ HX_4.out 8 _
        have HRF : Hid (RdSt (World.setCell w_4 ⟨gx, 8, none⟩ (.slice A_4 (al + 1) c_4)) B g s2) := HR_4.out.far (p := ⟨gx, 8, none⟩) HBX.out (fun e => HNE.out e.symm) _
        have HSF : Hid (Sv (fun j => j = g ∨ j = gx) w (World.setCell w_4 ⟨gx, 8, none⟩ (.slice A_4 (al + 1) c_4))) := HS_4.out.set (p := ⟨gx, 8, none⟩) (.inl (.inr rfl)) _
        have HOF : Hid (World.ownsRow (World.setCell w_4 ⟨gx, 8, none⟩ (.slice A_4 (al + 1) c_4)) w.heap.size 57 2 (.slice A_4 (al + 1) c_4) (al + 1) (rowC ksP (acc ++ [[x1, x2]]))) := by
          show World.ownsRow _ _ _ _ _ _ _
          rw [rowC_append]
          exact own_set HO_4.out (own_blk_ne HO_4.out HX_4.out (by decide)) 8 _
        generalize (World.setCell w_4 ⟨gx, 8, none⟩ (.slice A_4 (al + 1) c_4)) = wf at *
        obtain ⟨hq1, hq2, Aq, cq, hq3, hq4⟩ := HRF.out
        have hcg : wf.cell? ⟨g, 0, none⟩ = some (.slice Aq s2.1.length cq) := hq3.cell 0
        obtain ⟨q, hq⟩ : ∃ q, q = s2.1.length := ⟨_, rfl⟩
        rw [← hq] at hcg
        have HQ := Lib.hid hq
        clear hq1 hq2 hq3 hq4 hq
        by_cases hq0 : 0 < q
        · have hq1 : (0 : Int) < (q : Int) := by omega
          go_wp2_with fail
          go_roundg (fuel - 1)
          case measure => have := HFU.out; omega
          case rel =>
            have hne : s2.1 ≠ [] := List.length_pos_iff.1 (by rw [← HQ.out]; exact hq0)
            have hsh := shr_pair s1 (by rw [HP.out]; exact hne)
            rw [HP.out] at hsh
            have hsh' : s2.1.length < s1.1.length := hsh
            have hfu := HFU.out
            obtain ⟨f', hf'⟩ : ∃ f', fuel = f' + 1 := ⟨fuel - 1, by omega⟩
            have hdo := HDO.out
            rw [hf', doS_more f' HP.out hne] at hdo
            refine ⟨acc ++ [[x1, x2]], s2, fuel - 1, al + 1, A_4, c_4, .inl ⟨rfl, rfl, by omega, by omega, ?_⟩, by rw [List.length_append, ← HAL.out]; rfl, by omega, HRF.out, HXF.out, HOF.out, HSF.out⟩
            rw [hdo, show fuel - 1 = f' by omega, List.append_assoc]
            rfl
        · have hq1 : ¬ (0 : Int) < (q : Int) := by omega
          go_wp2_with fail
          go_roundg 0
          case measure => have := HFU.out; omega
          case rel =>
            have he : s2.1 = [] := List.eq_nil_of_length_eq_zero (by rw [← HQ.out]; omega)
            have hfu := HFU.out
            obtain ⟨f', hf'⟩ : ∃ f', fuel = f' + 1 := ⟨fuel - 1, by omega⟩
            have hdo := HDO.out
            rw [hf', doS_end f' HP.out he] at hdo
            exact ⟨acc ++ [[x1, x2]], s2, 0, al + 1, A_4, c_4, .inr ⟨rfl, rfl, hdo⟩, by rw [List.length_append, ← HAL.out]; rfl, by omega, HRF.out, HXF.out, HOF.out, HSF.out⟩
      · go_simp
        go_at_call 51
        refine (num_z HR0.out (k := 2) rfl (by decide) (by decide) HE1.out).mono ?_
        rintro e0 w_6 ⟨rfl, hr_6, hs_6⟩
        go_wp2_with fail
        have HR_6 := Lib.hid hr_6
        have HX_6 := Lib.hid (hs_6.blk HX0.out (fun e => HNE.out e.symm))
        have HO_6 := Lib.hid (hs_6.own HO0.out (fun g' hg' e => by have := (HO0.out.lt g' hg').1; have := HGL.out; omega))
        have HS_6 : Hid (Sv (fun j => j = g ∨ j = gx) w w_6) := HS0.out.trans hs_6 (fun _ _ e => .inl e)
        clear hr_6 hs_6
        refine hK.out _ _ trivial (fun hHeld' => ?_)
        clear hK hHeld
        have hHeld := hHeld'
        clear hHeld'
        refine wpAnyH_takeAt (i := 7) (v := (.int .u16 (x1 : Int))) rfl (by kernel_rfl) (by kernel_rfl) (by kernel_rfl) (fun _ _ _ h => h) rfl (Or.inl ⟨by rfl, fun w' hS => ?_⟩) hHeld ?_
        · go_simp
        simp only [List.set_cons_zero, List.set_cons_succ]
        refine wpAnyH_ready (rs := [4, 9]) (by kernel_rfl) (by simp) (AllReadyH.cons rfl (fun K' hK => ?_) (AllReadyH.cons rfl (fun K' hK => ?_) AllReadyH.nil))
        · have hcell : w_6.cell? ⟨gx, 8, none⟩ = some (.slice Ao al co) := ((HX_6.out.cell 8).trans (HC8.out _))
          go_simp
          clear hcell
          refine hK.out _ _ trivial (fun hHeld' => ?_)
          clear hK hHeld
          have hHeld := hHeld'
          clear hHeld'
          refine wpAnyH_ready (rs := [9]) (by kernel_rfl) (by simp) (AllReadyH.cons rfl (fun K' hK => ?_) AllReadyH.nil)
          go_simp
          go_at_call 51
          refine (num_z HR_6.out (k := 2) rfl (by decide) (by decide) HE2.out).mono ?_
          rintro e0 w_7 ⟨rfl, hr_7, hs_7⟩
          go_wp2_with fail
          have HR_7 := Lib.hid hr_7
          have HX_7 := Lib.hid (hs_7.blk HX_6.out (fun e => HNE.out e.symm))
          have HO_7 := Lib.hid (hs_7.own HO_6.out (fun g' hg' e => by have := (HO_6.out.lt g' hg').1; have := HGL.out; omega))
          have HS_7 : Hid (Sv (fun j => j = g ∨ j = gx) w w_7) := HS_6.out.trans hs_7 (fun _ _ e => .inl e)
          clear hr_7 hs_7
          refine hK.out _ _ trivial (fun hHeld' => ?_)
          clear hK hHeld
          have hHeld := hHeld'
          clear hHeld'
          refine wpAnyH_takeAt (i := 10) (v := (.int .u16 (x2 : Int))) rfl (by kernel_rfl) (by kernel_rfl) (by kernel_rfl) (fun _ _ _ h => h) rfl (Or.inl ⟨by rfl, fun w' hS => ?_⟩) hHeld ?_
          · go_simp
          simp only [List.set_cons_zero, List.set_cons_succ]
          refine wpAnyH_takeAt (i := 11) (v := (.agg #[(.int .u16 (x1 : Int)), (.int .u16 (x2 : Int))])) rfl (by kernel_rfl) (by kernel_rfl) (by kernel_rfl) (fun _ _ _ h => h) rfl (Or.inl ⟨by rfl, fun w' hS => ?_⟩) hHeld ?_
          · go_simp
          simp only [List.set_cons_zero, List.set_cons_succ]
          refine wpAnyH_ready (rs := [12]) (by kernel_rfl) (by simp) (AllReadyH.cons rfl (fun K' hK => ?_) AllReadyH.nil)
          go_simp
          have HR_8 : Hid (RdSt (World.alloc w_7 (.cells #[(.int .u16 (x1 : Int)), (.int .u16 (x2 : Int))] 57)) B g s2) := HR_7.out.below (balloc (Below.refl _ _) _)
          have HX_8 : Hid (Blk (World.alloc w_7 (.cells #[(.int .u16 (x1 : Int)), (.int .u16 (x2 : Int))] 57)) gx 46 (repC (.slice Ao al co))) := Blk.alloc HX_7.out _
          have HO_8 : Hid (World.ownsRow (World.alloc w_7 (.cells #[(.int .u16 (x1 : Int)), (.int .u16 (x2 : Int))] 57)) w.heap.size 57 2 (.slice Ao al co) al (rowC ksP acc)) := HO_7.out.alloc _
          have HS_8 : Hid (Sv (fun j => j = g ∨ j = gx) w (World.alloc w_7 (.cells #[(.int .u16 (x1 : Int)), (.int .u16 (x2 : Int))] 57))) := HS_7.out.alloc _
          have HN_8 : Hid (Reads (World.alloc w_7 (.cells #[(.int .u16 (x1 : Int)), (.int .u16 (x2 : Int))] 57)) (World.heap (World.alloc w_7 (.cells #[(.int .u16 (x1 : Int)), (.int .u16 (x2 : Int))] 57))).size 2 (some ⟨(World.heap w_7).size, 0, none⟩) 1 (rowC ksP [[x1, x2]])) := reads_blk (Blk.newAt rfl _ _) rfl
          refine hK.out _ _ trivial (fun hHeld' => ?_)
          clear hK hHeld
          have hHeld := hHeld'
          clear hHeld'
          refine wpAnyH_ready (rs := [13]) (by kernel_rfl) (by simp) (AllReadyH.cons rfl (fun K' hK => ?_) AllReadyH.nil)
          refine step_append_any _ (by rfl) (.tmp 30) (.tmp 38) _ (by rfl) w.heap.size 57 iP _ 2 4 Try.underlying43 hiP hzaP hzbP hzcP rfl (by omega) (.slice Ao al co) al (rowC ksP acc) (by rfl) HO_8.out
            _ (some ⟨(World.heap w_7).size, 0, none⟩) 1 1 (rowC ksP [[x1, x2]]) (by rfl) HN_8.out (rowC_cell _ _) (by simp only [maxLen]; omega) (by omega) HS_8.out.size ?_
          intro v_9 w_9 hown_9 hg_9 hv_9
          obtain ⟨A_9, c_9, rfl⟩ := own_slice hown_9
          have HR_9 : Hid (RdSt w_9 B g s2) := HR_8.out.sv (M := fun k => (Value.slice Ao al co).ownBlock = some k) ((Sv.refl _ _).grown hg_9 (fun g e => .inl e)) (fun k e => by have := (HO_8.out.lt k e).1; have := HGL.out; have := HBG.out; omega) (fun e => by have := (HO_8.out.lt g e).1; have := HGL.out; omega)
          have HX_9 : Hid (Blk w_9 gx 46 (repC (.slice Ao al co))) := Blk.grown HX_8.out hg_9 (Ne.symm (own_blk_ne HO_8.out HX_8.out (by decide)))
          have HS_9 : Hid (Sv (fun j => j = g ∨ j = gx) w w_9) := HS_8.out.grown hg_9 (fun g' e => .inr (HO_8.out.lt g' e).1)
          have HO_9 := Lib.hid hown_9
          clear hown_9 hg_9 hv_9
          refine hK.out _ _ trivial (fun hHeld' => ?_)
          clear hK hHeld
          have hHeld := hHeld'
          clear hHeld'
          refine wpAnyH_putAt rfl ?_
          simp only [List.set_cons_zero, List.set_cons_succ]
          refine wpAnyH_takeAt (i := 14) (v := (.pointer (some ⟨gx, 0, none⟩))) rfl (by kernel_rfl) (by kernel_rfl) (by kernel_rfl) (fun _ _ _ h => h) rfl (Or.inl ⟨by rfl, fun w' hS => ?_⟩) hHeld ?_
          · go_simp
          simp only [List.set_cons_zero, List.set_cons_succ]
          refine wpAnyH_takeAt (i := 15) (v := (.pointer (some ⟨gx, 8, none⟩))) rfl (by kernel_rfl) (by kernel_rfl) (by kernel_rfl) (fun _ _ _ h => h) rfl (Or.inl ⟨by rfl, fun w' hS => ?_⟩) hHeld ?_
          · go_simp
          simp only [List.set_cons_zero, List.set_cons_succ]
          refine wpAnyH_ready (rs := [16]) (by kernel_rfl) (by simp) (AllReadyH.cons rfl (fun K' hK => ?_) AllReadyH.nil)
          have hcell : w_9.cell? ⟨gx, 8, none⟩ = some (.slice Ao al co) := ((HX_9.out.cell 8).trans (HC8.out _))
          have hfree : w_9.frozen? ⟨gx, 8, none⟩ = false := HX_9.out.frozen 8
          go_simp
          clear hcell hfree
          refine hK.out _ _ trivial (fun hHeld' => ?_)
          clear hK hHeld
          have hHeld := hHeld'
          clear hHeld'
          refine wpAnyH_done (by kernel_rfl) ?_ _
          have HXF : Hid (Blk (World.setCell w_9 ⟨gx, 8, none⟩ (.slice A_9 (al + 1) c_9)) gx 46 (repC (.slice A_9 (al + 1) c_9))) := by show Blk _ _ _ _; rw [← HS8.out (.slice Ao al co)]; exact Blk.set_ HX_9.out 8 _
          have HRF : Hid (RdSt (World.setCell w_9 ⟨gx, 8, none⟩ (.slice A_9 (al + 1) c_9)) B g s2) := HR_9.out.far (p := ⟨gx, 8, none⟩) HBX.out (fun e => HNE.out e.symm) _
          have HSF : Hid (Sv (fun j => j = g ∨ j = gx) w (World.setCell w_9 ⟨gx, 8, none⟩ (.slice A_9 (al + 1) c_9))) := HS_9.out.set (p := ⟨gx, 8, none⟩) (.inl (.inr rfl)) _
          have HOF : Hid (World.ownsRow (World.setCell w_9 ⟨gx, 8, none⟩ (.slice A_9 (al + 1) c_9)) w.heap.size 57 2 (.slice A_9 (al + 1) c_9) (al + 1) (rowC ksP (acc ++ [[x1, x2]]))) := by
            show World.ownsRow _ _ _ _ _ _ _
            rw [rowC_append]
            exact own_set HO_9.out (own_blk_ne HO_9.out HX_9.out (by decide)) 8 _
          generalize (World.setCell w_9 ⟨gx, 8, none⟩ (.slice A_9 (al + 1) c_9)) = wf at *
          obtain ⟨hq1, hq2, Aq, cq, hq3, hq4⟩ := HRF.out
          have hcg : wf.cell? ⟨g, 0, none⟩ = some (.slice Aq s2.1.length cq) := hq3.cell 0
          obtain ⟨q, hq⟩ : ∃ q, q = s2.1.length := ⟨_, rfl⟩
          rw [← hq] at hcg
          have HQ := Lib.hid hq
          clear hq1 hq2 hq3 hq4 hq
          by_cases hq0 : 0 < q
          · have hq1 : (0 : Int) < (q : Int) := by omega
            go_wp2_with fail
            go_roundg (fuel - 1)
            case measure => have := HFU.out; omega
            case rel =>
              have hne : s2.1 ≠ [] := List.length_pos_iff.1 (by rw [← HQ.out]; exact hq0)
              have hsh := shr_pair s1 (by rw [HP.out]; exact hne)
              rw [HP.out] at hsh
              have hsh' : s2.1.length < s1.1.length := hsh
              have hfu := HFU.out
              obtain ⟨f', hf'⟩ : ∃ f', fuel = f' + 1 := ⟨fuel - 1, by omega⟩
              have hdo := HDO.out
              rw [hf', doS_more f' HP.out hne] at hdo
              refine ⟨acc ++ [[x1, x2]], s2, fuel - 1, al + 1, A_9, c_9, .inl ⟨rfl, rfl, by omega, by omega, ?_⟩, by rw [List.length_append, ← HAL.out]; rfl, by omega, HRF.out, HXF.out, HOF.out, HSF.out⟩
              rw [hdo, show fuel - 1 = f' by omega, List.append_assoc]
              rfl
          · have hq1 : ¬ (0 : Int) < (q : Int) := by omega
            go_wp2_with fail
            go_roundg 0
            case measure => have := HFU.out; omega
            case rel =>
              have he : s2.1 = [] := List.eq_nil_of_length_eq_zero (by rw [← HQ.out]; omega)
              have hfu := HFU.out
              obtain ⟨f', hf'⟩ : ∃ f', fuel = f' + 1 := ⟨fuel - 1, by omega⟩
              have hdo := HDO.out
              rw [hf', doS_end f' HP.out he] at hdo
              exact ⟨acc ++ [[x1, x2]], s2, 0, al + 1, A_9, c_9, .inr ⟨rfl, rfl, hdo⟩, by rw [List.length_append, ← HAL.out]; rfl, by omega, HRF.out, HXF.out, HOF.out, HSF.out⟩
        · go_simp
          go_at_call 51
          refine (num_z HR_6.out (k := 2) rfl (by decide) (by decide) HE2.out).mono ?_
          rintro e0 w_11 ⟨rfl, hr_11, hs_11⟩
          go_wp2_with fail
          have HR_11 := Lib.hid hr_11
          have HX_11 := Lib.hid (hs_11.blk HX_6.out (fun e => HNE.out e.symm))
          have HO_11 := Lib.hid (hs_11.own HO_6.out (fun g' hg' e => by have := (HO_6.out.lt g' hg').1; have := HGL.out; omega))
          have HS_11 : Hid (Sv (fun j => j = g ∨ j = gx) w w_11) := HS_6.out.trans hs_11 (fun _ _ e => .inl e)
          clear hr_11 hs_11
          refine hK.out _ _ trivial (fun hHeld' => ?_)
          clear hK hHeld
          have hHeld := hHeld'
          clear hHeld'
          refine wpAnyH_takeAt (i := 10) (v := (.int .u16 (x2 : Int))) rfl (by kernel_rfl) (by kernel_rfl) (by kernel_rfl) (fun _ _ _ h => h) rfl (Or.inl ⟨by rfl, fun w' hS => ?_⟩) hHeld ?_
          · go_simp
          simp only [List.set_cons_zero, List.set_cons_succ]
          refine wpAnyH_takeAt (i := 11) (v := (.agg #[(.int .u16 (x1 : Int)), (.int .u16 (x2 : Int))])) rfl (by kernel_rfl) (by kernel_rfl) (by kernel_rfl) (fun _ _ _ h => h) rfl (Or.inl ⟨by rfl, fun w' hS => ?_⟩) hHeld ?_
          · go_simp
          simp only [List.set_cons_zero, List.set_cons_succ]
          refine wpAnyH_ready (rs := [4, 12]) (by kernel_rfl) (by simp) (AllReadyH.cons rfl (fun K' hK => ?_) (AllReadyH.cons rfl (fun K' hK => ?_) AllReadyH.nil))
          · have hcell : w_11.cell? ⟨gx, 8, none⟩ = some (.slice Ao al co) := ((HX_11.out.cell 8).trans (HC8.out _))
            go_simp
            clear hcell
            refine hK.out _ _ trivial (fun hHeld' => ?_)
            clear hK hHeld
            have hHeld := hHeld'
            clear hHeld'
            refine wpAnyH_ready (rs := [12]) (by kernel_rfl) (by simp) (AllReadyH.cons rfl (fun K' hK => ?_) AllReadyH.nil)
            go_simp
            have HR_12 : Hid (RdSt (World.alloc w_11 (.cells #[(.int .u16 (x1 : Int)), (.int .u16 (x2 : Int))] 57)) B g s2) := HR_11.out.below (balloc (Below.refl _ _) _)
            have HX_12 : Hid (Blk (World.alloc w_11 (.cells #[(.int .u16 (x1 : Int)), (.int .u16 (x2 : Int))] 57)) gx 46 (repC (.slice Ao al co))) := Blk.alloc HX_11.out _
            have HO_12 : Hid (World.ownsRow (World.alloc w_11 (.cells #[(.int .u16 (x1 : Int)), (.int .u16 (x2 : Int))] 57)) w.heap.size 57 2 (.slice Ao al co) al (rowC ksP acc)) := HO_11.out.alloc _
            have HS_12 : Hid (Sv (fun j => j = g ∨ j = gx) w (World.alloc w_11 (.cells #[(.int .u16 (x1 : Int)), (.int .u16 (x2 : Int))] 57))) := HS_11.out.alloc _
            have HN_12 : Hid (Reads (World.alloc w_11 (.cells #[(.int .u16 (x1 : Int)), (.int .u16 (x2 : Int))] 57)) (World.heap (World.alloc w_11 (.cells #[(.int .u16 (x1 : Int)), (.int .u16 (x2 : Int))] 57))).size 2 (some ⟨(World.heap w_11).size, 0, none⟩) 1 (rowC ksP [[x1, x2]])) := reads_blk (Blk.newAt rfl _ _) rfl
            refine hK.out _ _ trivial (fun hHeld' => ?_)
            clear hK hHeld
            have hHeld := hHeld'
            clear hHeld'
            refine wpAnyH_ready (rs := [13]) (by kernel_rfl) (by simp) (AllReadyH.cons rfl (fun K' hK => ?_) AllReadyH.nil)
            refine step_append_any _ (by rfl) (.tmp 30) (.tmp 38) _ (by rfl) w.heap.size 57 iP _ 2 4 Try.underlying43 hiP hzaP hzbP hzcP rfl (by omega) (.slice Ao al co) al (rowC ksP acc) (by rfl) HO_12.out
              _ (some ⟨(World.heap w_11).size, 0, none⟩) 1 1 (rowC ksP [[x1, x2]]) (by rfl) HN_12.out (rowC_cell _ _) (by simp only [maxLen]; omega) (by omega) HS_12.out.size ?_
            intro v_13 w_13 hown_13 hg_13 hv_13
            obtain ⟨A_13, c_13, rfl⟩ := own_slice hown_13
            have HR_13 : Hid (RdSt w_13 B g s2) := HR_12.out.sv (M := fun k => (Value.slice Ao al co).ownBlock = some k) ((Sv.refl _ _).grown hg_13 (fun g e => .inl e)) (fun k e => by have := (HO_12.out.lt k e).1; have := HGL.out; have := HBG.out; omega) (fun e => by have := (HO_12.out.lt g e).1; have := HGL.out; omega)
            have HX_13 : Hid (Blk w_13 gx 46 (repC (.slice Ao al co))) := Blk.grown HX_12.out hg_13 (Ne.symm (own_blk_ne HO_12.out HX_12.out (by decide)))
            have HS_13 : Hid (Sv (fun j => j = g ∨ j = gx) w w_13) := HS_12.out.grown hg_13 (fun g' e => .inr (HO_12.out.lt g' e).1)
            have HO_13 := Lib.hid hown_13
            clear hown_13 hg_13 hv_13
            refine hK.out _ _ trivial (fun hHeld' => ?_)
            clear hK hHeld
            have hHeld := hHeld'
            clear hHeld'
            refine wpAnyH_putAt rfl ?_
            simp only [List.set_cons_zero, List.set_cons_succ]
            refine wpAnyH_takeAt (i := 14) (v := (.pointer (some ⟨gx, 0, none⟩))) rfl (by kernel_rfl) (by kernel_rfl) (by kernel_rfl) (fun _ _ _ h => h) rfl (Or.inl ⟨by rfl, fun w' hS => ?_⟩) hHeld ?_
            · go_simp
            simp only [List.set_cons_zero, List.set_cons_succ]
            refine wpAnyH_takeAt (i := 15) (v := (.pointer (some ⟨gx, 8, none⟩))) rfl (by kernel_rfl) (by kernel_rfl) (by kernel_rfl) (fun _ _ _ h => h) rfl (Or.inl ⟨by rfl, fun w' hS => ?_⟩) hHeld ?_
            · go_simp
            simp only [List.set_cons_zero, List.set_cons_succ]
            refine wpAnyH_ready (rs := [16]) (by kernel_rfl) (by simp) (AllReadyH.cons rfl (fun K' hK => ?_) AllReadyH.nil)
            have hcell : w_13.cell? ⟨gx, 8, none⟩ = some (.slice Ao al co) := ((HX_13.out.cell 8).trans (HC8.out _))
            have hfree : w_13.frozen? ⟨gx, 8, none⟩ = false := HX_13.out.frozen 8
            go_simp
            clear hcell hfree
            refine hK.out _ _ trivial (fun hHeld' => ?_)
            clear hK hHeld
            have hHeld := hHeld'
            clear hHeld'
            refine wpAnyH_done (by kernel_rfl) ?_ _
            have HXF : Hid (Blk (World.setCell w_13 ⟨gx, 8, none⟩ (.slice A_13 (al + 1) c_13)) gx 46 (repC (.slice A_13 (al + 1) c_13))) := by show Blk _ _ _ _; rw [← HS8.out (.slice Ao al co)]; exact Blk.set_ HX_13.out 8 _
            have HRF : Hid (RdSt (World.setCell w_13 ⟨gx, 8, none⟩ (.slice A_13 (al + 1) c_13)) B g s2) := HR_13.out.far (p := ⟨gx, 8, none⟩) HBX.out (fun e => HNE.out e.symm) _
            have HSF : Hid (Sv (fun j => j = g ∨ j = gx) w (World.setCell w_13 ⟨gx, 8, none⟩ (.slice A_13 (al + 1) c_13))) := HS_13.out.set (p := ⟨gx, 8, none⟩) (.inl (.inr rfl)) _
            have HOF : Hid (World.ownsRow (World.setCell w_13 ⟨gx, 8, none⟩ (.slice A_13 (al + 1) c_13)) w.heap.size 57 2 (.slice A_13 (al + 1) c_13) (al + 1) (rowC ksP (acc ++ [[x1, x2]]))) := by
              show World.ownsRow _ _ _ _ _ _ _
              rw [rowC_append]
              exact own_set HO_13.out (own_blk_ne HO_13.out HX_13.out (by decide)) 8 _
            generalize (World.setCell w_13 ⟨gx, 8, none⟩ (.slice A_13 (al + 1) c_13)) = wf at *
            obtain ⟨hq1, hq2, Aq, cq, hq3, hq4⟩ := HRF.out
            have hcg : wf.cell? ⟨g, 0, none⟩ = some (.slice Aq s2.1.length cq) := hq3.cell 0
            obtain ⟨q, hq⟩ : ∃ q, q = s2.1.length := ⟨_, rfl⟩
            rw [← hq] at hcg
            have HQ := Lib.hid hq
            clear hq1 hq2 hq3 hq4 hq
            by_cases hq0 : 0 < q
            · have hq1 : (0 : Int) < (q : Int) := by omega
              go_wp2_with fail
              go_roundg (fuel - 1)
              case measure => have := HFU.out; omega
              case rel =>
                have hne : s2.1 ≠ [] := List.length_pos_iff.1 (by rw [← HQ.out]; exact hq0)
                have hsh := shr_pair s1 (by rw [HP.out]; exact hne)
                rw [HP.out] at hsh
                have hsh' : s2.1.length < s1.1.length := hsh
                have hfu := HFU.out
                obtain ⟨f', hf'⟩ : ∃ f', fuel = f' + 1 := ⟨fuel - 1, by omega⟩
                have hdo := HDO.out
                rw [hf', doS_more f' HP.out hne] at hdo
                refine ⟨acc ++ [[x1, x2]], s2, fuel - 1, al + 1, A_13, c_13, .inl ⟨rfl, rfl, by omega, by omega, ?_⟩, by rw [List.length_append, ← HAL.out]; rfl, by omega, HRF.out, HXF.out, HOF.out, HSF.out⟩
                rw [hdo, show fuel - 1 = f' by omega, List.append_assoc]
                rfl
            · have hq1 : ¬ (0 : Int) < (q : Int) := by omega
              go_wp2_with fail
              go_roundg 0
              case measure => have := HFU.out; omega
              case rel =>
                have he : s2.1 = [] := List.eq_nil_of_length_eq_zero (by rw [← HQ.out]; omega)
                have hfu := HFU.out
                obtain ⟨f', hf'⟩ : ∃ f', fuel = f' + 1 := ⟨fuel - 1, by omega⟩
                have hdo := HDO.out
                rw [hf', doS_end f' HP.out he] at hdo
                exact ⟨acc ++ [[x1, x2]], s2, 0, al + 1, A_13, c_13, .inr ⟨rfl, rfl, hdo⟩, by rw [List.length_append, ← HAL.out]; rfl, by omega, HRF.out, HXF.out, HOF.out, HSF.out⟩
          · go_simp
            have HR_15 : Hid (RdSt (World.alloc w_11 (.cells #[(.int .u16 (x1 : Int)), (.int .u16 (x2 : Int))] 57)) B g s2) := HR_11.out.below (balloc (Below.refl _ _) _)
            have HX_15 : Hid (Blk (World.alloc w_11 (.cells #[(.int .u16 (x1 : Int)), (.int .u16 (x2 : Int))] 57)) gx 46 (repC (.slice Ao al co))) := Blk.alloc HX_11.out _
            have HO_15 : Hid (World.ownsRow (World.alloc w_11 (.cells #[(.int .u16 (x1 : Int)), (.int .u16 (x2 : Int))] 57)) w.heap.size 57 2 (.slice Ao al co) al (rowC ksP acc)) := HO_11.out.alloc _
            have HS_15 : Hid (Sv (fun j => j = g ∨ j = gx) w (World.alloc w_11 (.cells #[(.int .u16 (x1 : Int)), (.int .u16 (x2 : Int))] 57))) := HS_11.out.alloc _
            have HN_15 : Hid (Reads (World.alloc w_11 (.cells #[(.int .u16 (x1 : Int)), (.int .u16 (x2 : Int))] 57)) (World.heap (World.alloc w_11 (.cells #[(.int .u16 (x1 : Int)), (.int .u16 (x2 : Int))] 57))).size 2 (some ⟨(World.heap w_11).size, 0, none⟩) 1 (rowC ksP [[x1, x2]])) := reads_blk (Blk.newAt rfl _ _) rfl
            refine hK.out _ _ trivial (fun hHeld' => ?_)
            clear hK hHeld
            have hHeld := hHeld'
            clear hHeld'
            refine wpAnyH_ready (rs := [4]) (by kernel_rfl) (by simp) (AllReadyH.cons rfl (fun K' hK => ?_) AllReadyH.nil)
            have hcell : (World.alloc w_11 (.cells #[(.int .u16 (x1 : Int)), (.int .u16 (x2 : Int))] 57)).cell? ⟨gx, 8, none⟩ = some (.slice Ao al co) := ((HX_15.out.cell 8).trans (HC8.out _))
            go_simp
            clear hcell
            refine hK.out _ _ trivial (fun hHeld' => ?_)
            clear hK hHeld
            have hHeld := hHeld'
            clear hHeld'
            refine wpAnyH_ready (rs := [13]) (by kernel_rfl) (by simp) (AllReadyH.cons rfl (fun K' hK => ?_) AllReadyH.nil)
            refine step_append_any _ (by rfl) (.tmp 30) (.tmp 38) _ (by rfl) w.heap.size 57 iP _ 2 4 Try.underlying43 hiP hzaP hzbP hzcP rfl (by omega) (.slice Ao al co) al (rowC ksP acc) (by rfl) HO_15.out
              _ (some ⟨(World.heap w_11).size, 0, none⟩) 1 1 (rowC ksP [[x1, x2]]) (by rfl) HN_15.out (rowC_cell _ _) (by simp only [maxLen]; omega) (by omega) HS_15.out.size ?_
            intro v_16 w_16 hown_16 hg_16 hv_16
            obtain ⟨A_16, c_16, rfl⟩ := own_slice hown_16
            have HR_16 : Hid (RdSt w_16 B g s2) := HR_15.out.sv (M := fun k => (Value.slice Ao al co).ownBlock = some k) ((Sv.refl _ _).grown hg_16 (fun g e => .inl e)) (fun k e => by have := (HO_15.out.lt k e).1; have := HGL.out; have := HBG.out; omega) (fun e => by have := (HO_15.out.lt g e).1; have := HGL.out; omega)
            have HX_16 : Hid (Blk w_16 gx 46 (repC (.slice Ao al co))) := Blk.grown HX_15.out hg_16 (Ne.symm (own_blk_ne HO_15.out HX_15.out (by decide)))
            have HS_16 : Hid (Sv (fun j => j = g ∨ j = gx) w w_16) := HS_15.out.grown hg_16 (fun g' e => .inr (HO_15.out.lt g' e).1)
            have HO_16 := Lib.hid hown_16
            clear hown_16 hg_16 hv_16
            refine hK.out _ _ trivial (fun hHeld' => ?_)
            clear hK hHeld
            have hHeld := hHeld'
            clear hHeld'
            refine wpAnyH_putAt rfl ?_
            simp only [List.set_cons_zero, List.set_cons_succ]
            refine wpAnyH_takeAt (i := 14) (v := (.pointer (some ⟨gx, 0, none⟩))) rfl (by kernel_rfl) (by kernel_rfl) (by kernel_rfl) (fun _ _ _ h => h) rfl (Or.inl ⟨by rfl, fun w' hS => ?_⟩) hHeld ?_
            · go_simp
            simp only [List.set_cons_zero, List.set_cons_succ]
            refine wpAnyH_takeAt (i := 15) (v := (.pointer (some ⟨gx, 8, none⟩))) rfl (by kernel_rfl) (by kernel_rfl) (by kernel_rfl) (fun _ _ _ h => h) rfl (Or.inl ⟨by rfl, fun w' hS => ?_⟩) hHeld ?_
            · go_simp
            simp only [List.set_cons_zero, List.set_cons_succ]
            refine wpAnyH_ready (rs := [16]) (by kernel_rfl) (by simp) (AllReadyH.cons rfl (fun K' hK => ?_) AllReadyH.nil)
            have hcell : w_16.cell? ⟨gx, 8, none⟩ = some (.slice Ao al co) := ((HX_16.out.cell 8).trans (HC8.out _))
            have hfree : w_16.frozen? ⟨gx, 8, none⟩ = false := HX_16.out.frozen 8
            go_simp
            clear hcell hfree
            refine hK.out _ _ trivial (fun hHeld' => ?_)
            clear hK hHeld
            have hHeld := hHeld'
            clear hHeld'
            refine wpAnyH_done (by kernel_rfl) ?_ _
            have HXF : Hid (Blk (World.setCell w_16 ⟨gx, 8, none⟩ (.slice A_16 (al + 1) c_16)) gx 46 (repC (.slice A_16 (al + 1) c_16))) := by show Blk _ _ _ _; rw [← HS8.out (.slice Ao al co)]; exact Blk.set_ HX_16.out 8 _
            have HRF : Hid (RdSt (World.setCell w_16 ⟨gx, 8, none⟩ (.slice A_16 (al + 1) c_16)) B g s2) := HR_16.out.far (p := ⟨gx, 8, none⟩) HBX.out (fun e => HNE.out e.symm) _
            have HSF : Hid (Sv (fun j => j = g ∨ j = gx) w (World.setCell w_16 ⟨gx, 8, none⟩ (.slice A_16 (al + 1) c_16))) := HS_16.out.set (p := ⟨gx, 8, none⟩) (.inl (.inr rfl)) _
            have HOF : Hid (World.ownsRow (World.setCell w_16 ⟨gx, 8, none⟩ (.slice A_16 (al + 1) c_16)) w.heap.size 57 2 (.slice A_16 (al + 1) c_16) (al + 1) (rowC ksP (acc ++ [[x1, x2]]))) := by
              show World.ownsRow _ _ _ _ _ _ _
              rw [rowC_append]
              exact own_set HO_16.out (own_blk_ne HO_16.out HX_16.out (by decide)) 8 _
            generalize (World.setCell w_16 ⟨gx, 8, none⟩ (.slice A_16 (al + 1) c_16)) = wf at *
            obtain ⟨hq1, hq2, Aq, cq, hq3, hq4⟩ := HRF.out
            have hcg : wf.cell? ⟨g, 0, none⟩ = some (.slice Aq s2.1.length cq) := hq3.cell 0
            obtain ⟨q, hq⟩ : ∃ q, q = s2.1.length := ⟨_, rfl⟩
            rw [← hq] at hcg
            have HQ := Lib.hid hq
            clear hq1 hq2 hq3 hq4 hq
            by_cases hq0 : 0 < q
            · have hq1 : (0 : Int) < (q : Int) := by omega
              go_wp2_with fail
              go_roundg (fuel - 1)
              case measure => have := HFU.out; omega
              case rel =>
                have hne : s2.1 ≠ [] := List.length_pos_iff.1 (by rw [← HQ.out]; exact hq0)
                have hsh := shr_pair s1 (by rw [HP.out]; exact hne)
                rw [HP.out] at hsh
                have hsh' : s2.1.length < s1.1.length := hsh
                have hfu := HFU.out
                obtain ⟨f', hf'⟩ : ∃ f', fuel = f' + 1 := ⟨fuel - 1, by omega⟩
                have hdo := HDO.out
                rw [hf', doS_more f' HP.out hne] at hdo
                refine ⟨acc ++ [[x1, x2]], s2, fuel - 1, al + 1, A_16, c_16, .inl ⟨rfl, rfl, by omega, by omega, ?_⟩, by rw [List.length_append, ← HAL.out]; rfl, by omega, HRF.out, HXF.out, HOF.out, HSF.out⟩
                rw [hdo, show fuel - 1 = f' by omega, List.append_assoc]
                rfl
            · have hq1 : ¬ (0 : Int) < (q : Int) := by omega
              go_wp2_with fail
              go_roundg 0
              case measure => have := HFU.out; omega
              case rel =>
                have he : s2.1 = [] := List.eq_nil_of_length_eq_zero (by rw [← HQ.out]; omega)
                have hfu := HFU.out
                obtain ⟨f', hf'⟩ : ∃ f', fuel = f' + 1 := ⟨fuel - 1, by omega⟩
                have hdo := HDO.out
                rw [hf', doS_end f' HP.out he] at hdo
                exact ⟨acc ++ [[x1, x2]], s2, 0, al + 1, A_16, c_16, .inr ⟨rfl, rfl, hdo⟩, by rw [List.length_append, ← HAL.out]; rfl, by omega, HRF.out, HXF.out, HOF.out, HSF.out⟩
    · have HDO := Lib.hid hdo
      clear hdo
      go_wp2_with fail
      go_end0
      rw [HDO.out, HREP.out] at *
      exact ⟨rfl, ⟨_, HX.out, by rw [← HAL.out]; exact HO.out⟩, HR.out, HS.out⟩
set_option maxRecDepth 100000 in
set_option maxHeartbeats 3200000 in
theorem about4_c (B g gx fr : Nat) (s : RS) (w : World) (h : RdSt w B g s) (hx : Blk w gx 46 (repA 4 fr 0 0 0 0 0 nilV nilV nilV 0 0 nilV 0 0 nilV)) (hB : B ≤ gx) (hne : g ≠ gx) :
    Calls Try.prog 53 #[.pointer (some ⟨g, 0, none⟩), .pointer (some ⟨gx, 0, none⟩)] w fun e w' => e = .returned (.tuple #[]) ∧ Blk w' gx 46 (repA 4 fr (numS 4 s).1 0 0 0 0 nilV nilV nilV 0 0 nilV 0 0 nilV) ∧ RdSt w' B g (numS 4 s).2 ∧ Sv (fun j => j = g ∨ j = gx) w w' := by
  obtain ⟨ab, sA, eA, bA⟩ := numS_x 4 s (by decide)
  rw [eA]
  have H := Lib.hid h
  have HX := Lib.hid hx
  have HNE := Lib.hid hne
  have HEA := Lib.hid eA
  clear h hx hne eA bA
  go_enter Try.func53, Try.ntmps53
  go_wp2_with (first
    | (go_at_call 50
       refine (word_z H.out HEA.out).mono ?_
       rintro e0 w1 ⟨rfl, hr1, hs1⟩
       have hx1 := hs1.blk HX.out (fun e => HNE.out e.symm)
       have k0 : w1.cell? ⟨gx, 0, none⟩ = some (.int .i64 4) := hx1.cell 0
       have k2 : w1.cell? ⟨gx, 2, none⟩ = some (.int .u32 0) := hx1.cell 2
       have f2 := hx1.frozen 2
       have HR1 := Lib.hid hr1
       have HS1 := Lib.hid hs1
       have HX1 := Lib.hid hx1
       clear hr1 hs1 hx1))
  go_end0
  exact ⟨rfl, HX1.out.set_ 2 _, HR1.out.far (p := ⟨gx, 2, none⟩) hB (fun e => HNE.out e.symm) _, (HS1.out.mono (fun _ _ e => .inl e)).set (p := ⟨gx, 2, none⟩) (.inl (.inr rfl)) _⟩
set_option maxRecDepth 100000 in
set_option maxHeartbeats 12800000 in
theorem about5_c (B g gx fr : Nat) (s : RS) (w : World) (h : RdSt w B g s) (hx : Blk w gx 46 (repA 5 fr 0 0 0 0 0 nilV nilV nilV 0 0 nilV 0 0 nilV)) (hB : B ≤ gx) (hne : g ≠ gx) (hbl : s.1.length ≤ 1200) :
    Calls Try.prog 53 #[.pointer (some ⟨g, 0, none⟩), .pointer (some ⟨gx, 0, none⟩)] w fun e w' => e = .returned (.tuple #[]) ∧ (∃ v, Blk w' gx 46 (repA 5 fr (numS 4 s).1 0 0 0 0 nilV nilV v 0 0 nilV 0 0 nilV) ∧ w'.ownsRow w.heap.size 82 2 v (doS firS (s.1.length + 1) (numS 4 s).2).1.length (rowC ksF (doS firS (s.1.length + 1) (numS 4 s).2).1)) ∧ RdSt w' B g (doS firS (s.1.length + 1) (numS 4 s).2).2 ∧ Sv (fun j => j = g ∨ j = gx) w w' := by
  obtain ⟨iF, hiF, hzaF, hzbF, hzcF⟩ := info_parts infoFir
  obtain ⟨ab, sA, eA, bA⟩ := numS_x 4 s (by decide)
  have hsl : sA.1.length ≤ s.1.length := by have := numS_len 4 s; rw [eA] at this; exact this
  obtain ⟨F, hF⟩ : ∃ F, F = s.1.length + 1 := ⟨_, rfl⟩
  rw [eA, ← hF]
  obtain ⟨repC, hrep⟩ : ∃ repC : Value → Array Value, repC = fun v => repA 5 fr ab 0 0 0 0 nilV nilV v 0 0 nilV 0 0 nilV := ⟨_, rfl⟩
  have H := Lib.hid h
  have HX := Lib.hid hx
  have HBX := Lib.hid hB
  have HNE := Lib.hid hne
  have HGL : Hid (g < w.heap.size ∧ gx < w.heap.size) := ⟨h.lt, hx.lt⟩
  have HBG : Hid (B ≤ g) := h.1
  have HEA := Lib.hid eA
  have HSL : Hid (sA.1.length < F) := by show _ < _; omega
  have HFB : Hid (F ≤ 1201) := by show _ ≤ _; omega
  clear h hx hB hne eA bA hsl hbl hF
  go_enter Try.func53, Try.ntmps53
  go_upto_region 1 with (first
    | (go_at_call 50
       refine (word_z H.out HEA.out).mono ?_
       rintro e0 w1 ⟨rfl, hr1, hs1⟩
       have hx1 := hs1.blk HX.out (fun e => HNE.out e.symm)
       have k2 : w1.cell? ⟨gx, 2, none⟩ = some (.int .u32 0) := hx1.cell 2
       have f2 := hx1.frozen 2
       have HR1 := Lib.hid hr1
       have HS1 := Lib.hid hs1
       have HX1 := Lib.hid hx1
       clear hr1 hs1 hx1))
  clear k2 f2
  obtain ⟨w2, hw2⟩ : ∃ w2, w2 = w1.setCell ⟨gx, 2, none⟩ (.int .u32 (ab : Int)) := ⟨_, rfl⟩
  have hx2 : Blk w2 gx 46 (repC nilV) := by rw [hw2, hrep]; exact HX1.out.set_ 2 _
  have HR2 : Hid (RdSt w2 B g sA) := by show RdSt _ _ _ _; rw [hw2]; exact HR1.out.far (p := ⟨gx, 2, none⟩) HBX.out (fun e => HNE.out e.symm) _
  have HS2 : Hid (Sv (fun j => j = g ∨ j = gx) w w2) := by show Sv _ _ _; rw [hw2]; exact (HS1.out.mono (fun _ _ e => .inl e)).set (p := ⟨gx, 2, none⟩) (.inl (.inr rfl)) _
  have k0 : w2.cell? ⟨gx, 0, none⟩ = some (.int .i64 5) := by have := hx2.cell 0; rw [hrep] at this; exact this
  have HX2 := Lib.hid hx2
  have HREP := Lib.hid hrep
  have HC8 : Hid (∀ v : Value, (repC v)[9]? = some v) := fun v => by rw [hrep]; rfl
  have HS8 : Hid (∀ v u : Value, (repC v).setIfInBounds 9 u = repC u) := fun v u => by rw [hrep]; rfl
  rw [← hw2]
  clear hw2 hx2 hrep HR1 HS1 HX1 HX H
  go_upto_region 9 with fail
  go_loopg [5] F (fun gg v4 wx => ∃ (acc : List (List Nat)) (s1 : RS) (fuel al : Nat) (Ao : Option Addr) (co : Nat),
    ((v4 = .bool true ∧ gg = fuel ∧ s1.1.length < fuel ∧ fuel + al ≤ F ∧ doS firS F sA = (acc ++ (doS firS fuel s1).1, (doS firS fuel s1).2)) ∨ (v4 = .bool false ∧ gg = 0 ∧ doS firS F sA = (acc, s1))) ∧
    al = acc.length ∧ al ≤ F ∧ RdSt wx B g s1 ∧ Blk wx gx 46 (repC (.slice Ao al co)) ∧ wx.ownsRow w.heap.size 82 2 (.slice Ao al co) al (rowC ksF acc) ∧ Sv (fun j => j = g ∨ j = gx) w wx)
  case atStart => exact ⟨[], sA, F, 0, none, 0, .inl ⟨rfl, rfl, HSL.out, by omega, rfl⟩, rfl, by omega, HR2.out, HX2.out, World.ownsRow_nil _ _ _ _, HS2.out⟩
  case round =>
    obtain ⟨acc, s1, fuel, al, Ao, co, hcase, hal, halF, hr, hx, ho, hs⟩ := hrel
    clear HR2 HX2 HS2
    have HR := Lib.hid hr
    have HX := Lib.hid hx
    have HO := Lib.hid ho
    have HS := Lib.hid hs
    have HAL := Lib.hid hal
    clear hr hx ho hs hal
    rcases hcase with ⟨rfl, hgf, hfu, hfal, hdo⟩ | ⟨rfl, rfl, hdo⟩
    · have hgf2 := hgf.symm
      subst hgf2
      clear hgf
      have HDO := Lib.hid hdo
      obtain ⟨x1, s', e1, b1⟩ := numS_x 4 s1 (by decide)
      obtain ⟨x2, s2, e2, b2⟩ := numS_x 1 s' (by decide)
      obtain ⟨x3, s3, e3, b3⟩ := numS_x 3 s2 (by decide)
      have hp : firS s1 = ([x1, x2], (s3.1, s3.2 || decide (x3 ≠ 0))) := by rw [firS]; simp only [e1, e2, e3]
      have HPF := Lib.hid hp
      have hx1 : (x1 : Int) < 4294967296 := by omega
      have hx2 : (x2 : Int) < 256 := by omega
      have hx2w : IntKind.u8.wrap (x2 : Int) = (x2 : Int) := by rw [IntKind.wrap_u8]; omega
      have HE3 := Lib.hid e3
      have HE1 := Lib.hid e1
      have HE2 := Lib.hid e2
      have HFU := Lib.hid hfu
      have hFb := HFB.out
      clear hdo e1 e2 e3 hp b1 b2 b3 hfu k0
      go_upto_region 11 with fail
      have HR0 : Hid (RdSt (World.drew wr) B g s1) := HR.out.below (bdrew (Below.refl _ _))
      have HX0 : Hid (Blk (World.drew wr) gx 46 (repC (.slice Ao al co))) := HX.out
      have HO0 : Hid (World.ownsRow (World.drew wr) w.heap.size 82 2 (.slice Ao al co) al (rowC ksF acc)) := HO.out
      have HS0 : Hid (Sv (fun j => j = g ∨ j = gx) w (World.drew wr)) := HS.out.drew
      refine wp_region_held_drew (S := (fun _ => True)) (by kernel_rfl) (trivial) (fun hHeld => ?_)
      refine wpAnyH_takeAt (i := 0) (v := (.pointer (some ⟨gx, 0, none⟩))) rfl (by kernel_rfl) (by kernel_rfl) (by kernel_rfl) (fun _ _ _ h => h) rfl (Or.inl ⟨by rfl, fun w' hS => ?_⟩) hHeld ?_
      · go_simp
      simp only [List.set_cons_zero, List.set_cons_succ]
      refine wpAnyH_takeAt (i := 1) (v := (.pointer (some ⟨gx, 0, none⟩))) rfl (by kernel_rfl) (by kernel_rfl) (by kernel_rfl) (fun _ _ _ h => h) rfl (Or.inl ⟨by rfl, fun w' hS => ?_⟩) hHeld ?_
      · go_simp
      simp only [List.set_cons_zero, List.set_cons_succ]
      refine wpAnyH_takeAt (i := 2) (v := (.pointer (some ⟨gx, 0, none⟩))) rfl (by kernel_rfl) (by kernel_rfl) (by kernel_rfl) (fun _ _ _ h => h) rfl (Or.inl ⟨by rfl, fun w' hS => ?_⟩) hHeld ?_
      · go_simp
      simp only [List.set_cons_zero, List.set_cons_succ]
      refine wpAnyH_takeAt (i := 3) (v := (.pointer (some ⟨gx, 9, none⟩))) rfl (by kernel_rfl) (by kernel_rfl) (by kernel_rfl) (fun _ _ _ h => h) rfl (Or.inl ⟨by rfl, fun w' hS => ?_⟩) hHeld ?_
      · go_simp
      simp only [List.set_cons_zero, List.set_cons_succ]
      refine wpAnyH_takeAt (i := 5) (v := (.pointer (some ⟨g, 0, none⟩))) rfl (by kernel_rfl) (by kernel_rfl) (by kernel_rfl) (fun _ _ _ h => h) rfl (Or.inl ⟨by rfl, fun w' hS => ?_⟩) hHeld ?_
      · go_simp
      simp only [List.set_cons_zero, List.set_cons_succ]
      refine wpAnyH_takeAt (i := 7) (v := (.pointer (some ⟨g, 0, none⟩))) rfl (by kernel_rfl) (by kernel_rfl) (by kernel_rfl) (fun _ _ _ h => h) rfl (Or.inl ⟨by rfl, fun w' hS => ?_⟩) hHeld ?_
      · go_simp
      simp only [List.set_cons_zero, List.set_cons_succ]
      refine wpAnyH_ready (rs := [4, 6]) (by kernel_rfl) (by simp) (AllReadyH.cons rfl (fun K' hK => ?_) (AllReadyH.cons rfl (fun K' hK => ?_) AllReadyH.nil))
      · have hcell : (World.drew wr).cell? ⟨gx, 9, none⟩ = some (.slice Ao al co) := ((HX0.out.cell 9).trans (HC8.out _))
        go_simp
        clear hcell
        refine hK.out _ _ trivial (fun hHeld' => ?_)
        clear hK hHeld
        have hHeld := hHeld'
        clear hHeld'
        refine wpAnyH_ready (rs := [6]) (by kernel_rfl) (by simp) (AllReadyH.cons rfl (fun K' hK => ?_) AllReadyH.nil)
        go_simp
        go_at_call 50
        refine (word_z HR0.out HE1.out).mono ?_
        rintro e0 w_1 ⟨rfl, hr_1, hs_1⟩
        go_wp2_with fail
        have HR_1 := Lib.hid hr_1
        have HX_1 := Lib.hid (hs_1.blk HX0.out (fun e => HNE.out e.symm))
        have HO_1 := Lib.hid (hs_1.own HO0.out (fun g' hg' e => by have := (HO0.out.lt g' hg').1; have := HGL.out; omega))
        have HS_1 : Hid (Sv (fun j => j = g ∨ j = gx) w w_1) := HS0.out.trans hs_1 (fun _ _ e => .inl e)
        clear hr_1 hs_1
        refine hK.out _ _ trivial (fun hHeld' => ?_)
        clear hK hHeld
        have hHeld := hHeld'
        clear hHeld'
        refine wpAnyH_ready (rs := [8]) (by kernel_rfl) (by simp) (AllReadyH.cons rfl (fun K' hK => ?_) AllReadyH.nil)
        go_simp
        go_at_call 51
        refine (num_z HR_1.out (k := 1) rfl (by decide) (by decide) HE2.out).mono ?_
        rintro e0 w_2 ⟨rfl, hr_2, hs_2⟩
        go_wp2_with fail
        have HR_2 := Lib.hid hr_2
        have HX_2 := Lib.hid (hs_2.blk HX_1.out (fun e => HNE.out e.symm))
        have HO_2 := Lib.hid (hs_2.own HO_1.out (fun g' hg' e => by have := (HO_1.out.lt g' hg').1; have := HGL.out; omega))
        have HS_2 : Hid (Sv (fun j => j = g ∨ j = gx) w w_2) := HS_1.out.trans hs_2 (fun _ _ e => .inl e)
        clear hr_2 hs_2
        refine hK.out _ _ trivial (fun hHeld' => ?_)
        clear hK hHeld
        have hHeld := hHeld'
        clear hHeld'
        refine wpAnyH_takeAt (i := 9) (v := (.int .u8 (x2 : Int))) rfl (by kernel_rfl) (by kernel_rfl) (by kernel_rfl) (fun _ _ _ h => h) rfl (Or.inl ⟨by rfl, fun w' hS => ?_⟩) hHeld ?_
        · go_simp
        simp only [List.set_cons_zero, List.set_cons_succ]
        refine wpAnyH_takeAt (i := 10) (v := (.agg #[(.int .u32 (x1 : Int)), (.int .u8 (x2 : Int))])) rfl (by kernel_rfl) (by kernel_rfl) (by kernel_rfl) (fun _ _ _ h => h) rfl (Or.inl ⟨by rfl, fun w' hS => ?_⟩) hHeld ?_
        · go_simp
        simp only [List.set_cons_zero, List.set_cons_succ]
        refine wpAnyH_ready (rs := [11]) (by kernel_rfl) (by simp) (AllReadyH.cons rfl (fun K' hK => ?_) AllReadyH.nil)
        go_simp
        have HR_3 : Hid (RdSt (World.alloc w_2 (.cells #[(.int .u32 (x1 : Int)), (.int .u8 (x2 : Int))] 82)) B g s2) := HR_2.out.below (balloc (Below.refl _ _) _)
        have HX_3 : Hid (Blk (World.alloc w_2 (.cells #[(.int .u32 (x1 : Int)), (.int .u8 (x2 : Int))] 82)) gx 46 (repC (.slice Ao al co))) := Blk.alloc HX_2.out _
        have HO_3 : Hid (World.ownsRow (World.alloc w_2 (.cells #[(.int .u32 (x1 : Int)), (.int .u8 (x2 : Int))] 82)) w.heap.size 82 2 (.slice Ao al co) al (rowC ksF acc)) := HO_2.out.alloc _
        have HS_3 : Hid (Sv (fun j => j = g ∨ j = gx) w (World.alloc w_2 (.cells #[(.int .u32 (x1 : Int)), (.int .u8 (x2 : Int))] 82))) := HS_2.out.alloc _
        have HN_3 : Hid (Reads (World.alloc w_2 (.cells #[(.int .u32 (x1 : Int)), (.int .u8 (x2 : Int))] 82)) (World.heap (World.alloc w_2 (.cells #[(.int .u32 (x1 : Int)), (.int .u8 (x2 : Int))] 82))).size 2 (some ⟨(World.heap w_2).size, 0, none⟩) 1 (rowC ksF [[x1, x2]])) := reads_blk (Blk.newAt rfl _ _) rfl
        refine hK.out _ _ trivial (fun hHeld' => ?_)
        clear hK hHeld
        have hHeld := hHeld'
        clear hHeld'
        refine wpAnyH_ready (rs := [12]) (by kernel_rfl) (by simp) (AllReadyH.cons rfl (fun K' hK => ?_) AllReadyH.nil)
        refine step_append_any _ (by rfl) (.tmp 55) (.tmp 62) _ (by rfl) w.heap.size 82 iF _ 2 8 Try.underlying44 hiF hzaF hzbF hzcF rfl (by omega) (.slice Ao al co) al (rowC ksF acc) (by rfl) HO_3.out
          _ (some ⟨(World.heap w_2).size, 0, none⟩) 1 1 (rowC ksF [[x1, x2]]) (by rfl) HN_3.out (rowC_cell _ _) (by simp only [maxLen]; omega) (by omega) HS_3.out.size ?_
        intro v_4 w_4 hown_4 hg_4 hv_4
        obtain ⟨A_4, c_4, rfl⟩ := own_slice hown_4
        have HR_4 : Hid (RdSt w_4 B g s2) := HR_3.out.sv (M := fun k => (Value.slice Ao al co).ownBlock = some k) ((Sv.refl _ _).grown hg_4 (fun g e => .inl e)) (fun k e => by have := (HO_3.out.lt k e).1; have := HGL.out; have := HBG.out; omega) (fun e => by have := (HO_3.out.lt g e).1; have := HGL.out; omega)
        have HX_4 : Hid (Blk w_4 gx 46 (repC (.slice Ao al co))) := Blk.grown HX_3.out hg_4 (Ne.symm (own_blk_ne HO_3.out HX_3.out (by decide)))
        have HS_4 : Hid (Sv (fun j => j = g ∨ j = gx) w w_4) := HS_3.out.grown hg_4 (fun g' e => .inr (HO_3.out.lt g' e).1)
        have HO_4 := Lib.hid hown_4
        clear hown_4 hg_4 hv_4
        refine hK.out _ _ trivial (fun hHeld' => ?_)
        clear hK hHeld
        have hHeld := hHeld'
        clear hHeld'
        refine wpAnyH_putAt rfl ?_
        simp only [List.set_cons_zero, List.set_cons_succ]
        refine wpAnyH_takeAt (i := 13) (v := (.pointer (some ⟨gx, 0, none⟩))) rfl (by kernel_rfl) (by kernel_rfl) (by kernel_rfl) (fun _ _ _ h => h) rfl (Or.inl ⟨by rfl, fun w' hS => ?_⟩) hHeld ?_
        · go_simp
        simp only [List.set_cons_zero, List.set_cons_succ]
        refine wpAnyH_takeAt (i := 14) (v := (.pointer (some ⟨gx, 9, none⟩))) rfl (by kernel_rfl) (by kernel_rfl) (by kernel_rfl) (fun _ _ _ h => h) rfl (Or.inl ⟨by rfl, fun w' hS => ?_⟩) hHeld ?_
        · go_simp
        simp only [List.set_cons_zero, List.set_cons_succ]
        refine wpAnyH_ready (rs := [15]) (by kernel_rfl) (by simp) (AllReadyH.cons rfl (fun K' hK => ?_) AllReadyH.nil)
        have hcell : w_4.cell? ⟨gx, 9, none⟩ = some (.slice Ao al co) := ((HX_4.out.cell 9).trans (HC8.out _))
        have hfree : w_4.frozen? ⟨gx, 9, none⟩ = false := HX_4.out.frozen 9
        go_simp
        clear hcell hfree
        refine hK.out _ _ trivial (fun hHeld' => ?_)
        clear hK hHeld
        have hHeld := hHeld'
        clear hHeld'
        refine wpAnyH_done (by kernel_rfl) ?_ _
        have HXF : Hid (Blk (World.setCell w_4 ⟨gx, 9, none⟩ (.slice A_4 (al + 1) c_4)) gx 46 (repC (.slice A_4 (al + 1) c_4))) := by show Blk _ _ _ _; rw [← HS8.out (.slice Ao al co)]; exact Blk.set_ HX_4.out 9 _
        have HRF : Hid (RdSt (World.setCell w_4 ⟨gx, 9, none⟩ (.slice A_4 (al + 1) c_4)) B g s2) := HR_4.out.far (p := ⟨gx, 9, none⟩) HBX.out (fun e => HNE.out e.symm) _
        have HSF : Hid (Sv (fun j => j = g ∨ j = gx) w (World.setCell w_4 ⟨gx, 9, none⟩ (.slice A_4 (al + 1) c_4))) := HS_4.out.set (p := ⟨gx, 9, none⟩) (.inl (.inr rfl)) _
        have HOF : Hid (World.ownsRow (World.setCell w_4 ⟨gx, 9, none⟩ (.slice A_4 (al + 1) c_4)) w.heap.size 82 2 (.slice A_4 (al + 1) c_4) (al + 1) (rowC ksF (acc ++ [[x1, x2]]))) := by
          show World.ownsRow _ _ _ _ _ _ _
          rw [rowC_append]
          exact own_set HO_4.out (own_blk_ne HO_4.out HX_4.out (by decide)) 9 _
        generalize (World.setCell w_4 ⟨gx, 9, none⟩ (.slice A_4 (al + 1) c_4)) = wf at *
        obtain ⟨q, hq⟩ : ∃ q, q = s3.1.length := ⟨_, rfl⟩
        have HQ := Lib.hid hq
        clear hq
        by_cases hx30 : x3 = 0
        · have HP : Hid (firS s1 = ([x1, x2], s3)) := by show _ = _; rw [HPF.out]; simp [hx30]
          have hz3 : (x3 : Int) = 0 := by omega
          clear hx30
          by_cases hq0 : 0 < q
          · have hq1 : (0 : Int) < (q : Int) := by omega
            go_wp2_with (first
              | (go_at_call 51
                 refine (num_z HRF.out (k := 3) rfl (by decide) (by decide) HE3.out).mono ?_
                 rintro e0 w11 ⟨rfl, hr11, hs11⟩
                 have HX11 := Lib.hid (hs11.blk HXF.out (fun e => HNE.out e.symm))
                 have HO11 := Lib.hid (hs11.own HOF.out (fun g' hg' e => by have := (HOF.out.lt g' hg').1; have := HGL.out; omega))
                 have HS11 : Hid (Sv (fun j => j = g ∨ j = gx) w w11) := HSF.out.trans hs11 (fun _ _ e => .inl e)
                 obtain ⟨hq1, hq2, Aq, cq, hq3, hq4⟩ := hr11
                 have hcg : w11.cell? ⟨g, 0, none⟩ = some (.slice Aq q cq) := by have := hq3.cell 0; rw [← HQ.out] at this; exact this
                 have hcb : w11.cell? ⟨g, 1, none⟩ = some (.bool s3.2) := hq3.cell 1
                 have hfb : w11.frozen? ⟨g, 1, none⟩ = false := hq3.frozen 1
                 have HR11 : Hid (RdSt w11 B g s3) := ⟨hq1, hq2, Aq, cq, hq3, hq4⟩
                 have HB11 := Lib.hid hq3
                 have HL11 := Lib.hid hq4
                 clear hs11 hq1 hq2 hq3 hq4))
            go_roundg (fuel - 1)
            case measure => have := HFU.out; omega
            case rel =>
              have hne : s3.1 ≠ [] := List.length_pos_iff.1 (by show 0 < s3.1.length; rw [← HQ.out]; exact hq0)
              have hsh := shr_fir s1 (by rw [HP.out]; exact hne)
              rw [HP.out] at hsh
              have hsh' : s3.1.length < s1.1.length := hsh
              have hfu := HFU.out
              obtain ⟨f', hf'⟩ : ∃ f', fuel = f' + 1 := ⟨fuel - 1, by omega⟩
              have hdo := HDO.out
              rw [hf', doS_more f' HP.out hne] at hdo
              refine ⟨acc ++ [[x1, x2]], s3, fuel - 1, al + 1, A_4, c_4, .inl ⟨rfl, rfl, by show s3.1.length < _; omega, by omega, ?_⟩, by rw [List.length_append, ← HAL.out]; rfl, by omega, HR11.out, HX11.out, HO11.out, HS11.out⟩
              rw [hdo, show fuel - 1 = f' by omega, List.append_assoc]
              rfl
          · have hq1 : ¬ (0 : Int) < (q : Int) := by omega
            go_wp2_with (first
              | (go_at_call 51
                 refine (num_z HRF.out (k := 3) rfl (by decide) (by decide) HE3.out).mono ?_
                 rintro e0 w11 ⟨rfl, hr11, hs11⟩
                 have HX11 := Lib.hid (hs11.blk HXF.out (fun e => HNE.out e.symm))
                 have HO11 := Lib.hid (hs11.own HOF.out (fun g' hg' e => by have := (HOF.out.lt g' hg').1; have := HGL.out; omega))
                 have HS11 : Hid (Sv (fun j => j = g ∨ j = gx) w w11) := HSF.out.trans hs11 (fun _ _ e => .inl e)
                 obtain ⟨hq1, hq2, Aq, cq, hq3, hq4⟩ := hr11
                 have hcg : w11.cell? ⟨g, 0, none⟩ = some (.slice Aq q cq) := by have := hq3.cell 0; rw [← HQ.out] at this; exact this
                 have hcb : w11.cell? ⟨g, 1, none⟩ = some (.bool s3.2) := hq3.cell 1
                 have hfb : w11.frozen? ⟨g, 1, none⟩ = false := hq3.frozen 1
                 have HR11 : Hid (RdSt w11 B g s3) := ⟨hq1, hq2, Aq, cq, hq3, hq4⟩
                 have HB11 := Lib.hid hq3
                 have HL11 := Lib.hid hq4
                 clear hs11 hq1 hq2 hq3 hq4))
            go_roundg 0
            case measure => have := HFU.out; omega
            case rel =>
              have he : s3.1 = [] := List.eq_nil_of_length_eq_zero (by show s3.1.length = 0; rw [← HQ.out]; omega)
              have hfu := HFU.out
              obtain ⟨f', hf'⟩ : ∃ f', fuel = f' + 1 := ⟨fuel - 1, by omega⟩
              have hdo := HDO.out
              rw [hf', doS_end f' HP.out he] at hdo
              exact ⟨acc ++ [[x1, x2]], s3, 0, al + 1, A_4, c_4, .inr ⟨rfl, rfl, hdo⟩, by rw [List.length_append, ← HAL.out]; rfl, by omega, HR11.out, HX11.out, HO11.out, HS11.out⟩
        · have HP : Hid (firS s1 = ([x1, x2], (s3.1, true))) := by show _ = _; rw [HPF.out]; simp [hx30]
          have hz3 : ¬ (x3 : Int) = 0 := by omega
          have hz4 : ((x3 : Int) != 0) = true := by simpa using hz3
          clear hz3
          clear hx30
          by_cases hq0 : 0 < q
          · have hq1 : (0 : Int) < (q : Int) := by omega
            go_wp2_with (first
              | (go_at_call 51
                 refine (num_z HRF.out (k := 3) rfl (by decide) (by decide) HE3.out).mono ?_
                 rintro e0 w11 ⟨rfl, hr11, hs11⟩
                 have HX11 := Lib.hid (hs11.blk HXF.out (fun e => HNE.out e.symm))
                 have HO11 := Lib.hid (hs11.own HOF.out (fun g' hg' e => by have := (HOF.out.lt g' hg').1; have := HGL.out; omega))
                 have HS11 : Hid (Sv (fun j => j = g ∨ j = gx) w w11) := HSF.out.trans hs11 (fun _ _ e => .inl e)
                 obtain ⟨hq1, hq2, Aq, cq, hq3, hq4⟩ := hr11
                 have hcg : w11.cell? ⟨g, 0, none⟩ = some (.slice Aq q cq) := by have := hq3.cell 0; rw [← HQ.out] at this; exact this
                 have hcb : w11.cell? ⟨g, 1, none⟩ = some (.bool s3.2) := hq3.cell 1
                 have hfb : w11.frozen? ⟨g, 1, none⟩ = false := hq3.frozen 1
                 have HR11 : Hid (RdSt w11 B g s3) := ⟨hq1, hq2, Aq, cq, hq3, hq4⟩
                 have HB11 := Lib.hid hq3
                 have HL11 := Lib.hid hq4
                 clear hs11 hq1 hq2 hq3 hq4))
            have HRL : Hid (RdSt (w11.setCell ⟨g, 1, none⟩ (.bool true)) B g (s3.1, true)) := ⟨HR11.out.1, HR11.out.2.1, Aq, cq, HB11.out.set_ 1 _, SlB.keep HL11.out (fun p hp => World.cell?_setCell_other _ _ _ _ (fun e => by subst e; have h1 : g < B := hp; have := HBG.out; omega))⟩
            have HX12 : Hid (Blk (w11.setCell ⟨g, 1, none⟩ (.bool true)) gx 46 (repC (.slice A_4 (al + 1) c_4))) := Blk.far HX11.out (p := ⟨g, 1, none⟩) (fun e => HNE.out e.symm) _
            have HO12 := Lib.hid (own_set HO11.out (fun e => by have := (HO11.out.lt g e).1; have := HGL.out; omega : Value.ownBlock _ ≠ some g) 1 (.bool true))
            have HS12 : Hid (Sv (fun j => j = g ∨ j = gx) w (w11.setCell ⟨g, 1, none⟩ (.bool true))) := HS11.out.set (p := ⟨g, 1, none⟩) (.inl (.inl rfl)) _
            go_roundg (fuel - 1)
            case measure => have := HFU.out; omega
            case rel =>
              have hne : (s3.1, true).1 ≠ [] := List.length_pos_iff.1 (by show 0 < s3.1.length; rw [← HQ.out]; exact hq0)
              have hsh := shr_fir s1 (by rw [HP.out]; exact hne)
              rw [HP.out] at hsh
              have hsh' : s3.1.length < s1.1.length := hsh
              have hfu := HFU.out
              obtain ⟨f', hf'⟩ : ∃ f', fuel = f' + 1 := ⟨fuel - 1, by omega⟩
              have hdo := HDO.out
              rw [hf', doS_more f' HP.out hne] at hdo
              refine ⟨acc ++ [[x1, x2]], (s3.1, true), fuel - 1, al + 1, A_4, c_4, .inl ⟨rfl, rfl, by show s3.1.length < _; omega, by omega, ?_⟩, by rw [List.length_append, ← HAL.out]; rfl, by omega, HRL.out, HX12.out, HO12.out, HS12.out⟩
              rw [hdo, show fuel - 1 = f' by omega, List.append_assoc]
              rfl
          · have hq1 : ¬ (0 : Int) < (q : Int) := by omega
            go_wp2_with (first
              | (go_at_call 51
                 refine (num_z HRF.out (k := 3) rfl (by decide) (by decide) HE3.out).mono ?_
                 rintro e0 w11 ⟨rfl, hr11, hs11⟩
                 have HX11 := Lib.hid (hs11.blk HXF.out (fun e => HNE.out e.symm))
                 have HO11 := Lib.hid (hs11.own HOF.out (fun g' hg' e => by have := (HOF.out.lt g' hg').1; have := HGL.out; omega))
                 have HS11 : Hid (Sv (fun j => j = g ∨ j = gx) w w11) := HSF.out.trans hs11 (fun _ _ e => .inl e)
                 obtain ⟨hq1, hq2, Aq, cq, hq3, hq4⟩ := hr11
                 have hcg : w11.cell? ⟨g, 0, none⟩ = some (.slice Aq q cq) := by have := hq3.cell 0; rw [← HQ.out] at this; exact this
                 have hcb : w11.cell? ⟨g, 1, none⟩ = some (.bool s3.2) := hq3.cell 1
                 have hfb : w11.frozen? ⟨g, 1, none⟩ = false := hq3.frozen 1
                 have HR11 : Hid (RdSt w11 B g s3) := ⟨hq1, hq2, Aq, cq, hq3, hq4⟩
                 have HB11 := Lib.hid hq3
                 have HL11 := Lib.hid hq4
                 clear hs11 hq1 hq2 hq3 hq4))
            have HRL : Hid (RdSt (w11.setCell ⟨g, 1, none⟩ (.bool true)) B g (s3.1, true)) := ⟨HR11.out.1, HR11.out.2.1, Aq, cq, HB11.out.set_ 1 _, SlB.keep HL11.out (fun p hp => World.cell?_setCell_other _ _ _ _ (fun e => by subst e; have h1 : g < B := hp; have := HBG.out; omega))⟩
            have HX12 : Hid (Blk (w11.setCell ⟨g, 1, none⟩ (.bool true)) gx 46 (repC (.slice A_4 (al + 1) c_4))) := Blk.far HX11.out (p := ⟨g, 1, none⟩) (fun e => HNE.out e.symm) _
            have HO12 := Lib.hid (own_set HO11.out (fun e => by have := (HO11.out.lt g e).1; have := HGL.out; omega : Value.ownBlock _ ≠ some g) 1 (.bool true))
            have HS12 : Hid (Sv (fun j => j = g ∨ j = gx) w (w11.setCell ⟨g, 1, none⟩ (.bool true))) := HS11.out.set (p := ⟨g, 1, none⟩) (.inl (.inl rfl)) _
            go_roundg 0
            case measure => have := HFU.out; omega
            case rel =>
              have he : (s3.1, true).1 = [] := List.eq_nil_of_length_eq_zero (by show s3.1.length = 0; rw [← HQ.out]; omega)
              have hfu := HFU.out
              obtain ⟨f', hf'⟩ : ∃ f', fuel = f' + 1 := ⟨fuel - 1, by omega⟩
              have hdo := HDO.out
              rw [hf', doS_end f' HP.out he] at hdo
              exact ⟨acc ++ [[x1, x2]], (s3.1, true), 0, al + 1, A_4, c_4, .inr ⟨rfl, rfl, hdo⟩, by rw [List.length_append, ← HAL.out]; rfl, by omega, HRL.out, HX12.out, HO12.out, HS12.out⟩
      · go_simp
        go_at_call 50
        refine (word_z HR0.out HE1.out).mono ?_
        rintro e0 w_6 ⟨rfl, hr_6, hs_6⟩
        go_wp2_with fail
        have HR_6 := Lib.hid hr_6
        have HX_6 := Lib.hid (hs_6.blk HX0.out (fun e => HNE.out e.symm))
        have HO_6 := Lib.hid (hs_6.own HO0.out (fun g' hg' e => by have := (HO0.out.lt g' hg').1; have := HGL.out; omega))
        have HS_6 : Hid (Sv (fun j => j = g ∨ j = gx) w w_6) := HS0.out.trans hs_6 (fun _ _ e => .inl e)
        clear hr_6 hs_6
        refine hK.out _ _ trivial (fun hHeld' => ?_)
        clear hK hHeld
        have hHeld := hHeld'
        clear hHeld'
        refine wpAnyH_ready (rs := [4, 8]) (by kernel_rfl) (by simp) (AllReadyH.cons rfl (fun K' hK => ?_) (AllReadyH.cons rfl (fun K' hK => ?_) AllReadyH.nil))
        · have hcell : w_6.cell? ⟨gx, 9, none⟩ = some (.slice Ao al co) := ((HX_6.out.cell 9).trans (HC8.out _))
          go_simp
          clear hcell
          refine hK.out _ _ trivial (fun hHeld' => ?_)
          clear hK hHeld
          have hHeld := hHeld'
          clear hHeld'
          refine wpAnyH_ready (rs := [8]) (by kernel_rfl) (by simp) (AllReadyH.cons rfl (fun K' hK => ?_) AllReadyH.nil)
          go_simp
          go_at_call 51
          refine (num_z HR_6.out (k := 1) rfl (by decide) (by decide) HE2.out).mono ?_
          rintro e0 w_7 ⟨rfl, hr_7, hs_7⟩
          go_wp2_with fail
          have HR_7 := Lib.hid hr_7
          have HX_7 := Lib.hid (hs_7.blk HX_6.out (fun e => HNE.out e.symm))
          have HO_7 := Lib.hid (hs_7.own HO_6.out (fun g' hg' e => by have := (HO_6.out.lt g' hg').1; have := HGL.out; omega))
          have HS_7 : Hid (Sv (fun j => j = g ∨ j = gx) w w_7) := HS_6.out.trans hs_7 (fun _ _ e => .inl e)
          clear hr_7 hs_7
          refine hK.out _ _ trivial (fun hHeld' => ?_)
          clear hK hHeld
          have hHeld := hHeld'
          clear hHeld'
          refine wpAnyH_takeAt (i := 9) (v := (.int .u8 (x2 : Int))) rfl (by kernel_rfl) (by kernel_rfl) (by kernel_rfl) (fun _ _ _ h => h) rfl (Or.inl ⟨by rfl, fun w' hS => ?_⟩) hHeld ?_
          · go_simp
          simp only [List.set_cons_zero, List.set_cons_succ]
          refine wpAnyH_takeAt (i := 10) (v := (.agg #[(.int .u32 (x1 : Int)), (.int .u8 (x2 : Int))])) rfl (by kernel_rfl) (by kernel_rfl) (by kernel_rfl) (fun _ _ _ h => h) rfl (Or.inl ⟨by rfl, fun w' hS => ?_⟩) hHeld ?_
          · go_simp
          simp only [List.set_cons_zero, List.set_cons_succ]
          refine wpAnyH_ready (rs := [11]) (by kernel_rfl) (by simp) (AllReadyH.cons rfl (fun K' hK => ?_) AllReadyH.nil)
          go_simp
          have HR_8 : Hid (RdSt (World.alloc w_7 (.cells #[(.int .u32 (x1 : Int)), (.int .u8 (x2 : Int))] 82)) B g s2) := HR_7.out.below (balloc (Below.refl _ _) _)
          have HX_8 : Hid (Blk (World.alloc w_7 (.cells #[(.int .u32 (x1 : Int)), (.int .u8 (x2 : Int))] 82)) gx 46 (repC (.slice Ao al co))) := Blk.alloc HX_7.out _
          have HO_8 : Hid (World.ownsRow (World.alloc w_7 (.cells #[(.int .u32 (x1 : Int)), (.int .u8 (x2 : Int))] 82)) w.heap.size 82 2 (.slice Ao al co) al (rowC ksF acc)) := HO_7.out.alloc _
          have HS_8 : Hid (Sv (fun j => j = g ∨ j = gx) w (World.alloc w_7 (.cells #[(.int .u32 (x1 : Int)), (.int .u8 (x2 : Int))] 82))) := HS_7.out.alloc _
          have HN_8 : Hid (Reads (World.alloc w_7 (.cells #[(.int .u32 (x1 : Int)), (.int .u8 (x2 : Int))] 82)) (World.heap (World.alloc w_7 (.cells #[(.int .u32 (x1 : Int)), (.int .u8 (x2 : Int))] 82))).size 2 (some ⟨(World.heap w_7).size, 0, none⟩) 1 (rowC ksF [[x1, x2]])) := reads_blk (Blk.newAt rfl _ _) rfl
          refine hK.out _ _ trivial (fun hHeld' => ?_)
          clear hK hHeld
          have hHeld := hHeld'
          clear hHeld'
          refine wpAnyH_ready (rs := [12]) (by kernel_rfl) (by simp) (AllReadyH.cons rfl (fun K' hK => ?_) AllReadyH.nil)
          refine step_append_any _ (by rfl) (.tmp 55) (.tmp 62) _ (by rfl) w.heap.size 82 iF _ 2 8 Try.underlying44 hiF hzaF hzbF hzcF rfl (by omega) (.slice Ao al co) al (rowC ksF acc) (by rfl) HO_8.out
            _ (some ⟨(World.heap w_7).size, 0, none⟩) 1 1 (rowC ksF [[x1, x2]]) (by rfl) HN_8.out (rowC_cell _ _) (by simp only [maxLen]; omega) (by omega) HS_8.out.size ?_
          intro v_9 w_9 hown_9 hg_9 hv_9
          obtain ⟨A_9, c_9, rfl⟩ := own_slice hown_9
          have HR_9 : Hid (RdSt w_9 B g s2) := HR_8.out.sv (M := fun k => (Value.slice Ao al co).ownBlock = some k) ((Sv.refl _ _).grown hg_9 (fun g e => .inl e)) (fun k e => by have := (HO_8.out.lt k e).1; have := HGL.out; have := HBG.out; omega) (fun e => by have := (HO_8.out.lt g e).1; have := HGL.out; omega)
          have HX_9 : Hid (Blk w_9 gx 46 (repC (.slice Ao al co))) := Blk.grown HX_8.out hg_9 (Ne.symm (own_blk_ne HO_8.out HX_8.out (by decide)))
          have HS_9 : Hid (Sv (fun j => j = g ∨ j = gx) w w_9) := HS_8.out.grown hg_9 (fun g' e => .inr (HO_8.out.lt g' e).1)
          have HO_9 := Lib.hid hown_9
          clear hown_9 hg_9 hv_9
          refine hK.out _ _ trivial (fun hHeld' => ?_)
          clear hK hHeld
          have hHeld := hHeld'
          clear hHeld'
          refine wpAnyH_putAt rfl ?_
          simp only [List.set_cons_zero, List.set_cons_succ]
          refine wpAnyH_takeAt (i := 13) (v := (.pointer (some ⟨gx, 0, none⟩))) rfl (by kernel_rfl) (by kernel_rfl) (by kernel_rfl) (fun _ _ _ h => h) rfl (Or.inl ⟨by rfl, fun w' hS => ?_⟩) hHeld ?_
          · go_simp
          simp only [List.set_cons_zero, List.set_cons_succ]
          refine wpAnyH_takeAt (i := 14) (v := (.pointer (some ⟨gx, 9, none⟩))) rfl (by kernel_rfl) (by kernel_rfl) (by kernel_rfl) (fun _ _ _ h => h) rfl (Or.inl ⟨by rfl, fun w' hS => ?_⟩) hHeld ?_
          · go_simp
          simp only [List.set_cons_zero, List.set_cons_succ]
          refine wpAnyH_ready (rs := [15]) (by kernel_rfl) (by simp) (AllReadyH.cons rfl (fun K' hK => ?_) AllReadyH.nil)
          have hcell : w_9.cell? ⟨gx, 9, none⟩ = some (.slice Ao al co) := ((HX_9.out.cell 9).trans (HC8.out _))
          have hfree : w_9.frozen? ⟨gx, 9, none⟩ = false := HX_9.out.frozen 9
          go_simp
          clear hcell hfree
          refine hK.out _ _ trivial (fun hHeld' => ?_)
          clear hK hHeld
          have hHeld := hHeld'
          clear hHeld'
          refine wpAnyH_done (by kernel_rfl) ?_ _
          have HXF : Hid (Blk (World.setCell w_9 ⟨gx, 9, none⟩ (.slice A_9 (al + 1) c_9)) gx 46 (repC (.slice A_9 (al + 1) c_9))) := by show Blk _ _ _ _; rw [← HS8.out (.slice Ao al co)]; exact Blk.set_ HX_9.out 9 _
          have HRF : Hid (RdSt (World.setCell w_9 ⟨gx, 9, none⟩ (.slice A_9 (al + 1) c_9)) B g s2) := HR_9.out.far (p := ⟨gx, 9, none⟩) HBX.out (fun e => HNE.out e.symm) _
          have HSF : Hid (Sv (fun j => j = g ∨ j = gx) w (World.setCell w_9 ⟨gx, 9, none⟩ (.slice A_9 (al + 1) c_9))) := HS_9.out.set (p := ⟨gx, 9, none⟩) (.inl (.inr rfl)) _
          have HOF : Hid (World.ownsRow (World.setCell w_9 ⟨gx, 9, none⟩ (.slice A_9 (al + 1) c_9)) w.heap.size 82 2 (.slice A_9 (al + 1) c_9) (al + 1) (rowC ksF (acc ++ [[x1, x2]]))) := by
            show World.ownsRow _ _ _ _ _ _ _
            rw [rowC_append]
            exact own_set HO_9.out (own_blk_ne HO_9.out HX_9.out (by decide)) 9 _
          generalize (World.setCell w_9 ⟨gx, 9, none⟩ (.slice A_9 (al + 1) c_9)) = wf at *
          obtain ⟨q, hq⟩ : ∃ q, q = s3.1.length := ⟨_, rfl⟩
          have HQ := Lib.hid hq
          clear hq
          by_cases hx30 : x3 = 0
          · have HP : Hid (firS s1 = ([x1, x2], s3)) := by show _ = _; rw [HPF.out]; simp [hx30]
            have hz3 : (x3 : Int) = 0 := by omega
            clear hx30
            by_cases hq0 : 0 < q
            · have hq1 : (0 : Int) < (q : Int) := by omega
              go_wp2_with (first
                | (go_at_call 51
                   refine (num_z HRF.out (k := 3) rfl (by decide) (by decide) HE3.out).mono ?_
                   rintro e0 w11 ⟨rfl, hr11, hs11⟩
                   have HX11 := Lib.hid (hs11.blk HXF.out (fun e => HNE.out e.symm))
                   have HO11 := Lib.hid (hs11.own HOF.out (fun g' hg' e => by have := (HOF.out.lt g' hg').1; have := HGL.out; omega))
                   have HS11 : Hid (Sv (fun j => j = g ∨ j = gx) w w11) := HSF.out.trans hs11 (fun _ _ e => .inl e)
                   obtain ⟨hq1, hq2, Aq, cq, hq3, hq4⟩ := hr11
                   have hcg : w11.cell? ⟨g, 0, none⟩ = some (.slice Aq q cq) := by have := hq3.cell 0; rw [← HQ.out] at this; exact this
                   have hcb : w11.cell? ⟨g, 1, none⟩ = some (.bool s3.2) := hq3.cell 1
                   have hfb : w11.frozen? ⟨g, 1, none⟩ = false := hq3.frozen 1
                   have HR11 : Hid (RdSt w11 B g s3) := ⟨hq1, hq2, Aq, cq, hq3, hq4⟩
                   have HB11 := Lib.hid hq3
                   have HL11 := Lib.hid hq4
                   clear hs11 hq1 hq2 hq3 hq4))
              go_roundg (fuel - 1)
              case measure => have := HFU.out; omega
              case rel =>
                have hne : s3.1 ≠ [] := List.length_pos_iff.1 (by show 0 < s3.1.length; rw [← HQ.out]; exact hq0)
                have hsh := shr_fir s1 (by rw [HP.out]; exact hne)
                rw [HP.out] at hsh
                have hsh' : s3.1.length < s1.1.length := hsh
                have hfu := HFU.out
                obtain ⟨f', hf'⟩ : ∃ f', fuel = f' + 1 := ⟨fuel - 1, by omega⟩
                have hdo := HDO.out
                rw [hf', doS_more f' HP.out hne] at hdo
                refine ⟨acc ++ [[x1, x2]], s3, fuel - 1, al + 1, A_9, c_9, .inl ⟨rfl, rfl, by show s3.1.length < _; omega, by omega, ?_⟩, by rw [List.length_append, ← HAL.out]; rfl, by omega, HR11.out, HX11.out, HO11.out, HS11.out⟩
                rw [hdo, show fuel - 1 = f' by omega, List.append_assoc]
                rfl
            · have hq1 : ¬ (0 : Int) < (q : Int) := by omega
              go_wp2_with (first
                | (go_at_call 51
                   refine (num_z HRF.out (k := 3) rfl (by decide) (by decide) HE3.out).mono ?_
                   rintro e0 w11 ⟨rfl, hr11, hs11⟩
                   have HX11 := Lib.hid (hs11.blk HXF.out (fun e => HNE.out e.symm))
                   have HO11 := Lib.hid (hs11.own HOF.out (fun g' hg' e => by have := (HOF.out.lt g' hg').1; have := HGL.out; omega))
                   have HS11 : Hid (Sv (fun j => j = g ∨ j = gx) w w11) := HSF.out.trans hs11 (fun _ _ e => .inl e)
                   obtain ⟨hq1, hq2, Aq, cq, hq3, hq4⟩ := hr11
                   have hcg : w11.cell? ⟨g, 0, none⟩ = some (.slice Aq q cq) := by have := hq3.cell 0; rw [← HQ.out] at this; exact this
                   have hcb : w11.cell? ⟨g, 1, none⟩ = some (.bool s3.2) := hq3.cell 1
                   have hfb : w11.frozen? ⟨g, 1, none⟩ = false := hq3.frozen 1
                   have HR11 : Hid (RdSt w11 B g s3) := ⟨hq1, hq2, Aq, cq, hq3, hq4⟩
                   have HB11 := Lib.hid hq3
                   have HL11 := Lib.hid hq4
                   clear hs11 hq1 hq2 hq3 hq4))
              go_roundg 0
              case measure => have := HFU.out; omega
              case rel =>
                have he : s3.1 = [] := List.eq_nil_of_length_eq_zero (by show s3.1.length = 0; rw [← HQ.out]; omega)
                have hfu := HFU.out
                obtain ⟨f', hf'⟩ : ∃ f', fuel = f' + 1 := ⟨fuel - 1, by omega⟩
                have hdo := HDO.out
                rw [hf', doS_end f' HP.out he] at hdo
                exact ⟨acc ++ [[x1, x2]], s3, 0, al + 1, A_9, c_9, .inr ⟨rfl, rfl, hdo⟩, by rw [List.length_append, ← HAL.out]; rfl, by omega, HR11.out, HX11.out, HO11.out, HS11.out⟩
          · have HP : Hid (firS s1 = ([x1, x2], (s3.1, true))) := by show _ = _; rw [HPF.out]; simp [hx30]
            have hz3 : ¬ (x3 : Int) = 0 := by omega
            have hz4 : ((x3 : Int) != 0) = true := by simpa using hz3
            clear hz3
            clear hx30
            by_cases hq0 : 0 < q
            · have hq1 : (0 : Int) < (q : Int) := by omega
              go_wp2_with (first
                | (go_at_call 51
                   refine (num_z HRF.out (k := 3) rfl (by decide) (by decide) HE3.out).mono ?_
                   rintro e0 w11 ⟨rfl, hr11, hs11⟩
                   have HX11 := Lib.hid (hs11.blk HXF.out (fun e => HNE.out e.symm))
                   have HO11 := Lib.hid (hs11.own HOF.out (fun g' hg' e => by have := (HOF.out.lt g' hg').1; have := HGL.out; omega))
                   have HS11 : Hid (Sv (fun j => j = g ∨ j = gx) w w11) := HSF.out.trans hs11 (fun _ _ e => .inl e)
                   obtain ⟨hq1, hq2, Aq, cq, hq3, hq4⟩ := hr11
                   have hcg : w11.cell? ⟨g, 0, none⟩ = some (.slice Aq q cq) := by have := hq3.cell 0; rw [← HQ.out] at this; exact this
                   have hcb : w11.cell? ⟨g, 1, none⟩ = some (.bool s3.2) := hq3.cell 1
                   have hfb : w11.frozen? ⟨g, 1, none⟩ = false := hq3.frozen 1
                   have HR11 : Hid (RdSt w11 B g s3) := ⟨hq1, hq2, Aq, cq, hq3, hq4⟩
                   have HB11 := Lib.hid hq3
                   have HL11 := Lib.hid hq4
                   clear hs11 hq1 hq2 hq3 hq4))
              have HRL : Hid (RdSt (w11.setCell ⟨g, 1, none⟩ (.bool true)) B g (s3.1, true)) := ⟨HR11.out.1, HR11.out.2.1, Aq, cq, HB11.out.set_ 1 _, SlB.keep HL11.out (fun p hp => World.cell?_setCell_other _ _ _ _ (fun e => by subst e; have h1 : g < B := hp; have := HBG.out; omega))⟩
              have HX12 : Hid (Blk (w11.setCell ⟨g, 1, none⟩ (.bool true)) gx 46 (repC (.slice A_9 (al + 1) c_9))) := Blk.far HX11.out (p := ⟨g, 1, none⟩) (fun e => HNE.out e.symm) _
              have HO12 := Lib.hid (own_set HO11.out (fun e => by have := (HO11.out.lt g e).1; have := HGL.out; omega : Value.ownBlock _ ≠ some g) 1 (.bool true))
              have HS12 : Hid (Sv (fun j => j = g ∨ j = gx) w (w11.setCell ⟨g, 1, none⟩ (.bool true))) := HS11.out.set (p := ⟨g, 1, none⟩) (.inl (.inl rfl)) _
              go_roundg (fuel - 1)
              case measure => have := HFU.out; omega
              case rel =>
                have hne : (s3.1, true).1 ≠ [] := List.length_pos_iff.1 (by show 0 < s3.1.length; rw [← HQ.out]; exact hq0)
                have hsh := shr_fir s1 (by rw [HP.out]; exact hne)
                rw [HP.out] at hsh
                have hsh' : s3.1.length < s1.1.length := hsh
                have hfu := HFU.out
                obtain ⟨f', hf'⟩ : ∃ f', fuel = f' + 1 := ⟨fuel - 1, by omega⟩
                have hdo := HDO.out
                rw [hf', doS_more f' HP.out hne] at hdo
                refine ⟨acc ++ [[x1, x2]], (s3.1, true), fuel - 1, al + 1, A_9, c_9, .inl ⟨rfl, rfl, by show s3.1.length < _; omega, by omega, ?_⟩, by rw [List.length_append, ← HAL.out]; rfl, by omega, HRL.out, HX12.out, HO12.out, HS12.out⟩
                rw [hdo, show fuel - 1 = f' by omega, List.append_assoc]
                rfl
            · have hq1 : ¬ (0 : Int) < (q : Int) := by omega
              go_wp2_with (first
                | (go_at_call 51
                   refine (num_z HRF.out (k := 3) rfl (by decide) (by decide) HE3.out).mono ?_
                   rintro e0 w11 ⟨rfl, hr11, hs11⟩
                   have HX11 := Lib.hid (hs11.blk HXF.out (fun e => HNE.out e.symm))
                   have HO11 := Lib.hid (hs11.own HOF.out (fun g' hg' e => by have := (HOF.out.lt g' hg').1; have := HGL.out; omega))
                   have HS11 : Hid (Sv (fun j => j = g ∨ j = gx) w w11) := HSF.out.trans hs11 (fun _ _ e => .inl e)
                   obtain ⟨hq1, hq2, Aq, cq, hq3, hq4⟩ := hr11
                   have hcg : w11.cell? ⟨g, 0, none⟩ = some (.slice Aq q cq) := by have := hq3.cell 0; rw [← HQ.out] at this; exact this
                   have hcb : w11.cell? ⟨g, 1, none⟩ = some (.bool s3.2) := hq3.cell 1
                   have hfb : w11.frozen? ⟨g, 1, none⟩ = false := hq3.frozen 1
                   have HR11 : Hid (RdSt w11 B g s3) := ⟨hq1, hq2, Aq, cq, hq3, hq4⟩
                   have HB11 := Lib.hid hq3
                   have HL11 := Lib.hid hq4
                   clear hs11 hq1 hq2 hq3 hq4))
              have HRL : Hid (RdSt (w11.setCell ⟨g, 1, none⟩ (.bool true)) B g (s3.1, true)) := ⟨HR11.out.1, HR11.out.2.1, Aq, cq, HB11.out.set_ 1 _, SlB.keep HL11.out (fun p hp => World.cell?_setCell_other _ _ _ _ (fun e => by subst e; have h1 : g < B := hp; have := HBG.out; omega))⟩
              have HX12 : Hid (Blk (w11.setCell ⟨g, 1, none⟩ (.bool true)) gx 46 (repC (.slice A_9 (al + 1) c_9))) := Blk.far HX11.out (p := ⟨g, 1, none⟩) (fun e => HNE.out e.symm) _
              have HO12 := Lib.hid (own_set HO11.out (fun e => by have := (HO11.out.lt g e).1; have := HGL.out; omega : Value.ownBlock _ ≠ some g) 1 (.bool true))
              have HS12 : Hid (Sv (fun j => j = g ∨ j = gx) w (w11.setCell ⟨g, 1, none⟩ (.bool true))) := HS11.out.set (p := ⟨g, 1, none⟩) (.inl (.inl rfl)) _
              go_roundg 0
              case measure => have := HFU.out; omega
              case rel =>
                have he : (s3.1, true).1 = [] := List.eq_nil_of_length_eq_zero (by show s3.1.length = 0; rw [← HQ.out]; omega)
                have hfu := HFU.out
                obtain ⟨f', hf'⟩ : ∃ f', fuel = f' + 1 := ⟨fuel - 1, by omega⟩
                have hdo := HDO.out
                rw [hf', doS_end f' HP.out he] at hdo
                exact ⟨acc ++ [[x1, x2]], (s3.1, true), 0, al + 1, A_9, c_9, .inr ⟨rfl, rfl, hdo⟩, by rw [List.length_append, ← HAL.out]; rfl, by omega, HRL.out, HX12.out, HO12.out, HS12.out⟩
        · go_simp
          go_at_call 51
          refine (num_z HR_6.out (k := 1) rfl (by decide) (by decide) HE2.out).mono ?_
          rintro e0 w_11 ⟨rfl, hr_11, hs_11⟩
          go_wp2_with fail
          have HR_11 := Lib.hid hr_11
          have HX_11 := Lib.hid (hs_11.blk HX_6.out (fun e => HNE.out e.symm))
          have HO_11 := Lib.hid (hs_11.own HO_6.out (fun g' hg' e => by have := (HO_6.out.lt g' hg').1; have := HGL.out; omega))
          have HS_11 : Hid (Sv (fun j => j = g ∨ j = gx) w w_11) := HS_6.out.trans hs_11 (fun _ _ e => .inl e)
          clear hr_11 hs_11
          refine hK.out _ _ trivial (fun hHeld' => ?_)
          clear hK hHeld
          have hHeld := hHeld'
          clear hHeld'
          refine wpAnyH_takeAt (i := 9) (v := (.int .u8 (x2 : Int))) rfl (by kernel_rfl) (by kernel_rfl) (by kernel_rfl) (fun _ _ _ h => h) rfl (Or.inl ⟨by rfl, fun w' hS => ?_⟩) hHeld ?_
          · go_simp
          simp only [List.set_cons_zero, List.set_cons_succ]
          refine wpAnyH_takeAt (i := 10) (v := (.agg #[(.int .u32 (x1 : Int)), (.int .u8 (x2 : Int))])) rfl (by kernel_rfl) (by kernel_rfl) (by kernel_rfl) (fun _ _ _ h => h) rfl (Or.inl ⟨by rfl, fun w' hS => ?_⟩) hHeld ?_
          · go_simp
          simp only [List.set_cons_zero, List.set_cons_succ]
          refine wpAnyH_ready (rs := [4, 11]) (by kernel_rfl) (by simp) (AllReadyH.cons rfl (fun K' hK => ?_) (AllReadyH.cons rfl (fun K' hK => ?_) AllReadyH.nil))
          · have hcell : w_11.cell? ⟨gx, 9, none⟩ = some (.slice Ao al co) := ((HX_11.out.cell 9).trans (HC8.out _))
            go_simp
            clear hcell
            refine hK.out _ _ trivial (fun hHeld' => ?_)
            clear hK hHeld
            have hHeld := hHeld'
            clear hHeld'
            refine wpAnyH_ready (rs := [11]) (by kernel_rfl) (by simp) (AllReadyH.cons rfl (fun K' hK => ?_) AllReadyH.nil)
            go_simp
            have HR_12 : Hid (RdSt (World.alloc w_11 (.cells #[(.int .u32 (x1 : Int)), (.int .u8 (x2 : Int))] 82)) B g s2) := HR_11.out.below (balloc (Below.refl _ _) _)
            have HX_12 : Hid (Blk (World.alloc w_11 (.cells #[(.int .u32 (x1 : Int)), (.int .u8 (x2 : Int))] 82)) gx 46 (repC (.slice Ao al co))) := Blk.alloc HX_11.out _
            have HO_12 : Hid (World.ownsRow (World.alloc w_11 (.cells #[(.int .u32 (x1 : Int)), (.int .u8 (x2 : Int))] 82)) w.heap.size 82 2 (.slice Ao al co) al (rowC ksF acc)) := HO_11.out.alloc _
            have HS_12 : Hid (Sv (fun j => j = g ∨ j = gx) w (World.alloc w_11 (.cells #[(.int .u32 (x1 : Int)), (.int .u8 (x2 : Int))] 82))) := HS_11.out.alloc _
            have HN_12 : Hid (Reads (World.alloc w_11 (.cells #[(.int .u32 (x1 : Int)), (.int .u8 (x2 : Int))] 82)) (World.heap (World.alloc w_11 (.cells #[(.int .u32 (x1 : Int)), (.int .u8 (x2 : Int))] 82))).size 2 (some ⟨(World.heap w_11).size, 0, none⟩) 1 (rowC ksF [[x1, x2]])) := reads_blk (Blk.newAt rfl _ _) rfl
            refine hK.out _ _ trivial (fun hHeld' => ?_)
            clear hK hHeld
            have hHeld := hHeld'
            clear hHeld'
            refine wpAnyH_ready (rs := [12]) (by kernel_rfl) (by simp) (AllReadyH.cons rfl (fun K' hK => ?_) AllReadyH.nil)
            refine step_append_any _ (by rfl) (.tmp 55) (.tmp 62) _ (by rfl) w.heap.size 82 iF _ 2 8 Try.underlying44 hiF hzaF hzbF hzcF rfl (by omega) (.slice Ao al co) al (rowC ksF acc) (by rfl) HO_12.out
              _ (some ⟨(World.heap w_11).size, 0, none⟩) 1 1 (rowC ksF [[x1, x2]]) (by rfl) HN_12.out (rowC_cell _ _) (by simp only [maxLen]; omega) (by omega) HS_12.out.size ?_
            intro v_13 w_13 hown_13 hg_13 hv_13
            obtain ⟨A_13, c_13, rfl⟩ := own_slice hown_13
            have HR_13 : Hid (RdSt w_13 B g s2) := HR_12.out.sv (M := fun k => (Value.slice Ao al co).ownBlock = some k) ((Sv.refl _ _).grown hg_13 (fun g e => .inl e)) (fun k e => by have := (HO_12.out.lt k e).1; have := HGL.out; have := HBG.out; omega) (fun e => by have := (HO_12.out.lt g e).1; have := HGL.out; omega)
            have HX_13 : Hid (Blk w_13 gx 46 (repC (.slice Ao al co))) := Blk.grown HX_12.out hg_13 (Ne.symm (own_blk_ne HO_12.out HX_12.out (by decide)))
            have HS_13 : Hid (Sv (fun j => j = g ∨ j = gx) w w_13) := HS_12.out.grown hg_13 (fun g' e => .inr (HO_12.out.lt g' e).1)
            have HO_13 := Lib.hid hown_13
            clear hown_13 hg_13 hv_13
            refine hK.out _ _ trivial (fun hHeld' => ?_)
            clear hK hHeld
            have hHeld := hHeld'
            clear hHeld'
            refine wpAnyH_putAt rfl ?_
            simp only [List.set_cons_zero, List.set_cons_succ]
            refine wpAnyH_takeAt (i := 13) (v := (.pointer (some ⟨gx, 0, none⟩))) rfl (by kernel_rfl) (by kernel_rfl) (by kernel_rfl) (fun _ _ _ h => h) rfl (Or.inl ⟨by rfl, fun w' hS => ?_⟩) hHeld ?_
            · go_simp
            simp only [List.set_cons_zero, List.set_cons_succ]
            refine wpAnyH_takeAt (i := 14) (v := (.pointer (some ⟨gx, 9, none⟩))) rfl (by kernel_rfl) (by kernel_rfl) (by kernel_rfl) (fun _ _ _ h => h) rfl (Or.inl ⟨by rfl, fun w' hS => ?_⟩) hHeld ?_
            · go_simp
            simp only [List.set_cons_zero, List.set_cons_succ]
            refine wpAnyH_ready (rs := [15]) (by kernel_rfl) (by simp) (AllReadyH.cons rfl (fun K' hK => ?_) AllReadyH.nil)
            have hcell : w_13.cell? ⟨gx, 9, none⟩ = some (.slice Ao al co) := ((HX_13.out.cell 9).trans (HC8.out _))
            have hfree : w_13.frozen? ⟨gx, 9, none⟩ = false := HX_13.out.frozen 9
            go_simp
            clear hcell hfree
            refine hK.out _ _ trivial (fun hHeld' => ?_)
            clear hK hHeld
            have hHeld := hHeld'
            clear hHeld'
            refine wpAnyH_done (by kernel_rfl) ?_ _
            have HXF : Hid (Blk (World.setCell w_13 ⟨gx, 9, none⟩ (.slice A_13 (al + 1) c_13)) gx 46 (repC (.slice A_13 (al + 1) c_13))) := by show Blk _ _ _ _; rw [← HS8.out (.slice Ao al co)]; exact Blk.set_ HX_13.out 9 _
            have HRF : Hid (RdSt (World.setCell w_13 ⟨gx, 9, none⟩ (.slice A_13 (al + 1) c_13)) B g s2) := HR_13.out.far (p := ⟨gx, 9, none⟩) HBX.out (fun e => HNE.out e.symm) _
            have HSF : Hid (Sv (fun j => j = g ∨ j = gx) w (World.setCell w_13 ⟨gx, 9, none⟩ (.slice A_13 (al + 1) c_13))) := HS_13.out.set (p := ⟨gx, 9, none⟩) (.inl (.inr rfl)) _
            have HOF : Hid (World.ownsRow (World.setCell w_13 ⟨gx, 9, none⟩ (.slice A_13 (al + 1) c_13)) w.heap.size 82 2 (.slice A_13 (al + 1) c_13) (al + 1) (rowC ksF (acc ++ [[x1, x2]]))) := by
              show World.ownsRow _ _ _ _ _ _ _
              rw [rowC_append]
              exact own_set HO_13.out (own_blk_ne HO_13.out HX_13.out (by decide)) 9 _
            generalize (World.setCell w_13 ⟨gx, 9, none⟩ (.slice A_13 (al + 1) c_13)) = wf at *
            obtain ⟨q, hq⟩ : ∃ q, q = s3.1.length := ⟨_, rfl⟩
            have HQ := Lib.hid hq
            clear hq
            by_cases hx30 : x3 = 0
            · have HP : Hid (firS s1 = ([x1, x2], s3)) := by show _ = _; rw [HPF.out]; simp [hx30]
              have hz3 : (x3 : Int) = 0 := by omega
              clear hx30
              by_cases hq0 : 0 < q
              · have hq1 : (0 : Int) < (q : Int) := by omega
                go_wp2_with (first
                  | (go_at_call 51
                     refine (num_z HRF.out (k := 3) rfl (by decide) (by decide) HE3.out).mono ?_
                     rintro e0 w11 ⟨rfl, hr11, hs11⟩
                     have HX11 := Lib.hid (hs11.blk HXF.out (fun e => HNE.out e.symm))
                     have HO11 := Lib.hid (hs11.own HOF.out (fun g' hg' e => by have := (HOF.out.lt g' hg').1; have := HGL.out; omega))
                     have HS11 : Hid (Sv (fun j => j = g ∨ j = gx) w w11) := HSF.out.trans hs11 (fun _ _ e => .inl e)
                     obtain ⟨hq1, hq2, Aq, cq, hq3, hq4⟩ := hr11
                     have hcg : w11.cell? ⟨g, 0, none⟩ = some (.slice Aq q cq) := by have := hq3.cell 0; rw [← HQ.out] at this; exact this
                     have hcb : w11.cell? ⟨g, 1, none⟩ = some (.bool s3.2) := hq3.cell 1
                     have hfb : w11.frozen? ⟨g, 1, none⟩ = false := hq3.frozen 1
                     have HR11 : Hid (RdSt w11 B g s3) := ⟨hq1, hq2, Aq, cq, hq3, hq4⟩
                     have HB11 := Lib.hid hq3
                     have HL11 := Lib.hid hq4
                     clear hs11 hq1 hq2 hq3 hq4))
                go_roundg (fuel - 1)
                case measure => have := HFU.out; omega
                case rel =>
                  have hne : s3.1 ≠ [] := List.length_pos_iff.1 (by show 0 < s3.1.length; rw [← HQ.out]; exact hq0)
                  have hsh := shr_fir s1 (by rw [HP.out]; exact hne)
                  rw [HP.out] at hsh
                  have hsh' : s3.1.length < s1.1.length := hsh
                  have hfu := HFU.out
                  obtain ⟨f', hf'⟩ : ∃ f', fuel = f' + 1 := ⟨fuel - 1, by omega⟩
                  have hdo := HDO.out
                  rw [hf', doS_more f' HP.out hne] at hdo
                  refine ⟨acc ++ [[x1, x2]], s3, fuel - 1, al + 1, A_13, c_13, .inl ⟨rfl, rfl, by show s3.1.length < _; omega, by omega, ?_⟩, by rw [List.length_append, ← HAL.out]; rfl, by omega, HR11.out, HX11.out, HO11.out, HS11.out⟩
                  rw [hdo, show fuel - 1 = f' by omega, List.append_assoc]
                  rfl
              · have hq1 : ¬ (0 : Int) < (q : Int) := by omega
                go_wp2_with (first
                  | (go_at_call 51
                     refine (num_z HRF.out (k := 3) rfl (by decide) (by decide) HE3.out).mono ?_
                     rintro e0 w11 ⟨rfl, hr11, hs11⟩
                     have HX11 := Lib.hid (hs11.blk HXF.out (fun e => HNE.out e.symm))
                     have HO11 := Lib.hid (hs11.own HOF.out (fun g' hg' e => by have := (HOF.out.lt g' hg').1; have := HGL.out; omega))
                     have HS11 : Hid (Sv (fun j => j = g ∨ j = gx) w w11) := HSF.out.trans hs11 (fun _ _ e => .inl e)
                     obtain ⟨hq1, hq2, Aq, cq, hq3, hq4⟩ := hr11
                     have hcg : w11.cell? ⟨g, 0, none⟩ = some (.slice Aq q cq) := by have := hq3.cell 0; rw [← HQ.out] at this; exact this
                     have hcb : w11.cell? ⟨g, 1, none⟩ = some (.bool s3.2) := hq3.cell 1
                     have hfb : w11.frozen? ⟨g, 1, none⟩ = false := hq3.frozen 1
                     have HR11 : Hid (RdSt w11 B g s3) := ⟨hq1, hq2, Aq, cq, hq3, hq4⟩
                     have HB11 := Lib.hid hq3
                     have HL11 := Lib.hid hq4
                     clear hs11 hq1 hq2 hq3 hq4))
                go_roundg 0
                case measure => have := HFU.out; omega
                case rel =>
                  have he : s3.1 = [] := List.eq_nil_of_length_eq_zero (by show s3.1.length = 0; rw [← HQ.out]; omega)
                  have hfu := HFU.out
                  obtain ⟨f', hf'⟩ : ∃ f', fuel = f' + 1 := ⟨fuel - 1, by omega⟩
                  have hdo := HDO.out
                  rw [hf', doS_end f' HP.out he] at hdo
                  exact ⟨acc ++ [[x1, x2]], s3, 0, al + 1, A_13, c_13, .inr ⟨rfl, rfl, hdo⟩, by rw [List.length_append, ← HAL.out]; rfl, by omega, HR11.out, HX11.out, HO11.out, HS11.out⟩
            · have HP : Hid (firS s1 = ([x1, x2], (s3.1, true))) := by show _ = _; rw [HPF.out]; simp [hx30]
              have hz3 : ¬ (x3 : Int) = 0 := by omega
              have hz4 : ((x3 : Int) != 0) = true := by simpa using hz3
              clear hz3
              clear hx30
              by_cases hq0 : 0 < q
              · have hq1 : (0 : Int) < (q : Int) := by omega
                go_wp2_with (first
                  | (go_at_call 51
                     refine (num_z HRF.out (k := 3) rfl (by decide) (by decide) HE3.out).mono ?_
                     rintro e0 w11 ⟨rfl, hr11, hs11⟩
                     have HX11 := Lib.hid (hs11.blk HXF.out (fun e => HNE.out e.symm))
                     have HO11 := Lib.hid (hs11.own HOF.out (fun g' hg' e => by have := (HOF.out.lt g' hg').1; have := HGL.out; omega))
                     have HS11 : Hid (Sv (fun j => j = g ∨ j = gx) w w11) := HSF.out.trans hs11 (fun _ _ e => .inl e)
                     obtain ⟨hq1, hq2, Aq, cq, hq3, hq4⟩ := hr11
                     have hcg : w11.cell? ⟨g, 0, none⟩ = some (.slice Aq q cq) := by have := hq3.cell 0; rw [← HQ.out] at this; exact this
                     have hcb : w11.cell? ⟨g, 1, none⟩ = some (.bool s3.2) := hq3.cell 1
                     have hfb : w11.frozen? ⟨g, 1, none⟩ = false := hq3.frozen 1
                     have HR11 : Hid (RdSt w11 B g s3) := ⟨hq1, hq2, Aq, cq, hq3, hq4⟩
                     have HB11 := Lib.hid hq3
                     have HL11 := Lib.hid hq4
                     clear hs11 hq1 hq2 hq3 hq4))
                have HRL : Hid (RdSt (w11.setCell ⟨g, 1, none⟩ (.bool true)) B g (s3.1, true)) := ⟨HR11.out.1, HR11.out.2.1, Aq, cq, HB11.out.set_ 1 _, SlB.keep HL11.out (fun p hp => World.cell?_setCell_other _ _ _ _ (fun e => by subst e; have h1 : g < B := hp; have := HBG.out; omega))⟩
                have HX12 : Hid (Blk (w11.setCell ⟨g, 1, none⟩ (.bool true)) gx 46 (repC (.slice A_13 (al + 1) c_13))) := Blk.far HX11.out (p := ⟨g, 1, none⟩) (fun e => HNE.out e.symm) _
                have HO12 := Lib.hid (own_set HO11.out (fun e => by have := (HO11.out.lt g e).1; have := HGL.out; omega : Value.ownBlock _ ≠ some g) 1 (.bool true))
                have HS12 : Hid (Sv (fun j => j = g ∨ j = gx) w (w11.setCell ⟨g, 1, none⟩ (.bool true))) := HS11.out.set (p := ⟨g, 1, none⟩) (.inl (.inl rfl)) _
                go_roundg (fuel - 1)
                case measure => have := HFU.out; omega
                case rel =>
                  have hne : (s3.1, true).1 ≠ [] := List.length_pos_iff.1 (by show 0 < s3.1.length; rw [← HQ.out]; exact hq0)
                  have hsh := shr_fir s1 (by rw [HP.out]; exact hne)
                  rw [HP.out] at hsh
                  have hsh' : s3.1.length < s1.1.length := hsh
                  have hfu := HFU.out
                  obtain ⟨f', hf'⟩ : ∃ f', fuel = f' + 1 := ⟨fuel - 1, by omega⟩
                  have hdo := HDO.out
                  rw [hf', doS_more f' HP.out hne] at hdo
                  refine ⟨acc ++ [[x1, x2]], (s3.1, true), fuel - 1, al + 1, A_13, c_13, .inl ⟨rfl, rfl, by show s3.1.length < _; omega, by omega, ?_⟩, by rw [List.length_append, ← HAL.out]; rfl, by omega, HRL.out, HX12.out, HO12.out, HS12.out⟩
                  rw [hdo, show fuel - 1 = f' by omega, List.append_assoc]
                  rfl
              · have hq1 : ¬ (0 : Int) < (q : Int) := by omega
                go_wp2_with (first
                  | (go_at_call 51
                     refine (num_z HRF.out (k := 3) rfl (by decide) (by decide) HE3.out).mono ?_
                     rintro e0 w11 ⟨rfl, hr11, hs11⟩
                     have HX11 := Lib.hid (hs11.blk HXF.out (fun e => HNE.out e.symm))
                     have HO11 := Lib.hid (hs11.own HOF.out (fun g' hg' e => by have := (HOF.out.lt g' hg').1; have := HGL.out; omega))
                     have HS11 : Hid (Sv (fun j => j = g ∨ j = gx) w w11) := HSF.out.trans hs11 (fun _ _ e => .inl e)
                     obtain ⟨hq1, hq2, Aq, cq, hq3, hq4⟩ := hr11
                     have hcg : w11.cell? ⟨g, 0, none⟩ = some (.slice Aq q cq) := by have := hq3.cell 0; rw [← HQ.out] at this; exact this
                     have hcb : w11.cell? ⟨g, 1, none⟩ = some (.bool s3.2) := hq3.cell 1
                     have hfb : w11.frozen? ⟨g, 1, none⟩ = false := hq3.frozen 1
                     have HR11 : Hid (RdSt w11 B g s3) := ⟨hq1, hq2, Aq, cq, hq3, hq4⟩
                     have HB11 := Lib.hid hq3
                     have HL11 := Lib.hid hq4
                     clear hs11 hq1 hq2 hq3 hq4))
                have HRL : Hid (RdSt (w11.setCell ⟨g, 1, none⟩ (.bool true)) B g (s3.1, true)) := ⟨HR11.out.1, HR11.out.2.1, Aq, cq, HB11.out.set_ 1 _, SlB.keep HL11.out (fun p hp => World.cell?_setCell_other _ _ _ _ (fun e => by subst e; have h1 : g < B := hp; have := HBG.out; omega))⟩
                have HX12 : Hid (Blk (w11.setCell ⟨g, 1, none⟩ (.bool true)) gx 46 (repC (.slice A_13 (al + 1) c_13))) := Blk.far HX11.out (p := ⟨g, 1, none⟩) (fun e => HNE.out e.symm) _
                have HO12 := Lib.hid (own_set HO11.out (fun e => by have := (HO11.out.lt g e).1; have := HGL.out; omega : Value.ownBlock _ ≠ some g) 1 (.bool true))
                have HS12 : Hid (Sv (fun j => j = g ∨ j = gx) w (w11.setCell ⟨g, 1, none⟩ (.bool true))) := HS11.out.set (p := ⟨g, 1, none⟩) (.inl (.inl rfl)) _
                go_roundg 0
                case measure => have := HFU.out; omega
                case rel =>
                  have he : (s3.1, true).1 = [] := List.eq_nil_of_length_eq_zero (by show s3.1.length = 0; rw [← HQ.out]; omega)
                  have hfu := HFU.out
                  obtain ⟨f', hf'⟩ : ∃ f', fuel = f' + 1 := ⟨fuel - 1, by omega⟩
                  have hdo := HDO.out
                  rw [hf', doS_end f' HP.out he] at hdo
                  exact ⟨acc ++ [[x1, x2]], (s3.1, true), 0, al + 1, A_13, c_13, .inr ⟨rfl, rfl, hdo⟩, by rw [List.length_append, ← HAL.out]; rfl, by omega, HRL.out, HX12.out, HO12.out, HS12.out⟩
          · go_simp
            have HR_15 : Hid (RdSt (World.alloc w_11 (.cells #[(.int .u32 (x1 : Int)), (.int .u8 (x2 : Int))] 82)) B g s2) := HR_11.out.below (balloc (Below.refl _ _) _)
            have HX_15 : Hid (Blk (World.alloc w_11 (.cells #[(.int .u32 (x1 : Int)), (.int .u8 (x2 : Int))] 82)) gx 46 (repC (.slice Ao al co))) := Blk.alloc HX_11.out _
            have HO_15 : Hid (World.ownsRow (World.alloc w_11 (.cells #[(.int .u32 (x1 : Int)), (.int .u8 (x2 : Int))] 82)) w.heap.size 82 2 (.slice Ao al co) al (rowC ksF acc)) := HO_11.out.alloc _
            have HS_15 : Hid (Sv (fun j => j = g ∨ j = gx) w (World.alloc w_11 (.cells #[(.int .u32 (x1 : Int)), (.int .u8 (x2 : Int))] 82))) := HS_11.out.alloc _
            have HN_15 : Hid (Reads (World.alloc w_11 (.cells #[(.int .u32 (x1 : Int)), (.int .u8 (x2 : Int))] 82)) (World.heap (World.alloc w_11 (.cells #[(.int .u32 (x1 : Int)), (.int .u8 (x2 : Int))] 82))).size 2 (some ⟨(World.heap w_11).size, 0, none⟩) 1 (rowC ksF [[x1, x2]])) := reads_blk (Blk.newAt rfl _ _) rfl
            refine hK.out _ _ trivial (fun hHeld' => ?_)
            clear hK hHeld
            have hHeld := hHeld'
            clear hHeld'
            refine wpAnyH_ready (rs := [4]) (by kernel_rfl) (by simp) (AllReadyH.cons rfl (fun K' hK => ?_) AllReadyH.nil)
            have hcell : (World.alloc w_11 (.cells #[(.int .u32 (x1 : Int)), (.int .u8 (x2 : Int))] 82)).cell? ⟨gx, 9, none⟩ = some (.slice Ao al co) := ((HX_15.out.cell 9).trans (HC8.out _))
            go_simp
            clear hcell
            refine hK.out _ _ trivial (fun hHeld' => ?_)
            clear hK hHeld
            have hHeld := hHeld'
            clear hHeld'
            refine wpAnyH_ready (rs := [12]) (by kernel_rfl) (by simp) (AllReadyH.cons rfl (fun K' hK => ?_) AllReadyH.nil)
            refine step_append_any _ (by rfl) (.tmp 55) (.tmp 62) _ (by rfl) w.heap.size 82 iF _ 2 8 Try.underlying44 hiF hzaF hzbF hzcF rfl (by omega) (.slice Ao al co) al (rowC ksF acc) (by rfl) HO_15.out
              _ (some ⟨(World.heap w_11).size, 0, none⟩) 1 1 (rowC ksF [[x1, x2]]) (by rfl) HN_15.out (rowC_cell _ _) (by simp only [maxLen]; omega) (by omega) HS_15.out.size ?_
            intro v_16 w_16 hown_16 hg_16 hv_16
            obtain ⟨A_16, c_16, rfl⟩ := own_slice hown_16
            have HR_16 : Hid (RdSt w_16 B g s2) := HR_15.out.sv (M := fun k => (Value.slice Ao al co).ownBlock = some k) ((Sv.refl _ _).grown hg_16 (fun g e => .inl e)) (fun k e => by have := (HO_15.out.lt k e).1; have := HGL.out; have := HBG.out; omega) (fun e => by have := (HO_15.out.lt g e).1; have := HGL.out; omega)
            have HX_16 : Hid (Blk w_16 gx 46 (repC (.slice Ao al co))) := Blk.grown HX_15.out hg_16 (Ne.symm (own_blk_ne HO_15.out HX_15.out (by decide)))
            have HS_16 : Hid (Sv (fun j => j = g ∨ j = gx) w w_16) := HS_15.out.grown hg_16 (fun g' e => .inr (HO_15.out.lt g' e).1)
            have HO_16 := Lib.hid hown_16
            clear hown_16 hg_16 hv_16
            refine hK.out _ _ trivial (fun hHeld' => ?_)
            clear hK hHeld
            have hHeld := hHeld'
            clear hHeld'
            refine wpAnyH_putAt rfl ?_
            simp only [List.set_cons_zero, List.set_cons_succ]
            refine wpAnyH_takeAt (i := 13) (v := (.pointer (some ⟨gx, 0, none⟩))) rfl (by kernel_rfl) (by kernel_rfl) (by kernel_rfl) (fun _ _ _ h => h) rfl (Or.inl ⟨by rfl, fun w' hS => ?_⟩) hHeld ?_
            · go_simp
            simp only [List.set_cons_zero, List.set_cons_succ]
            refine wpAnyH_takeAt (i := 14) (v := (.pointer (some ⟨gx, 9, none⟩))) rfl (by kernel_rfl) (by kernel_rfl) (by kernel_rfl) (fun _ _ _ h => h) rfl (Or.inl ⟨by rfl, fun w' hS => ?_⟩) hHeld ?_
            · go_simp
            simp only [List.set_cons_zero, List.set_cons_succ]
            refine wpAnyH_ready (rs := [15]) (by kernel_rfl) (by simp) (AllReadyH.cons rfl (fun K' hK => ?_) AllReadyH.nil)
            have hcell : w_16.cell? ⟨gx, 9, none⟩ = some (.slice Ao al co) := ((HX_16.out.cell 9).trans (HC8.out _))
            have hfree : w_16.frozen? ⟨gx, 9, none⟩ = false := HX_16.out.frozen 9
            go_simp
            clear hcell hfree
            refine hK.out _ _ trivial (fun hHeld' => ?_)
            clear hK hHeld
            have hHeld := hHeld'
            clear hHeld'
            refine wpAnyH_done (by kernel_rfl) ?_ _
            have HXF : Hid (Blk (World.setCell w_16 ⟨gx, 9, none⟩ (.slice A_16 (al + 1) c_16)) gx 46 (repC (.slice A_16 (al + 1) c_16))) := by show Blk _ _ _ _; rw [← HS8.out (.slice Ao al co)]; exact Blk.set_ HX_16.out 9 _
            have HRF : Hid (RdSt (World.setCell w_16 ⟨gx, 9, none⟩ (.slice A_16 (al + 1) c_16)) B g s2) := HR_16.out.far (p := ⟨gx, 9, none⟩) HBX.out (fun e => HNE.out e.symm) _
            have HSF : Hid (Sv (fun j => j = g ∨ j = gx) w (World.setCell w_16 ⟨gx, 9, none⟩ (.slice A_16 (al + 1) c_16))) := HS_16.out.set (p := ⟨gx, 9, none⟩) (.inl (.inr rfl)) _
            have HOF : Hid (World.ownsRow (World.setCell w_16 ⟨gx, 9, none⟩ (.slice A_16 (al + 1) c_16)) w.heap.size 82 2 (.slice A_16 (al + 1) c_16) (al + 1) (rowC ksF (acc ++ [[x1, x2]]))) := by
              show World.ownsRow _ _ _ _ _ _ _
              rw [rowC_append]
              exact own_set HO_16.out (own_blk_ne HO_16.out HX_16.out (by decide)) 9 _
            generalize (World.setCell w_16 ⟨gx, 9, none⟩ (.slice A_16 (al + 1) c_16)) = wf at *
            obtain ⟨q, hq⟩ : ∃ q, q = s3.1.length := ⟨_, rfl⟩
            have HQ := Lib.hid hq
            clear hq
            by_cases hx30 : x3 = 0
            · have HP : Hid (firS s1 = ([x1, x2], s3)) := by show _ = _; rw [HPF.out]; simp [hx30]
              have hz3 : (x3 : Int) = 0 := by omega
              clear hx30
              by_cases hq0 : 0 < q
              · have hq1 : (0 : Int) < (q : Int) := by omega
                go_wp2_with (first
                  | (go_at_call 51
                     refine (num_z HRF.out (k := 3) rfl (by decide) (by decide) HE3.out).mono ?_
                     rintro e0 w11 ⟨rfl, hr11, hs11⟩
                     have HX11 := Lib.hid (hs11.blk HXF.out (fun e => HNE.out e.symm))
                     have HO11 := Lib.hid (hs11.own HOF.out (fun g' hg' e => by have := (HOF.out.lt g' hg').1; have := HGL.out; omega))
                     have HS11 : Hid (Sv (fun j => j = g ∨ j = gx) w w11) := HSF.out.trans hs11 (fun _ _ e => .inl e)
                     obtain ⟨hq1, hq2, Aq, cq, hq3, hq4⟩ := hr11
                     have hcg : w11.cell? ⟨g, 0, none⟩ = some (.slice Aq q cq) := by have := hq3.cell 0; rw [← HQ.out] at this; exact this
                     have hcb : w11.cell? ⟨g, 1, none⟩ = some (.bool s3.2) := hq3.cell 1
                     have hfb : w11.frozen? ⟨g, 1, none⟩ = false := hq3.frozen 1
                     have HR11 : Hid (RdSt w11 B g s3) := ⟨hq1, hq2, Aq, cq, hq3, hq4⟩
                     have HB11 := Lib.hid hq3
                     have HL11 := Lib.hid hq4
                     clear hs11 hq1 hq2 hq3 hq4))
                go_roundg (fuel - 1)
                case measure => have := HFU.out; omega
                case rel =>
                  have hne : s3.1 ≠ [] := List.length_pos_iff.1 (by show 0 < s3.1.length; rw [← HQ.out]; exact hq0)
                  have hsh := shr_fir s1 (by rw [HP.out]; exact hne)
                  rw [HP.out] at hsh
                  have hsh' : s3.1.length < s1.1.length := hsh
                  have hfu := HFU.out
                  obtain ⟨f', hf'⟩ : ∃ f', fuel = f' + 1 := ⟨fuel - 1, by omega⟩
                  have hdo := HDO.out
                  rw [hf', doS_more f' HP.out hne] at hdo
                  refine ⟨acc ++ [[x1, x2]], s3, fuel - 1, al + 1, A_16, c_16, .inl ⟨rfl, rfl, by show s3.1.length < _; omega, by omega, ?_⟩, by rw [List.length_append, ← HAL.out]; rfl, by omega, HR11.out, HX11.out, HO11.out, HS11.out⟩
                  rw [hdo, show fuel - 1 = f' by omega, List.append_assoc]
                  rfl
              · have hq1 : ¬ (0 : Int) < (q : Int) := by omega
                go_wp2_with (first
                  | (go_at_call 51
                     refine (num_z HRF.out (k := 3) rfl (by decide) (by decide) HE3.out).mono ?_
                     rintro e0 w11 ⟨rfl, hr11, hs11⟩
                     have HX11 := Lib.hid (hs11.blk HXF.out (fun e => HNE.out e.symm))
                     have HO11 := Lib.hid (hs11.own HOF.out (fun g' hg' e => by have := (HOF.out.lt g' hg').1; have := HGL.out; omega))
                     have HS11 : Hid (Sv (fun j => j = g ∨ j = gx) w w11) := HSF.out.trans hs11 (fun _ _ e => .inl e)
                     obtain ⟨hq1, hq2, Aq, cq, hq3, hq4⟩ := hr11
                     have hcg : w11.cell? ⟨g, 0, none⟩ = some (.slice Aq q cq) := by have := hq3.cell 0; rw [← HQ.out] at this; exact this
                     have hcb : w11.cell? ⟨g, 1, none⟩ = some (.bool s3.2) := hq3.cell 1
                     have hfb : w11.frozen? ⟨g, 1, none⟩ = false := hq3.frozen 1
                     have HR11 : Hid (RdSt w11 B g s3) := ⟨hq1, hq2, Aq, cq, hq3, hq4⟩
                     have HB11 := Lib.hid hq3
                     have HL11 := Lib.hid hq4
                     clear hs11 hq1 hq2 hq3 hq4))
                go_roundg 0
                case measure => have := HFU.out; omega
                case rel =>
                  have he : s3.1 = [] := List.eq_nil_of_length_eq_zero (by show s3.1.length = 0; rw [← HQ.out]; omega)
                  have hfu := HFU.out
                  obtain ⟨f', hf'⟩ : ∃ f', fuel = f' + 1 := ⟨fuel - 1, by omega⟩
                  have hdo := HDO.out
                  rw [hf', doS_end f' HP.out he] at hdo
                  exact ⟨acc ++ [[x1, x2]], s3, 0, al + 1, A_16, c_16, .inr ⟨rfl, rfl, hdo⟩, by rw [List.length_append, ← HAL.out]; rfl, by omega, HR11.out, HX11.out, HO11.out, HS11.out⟩
            · have HP : Hid (firS s1 = ([x1, x2], (s3.1, true))) := by show _ = _; rw [HPF.out]; simp [hx30]
              have hz3 : ¬ (x3 : Int) = 0 := by omega
              have hz4 : ((x3 : Int) != 0) = true := by simpa using hz3
              clear hz3
              clear hx30
              by_cases hq0 : 0 < q
              · have hq1 : (0 : Int) < (q : Int) := by omega
                go_wp2_with (first
                  | (go_at_call 51
                     refine (num_z HRF.out (k := 3) rfl (by decide) (by decide) HE3.out).mono ?_
                     rintro e0 w11 ⟨rfl, hr11, hs11⟩
                     have HX11 := Lib.hid (hs11.blk HXF.out (fun e => HNE.out e.symm))
                     have HO11 := Lib.hid (hs11.own HOF.out (fun g' hg' e => by have := (HOF.out.lt g' hg').1; have := HGL.out; omega))
                     have HS11 : Hid (Sv (fun j => j = g ∨ j = gx) w w11) := HSF.out.trans hs11 (fun _ _ e => .inl e)
                     obtain ⟨hq1, hq2, Aq, cq, hq3, hq4⟩ := hr11
                     have hcg : w11.cell? ⟨g, 0, none⟩ = some (.slice Aq q cq) := by have := hq3.cell 0; rw [← HQ.out] at this; exact this
                     have hcb : w11.cell? ⟨g, 1, none⟩ = some (.bool s3.2) := hq3.cell 1
                     have hfb : w11.frozen? ⟨g, 1, none⟩ = false := hq3.frozen 1
                     have HR11 : Hid (RdSt w11 B g s3) := ⟨hq1, hq2, Aq, cq, hq3, hq4⟩
                     have HB11 := Lib.hid hq3
                     have HL11 := Lib.hid hq4
                     clear hs11 hq1 hq2 hq3 hq4))
                have HRL : Hid (RdSt (w11.setCell ⟨g, 1, none⟩ (.bool true)) B g (s3.1, true)) := ⟨HR11.out.1, HR11.out.2.1, Aq, cq, HB11.out.set_ 1 _, SlB.keep HL11.out (fun p hp => World.cell?_setCell_other _ _ _ _ (fun e => by subst e; have h1 : g < B := hp; have := HBG.out; omega))⟩
                have HX12 : Hid (Blk (w11.setCell ⟨g, 1, none⟩ (.bool true)) gx 46 (repC (.slice A_16 (al + 1) c_16))) := Blk.far HX11.out (p := ⟨g, 1, none⟩) (fun e => HNE.out e.symm) _
                have HO12 := Lib.hid (own_set HO11.out (fun e => by have := (HO11.out.lt g e).1; have := HGL.out; omega : Value.ownBlock _ ≠ some g) 1 (.bool true))
                have HS12 : Hid (Sv (fun j => j = g ∨ j = gx) w (w11.setCell ⟨g, 1, none⟩ (.bool true))) := HS11.out.set (p := ⟨g, 1, none⟩) (.inl (.inl rfl)) _
                go_roundg (fuel - 1)
                case measure => have := HFU.out; omega
                case rel =>
                  have hne : (s3.1, true).1 ≠ [] := List.length_pos_iff.1 (by show 0 < s3.1.length; rw [← HQ.out]; exact hq0)
                  have hsh := shr_fir s1 (by rw [HP.out]; exact hne)
                  rw [HP.out] at hsh
                  have hsh' : s3.1.length < s1.1.length := hsh
                  have hfu := HFU.out
                  obtain ⟨f', hf'⟩ : ∃ f', fuel = f' + 1 := ⟨fuel - 1, by omega⟩
                  have hdo := HDO.out
                  rw [hf', doS_more f' HP.out hne] at hdo
                  refine ⟨acc ++ [[x1, x2]], (s3.1, true), fuel - 1, al + 1, A_16, c_16, .inl ⟨rfl, rfl, by show s3.1.length < _; omega, by omega, ?_⟩, by rw [List.length_append, ← HAL.out]; rfl, by omega, HRL.out, HX12.out, HO12.out, HS12.out⟩
                  rw [hdo, show fuel - 1 = f' by omega, List.append_assoc]
                  rfl
              · have hq1 : ¬ (0 : Int) < (q : Int) := by omega
                go_wp2_with (first
                  | (go_at_call 51
                     refine (num_z HRF.out (k := 3) rfl (by decide) (by decide) HE3.out).mono ?_
                     rintro e0 w11 ⟨rfl, hr11, hs11⟩
                     have HX11 := Lib.hid (hs11.blk HXF.out (fun e => HNE.out e.symm))
                     have HO11 := Lib.hid (hs11.own HOF.out (fun g' hg' e => by have := (HOF.out.lt g' hg').1; have := HGL.out; omega))
                     have HS11 : Hid (Sv (fun j => j = g ∨ j = gx) w w11) := HSF.out.trans hs11 (fun _ _ e => .inl e)
                     obtain ⟨hq1, hq2, Aq, cq, hq3, hq4⟩ := hr11
                     have hcg : w11.cell? ⟨g, 0, none⟩ = some (.slice Aq q cq) := by have := hq3.cell 0; rw [← HQ.out] at this; exact this
                     have hcb : w11.cell? ⟨g, 1, none⟩ = some (.bool s3.2) := hq3.cell 1
                     have hfb : w11.frozen? ⟨g, 1, none⟩ = false := hq3.frozen 1
                     have HR11 : Hid (RdSt w11 B g s3) := ⟨hq1, hq2, Aq, cq, hq3, hq4⟩
                     have HB11 := Lib.hid hq3
                     have HL11 := Lib.hid hq4
                     clear hs11 hq1 hq2 hq3 hq4))
                have HRL : Hid (RdSt (w11.setCell ⟨g, 1, none⟩ (.bool true)) B g (s3.1, true)) := ⟨HR11.out.1, HR11.out.2.1, Aq, cq, HB11.out.set_ 1 _, SlB.keep HL11.out (fun p hp => World.cell?_setCell_other _ _ _ _ (fun e => by subst e; have h1 : g < B := hp; have := HBG.out; omega))⟩
                have HX12 : Hid (Blk (w11.setCell ⟨g, 1, none⟩ (.bool true)) gx 46 (repC (.slice A_16 (al + 1) c_16))) := Blk.far HX11.out (p := ⟨g, 1, none⟩) (fun e => HNE.out e.symm) _
                have HO12 := Lib.hid (own_set HO11.out (fun e => by have := (HO11.out.lt g e).1; have := HGL.out; omega : Value.ownBlock _ ≠ some g) 1 (.bool true))
                have HS12 : Hid (Sv (fun j => j = g ∨ j = gx) w (w11.setCell ⟨g, 1, none⟩ (.bool true))) := HS11.out.set (p := ⟨g, 1, none⟩) (.inl (.inl rfl)) _
                go_roundg 0
                case measure => have := HFU.out; omega
                case rel =>
                  have he : (s3.1, true).1 = [] := List.eq_nil_of_length_eq_zero (by show s3.1.length = 0; rw [← HQ.out]; omega)
                  have hfu := HFU.out
                  obtain ⟨f', hf'⟩ : ∃ f', fuel = f' + 1 := ⟨fuel - 1, by omega⟩
                  have hdo := HDO.out
                  rw [hf', doS_end f' HP.out he] at hdo
                  exact ⟨acc ++ [[x1, x2]], (s3.1, true), 0, al + 1, A_16, c_16, .inr ⟨rfl, rfl, hdo⟩, by rw [List.length_append, ← HAL.out]; rfl, by omega, HRL.out, HX12.out, HO12.out, HS12.out⟩
    · have HDO := Lib.hid hdo
      clear hdo
      go_wp2_with fail
      go_end0
      rw [HDO.out, HREP.out] at *
      exact ⟨rfl, ⟨_, HX.out, by rw [← HAL.out]; exact HO.out⟩, HR.out, HS.out⟩
end Go.Proofs.Ytkfimncbfbbopaa
