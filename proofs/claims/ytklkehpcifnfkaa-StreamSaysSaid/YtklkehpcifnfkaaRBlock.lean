/- What the reference's Block returns (contract). Conditions: the round keys lie in memory. -/
import Derived.Test.YtklkehpcifnfkaaRKey
set_option linter.unusedVariables false
set_option linter.unusedSimpArgs false
namespace Go.Proofs.Ytklkehpcifnfkaa
open Go.RowKit
attribute [local go_sem ↓] Go.wp_at_zero Go.wp_at_succ

/-- Round keys in memory. -/
def RKc (w : World) (gR m : Nat) (W : List UInt8) : Prop := gR < w.heap.size ∧ W.length = 16 * m ∧ ∀ i, i < W.length → w.cell? ⟨gR, i, none⟩ = some (.int .u8 ((W.getD i 0).toNat : Int))
theorem RKc.below {w w' : World} {gR m : Nat} {W : List UInt8} (h : RKc w gR m W) (hb : Below w.heap.size w w') : RKc w' gR m W :=
  ⟨Nat.lt_of_lt_of_le h.1 hb.size, h.2.1, fun i hi => (hb.cell (p := ⟨gR, i, none⟩) h.1).trans (h.2.2 i hi)⟩
def rowR (W : List UInt8) (r : Nat) : List UInt8 := (W.drop (16 * r)).take 16
theorem rowR_len {W : List UInt8} {r m : Nat} (h : W.length = 16 * m) (hr : r < m) : (rowR W r).length = 16 := by
  rw [rowR, List.length_take, List.length_drop]; omega
theorem rowR_getD (W : List UInt8) (r i : Nat) (hi : i < 16) : (rowR W r).getD i 0 = W.getD (16 * r + i) 0 := by
  rw [rowR, List.getD_eq_getElem?_getD, List.getElem?_take, if_pos hi, List.getElem?_drop, ← List.getD_eq_getElem?_getD]
theorem RKc.row {w : World} {gR m : Nat} {W : List UInt8} (h : RKc w gR m W) {r : Nat} (hr : r < m) : w.rangeAt gR (r * 16) ((rowR W r).map u8v) := fun j v hv => by
  have hl := rowR_len h.2.1 hr
  have hj : j < 16 := by
    rcases Nat.lt_or_ge j 16 with h | h
    · exact h
    · rw [List.getElem?_eq_none (by rw [List.length_map, hl]; exact h)] at hv; cases hv
  have e := rowR_getD W r j hj
  rw [List.getElem?_map, List.getElem?_eq_getElem (by omega)] at hv
  rw [List.getD_eq_getElem?_getD, List.getElem?_eq_getElem (by omega)] at e
  rw [show r * 16 + j = 16 * r + j by omega, h.2.2 _ (by have := h.2.1; omega), ← e, ← hv]
  rfl
theorem with_add (s W : List UInt8) (r : Nat) : withS s (rowR W r) = addR s W r := by
  unfold withS addR
  refine List.map_congr_left fun i hi => ?_
  rw [rowR_getD _ _ _ (List.mem_range.1 hi)]
theorem wpAnyH_putNone {P : Program} {md : Region.Mode} {ops : Array Oper} {Q : Exit → Act → World → Prop} {S : World → Prop} {x : Option Nat} {v : Value} {fuel : Nat} {listed : Array Bool} {a : Act} {w : World} (hd : x = none)
    (h : wpAnyH P md ops Q S fuel listed a w) : wpAnyH P md ops Q S fuel listed (Act.put a x v) w := by
  rw [hd]
  exact h
def Sb (w0 : World) (g gk gR r : Nat) (X : List UInt8) (v : Value) (R : List UInt8) (w' : World) : Prop :=
  w'.rangeAt g 0 (X.map u8v) ∧ w'.cell? ⟨gk, 256, none⟩ = some v ∧ w'.rangeAt gR (r * 16) (R.map u8v) ∧ Below w0.heap.size w0 w'
def Sc (w : World) (gt gk gs gz : Nat) (X : List UInt8) (v : Value) (w' : World) : Prop :=
  BB w' gt 23 X ∧ KT w' gk v ∧ (∃ Z, Z.length = 16 ∧ BB w' gs 23 Z) ∧ BB w' gz 23 zero16 ∧ Below w.heap.size w w'
theorem Sc.call {w w' w'' : World} {gt gk gs gz : Nat} {X : List UInt8} {v : Value} (h : Sc w gt gk gs gz X v w') (hb : Below w'.heap.size w' w'') : Sc w gt gk gs gz X v w'' := by
  obtain ⟨h1, h2, ⟨Z, h3, h4⟩, h5, h6⟩ := h
  exact ⟨h1.below hb, Blk.below h2 hb, ⟨Z, h3, h4.below hb⟩, h5.below hb, bcall h6 hb⟩
theorem Sc.store {w w' : World} {gt gk gs gz : Nat} {X Y : List UInt8} {v : Value} (h : Sc w gt gk gs gz X v w') (hY : Y.length = 16) (h1 : gt ≠ gs) (h2 : gk ≠ gs) (h3 : gz ≠ gs) (h4 : w.heap.size ≤ gs) : Sc w gt gk gs gz X v (w'.setCells gs 0 (Y.map u8v)) := by
  obtain ⟨k1, k2, ⟨Z, k3, k4⟩, k5, k6⟩ := h
  exact ⟨Blk.farAll h1 _ _ _ k1, Blk.farAll h2 _ _ _ k2, ⟨Y, hY, BB.setAll k4 (by rw [hY, k3])⟩, Blk.farAll h3 _ _ _ k5, below_setCells k6 h4 _ _⟩
set_option maxRecDepth 100000 in
set_option maxHeartbeats 6400000 in
theorem rblock_c (x W : List UInt8) (gR m cR last : Nat) (w : World) (hx : x.length = 16) (hk : RKc w gR m W) (hm : m = last + 1) (hl1 : 1 ≤ last) (hl2 : last ≤ 60) :
    Calls Try.prog 17 #[.agg (rkV (.slice (some ⟨gR, 0, none⟩) m cR)).toArray, .agg (x.map u8v).toArray] w fun e w' => e = .returned (.agg ((blockS W x).map u8v).toArray) ∧ Below w.heap.size w w' := by
  have hWl := hk.2.1
  have hlast : W.length / 16 - 1 = last := by omega
  have HLAST := Lib.hid hlast
  have HK := Lib.hid hk
  have HX := Lib.hid hx
  have HM := Lib.hid hm
  have HWL := Lib.hid hWl
  have hml : m ≤ 61 := by omega
  have hm1 : 1 ≤ m := by omega
  have hmne : ¬ m = 0 := by omega
  have hmi : (0 : Int) < (m : Int) := by omega
  have hgR := hk.1
  clear hk hx hm hWl hlast
  go_enter Try.func17, Try.ntmps17
  go_upto_region 1 with (fail)
  rw [← z16]
  obtain ⟨gk, hgk⟩ : ∃ gk, gk = w.heap.size := ⟨_, rfl⟩
  obtain ⟨gx, hgx⟩ : ∃ gx, gx = w.heap.size + 1 := ⟨_, rfl⟩
  obtain ⟨gz, hgz⟩ : ∃ gz, gz = w.heap.size + 1 + 1 := ⟨_, rfl⟩
  have h0 : Blk (((w.alloc (.cells (rkV (.slice (some ⟨gR, 0, none⟩) m cR)).toArray 31)).alloc (.cells (x.map u8v).toArray 23)).alloc (.cells (zero16.map u8v).toArray 23)) w.heap.size 31 (rkV (.slice (some ⟨gR, 0, none⟩) m cR)).toArray := ((Blk.new w 31 _).alloc _).alloc _
  have h1 := (BB.new (w.alloc (.cells (rkV (.slice (some ⟨gR, 0, none⟩) m cR)).toArray 31)) 23 x).alloc (.cells (zero16.map u8v).toArray 23)
  have h2 := BB.new ((w.alloc (.cells (rkV (.slice (some ⟨gR, 0, none⟩) m cR)).toArray 31)).alloc (.cells (x.map u8v).toArray 23)) 23 zero16
  simp only [World.size_alloc] at h1 h2
  have HBEL := Lib.hid (balloc (balloc (balloc (Below.refl w.heap.size w) (.cells (rkV (.slice (some ⟨gR, 0, none⟩) m cR)).toArray 31)) (.cells (x.map u8v).toArray 23)) (.cells (zero16.map u8v).toArray 23))
  generalize (((w.alloc (.cells (rkV (.slice (some ⟨gR, 0, none⟩) m cR)).toArray 31)).alloc (.cells (x.map u8v).toArray 23)).alloc (.cells (zero16.map u8v).toArray 23)) = w1 at *
  rw [← hgz] at h2 ⊢
  rw [← hgx] at h1 ⊢
  rw [← hgk] at h0 ⊢
  have HKT1 : Hid (KT w1 gk (.slice (some ⟨gR, 0, none⟩) m cR)) := h0
  have HX1 := Lib.hid h1
  have HZ1 := Lib.hid h2
  have HGK := Lib.hid hgk
  have HGX := Lib.hid hgx
  have HGZ := Lib.hid hgz
  have hgkl : w.heap.size ≤ gk := by omega
  clear h0 h1 h2 hgk hgx hgz
  have HRK1 := Lib.hid (HK.out.below HBEL.out)
  obtain ⟨R0, hR0⟩ : ∃ R0, R0 = rowR W 0 := ⟨_, rfl⟩
  obtain ⟨S2, hS2⟩ : ∃ S2, S2 = stS W last x 0 := ⟨_, rfl⟩
  have hR0l : R0.length = 16 := by rw [hR0]; exact rowR_len HWL.out (by omega)
  have HLEN2 : Hid (S2.length = 16) := by show _ = _; rw [hS2]; exact stS_len _ _ _ _
  have hwe : withS x R0 = S2 := by rw [hS2, hR0, with_add]; rfl
  have HW : Hid (∀ wx, Calls Try.prog 34 #[.agg (x.map u8v).toArray, .agg (R0.map u8v).toArray] wx fun e w' => e = .returned (.agg (S2.map u8v).toArray) ∧ Below wx.heap.size wx w') := fun wx => by rw [← hwe]; exact with_c x R0 wx HX.out hR0l
  have HLEN : Hid (zero16.length = (S2.map u8v).toArray.size) := by show _ = _; rw [List.size_toArray, List.length_map, HLEN2.out]; rfl
  have HJ : Hid ((Try.prog.info? 23).map (·.size) = some (S2.map u8v).toArray.size) := by show _ = _; rw [List.size_toArray, List.length_map, HLEN2.out]; exact info23
  have hu := Try.underlying23
  have hit : (Try.prog.info? 23).map (·.size) = some (x.map u8v).length := by rw [List.length_map, HX.out]; exact info23
  have hir : (Try.prog.info? 23).map (·.size) = some (R0.map u8v).length := by rw [List.length_map, hR0l]; exact info23
  have K : Hid (∀ w', Below w1.heap.size w1 w' → Sb w1 gx gk gR 0 x (.slice (some ⟨gR, 0, none⟩) m cR) R0 w') := fun w' hb => ⟨(HX1.out.below hb).range, (hb.cell (p := ⟨gk, 256, none⟩) (Blk.lt HKT1.out)).trans HKT1.out.suf, by have := (HRK1.out.below hb).row (r := 0) (by omega); rw [← hR0] at this; exact this, hb⟩
  have HS2 := Lib.hid hS2
  clear hR0 hR0l hwe hS2
  go_cut [5] from 9 to 14 (fun v5 wx => ∃ gs, v5 = .pointer (some ⟨gs, 0, none⟩) ∧ w1.heap.size ≤ gs ∧ BB wx gs 23 S2 ∧ Below w1.heap.size w1 wx)
  case first =>
    refine wp_region_held_drew (S := Sb w1 gx gk gR 0 x (.slice (some ⟨gR, 0, none⟩) m cR) R0) (by kernel_rfl) (K.out _ (bdrew (Below.refl _ _))) (fun hHeld => ?_)
    refine wpAnyH_takeAt (i := 0) (v := (.agg (x.map u8v).toArray)) rfl (by kernel_rfl) (by kernel_rfl) (by kernel_rfl) (fun _ _ _ h => h) rfl (yieldsIf_load_mid (by rfl) 23 _ rfl gx 0 rfl (x.map u8v) _ (fun w' hS => hS.1) hu rfl hit) hHeld ?_
    simp only [List.set_cons_zero, List.set_cons_succ]
    refine wpAnyH_takeAt (i := 1) (v := (.pointer (some ⟨gk, 256, none⟩))) rfl (by kernel_rfl) (by kernel_rfl) (by kernel_rfl) (fun _ _ _ h => h) rfl (Or.inl ⟨by rfl, fun w' hS => ?_⟩) hHeld ?_
    · go_simp
    simp only [List.set_cons_zero, List.set_cons_succ]
    refine wpAnyH_takeAt (i := 2) (v := (.slice (some ⟨gR, 0, none⟩) m cR)) rfl (by kernel_rfl) (by kernel_rfl) (by kernel_rfl) (fun _ _ _ h => h) rfl (Or.inl ⟨by rfl, fun w' hS => ?_⟩) hHeld ?_
    · have hc := hS.2.1
      go_simp
    simp only [List.set_cons_zero, List.set_cons_succ]
    refine wpAnyH_takeAt (i := 3) (v := (.pointer (some ⟨gR, 0, none⟩))) rfl (by kernel_rfl) (by kernel_rfl) (by kernel_rfl) (fun _ _ _ h => h) rfl (Or.inl ⟨by rfl, fun w' hS => ?_⟩) hHeld ?_
    · go_simp
    simp only [List.set_cons_zero, List.set_cons_succ]
    refine wpAnyH_takeAt (i := 4) (v := (.agg (R0.map u8v).toArray)) rfl (by kernel_rfl) (by kernel_rfl) (by kernel_rfl) (fun _ _ _ h => h) rfl (yieldsIf_load_mid (by rfl) 23 _ rfl gR 0 rfl (R0.map u8v) _ (fun w' hS => hS.2.2.1) hu rfl hir) hHeld ?_
    simp only [List.set_cons_zero, List.set_cons_succ]
    refine wpAnyH_ready (rs := [5, 6]) (by kernel_rfl) (by simp) (AllReadyH.cons rfl (fun K' hK => ?_) (AllReadyH.cons rfl (fun K' hK => ?_) AllReadyH.nil))
    · go_simp
      go_at_call 34
      refine (HW.out _).mono ?_
      rintro e0 w' ⟨rfl, hb⟩
      go_wp2_with fail
      refine hK.out _ _ (K.out _ (bcall hHeld.2.2.2 hb)) (fun hHeld' => ?_)
      clear hK hHeld hb
      have hHeld := hHeld'
      clear hHeld'
      refine wpAnyH_ready (rs := [6]) (by kernel_rfl) (by simp) (AllReadyH.cons rfl (fun K' hK => ?_) AllReadyH.nil)
      go_simp
      rw [← z16]
      have HG := Lib.hid (BB.new w' 23 zero16)
      have HBK := Lib.hid (balloc hHeld.2.2.2 (.cells (zero16.map u8v).toArray 23))
      have HWK := Lib.hid hHeld.2.2.2.size
      obtain ⟨gs, hgs⟩ : ∃ gs, gs = w'.heap.size := ⟨_, rfl⟩
      rw [← hgs] at HG ⊢
      have HLE : Hid (w1.heap.size ≤ gs) := by show _ ≤ _; rw [hgs]; exact HWK.out
      generalize (w'.alloc (.cells (zero16.map u8v).toArray 23)) = wg at *
      refine hK.out _ _ (K.out _ HBK.out) (fun hHeld' => ?_)
      clear hK hHeld hgs
      have hHeld := hHeld'
      clear hHeld'
      have HTHS : Hid (wg.there gs 0 (S2.map u8v).toArray.size) := there16 HG.out HLEN.out
      refine wpAnyH_ready (rs := [7]) (by kernel_rfl) (by simp) (AllReadyH.cons rfl (fun K' hK => ?_) AllReadyH.nil)
      rw [if_pos (by rfl)]
      refine wp_store_mid 23 (.tmp 5) (.tmp 14) (by rfl) gs 0 (S2.map u8v).toArray (by rfl) (by rfl) HTHS.out HJ.out (bytes_one _) ?_
      refine hK.out _ _ (K.out _ (below_setCells HBK.out HLE.out _ _)) (fun hHeld' => ?_)
      clear hK hHeld
      have hHeld := hHeld'
      clear hHeld'
      refine wpAnyH_putNone rfl ?_
      refine wpAnyH_done (by kernel_rfl) ?_ _
      go_wp2_with fail
      go_meet
      exact ⟨gs, rfl, HLE.out, BB.setAll HG.out (by rw [HLEN2.out]; rfl), below_setCells HBK.out HLE.out _ _⟩
    · go_simp
      rw [← z16]
      have HG0 := Lib.hid (BB.new w1 23 zero16)
      have HBK0 : Hid (Below w1.heap.size w1 (w1.alloc (.cells (zero16.map u8v).toArray 23)).drew) := bdrew (balloc (Below.refl _ _) _)
      have HG1 : Hid (BB (w1.alloc (.cells (zero16.map u8v).toArray 23)).drew w1.heap.size 23 zero16) := HG0.out.drew
      obtain ⟨gs, hgs⟩ : ∃ gs, gs = w1.heap.size := ⟨_, rfl⟩
      rw [← hgs] at HG1 ⊢
      have HLE : Hid (w1.heap.size ≤ gs) := by show _ ≤ _; rw [hgs]; exact Nat.le_refl _
      generalize (w1.alloc (.cells (zero16.map u8v).toArray 23)).drew = wd at *
      refine hK.out _ _ (K.out _ HBK0.out) (fun hHeld' => ?_)
      clear hK hHeld HG0 hgs
      have hHeld := hHeld'
      clear hHeld'
      refine wpAnyH_ready (rs := [5]) (by kernel_rfl) (by simp) (AllReadyH.cons rfl (fun K' hK => ?_) AllReadyH.nil)
      go_simp
      go_at_call 34
      refine (HW.out _).mono ?_
      rintro e0 wg ⟨rfl, hb⟩
      have HG := Lib.hid (HG1.out.below hb)
      have HBK := Lib.hid (bcall HBK0.out hb)
      go_wp2_with fail
      refine hK.out _ _ (K.out _ HBK.out) (fun hHeld' => ?_)
      clear hK hHeld hb HG1 HBK0
      have hHeld := hHeld'
      clear hHeld'
      have HTHS : Hid (wg.there gs 0 (S2.map u8v).toArray.size) := there16 HG.out HLEN.out
      refine wpAnyH_ready (rs := [7]) (by kernel_rfl) (by simp) (AllReadyH.cons rfl (fun K' hK => ?_) AllReadyH.nil)
      rw [if_pos (by rfl)]
      refine wp_store_mid 23 (.tmp 5) (.tmp 14) (by rfl) gs 0 (S2.map u8v).toArray (by rfl) (by rfl) HTHS.out HJ.out (bytes_one _) ?_
      refine hK.out _ _ (K.out _ (below_setCells HBK.out HLE.out _ _)) (fun hHeld' => ?_)
      clear hK hHeld
      have hHeld := hHeld'
      clear hHeld'
      refine wpAnyH_putNone rfl ?_
      refine wpAnyH_done (by kernel_rfl) ?_ _
      go_wp2_with fail
      go_meet
      exact ⟨gs, rfl, HLE.out, BB.setAll HG.out (by rw [HLEN2.out]; rfl), below_setCells HBK.out HLE.out _ _⟩
  case rest =>
    obtain ⟨gs, rfl, hgs, hbs, hb1⟩ := hcut
    have hgks : gk < gs := Nat.lt_of_lt_of_le (Blk.lt HKT1.out) hgs
    have hgzs : gz < gs := Nat.lt_of_lt_of_le (Blk.lt HZ1.out) hgs
    have hgkz : gk < gz := by have := HGK.out; have := HGZ.out; omega
    have HBSc := Lib.hid hbs
    have HZc := Lib.hid (HZ1.out.below hb1)
    have HKTc : Hid (KT wc gk (.slice (some ⟨gR, 0, none⟩) m cR)) := Blk.below HKT1.out hb1
    have HBELc := Lib.hid (bcall HBEL.out hb1)
    clear hbs hb1 hgs HX1 HZ1 HKT1 HBEL HRK1 HW HLEN HJ hit hir K HLEN2
    go_wp2_with fail
    go_loopg [6] last (fun gg v6 wx => ∃ r : Nat, 1 ≤ r ∧ r ≤ last + 1 ∧ gg = last + 1 - r ∧ v6 = .int .i64 (r : Int) ∧ BB wx gs 23 (stS W last x (r - 1)) ∧ BB wx gz 23 zero16 ∧ KT wx gk (.slice (some ⟨gR, 0, none⟩) m cR) ∧ Below w.heap.size w wx)
    case atStart => exact ⟨1, by omega, by omega, by omega, rfl, by rw [← show S2 = stS W last x (1 - 1) from HS2.out]; exact HBSc.out, HZc.out, HKTc.out, HBELc.out⟩
    case round =>
      obtain ⟨r, hr1, hr2, rfl, rfl, hbs, hbz, hkt, hbel⟩ := hrel
      clear HBSc HZc HKTc HBELc HS2
      have cs := hkt.suf
      by_cases hrl : r ≤ last
      · have hrm : (r : Int) < (m : Int) := by have := HM.out; omega
        have hrmn : r < m := by have := HM.out; omega
        obtain ⟨r', hr'⟩ : ∃ r', r = r' + 1 := ⟨r - 1, by omega⟩
        obtain ⟨S, hS⟩ : ∃ S, S = stS W last x (r - 1) := ⟨_, rfl⟩
        rw [← hS] at hbs
        have hSl : S.length = 16 := by rw [hS]; exact stS_len _ _ _ _
        have HSL := Lib.hid hSl
        have HNX : Hid (rndS W last r S = stS W last x r) := by show _ = _; rw [hS, hr']; rfl
        obtain ⟨f, hf⟩ : ∃ f : Nat → UInt8, f = fun i => sb (S.getD (sgm i) 0) := ⟨_, rfl⟩
        have HFF := Lib.hid hf
        have HMV : Hid (movS S = (List.range 16).map f) := by show _ = _; rw [hf]; rfl
        obtain ⟨gt, hgt⟩ : ∃ gt, gt = wr.heap.size := ⟨_, rfl⟩
        have hgst : gs < gt := by rw [hgt]; exact Blk.lt hbs
        have HT0 : Hid (BB (wr.alloc (.cells (zero16.map u8v).toArray 23)) gt 23 zero16) := by show BB _ _ _ _; rw [hgt]; exact BB.new wr 23 zero16
        have HS0 := Lib.hid (hbs.alloc (.cells (zero16.map u8v).toArray 23))
        have HZ0 := Lib.hid (hbz.alloc (.cells (zero16.map u8v).toArray 23))
        have HK0 : Hid (KT (wr.alloc (.cells (zero16.map u8v).toArray 23)) gk (.slice (some ⟨gR, 0, none⟩) m cR)) := Blk.alloc hkt _
        have HB0 := Lib.hid (balloc hbel (.cells (zero16.map u8v).toArray 23))
        clear hbs hbz hkt hbel hS hSl hr' hf
        go_wp2_with fail
        rw [← z16, ← hgt]
        generalize (wr.alloc (.cells (zero16.map u8v).toArray 23)) = wt at *
        clear hgt cs
        go_loopg [8] 16 (fun gg v8 wx => ∃ k : Nat, k ≤ 16 ∧ gg = 16 - k ∧ v8 = .int .i64 (k : Int) ∧ BB wx gt 23 (upTo 16 k f (fun _ => 0)) ∧ BB wx gs 23 S ∧ BB wx gz 23 zero16 ∧ KT wx gk (.slice (some ⟨gR, 0, none⟩) m cR) ∧ Below w.heap.size w wx)
        case atStart => exact ⟨0, by omega, rfl, rfl, by rw [upTo_zero, top_start]; exact HT0.out, HS0.out, HZ0.out, HK0.out, HB0.out⟩
        case round =>
          obtain ⟨k, hk, rfl, rfl, hbt, hbs, hbz, hkt, hbel⟩ := hrel
          clear HT0 HS0 HZ0 HK0 HB0
          by_cases hk2 : k < 16
          · have hki : (k : Int) < 16 := by omega
            obtain ⟨q4, hq4⟩ : ∃ m, m = k % 4 := ⟨_, rfl⟩
            obtain ⟨m4, hm4⟩ : ∃ m4, m4 = 4 * q4 := ⟨_, rfl⟩
            obtain ⟨s4, hs4⟩ : ∃ s4, s4 = k + m4 := ⟨_, rfl⟩
            obtain ⟨q, hq⟩ : ∃ q, q = sgm k := ⟨_, rfl⟩
            have hrem : (k : Int).tmod 4 = (q4 : Int) := by rw [hq4]; rfl
            have hw4 : IntKind.i64.wrap (4 * (q4 : Int)) = (m4 : Int) := by rw [hm4, show (4 * (q4 : Int)) = ((4 * q4 : Nat) : Int) by omega]; exact wrap64 _ (by omega)
            have hws : IntKind.i64.wrap ((k : Int) + (m4 : Int)) = (s4 : Int) := by rw [hs4, show ((k : Int) + (m4 : Int)) = ((k + m4 : Nat) : Int) by omega]; exact wrap64 _ (by omega)
            have hrem2 : (s4 : Int).tmod 16 = (q : Int) := by rw [hq, sgm, ← hq4, ← hm4, ← hs4]; rfl
            have hql : q < 16 := by rw [hq]; exact Nat.mod_lt _ (by decide)
            have hqi : (q : Int) < 16 := by omega
            have cx := hbs.cell q (by rw [HSL.out]; exact hql)
            obtain ⟨a, ha⟩ : ∃ a, a = S.getD q 0 := ⟨_, rfl⟩
            rw [← ha] at cx
            have hal : a.toNat < 256 := UInt8.toNat_lt a
            have hai : (a.toNat : Int) < 256 := by omega
            have ct := hkt.cell a.toNat hal
            obtain ⟨y, hy⟩ : ∃ y, y = sbL.getD a.toNat 0 := ⟨_, rfl⟩
            rw [← hy] at ct
            have hfk : f k = y := by rw [HFF.out, hy, ha, hq]; rfl
            have cz := hbt.cell k (by rw [upTo_len]; exact hk2)
            have fz := hbt.free k
            have HY := Lib.hid hfk
            have HBT := Lib.hid hbt
            have HBS := Lib.hid hbs
            have HBZ := Lib.hid hbz
            have HKT := Lib.hid hkt
            have HBEL := Lib.hid hbel
            clear hbt hbs hbz hkt hbel hq4 hm4 hs4 hq ha hy hfk
            go_wp2_with fail
            go_roundg (16 - (k + 1))
            case measure => omega
            case rel =>
              refine ⟨k + 1, by omega, rfl, by go_num, ?_, ?_, ?_, ?_, ?_⟩
              · rw [← upTo_set f _ hk2, HY.out]
                exact BB.set HBT.out k y
              · exact BB.far HBS.out (by show gs ≠ gt; omega) _
              · exact BB.far HBZ.out (by show gz ≠ gt; omega) _
              · exact Blk.far HKT.out (by show gk ≠ gt; omega) _
              · exact bset (p := ⟨gt, k, none⟩) HBEL.out (by show w.heap.size ≤ gt; omega) _
          · have hk3 : k = 16 := by omega
            subst hk3
            have hbt2 : BB wr gt 23 (movS S) := by rw [HMV.out, ← upTo_full 16 f (fun _ => 0)]; exact hbt
            have hsub : (m : Int) - 1 = (last : Int) := by have := HM.out; omega
            have hwl := wrap64 last (by omega)
            have cs := hkt.suf
            obtain ⟨Tt, hTt⟩ : ∃ Tt, Tt = if r < last then mixS (movS S) else movS S := ⟨_, rfl⟩
            have hTl : Tt.length = 16 := by rw [hTt]; split; exact mixS_len _; exact movS_len _
            have HTT := Lib.hid hTt
            have HTL := Lib.hid hTl
            have HBT := Lib.hid hbt2
            have HBS := Lib.hid hbs
            have HBZ := Lib.hid hbz
            have HKT := Lib.hid hkt
            have HBEL := Lib.hid hbel
            have HRG := Lib.hid (hbt2.range)
            have HI : Hid ((Try.prog.info? 23).map (·.size) = some ((movS S).map u8v).length) := by show _ = _; rw [List.length_map, movS_len]; exact info23
            have HJM : Hid ((Try.prog.info? 23).map (·.size) = some ((mixS (movS S)).map u8v).toArray.size) := by show _ = _; rw [List.size_toArray, List.length_map, mixS_len]; exact info23
            clear hbt hbt2 hbs hbz hkt hbel hTt hTl
            go_upto_if 44 with (fail)
            go_cut [] (fun wx => Sc w gt gk gs gz Tt (.slice (some ⟨gR, 0, none⟩) m cR) wx)
            case first =>
              by_cases hlt : r < last
              · have hlti : (r : Int) < (last : Int) := by omega
                have HTV : Hid (Tt = mixS (movS S)) := by show _ = _; rw [HTT.out, if_pos hlt]
                go_wp2_with (first
                  | (refine wpList_load_mid rfl 23 (.tmp 7) rfl gt 0 rfl ((movS S).map u8v) _ HRG.out Try.underlying23 rfl HI.out ?_)
                  | (go_at_call 35; refine (columns_c (movS S) wr (movS_len S)).mono ?_
                     rintro e0 w8 ⟨rfl, hb7⟩
                     have HC7 := Lib.hid (HBT.out.below hb7)
                     have HS7 := Lib.hid (HBS.out.below hb7)
                     have HZ7 := Lib.hid (HBZ.out.below hb7)
                     have HK7 : Hid (KT w8 gk (.slice (some ⟨gR, 0, none⟩) m cR)) := Blk.below HKT.out hb7
                     have HD7 := Lib.hid (bcall HBEL.out hb7)
                     have HTH7 : Hid (w8.there gt 0 ((mixS (movS S)).map u8v).toArray.size) := there16 HC7.out (by rw [movS_len, List.size_toArray, List.length_map, mixS_len])
                     clear hb7)
                  | (refine wpList_store_mid rfl 23 (.tmp 7) (.tmp 46) rfl gt 0 ((mixS (movS S)).map u8v).toArray rfl rfl HTH7.out HJM.out (bytes_one _) ?_))
                go_meet
                refine ⟨by rw [HTV.out]; exact BB.setAll HC7.out (by rw [mixS_len, movS_len]), Blk.farAll (by omega) _ _ _ HK7.out, ⟨S, HSL.out, Blk.farAll (by omega) _ _ _ HS7.out⟩, Blk.farAll (by omega) _ _ _ HZ7.out, below_setCells HD7.out (by omega) _ _⟩
              · have hlti : ¬ (r : Int) < (last : Int) := by omega
                have HTV : Hid (Tt = movS S) := by show _ = _; rw [HTT.out, if_neg hlt]
                go_wp2_with fail
                go_meet
                exact ⟨by rw [HTV.out]; exact HBT.out, HKT.out, ⟨S, HSL.out, HBS.out⟩, HBZ.out, HBEL.out⟩
            case rest =>
              have HSC := Lib.hid hcut
              obtain ⟨Rr, hRr⟩ : ∃ Rr, Rr = rowR W r := ⟨_, rfl⟩
              obtain ⟨S3, hS3⟩ : ∃ S3, S3 = stS W last x r := ⟨_, rfl⟩
              have hRl : Rr.length = 16 := by rw [hRr]; exact rowR_len HWL.out hrmn
              have HLEN4 : Hid (S3.length = 16) := by show _ = _; rw [hS3]; exact stS_len _ _ _ _
              have hwe : withS Tt Rr = S3 := by rw [hS3, ← HNX.out, rndS, ← HTT.out, hRr, with_add]
              have HW3 : Hid (∀ wx, Calls Try.prog 34 #[.agg (Tt.map u8v).toArray, .agg (Rr.map u8v).toArray] wx fun e w' => e = .returned (.agg (S3.map u8v).toArray) ∧ Below wx.heap.size wx w') := fun wx => by rw [← hwe]; exact with_c Tt Rr wx HTL.out hRl
              have HLEN3 : Hid (16 = (S3.map u8v).toArray.size) := by show _ = _; rw [List.size_toArray, List.length_map, HLEN4.out]
              have HJ3 : Hid ((Try.prog.info? 23).map (·.size) = some (S3.map u8v).toArray.size) := by show _ = _; rw [List.size_toArray, List.length_map, HLEN4.out]; exact info23
              have hit : (Try.prog.info? 23).map (·.size) = some (Tt.map u8v).length := by rw [List.length_map, HTL.out]; exact info23
              have hir : (Try.prog.info? 23).map (·.size) = some (Rr.map u8v).length := by rw [List.length_map, hRl]; exact info23
              have KD : Hid (∀ w', Sc w gt gk gs gz Tt (.slice (some ⟨gR, 0, none⟩) m cR) w' → Sc w gt gk gs gz Tt (.slice (some ⟨gR, 0, none⟩) m cR) w'.drew) := fun w' h => h.call (bdrew (Below.refl _ _))
              have KC : Hid (∀ w' w'', Sc w gt gk gs gz Tt (.slice (some ⟨gR, 0, none⟩) m cR) w' → Below w'.heap.size w' w'' → Sc w gt gk gs gz Tt (.slice (some ⟨gR, 0, none⟩) m cR) w'') := fun w' w'' h hb => h.call hb
              have KS : Hid (∀ w', Sc w gt gk gs gz Tt (.slice (some ⟨gR, 0, none⟩) m cR) w' → Sc w gt gk gs gz Tt (.slice (some ⟨gR, 0, none⟩) m cR) (w'.setCells gs 0 (S3.map u8v))) := fun w' h => h.store HLEN4.out (by omega) (by omega) (by omega) (by omega)
              have KR : Hid (∀ w', Below w.heap.size w w' → w'.rangeAt gR (r * 16) (Rr.map u8v)) := fun w' hb => by rw [hRr]; exact (HK.out.below hb).row hrmn
              have HS3 := Lib.hid hS3
              clear hcut hRr hS3 hRl hwe cs HRG HI HJM HBT HBS HBZ HKT HBEL
              go_upto_region 12 with (fail)
              refine wp_region_held_drew (S := Sc w gt gk gs gz Tt (.slice (some ⟨gR, 0, none⟩) m cR)) (by kernel_rfl) (KD.out _ HSC.out) (fun hHeld => ?_)
              refine wpAnyH_takeAt (i := 0) (v := (.agg (Tt.map u8v).toArray)) rfl (by kernel_rfl) (by kernel_rfl) (by kernel_rfl) (fun _ _ _ h => h) rfl (yieldsIf_load_mid (by rfl) 23 _ rfl gt 0 rfl (Tt.map u8v) _ (fun w' hS => hS.1.range) hu rfl hit) hHeld ?_
              simp only [List.set_cons_zero, List.set_cons_succ]
              refine wpAnyH_takeAt (i := 1) (v := (.pointer (some ⟨gk, 256, none⟩))) rfl (by kernel_rfl) (by kernel_rfl) (by kernel_rfl) (fun _ _ _ h => h) rfl (Or.inl ⟨by rfl, fun w' hS => ?_⟩) hHeld ?_
              · go_simp
              simp only [List.set_cons_zero, List.set_cons_succ]
              refine wpAnyH_takeAt (i := 2) (v := (.slice (some ⟨gR, 0, none⟩) m cR)) rfl (by kernel_rfl) (by kernel_rfl) (by kernel_rfl) (fun _ _ _ h => h) rfl (Or.inl ⟨by rfl, fun w' hS => ?_⟩) hHeld ?_
              · have hc := hS.2.1.suf
                go_simp
              simp only [List.set_cons_zero, List.set_cons_succ]
              refine wpAnyH_takeAt (i := 3) (v := (.int .i64 (r : Int))) rfl (by kernel_rfl) (by kernel_rfl) (by kernel_rfl) (fun _ _ _ h => h) rfl (Or.inl ⟨by rfl, fun w' hS => ?_⟩) hHeld ?_
              · go_simp
              simp only [List.set_cons_zero, List.set_cons_succ]
              refine wpAnyH_takeAt (i := 4) (v := (.pointer (some ⟨gR, r * 16, none⟩))) rfl (by kernel_rfl) (by kernel_rfl) (by kernel_rfl) (fun _ _ _ h => h) rfl (Or.inl ⟨by rfl, fun w' hS => ?_⟩) hHeld ?_
              · go_simp
              simp only [List.set_cons_zero, List.set_cons_succ]
              refine wpAnyH_takeAt (i := 5) (v := (.agg (Rr.map u8v).toArray)) rfl (by kernel_rfl) (by kernel_rfl) (by kernel_rfl) (fun _ _ _ h => h) rfl (yieldsIf_load_mid (by rfl) 23 _ rfl gR (r * 16) rfl (Rr.map u8v) _ (fun w' hS => KR.out _ hS.2.2.2.2) hu rfl hir) hHeld ?_
              simp only [List.set_cons_zero, List.set_cons_succ]
              refine wpAnyH_ready (rs := [6]) (by kernel_rfl) (by simp) (AllReadyH.cons rfl (fun K' hK => ?_) AllReadyH.nil)
              go_simp
              go_at_call 34
              refine (HW3.out _).mono ?_
              rintro e0 w' ⟨rfl, hb⟩
              go_wp2_with fail
              refine hK.out _ _ (KC.out _ _ hHeld hb) (fun hHeld' => ?_)
              clear hK hHeld hb
              have hHeld := hHeld'
              clear hHeld'
              obtain ⟨Z, hZl, hZ⟩ := hHeld.2.2.1
              have HTHS : Hid (w'.there gs 0 (S3.map u8v).toArray.size) := there16 hZ (by rw [hZl]; exact HLEN3.out)
              have HFIN : Hid (BB (w'.setCells gs 0 (S3.map u8v)) gs 23 S3) := BB.setAll hZ (by rw [hZl, HLEN4.out])
              clear hZl hZ
              refine wpAnyH_ready (rs := [7]) (by kernel_rfl) (by simp) (AllReadyH.cons rfl (fun K' hK => ?_) AllReadyH.nil)
              rw [if_pos (by rfl)]
              refine wp_store_mid 23 (.tmp 5) (.tmp 53) (by rfl) gs 0 (S3.map u8v).toArray (by rfl) (by rfl) HTHS.out HJ3.out (bytes_one _) ?_
              refine hK.out _ _ (KS.out _ hHeld) (fun hHeld' => ?_)
              clear hK hHeld
              have hHeld := hHeld'
              clear hHeld'
              refine wpAnyH_putNone rfl ?_
              refine wpAnyH_done (by kernel_rfl) ?_ _
              go_wp2_with fail
              go_roundg (last + 1 - (r + 1))
              case measure => omega
              case rel => exact ⟨r + 1, by omega, by omega, rfl, by go_num, by rw [Nat.add_sub_cancel, ← HS3.out]; exact HFIN.out, hHeld.2.2.2.1, hHeld.2.1, hHeld.2.2.2.2⟩
      · have hr3 : r = last + 1 := by omega
        subst hr3
        have HL : Hid (blockS W x = stS W last x last) := by show _ = _; rw [blockS, HLAST.out]
        have hbx2 : BB wr gs 23 (blockS W x) := by rw [HL.out]; exact hbs
        have hnl : ¬ ((last + 1 : Nat) : Int) < (m : Int) := by have := HM.out; omega
        have HRG := Lib.hid (hbx2.range)
        have HI : Hid ((Try.prog.info? 23).map (·.size) = some ((blockS W x).map u8v).length) := by show _ = _; rw [List.length_map, blockS_len]; exact info23
        have hsz : ((blockS W x).map u8v).toArray.size = 16 := by rw [List.size_toArray, List.length_map, blockS_len]
        have HJ : Hid ((Try.prog.info? 23).map (·.size) = some ((blockS W x).map u8v).toArray.size) := by show _ = _; rw [hsz]; exact info23
        have HTH : Hid (wr.there gz 0 ((blockS W x).map u8v).toArray.size) := by show World.there _ _ _ _; rw [hsz]; exact there16 hbz zero16_len
        have HBEL := Lib.hid hbel
        clear hbs hbz hbel hbx2 hsz hkt
        go_wp2_with (first
          | (refine wpList_load_mid rfl 23 (.tmp 5) rfl gs 0 rfl ((blockS W x).map u8v) _ HRG.out Try.underlying23 rfl HI.out ?_)
          | (refine wpList_store_mid rfl 23 (.tmp 4) (.tmp 54) rfl gz 0 ((blockS W x).map u8v).toArray rfl rfl HTH.out HJ.out (bytes_one _) ?_))
        have hload := run_loadVar_mid (P := Try.prog) (wr.setCells gz 0 ((blockS W x).map u8v)) gz 0 23 ((blockS W x).map u8v) _ (World.rangeAt_setCells_same _ _ _ _ (by have := HTH.out; rwa [List.size_toArray] at this)) Try.underlying23 rfl HI.out
        refine bodyPost_ret (results_one rfl _ _ gz _ rfl hload) rfl ⟨rfl, ?_⟩
        exact below_setCells HBEL.out (by omega) _ _
end Go.Proofs.Ytklkehpcifnfkaa
