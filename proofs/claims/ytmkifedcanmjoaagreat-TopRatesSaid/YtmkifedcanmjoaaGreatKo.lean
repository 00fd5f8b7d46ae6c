/- TopRates (contract). Conditions: numbers that fit. -/
import Derived.Test.YtmkifedcanmjoaaGreatKn
set_option linter.unusedVariables false
set_option linter.unusedSimpArgs false
namespace Go.Proofs.YtmkifedcanmjoaaGreat
open Go.RowKit
attribute [local go_sem ↓] Go.wp_at_zero Go.wp_at_succ
/-- The desk behind k have come. -/
def dJ : Nat → DeskD
  | 0 => desk0
  | k + 1 => noteD saidD (dJ k) (60 + k) (Nt.bytesS joinR2)
theorem dJ_2 : dJ 2 = deskJ := rfl
def stK (r0 r1 r2 k : Nat) : List StrmD := [if 0 < k then strS 0 r0 else strm0, if 1 < k then strS 1 r1 else strm0, if 2 < k then strS 2 r2 else strm0]
theorem stK_step {r0 r1 r2 k : Nat} (hk : k < 3) : (stK r0 r1 r2 k).set k (strS k (rAt r0 r1 r2 k)) = stK r0 r1 r2 (k + 1) := by
  rcases k with _ | _ | _ | k <;> first | rfl | omega
theorem stK_shown {r0 r1 r2 k : Nat} (hk : k < 3) : ((stK r0 r1 r2 k).getD k strm0).shown = false := by
  rcases k with _ | _ | _ | k <;> first | rfl | omega
theorem stK_other {r0 r1 r2 k : Nat} (hk : k < 3) : ∀ j, j < 3 → j ≠ k → ((stK r0 r1 r2 k).getD j strm0).shown = true → ((stK r0 r1 r2 k).getD j strm0).ssrc ≠ ((256 + k : Nat) : Int) := by
  intro j hj hne
  rcases k with _ | _ | _ | k <;> rcases j with _ | _ | _ | j <;> first | omega | (intro h; cases h; done) | (intro _; show ((256 + _ : Nat) : Int) ≠ _; omega)
theorem exp_le {m e : Nat} (h : m * 2 ^ e < 4294967296) (h2 : e = 0 ∨ 131072 ≤ m) : e ≤ 15 := by
  rcases h2 with h2 | h2
  · omega
  · rcases Nat.lt_or_ge e 16 with h3 | h3
    · omega
    · have h4 : 2 ^ 16 ≤ 2 ^ e := Nat.pow_le_pow_right (by decide) h3
      have h5 := Nat.mul_le_mul h2 h4
      omega
theorem half_pow (m e : Nat) : m / 2 * 2 ^ (e + 1) ≤ m * 2 ^ e := by
  rw [Nat.pow_succ, Nat.mul_comm (2 ^ e) 2, ← Nat.mul_assoc]
  exact Nat.mul_le_mul_right _ (Nat.div_mul_le_self m 2)
theorem fit1 (g : Nat) : FitL 69 [.pointer (some ⟨g, 0, none⟩)] := ⟨by kernel_rfl, by simp [Value.oneCell']⟩
theorem WS.st {r0 r1 r2 : Nat} (h0 : r0 < 65536) (h1 : r1 < 65536) (h2 : r2 < 65536) : ∀ j, j < 3 → WS ((stK r0 r1 r2 3).getD j strm0) := by
  intro j hj
  rcases j with _ | _ | _ | j
  · exact WS.of 0 r0 (by decide) h0
  · exact WS.of 1 r1 (by decide) h1
  · exact WS.of 2 r2 (by decide) h2
  · omega
set_option maxRecDepth 100000 in
set_option maxHeartbeats 25600000 in
theorem rates_c (r0 r1 r2 rate : Nat) (h0 : r0 < 65536) (h1 : r1 < 65536) (h2 : r2 < 65536) (hr : rate < 4294967296) (w : World) :
    Calls Tryz.prog 6 #[.agg #[.int .u16 (r0 : Int), .int .u16 (r1 : Int), .int .u16 (r2 : Int)], .int .u32 (rate : Int)] w fun e w' => e = .returned (.bool true) ∧ Below w.heap.size w w' := by
  obtain ⟨b, hb⟩ : ∃ b, b = w.heap.size := ⟨_, rfl⟩
  obtain ⟨w1, hw1⟩ : ∃ w1, w1 = w.alloc (.cells #[.int .u16 (r0 : Int), .int .u16 (r1 : Int), .int .u16 (r2 : Int)] 67) := ⟨_, rfl⟩
  have HB1 : Hid (Below w.heap.size w w1) := by show Below _ _ _; rw [hw1]; exact balloc (Below.refl _ _) _
  have HX1 : Hid (Blk w1 b 67 #[.int .u16 (r0 : Int), .int .u16 (r1 : Int), .int .u16 (r2 : Int)]) := by show Blk _ _ _ _; rw [hw1]; exact Blk.newAt hb _ _
  have HR : Hid (r0 < 65536 ∧ r1 < 65536 ∧ r2 < 65536 ∧ rate < 4294967296) := ⟨h0, h1, h2, hr⟩
  have HNW := Lib.hid (newM_c w1)
  clear h0 h1 h2 hr
  go_enter Tryz.func6, Tryz.ntmps6
  go_upto_region 1 with fail
  rw [← hw1, ← hb]
  clear hw1 hb
  go_wp2_with fail
  refine HNW.out.mono ?_
  rintro e0 w2 ⟨g, rfl, hnd⟩
  obtain ⟨L, P, hd, ho, hbl⟩ := newD_desk hnd
  have HM2 : Hid (DW mutX w1 lab0 w2 L g P desk0 []) := ⟨⟨Sv.of_below hbl, fun k hk => ho k hk, hd.top⟩, hd, trivial, fun _ h => by cases h⟩
  have HARR : Hid (∀ (wx : World) (Lx : Lab) (Px : Ptrs) (Dx : DeskD) (bs : List Bk), DW mutX w1 lab0 wx Lx g Px Dx bs → Blk wx b 67 #[.int .u16 (r0 : Int), .int .u16 (r1 : Int), .int .u16 (r2 : Int)]) := fun wx Lx Px Dx bs h => h.stp.blk HX1.out (by show ¬ mutX .other; exact mutX_other)
  clear hnd hd ho hbl HNW
  go_wp2_with fail
  refine (awake_c w2).mono ?_
  rintro e0 w3 ⟨rfl, hbq⟩
  have HM3 : Hid (DW mutX w1 lab0 w3 L g P desk0 []) := HM2.out.call hbq
  clear hbq HM2
  go_upto_region 5 with fail
  obtain ⟨gs, hgs⟩ : ∃ gs, gs = w3.heap.size := ⟨_, rfl⟩
  obtain ⟨w4, hw4⟩ : ∃ w4, w4 = w3.alloc (.cells #[.pointer (some ⟨g, 0, none⟩)] 69) := ⟨_, rfl⟩
  obtain ⟨L4, hL4⟩ : ∃ L4, L4 = tempAt L w3.heap.size := ⟨_, rfl⟩
  have HM4 : Hid (DW mutX w1 lab0 w4 L4 g P desk0 [(gs, 69, [.pointer (some ⟨g, 0, none⟩)])]) := by
    show DW _ _ _ _ _ _ _ _ _
    rw [hw4, hgs, hL4]
    exact HM3.out.alloc 69 [.pointer (some ⟨g, 0, none⟩)]
  rw [← hw4, ← hgs]
  clear hw4 hgs hL4 HM3
  go_upto_region 6 with fail
  go_loopg [7] 2 (fun gg v wx => ∃ (k : Nat) (Lx : Lab) (Px : Ptrs), gg = 2 - k ∧ k ≤ 2 ∧ v = .int .i64 (k : Int) ∧ DW mutX w1 lab0 wx Lx g Px (dJ k) [(gs, 69, [.pointer (some ⟨g, 0, none⟩)])])
  case atStart => exact ⟨0, L4, P, rfl, by omega, rfl, HM4.out⟩
  case round =>
    obtain ⟨k, L5, P5, hgg, hk, rfl, hm⟩ := hrel
    have HM5 := Lib.hid hm
    have HGG := Lib.hid hgg
    clear hm hgg HM4
    by_cases hkn : k < 2
    · have hki : (k : Int) < 2 := by omega
      have hk0 : (0 : Int) ≤ (k : Int) := by omega
      have hw60 : IntKind.i64.wrap (60 + (k : Int)) = ((60 + k : Nat) : Int) := by rw [IntKind.wrap_i64]; omega
      have hwk : IntKind.i64.wrap ((k : Int) + 1) = ((k + 1 : Nat) : Int) := by rw [IntKind.wrap_i64]; omega
      have HLT := Lib.hid hkn
      have ck : wr.cell? ⟨gs, 0, none⟩ = some (.pointer (some ⟨g, 0, none⟩)) := HM5.out.cell (.head _) 0
      have HSN : Hid (Calls Tryz.prog 18 #[.agg #[.pointer (some ⟨g, 0, none⟩)], .int .i64 ((60 + k : Nat) : Int), .agg #[.int .i64 1, .int .i64 2, .int .i64 0, .int .i64 0, .int .i64 0, .int .i64 0, .slice none 0 0]] wr fun e w' => e = .returned (.tuple #[]) ∧ ∃ L' P', DeskM L' w' g P' (dJ (k + 1)) ∧ Stp mutX L5 L' wr w') :=
        snote_c HM5.out.dm (a := 60 + k) (by omega) joinR2 (by decide) (A := none) (c := 0) (nb := 0) rfl Reads.none_ saidD (fun h => absurd rfl h)
      clear hkn hk
      go_wp2_with fail
      refine HSN.out.mono ?_
      rintro e0 w6 ⟨rfl, L6, P6, hdq, hsq⟩
      have HM6 : Hid (DW mutX w1 lab0 w6 L6 g P6 (dJ (k + 1)) [(gs, 69, [.pointer (some ⟨g, 0, none⟩)])]) := HM5.out.step hsq hdq mutX_temp
      clear hdq hsq ck
      go_wp2_with fail
      go_roundg (2 - (k + 1))
      case measure => have := HLT.out; have := HGG.out; omega
      case rel => have hlt := HLT.out; exact ⟨k + 1, L6, P6, rfl, by omega, by first | rfl | go_num, HM6.out⟩
    · have hki : ¬ (k : Int) < 2 := by omega
      have hke : k = 2 := by omega
      subst hke
      have HM6 : Hid (DW mutX w1 lab0 wr L5 g P5 deskJ [(gs, 69, [.pointer (some ⟨g, 0, none⟩)])]) := HM5.out
      clear HM5 hkn hk
      go_upto_region 10 with fail
      go_loopg [8] 3 (fun gg v wx => ∃ (k : Nat) (Lx : Lab) (Px : Ptrs) (Dx : DeskD), gg = 3 - k ∧ k ≤ 3 ∧ v = .int .i64 (k : Int) ∧ Way Dx (stK r0 r1 r2 k) none [] ∧ DW mutX w1 lab0 wx Lx g Px Dx [(gs, 69, [.pointer (some ⟨g, 0, none⟩)])])
      case atStart => exact ⟨0, L5, P5, deskJ, rfl, by omega, rfl, way_J, HM6.out⟩
      case round =>
        obtain ⟨k, L7, P7, D7, hgg, hk, rfl, hway, hm⟩ := hrel
        have HM7 := Lib.hid hm
        have HGG := Lib.hid hgg
        have HW7 := Lib.hid hway
        clear hm hgg hway HM6
        by_cases hkn : k < 3
        · have hki : (k : Int) < 3 := by omega
          have hk0 : (0 : Int) ≤ (k : Int) := by omega
          have hwk : IntKind.i64.wrap ((k : Int) + 1) = ((k + 1 : Nat) : Int) := by rw [IntKind.wrap_i64]; omega
          have HLT := Lib.hid hkn
          obtain ⟨rk, hrk⟩ : ∃ rk, rk = rAt r0 r1 r2 k := ⟨_, rfl⟩
          have hrk2 : rk < 65536 := by
            have := HR.out
            rw [hrk]
            unfold rAt
            split
            · omega
            split <;> omega
          have HRK := Lib.hid hrk
          have HRK2 := Lib.hid hrk2
          have z1 : IntKind.i64.wrap (rk : Int) = (rk : Int) := by rw [IntKind.wrap_i64]; omega
          have z2 : IntKind.u8.wrap (k : Int) = (k : Int) := by rw [IntKind.wrap_u8]; omega
          have HCK : Hid (∀ (wx : World) (Lx : Lab) (Px : Ptrs) (Dx : DeskD), DW mutX w1 lab0 wx Lx g Px Dx [(gs, 69, [.pointer (some ⟨g, 0, none⟩)])] → wx.cell? ⟨gs, 0, none⟩ = some (.pointer (some ⟨g, 0, none⟩)) ∧ wx.cell? ⟨b, k, none⟩ = some (.int .u16 (rk : Int))) := fun wx Lx Px Dx h => by
            refine ⟨h.cell (.head _) 0, ?_⟩
            have hb := HARR.out _ _ _ _ _ h
            rw [hb.cell, hrk]
            rcases k with _ | _ | _ | k
            · rfl
            · rfl
            · rfl
            · omega
          obtain ⟨D8, hD8⟩ : ∃ D8, D8 = (heardD D7 2 60).setStrm 2 0 k (strS k rk) := ⟨_, rfl⟩
          have HW8 : Hid (Way D8 (stK r0 r1 r2 (k + 1)) none []) := by
            show Way _ _ _ _
            rw [hD8, ← stK_step hkn, ← hrk]
            exact (HW7.out.heard 60).strm hkn rfl _
          have HSN : Hid (∀ (wx : World) (Lx : Lab) {gb : Nat}, DeskM Lx wx g P7 D7 → Blk wx gb 5 #[.int .u8 0, .int .u8 0, .int .u8 1, .int .u8 (k : Int)] → Calls Tryz.prog 18 #[.agg #[.pointer (some ⟨g, 0, none⟩)], .int .i64 60, .agg #[.int .i64 4, .int .i64 0, .int .i64 0, .int .i64 0, .int .i64 (k : Int), .int .i64 (rk : Int), .slice (some ⟨gb, 0, none⟩) 4 4]] wx fun e w' => e = .returned (.tuple #[]) ∧ ∃ L' P', DeskM L' w' g P' D8 ∧ Stp mutX Lx L' wx w') := fun wx Lx gb hdx hbx => by
            have hgd := show_good hkn hrk2
            have hrd : Reads wx wx.heap.size 1 (some ⟨gb, 0, none⟩) 4 (([0, 0, 1, UInt8.ofNat k] : List UInt8).map u8v) := by
              have h := reads_blk (n := 4) (size := 1) hbx rfl
              have e : (([0, 0, 1, UInt8.ofNat k] : List UInt8).map u8v) = [.int .u8 0, .int .u8 0, .int .u8 1, .int .u8 (k : Int)] := by
                simp only [List.map_cons, List.map_nil]
                rw [u8v_of (a := k) (by omega)]
                rfl
              rw [e]
              exact h
            have h := snote_c hdx (a := 60) (by decide) (showN k rk) hgd (A := some ⟨gb, 0, none⟩) (c := 4) (nb := 4) rfl hrd saidD (fun _ => saidC_show g _ rfl)
            rw [note_show HW7.out rfl hkn hrk2 (stK_shown hkn) (stK_other hkn), ← hD8] at h
            exact h
          clear hkn hk hrk hrk2 hD8
          go_upto_region 12 with fail
          obtain ⟨wd8, hwd8⟩ : ∃ wd8, wd8 = wr.drew := ⟨_, rfl⟩
          have HM8 : Hid (DW mutX w1 lab0 wd8 L7 g P7 D7 [(gs, 69, [.pointer (some ⟨g, 0, none⟩)])]) := by show DW _ _ _ _ _ _ _ _ _; rw [hwd8]; exact HM7.out.drew
          have HC8 : Hid (wd8.cell? ⟨gs, 0, none⟩ = some (.pointer (some ⟨g, 0, none⟩)) ∧ wd8.cell? ⟨b, k, none⟩ = some (.int .u16 (rk : Int))) := by
            exact HCK.out _ _ _ _ HM8.out
          refine wp_region_held_drew (S := (fun w' => w'.cell? ⟨gs, 0, none⟩ = some (.pointer (some ⟨g, 0, none⟩)) ∧ w'.cell? ⟨b, k, none⟩ = some (.int .u16 (rk : Int)))) (by kernel_rfl) (by rw [← hwd8]; exact HC8.out) (fun hHeld => ?_)
          rw [← hwd8] at hHeld ⊢
          clear hwd8
          refine wpAnyH_takeAt (i := 0) (v := (.agg #[.pointer (some ⟨g, 0, none⟩)])) rfl (by kernel_rfl) (by kernel_rfl) (by kernel_rfl) (fun _ _ _ h => h) rfl (Or.inl ⟨by rfl, fun w' hS => ?_⟩) hHeld ?_
          · have q0 := hS.1
            go_simp
          simp only [List.set_cons_zero, List.set_cons_succ]
          refine wpAnyH_takeAt (i := 1) (v := (.int .i64 (k : Int))) rfl (by kernel_rfl) (by kernel_rfl) (by kernel_rfl) (fun _ _ _ h => h) rfl (Or.inl ⟨by rfl, fun w' hS => ?_⟩) hHeld ?_
          · go_simp
          simp only [List.set_cons_zero, List.set_cons_succ]
          refine wpAnyH_takeAt (i := 2) (v := (.int .i64 (k : Int))) rfl (by kernel_rfl) (by kernel_rfl) (by kernel_rfl) (fun _ _ _ h => h) rfl (Or.inl ⟨by rfl, fun w' hS => ?_⟩) hHeld ?_
          · go_simp
          simp only [List.set_cons_zero, List.set_cons_succ]
          refine wpAnyH_takeAt (i := 3) (v := (.pointer (some ⟨b, k, none⟩))) rfl (by kernel_rfl) (by kernel_rfl) (by kernel_rfl) (fun _ _ _ h => h) rfl (Or.inl ⟨by rfl, fun w' hS => ?_⟩) hHeld ?_
          · go_simp
          simp only [List.set_cons_zero, List.set_cons_succ]
          refine wpAnyH_takeAt (i := 4) (v := (.int .u16 (rk : Int))) rfl (by kernel_rfl) (by kernel_rfl) (by kernel_rfl) (fun _ _ _ h => h) rfl (Or.inl ⟨by rfl, fun w' hS => ?_⟩) hHeld ?_
          · have q0 := hS.2
            go_simp
          simp only [List.set_cons_zero, List.set_cons_succ]
          refine wpAnyH_takeAt (i := 5) (v := (.int .i64 (rk : Int))) rfl (by kernel_rfl) (by kernel_rfl) (by kernel_rfl) (fun _ _ _ h => h) rfl (Or.inl ⟨by rfl, fun w' hS => ?_⟩) hHeld ?_
          · go_simp
          simp only [List.set_cons_zero, List.set_cons_succ]
          refine wpAnyH_takeAt (i := 6) (v := (.int .i64 (k : Int))) rfl (by kernel_rfl) (by kernel_rfl) (by kernel_rfl) (fun _ _ _ h => h) rfl (Or.inl ⟨by rfl, fun w' hS => ?_⟩) hHeld ?_
          · go_simp
          simp only [List.set_cons_zero, List.set_cons_succ]
          refine wpAnyH_takeAt (i := 7) (v := (.int .u8 (k : Int))) rfl (by kernel_rfl) (by kernel_rfl) (by kernel_rfl) (fun _ _ _ h => h) rfl (Or.inl ⟨by rfl, fun w' hS => ?_⟩) hHeld ?_
          · go_simp
          simp only [List.set_cons_zero, List.set_cons_succ]
          refine wpAnyH_ready (rs := [8]) (by kernel_rfl) (by simp) (AllReadyH.cons rfl (fun K' hK => ?_) AllReadyH.nil)
          go_simp
          obtain ⟨gb, hgb⟩ : ∃ gb, gb = wd8.heap.size := ⟨_, rfl⟩
          obtain ⟨wd9, hwd9⟩ : ∃ wd9, wd9 = wd8.alloc (.cells #[.int .u8 0, .int .u8 0, .int .u8 1, .int .u8 (k : Int)] 5) := ⟨_, rfl⟩
          have HM9 : Hid (DW mutX w1 lab0 wd9 L7 g P7 D7 [(gs, 69, [.pointer (some ⟨g, 0, none⟩)])]) := by
            show DW _ _ _ _ _ _ _ _ _
            rw [hwd9]
            exact HM8.out.call (balloc (Below.refl _ _) _)
          have HLIT : Hid (Blk wd9 gb 5 #[.int .u8 0, .int .u8 0, .int .u8 1, .int .u8 (k : Int)] ∧ L7 gb = .other) := by
            refine ⟨by rw [hwd9]; exact Blk.newAt hgb _ _, ?_⟩
            rw [hgb]
            exact HM8.out.top _ (Nat.le_refl _)
          have HC9 : Hid (wd9.cell? ⟨gs, 0, none⟩ = some (.pointer (some ⟨g, 0, none⟩)) ∧ wd9.cell? ⟨b, k, none⟩ = some (.int .u16 (rk : Int))) := by
            exact HCK.out _ _ _ _ HM9.out
          rw [← hwd9, ← hgb]
          clear hwd9 hgb
          refine hK.out _ _ HC9.out (fun hHeld' => ?_)
          clear hK hHeld 
          have hHeld := hHeld'
          clear hHeld'
          refine wpAnyH_takeAt (i := 9) (v := (.agg #[.int .i64 4, .int .i64 0, .int .i64 0, .int .i64 0, .int .i64 (k : Int), .int .i64 (rk : Int), .slice (some ⟨gb, 0, none⟩) 4 4])) rfl (by kernel_rfl) (by kernel_rfl) (by kernel_rfl) (fun _ _ _ h => h) rfl (Or.inl ⟨by rfl, fun w' hS => ?_⟩) hHeld ?_
          · go_simp
          simp only [List.set_cons_zero, List.set_cons_succ]
          refine wpAnyH_ready (rs := [10]) (by kernel_rfl) (by simp) (AllReadyH.cons rfl (fun K' hK => ?_) AllReadyH.nil)
          go_simp
          go_at_call 18
          refine (HSN.out wd9 L7 HM9.out.dm HLIT.out.1).mono ?_
          rintro e0 wd10 ⟨rfl, Lb10, P8, hdq, hsq⟩
          have HM10 : Hid (DW mutX w1 lab0 wd10 Lb10 g P8 D8 [(gs, 69, [.pointer (some ⟨g, 0, none⟩)])]) := HM9.out.step hsq hdq mutX_temp
          have HC10 : Hid (wd10.cell? ⟨gs, 0, none⟩ = some (.pointer (some ⟨g, 0, none⟩)) ∧ wd10.cell? ⟨b, k, none⟩ = some (.int .u16 (rk : Int))) := by
            exact HCK.out _ _ _ _ HM10.out
          clear hdq hsq
          go_wp2_with fail
          refine hK.out _ _ HC10.out (fun hHeld' => ?_)
          clear hK hHeld 
          have hHeld := hHeld'
          clear hHeld'
          (try refine wpAnyH_putNone rfl ?_)
          refine wpAnyH_done (by kernel_rfl) ?_ _
          clear hHeld
          go_wp2_with fail
          go_roundg (3 - (k + 1))
          case measure => have := HLT.out; have := HGG.out; omega
          case rel => have hlt := HLT.out; exact ⟨k + 1, Lb10, P8, D8, rfl, by omega, by first | rfl | go_num, HW8.out, HM10.out⟩
        · have hki : ¬ (k : Int) < 3 := by omega
          have hke : k = 3 := by omega
          subst hke
          clear hkn hk
          have hst : Way D7 (stK r0 r1 r2 3) none [] := HW7.out
          obtain ⟨st, hste⟩ : ∃ st, st = stK r0 r1 r2 3 := ⟨_, rfl⟩
          have hst3 : st = [strS 0 r0, strS 1 r1, strS 2 r2] := by rw [hste]; rfl
          have HWS : Hid (∀ j, j < 3 → WS (st.getD j strm0)) := by show ∀ j, j < 3 → _; rw [hste]; exact WS.st HR.out.1 HR.out.2.1 HR.out.2.2.1
          have HST3 := Lib.hid hst3
          rw [← hste] at hst
          obtain ⟨D8, hD8⟩ : ∃ D8, D8 = ({ D7 with draws := D7.draws ++ [((9 : Nat) : Int)] } : DeskD) := ⟨_, rfl⟩
          have HW8 : Hid (Way D8 st none [9]) := by
            show Way _ _ _ _
            have h := hst.draw (D7.draws ++ [((9 : Nat) : Int)])
            rw [← hD8] at h
            rw [show D7.draws ++ [((9 : Nat) : Int)] = [9] by rw [hst.draws]; rfl] at h
            exact h
          have HDR : Hid (Calls Tryz.prog 11 #[.pointer (some ⟨g, 0, none⟩), .agg #[.int .i64 4, .int .i64 0, .int .i64 9, .slice none 0 0]] wr fun e w' => e = .returned (.tuple #[.slice none 0 0, .int .i64 0]) ∧ ∃ L', DeskM L' w' g P7 D8 ∧ Stp mutX L7 L' wr w') := by
            show Calls _ _ _ _ _
            rw [hD8]
            exact doDraw_c HM7.out.dm 0 (x := 9) (by decide) (by rw [hst.draws]; decide)
          clear hst hste hst3 hD8
          go_wp2_with fail
          refine HDR.out.mono ?_
          rintro e0 w8 ⟨rfl, L8, hdq, hsq⟩
          have HM8 : Hid (DW mutX w1 lab0 w8 L8 g P7 D8 [(gs, 69, [.pointer (some ⟨g, 0, none⟩)])]) := HM7.out.step hsq hdq mutX_temp
          clear hdq hsq HDR
          obtain ⟨D9, hD9⟩ : ∃ D9, D9 = wayW (heardD D8 2 61) := ⟨_, rfl⟩
          have HW9 : Hid (Way D9 st (some l1) []) := by show Way _ _ _ _; rw [hD9]; exact way_want (HW8.out.heard 61)
          have HWN : Hid (Calls Tryz.prog 18 #[.agg #[.pointer (some ⟨g, 0, none⟩)], .int .i64 61, .agg #[.int .i64 5, .int .i64 0, .int .i64 0, .int .i64 0, .int .i64 3, .int .i64 7, .slice none 0 0]] w8 fun e w' => e = .returned (.tuple #[]) ∧ ∃ L' P', DeskM L' w' g P' D9 ∧ Stp mutX L8 L' w8 w') := by
            have h := snote_c HM8.out.dm (a := 61) (by decide) wantN (by decide) (A := none) (c := 0) (nb := 0) rfl Reads.none_ saidD (fun _ => saidC_want g HW8.out HWS.out)
            rw [note_want HW8.out, ← hD9] at h
            exact h
          have ck8 : w8.cell? ⟨gs, 0, none⟩ = some (.pointer (some ⟨g, 0, none⟩)) := HM8.out.cell (.head _) 0
          clear hD9
          go_wp2_with fail
          refine HWN.out.mono ?_
          rintro e0 w9 ⟨rfl, L9, P9, hdq, hsq⟩
          have HM9 : Hid (DW mutX w1 lab0 w9 L9 g P9 D9 [(gs, 69, [.pointer (some ⟨g, 0, none⟩)])]) := HM8.out.step hsq hdq mutX_temp
          clear hdq hsq HWN ck8
          obtain ⟨D10, hD10⟩ : ∃ D10, D10 = (takenD D9 60 32).1 := ⟨_, rfl⟩
          have HTA : Hid (Calls Tryz.prog 11 #[.pointer (some ⟨g, 0, none⟩), .agg #[.int .i64 5, .int .i64 60, .int .i64 32, .slice none 0 0]] w9 fun e w' => ∃ v, e = .returned (.tuple #[v, .int .i64 0]) ∧ ∃ L', OutsV L' w' v (takenD D9 60 32).2 ∧ DeskM L' w' g P9 D10 ∧ Stp mutX L9 L' w9 w') := by
            show Calls _ _ _ _ _
            rw [hD10]
            exact doTake_c HM9.out.dm (a := 60) (by decide) (n := 32) (by decide) ⟨none, 0, 0, rfl⟩
          go_wp2_with fail
          refine HTA.out.mono ?_
          rintro e0 w10 ⟨v10, rfl, L10, _, hdq, hsq⟩
          have HM10 : Hid (DW mutX w1 lab0 w10 L10 g P9 D10 [(gs, 69, [.pointer (some ⟨g, 0, none⟩)])]) := HM9.out.step hsq hdq mutX_temp
          clear hdq hsq HTA
          obtain ⟨D11, hD11⟩ : ∃ D11, D11 = (takenD D10 61 32).1 := ⟨_, rfl⟩
          have HW11 : Hid (Way D11 st (some l1) []) := by show Way _ _ _ _; rw [hD11, hD10]; exact (HW9.out.take 60 32).take 61 32
          have HPO : Hid (D11.post 60 = []) := by
            show _ = _
            obtain ⟨_, _, C, _, hC⟩ := HM9.out.dm
            rw [hD11, hD10]
            exact take_post hC.posts (hC.few 60 (by decide))
          have HTB : Hid (Calls Tryz.prog 11 #[.pointer (some ⟨g, 0, none⟩), .agg #[.int .i64 5, .int .i64 61, .int .i64 32, .slice none 0 0]] w10 fun e w' => ∃ v, e = .returned (.tuple #[v, .int .i64 0]) ∧ ∃ L', OutsV L' w' v (takenD D10 61 32).2 ∧ DeskM L' w' g P9 D11 ∧ Stp mutX L10 L' w10 w') := by
            show Calls _ _ _ _ _
            rw [hD11]
            exact doTake_c HM10.out.dm (a := 61) (by decide) (n := 32) (by decide) ⟨none, 0, 0, rfl⟩
          clear hD10 hD11
          go_wp2_with fail
          refine HTB.out.mono ?_
          rintro e0 w11 ⟨v11, rfl, L11, _, hdq, hsq⟩
          have HM11 : Hid (DW mutX w1 lab0 w11 L11 g P9 D11 [(gs, 69, [.pointer (some ⟨g, 0, none⟩)])]) := HM10.out.step hsq hdq mutX_temp
          clear hdq hsq HTB
          go_upto_region 18 with fail
          go_loopg [9, 10] rate (fun gg v9 v10 wx => ∃ m e : Nat, gg = m ∧ v9 = .int .u32 (m : Int) ∧ v10 = .int .i64 (e : Int) ∧ m * 2 ^ e < 4294967296 ∧ (e = 0 ∨ 131072 ≤ m) ∧ wx = w11)
          case atStart => exact ⟨rate, 0, rfl, rfl, rfl, by have := HR.out; omega, .inl rfl, rfl⟩
          case round =>
            obtain ⟨m, e, hgg, rfl, rfl, hme, hem, rfl⟩ := hrel
            have he15 := exp_le hme hem
            have HME := Lib.hid hme
            have HEM := Lib.hid hem
            have HE15 := Lib.hid he15
            have HGG := Lib.hid hgg
            clear hme hem hgg
            by_cases hbig : 262144 ≤ m
            · have hbi : (262144 : Int) ≤ (m : Int) := by omega
              obtain ⟨m2, hm2⟩ : ∃ m2, m2 = m / 2 := ⟨_, rfl⟩
              have hsh : (m : Int) / 2 = (m2 : Int) := by omega
              have HM2E := Lib.hid hm2
              have hwe : IntKind.i64.wrap ((e : Int) + 1) = ((e + 1 : Nat) : Int) := by rw [IntKind.wrap_i64]; omega
              have HBG := Lib.hid hbig
              clear hbig hm2
              go_wp2_with fail
              go_roundg m2
              case measure => have := HBG.out; have := HGG.out; have := HM2E.out; omega
              case rel =>
                refine ⟨m2, e + 1, rfl, rfl, by first | rfl | go_num, ?_, .inr (by have := HBG.out; have := HM2E.out; omega), rfl⟩
                rw [HM2E.out]
                exact Nat.lt_of_le_of_lt (half_pow m e) HME.out
            · have hbi : ¬ (262144 : Int) ≤ (m : Int) := by omega
              have HMT : Hid (m < 262144) := by show _ < _; omega
              clear hbig
              obtain ⟨gp, hgp⟩ : ∃ gp, gp = wr.heap.size := ⟨_, rfl⟩
              obtain ⟨gq, hgq⟩ : ∃ gq, gq = wr.heap.size + 1 := ⟨_, rfl⟩
              obtain ⟨w12, hw12⟩ : ∃ w12, w12 = (wr.alloc (.cells #[.int .u32 9] 32)).alloc (.cells (rembL 1 e m wr.heap.size).toArray 81) := ⟨_, rfl⟩
              obtain ⟨hb1, hb2, hb3⟩ := two_blks wr 32 81 #[.int .u32 9] (rembL 1 e m wr.heap.size).toArray
              rw [← hw12, ← hgp] at hb1
              rw [← hw12, ← hgq, ← hgp] at hb2
              rw [← hw12] at hb3
              have HM12 : Hid (DW mutX w1 lab0 w12 L11 g P9 D11 [(gs, 69, [.pointer (some ⟨g, 0, none⟩)])]) := HM11.out.call hb3
              have HBY : Hid (Calls Tryz.prog 19 #[.slice (some ⟨gq, 0, none⟩) 1 1] w12 fun e' w' => ∃ v, e' = .returned (.tuple #[v, .int .i64 0]) ∧ ByteRow w' w12.heap.size v (rembD e m 9) ∧ Below w12.heap.size w12 w') := remb_bytes (by have := HE15.out; omega) HMT.out (x := 9) (by decide) hb1 hb2
              clear hb1 hb2 hb3
              go_wp2_with (first
                | ((with_reducible show wpList _ _ _ (⟨some 76, .buildSlice _ _ _, _, _, _, _⟩ :: _) _ _); refine wpList_buildR rfl (.tmp 75) rfl (rembL 1 e m wr.heap.size) rfl rfl ?_))
              rw [← hw12, ← hgq]
              clear hw12 hgq hgp
              refine HBY.out.mono ?_
              rintro e0 w13 ⟨v13, rfl, hrow, hbq⟩
              obtain ⟨A13, c13, hv13⟩ := own_slice hrow
              subst hv13
              have HM13 : Hid (DW mutX w1 lab0 w13 L11 g P9 D11 [(gs, 69, [.pointer (some ⟨g, 0, none⟩)])]) := HM12.out.call hbq
              have HBV : Hid (ByV L11 w13 (.slice A13 (rembD e m 9).length c13) (rembD e m 9)) := ByV.ofRow hrow HM12.out.top
              obtain ⟨n13, hn13⟩ : ∃ n13, n13 = (rembD e m 9).length := ⟨_, rfl⟩
              rw [← hn13] at HBV ⊢
              clear hrow hbq hn13 HBY HM12
              obtain ⟨R, hR⟩ : ∃ R, R = m * 2 ^ e := ⟨_, rfl⟩
              have hRS : rateS m (e : Int) = R := by rw [hR]; exact rateS_eq (by have := HE15.out; omega) HME.out
              obtain ⟨D12, hD12⟩ : ∃ D12, D12 = roomD (heardD D11 2 61) 2 1 ((9 : Nat) : Int) R := ⟨_, rfl⟩
              obtain ⟨kw, hkw⟩ : ∃ kw, kw = wantK r0 r1 r2 R 3 := ⟨_, rfl⟩
              have HKW := Lib.hid hkw
              have HRE := Lib.hid hR
              have HKW3 : Hid (kw < 3) := by show _ < _; rw [hkw]; exact wantK_lt _ _ _ _
              have HEND : Hid ((takenD D12 60 32).2 = [⟨60, 1, pliB 9 (256 + kw)⟩]) := by
                show _ = _
                obtain ⟨_, _, C, _, hC⟩ := HM13.out.dm
                have hw := HW11.out.heard 61
                rw [HST3.out] at hw
                rw [hD12, hkw]
                exact rates_end hw HPO.out hC.posts
              have HDG : Hid (Calls Tryz.prog 11 #[.pointer (some ⟨g, 0, none⟩), .agg #[.int .i64 1, .int .i64 61, .int .i64 0, .slice A13 n13 c13]] w13 fun e' w' => e' = .returned (.tuple #[.slice none 0 0, .int .i64 0]) ∧ ∃ L' P', DeskM L' w' g P' D12 ∧ Stp mutX L11 L' w13 w') := by
                have h := doGram_c HM13.out.dm (a := 61) (i := 2) (s := 1) (fr := 0) (by decide) 0 (l := l1) (ex := e) (mt := m) (x := 9) (by have := HE15.out; omega) HMT.out (by decide) HW11.out.where_.2 (rate_ok (HW11.out.heard 61) HWS.out) HBV.out
                rw [hRS, show ((61 : Nat) : Int) = 61 from rfl, ← hD12] at h
                exact h
              clear hR hRS hD12 hkw
              go_wp2_with fail
              refine HDG.out.mono ?_
              rintro e0 w14 ⟨rfl, L14, P14, hdq, hsq⟩
              have HM14 : Hid (DW mutX w1 lab0 w14 L14 g P14 D12 [(gs, 69, [.pointer (some ⟨g, 0, none⟩)])]) := HM13.out.step hsq hdq mutX_temp
              clear hdq hsq HDG
              have HTC : Hid (Calls Tryz.prog 11 #[.pointer (some ⟨g, 0, none⟩), .agg #[.int .i64 5, .int .i64 60, .int .i64 32, .slice none 0 0]] w14 fun e' w' => ∃ v, e' = .returned (.tuple #[v, .int .i64 0]) ∧ ∃ L' D', OutsV L' w' v [⟨60, 1, pliB 9 (256 + kw)⟩] ∧ DeskM L' w' g P14 D' ∧ Stp mutX L14 L' w14 w') := by
                have h := doTake_c HM14.out.dm (a := 60) (by decide) (n := 32) (by decide) ⟨none, 0, 0, rfl⟩
                rw [HEND.out] at h
                refine h.mono ?_
                rintro e' w' ⟨v, rfl, L', h1, h2, h3⟩
                exact ⟨v, rfl, L', _, h1, h2, h3⟩
              go_wp2_with fail
              refine HTC.out.mono ?_
              rintro e0 w15 ⟨v15, rfl, L15, D15, hov, hdq, hsq⟩
              have HM15 : Hid (DW mutX w1 lab0 w15 L15 g P14 D15 [(gs, 69, [.pointer (some ⟨g, 0, none⟩)])]) := HM14.out.step hsq hdq mutX_temp
              obtain ⟨xs, hrw, ⟨vb, xr, rfl, hvb, hor⟩, _⟩ := hov
              obtain ⟨Av, cv, rfl, hcv⟩ := hrw.form
              obtain ⟨gr, off, rfl, hgl, hcell⟩ := hrw.cells_ (by simp)
              obtain ⟨Ab, cb, hvbe, _, _⟩ := id hvb.1
              subst hvbe
              have ck1 : w15.cell? ⟨gr, off + 1, none⟩ = some (.int .i64 1) := hcell 1 (by simp)
              have ck2 : w15.cell? ⟨gr, off + 2, none⟩ = some (.slice Ab 12 cb) := hcell 2 (by simp)
              have HSV : Hid (SlV w15 (.slice Ab 12 cb) (pliB 9 (256 + kw))) := hvb.1
              have HY : Hid (256 + kw < 4294967296) := by show _ < _; have := HKW3.out; omega
              have HPC : Hid (Calls Tryz.prog 20 #[.slice Ab 12 cb] w15 fun e' w' => ∃ g o c, ∃ Rc : List Value, e' = .returned (.tuple #[.slice (some ⟨g, o, none⟩) 1 c, .int .i64 0]) ∧ w'.rangeAt g o Rc ∧ g < w'.heap.size ∧ RepV w' Rc.toArray (pliRep 9 (256 + kw)) ∧ Below w15.heap.size w15 w') := by
                obtain ⟨p1, p2, p3⟩ := one_pli (fr := 9) (ab := 256 + kw) (by decide) HY.out
                exact parseOne_c HSV.out (parse_pli (by decide) HY.out) (by omega) p2 (.inl (by rw [p1]; rfl))
              rw [show ([⟨60, 1, pliB 9 (256 + kw)⟩] : List OutD).length = 1 from rfl]
              clear hdq hsq hrw hcv hgl hcell hvb hor HTC
              go_wp2_with fail
              refine HPC.out.mono ?_
              rintro e0 w16 ⟨g16, o16, c16, Rc, rfl, hrg, hgl, hrv, hbq⟩
              have HM16 : Hid (DW mutX w1 lab0 w16 L15 g P14 D15 [(gs, 69, [.pointer (some ⟨g, 0, none⟩)])]) := HM15.out.call hbq
              have HRG := Lib.hid hrg
              have HRV := Lib.hid hrv
              have HRF : Hid (FitL 81 Rc) := hrv.fit
              clear hrg hgl hrv hbq ck1 ck2 HPC
              go_upto_region 28 with fail
              go_loopg [17, 18] 3 (fun gg v17 v18 wx => ∃ k : Nat, gg = 3 - k ∧ k ≤ 3 ∧ v18 = .int .i64 (k : Int) ∧ v17 = .int .i64 ((wantK r0 r1 r2 R k : Nat) : Int) ∧ wx = w16)
              case atStart => exact ⟨0, rfl, by omega, rfl, rfl, rfl⟩
              case round =>
                obtain ⟨k, hgg, hk, rfl, rfl, rfl⟩ := hrel
                have HGG := Lib.hid hgg
                clear hgg
                by_cases hkn : k < 3
                · have hki : (k : Int) < 3 := by omega
                  have hk0 : (0 : Int) ≤ (k : Int) := by omega
                  have hwk : IntKind.i64.wrap ((k : Int) + 1) = ((k + 1 : Nat) : Int) := by rw [IntKind.wrap_i64]; omega
                  have HLT := Lib.hid hkn
                  obtain ⟨rk, hrk⟩ : ∃ rk, rk = rAt r0 r1 r2 k := ⟨_, rfl⟩
                  have hrk2 : rk < 65536 := by
                    have := HR.out
                    rw [hrk]
                    unfold rAt
                    split
                    · omega
                    split <;> omega
                  have ck : wr.cell? ⟨b, k, none⟩ = some (.int .u16 (rk : Int)) := by
                    have hb := HARR.out _ _ _ _ _ HM16.out
                    rw [hb.cell, hrk]
                    rcases k with _ | _ | _ | k
                    · rfl
                    · rfl
                    · rfl
                    · omega
                  obtain ⟨T, hT⟩ : ∃ T, T = rk * 10000 := ⟨_, rfl⟩
                  have z1 : IntKind.u64.wrap (rk : Int) = (rk : Int) := by simp [IntKind.wrap, IntKind.bits, IntKind.signed]; omega
                  have z2 : IntKind.u64.wrap ((rk : Int) * 10000) = (T : Int) := by simp [IntKind.wrap, IntKind.bits, IntKind.signed]; omega
                  have z3 : IntKind.u64.wrap (m : Int) = (m : Int) := by have := HMT.out; simp [IntKind.wrap, IntKind.bits, IntKind.signed]; omega
                  have z4 : IntKind.u64.wrap (e : Int) = (e : Int) := by have := HE15.out; simp [IntKind.wrap, IntKind.bits, IntKind.signed]; omega
                  have HTE := Lib.hid hT
                  have HRK := Lib.hid hrk
                  have HE64 : Hid (e < 64) := by show _ < _; have := HE15.out; omega
                  have HRL : Hid (R < 18446744073709551616) := by show _ < _; rw [HRE.out]; have := HME.out; omega
                  clear hkn hk hrk hT hrk2
                  by_cases hle : T ≤ R
                  · have hli : (T : Int) ≤ (R : Int) := by omega
                    have HLE := Lib.hid hle
                    clear hle
                    go_wp2_with (first
                      | ((with_reducible show wpList _ _ _ (⟨some 125, .binOp _ _ _ _ _, _, _, _, _⟩ :: _) _ _); refine Hid.out ?_))
                    refine Lib.hid ?_
                    refine wpList_shl rfl _ _ (.tmp 122) (.tmp 124) rfl m e R rfl rfl HE64.out HRE.out HRL.out ?_
                    go_wp2_with fail
                    go_roundg (3 - (k + 1))
                    case measure => have := HLT.out; have := HGG.out; omega
                    case rel =>
                      refine ⟨k + 1, rfl, by have := HLT.out; omega, by first | rfl | go_num, ?_, rfl⟩
                      rw [wantK, ← HRK.out, ← HTE.out, if_pos HLE.out]
                  · have hli : (R : Int) < (T : Int) := by omega
                    have HLE := Lib.hid hle
                    clear hle
                    go_wp2_with (first
                      | ((with_reducible show wpList _ _ _ (⟨some 125, .binOp _ _ _ _ _, _, _, _, _⟩ :: _) _ _); refine Hid.out ?_))
                    refine Lib.hid ?_
                    refine wpList_shl rfl _ _ (.tmp 122) (.tmp 124) rfl m e R rfl rfl HE64.out HRE.out HRL.out ?_
                    go_step
                    go_step
                    go_step
                    rw [decide_eq_false HLE.out]
                    go_wp2_with fail
                    go_roundg (3 - (k + 1))
                    case measure => have := HLT.out; have := HGG.out; omega
                    case rel =>
                      refine ⟨k + 1, rfl, by have := HLT.out; omega, by first | rfl | go_num, ?_, rfl⟩
                      rw [wantK, ← HRK.out, ← HTE.out, if_neg HLE.out]
                · have hki : ¬ (k : Int) < 3 := by omega
                  have hke : k = 3 := by omega
                  subst hke
                  rw [← HKW.out]
                  obtain ⟨vb, vp, vf, vs, vd, hcs, ⟨Ab, cb, rfl, _, _⟩, ⟨Ap, cp, rfl, _, _⟩, ⟨Af, cf, rfl, _, _⟩, ⟨As, cs, rfl, _, _⟩, ⟨Ad, cd, rfl, _, _⟩⟩ := HRV.out
                  obtain ⟨Y, hY⟩ : ∃ Y, Y = 256 + kw := ⟨_, rfl⟩
                  have hcs2 : Rc.toArray = #[.int .i64 4, .int .u32 9, .int .u32 (Y : Int), .int .u64 0, .int .u32 0, .int .u32 0, .int .u32 0, .slice Ab 0 cb, .slice Ap 0 cp, .slice Af 0 cf, .int .i64 0, .int .u32 0, .slice As 0 cs, .int .i64 0, .int .i64 0, .slice Ad 0 cd] := by rw [hY]; exact hcs
                  obtain ⟨RA, hRA⟩ : ∃ RA, RA = Rc.toArray := ⟨_, rfl⟩
                  have HRA := Lib.hid hRA
                  have HHP : Hid (Calls Tryz.prog 22 #[.agg RA] wr fun e w' => e = .returned (.agg #[.int .i64 4, .int .u32 9, .int .u32 (Y : Int), .int .u64 0, .int .u32 0, .int .u32 0, .int .u32 0, .slice none 0 0, .slice none 0 0, .slice none 0 0, .int .i64 0, .int .u32 0, .slice As 0 cs, .int .i64 0, .int .i64 0, .slice Ad 0 cd]) ∧ Below wr.heap.size wr w') := by
                    show Calls _ _ _ _ _
                    rw [hRA, hcs2]
                    exact helpP_c 9 Y Ab Ap Af As Ad cb cp cf cs cd wr
                  have hw9 : IntKind.i64.wrap (256 + (kw : Int)) = (Y : Int) := by have := HKW3.out; rw [IntKind.wrap_i64]; omega
                  have hw10 : IntKind.u32.wrap (Y : Int) = (Y : Int) := by have := HKW3.out; simp [IntKind.wrap, IntKind.bits, IntKind.signed]; omega
                  clear hkn hk hcs hcs2 hRA hY
                  go_wp2_with (first
                    | ((with_reducible show wpList _ _ _ (⟨some 138, .load _ (.tmp 137), _, _, _, _⟩ :: _) _ _); refine Hid.out ?_))
                  refine Lib.hid ?_
                  refine wpList_load_mid_g rfl 81 (.tmp 137) rfl g16 o16 rfl Rc _ HRG.out Tryz.underlying81 rfl HRF.out.info ?_
                  rw [← HRA.out]
                  go_step
                  refine HHP.out.mono ?_
                  rintro e0 w17 ⟨rfl, hbq⟩
                  have HB17 := Lib.hid hbq
                  clear hbq HHP HRA
                  go_wp2_with fail
                  refine (sameP_c 9 Y As Ad cs cd w17).mono ?_
                  rintro e0 w18 ⟨rfl, hbq⟩
                  have HB18 := Lib.hid hbq
                  clear hbq
                  go_wp2_with fail
                  go_ret
                  exact ⟨rfl, bcall (bcall (HB1.out.trans (HM16.out.stp.toBelow (B := w.heap.size) (fun k _ => rfl) HB1.out.size).1) HB17.out) HB18.out⟩
end Go.Proofs.YtmkifedcanmjoaaGreat
