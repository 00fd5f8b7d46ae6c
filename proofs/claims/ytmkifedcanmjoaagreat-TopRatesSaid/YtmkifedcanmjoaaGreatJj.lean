/- Texts of this claim, one behind the other: QTold4, QTold6. Each says ahead of itself what it proves, and its conditions. -/
import Derived.Test.YtmkifedcanmjoaaGreatJf
/- What told returns: a lost picture (contract). Conditions: none. (Printed by gen8g.py.) -/
set_option linter.unusedVariables false
set_option linter.unusedSimpArgs false
namespace Go.Proofs.YtmkifedcanmjoaaGreat
open Go.RowKit
attribute [local go_sem ↓] Go.wp_at_zero Go.wp_at_succ

set_option maxRecDepth 100000 in
set_option maxHeartbeats 12800000 in
theorem told4_c (fr ab ntp ts pk oc mt nb cb np cp nf cf ns cs nd cd : Nat) (ex ty ct : Int) (Ab Ap Af As Ad : Option Addr) (w : World) (r : Rep) (hr : r.kind = 4)
    (hfr : fr < 4294967296) (hab : ab < 4294967296) (e1 : r.fr = fr) (e2 : r.ab = ab) :
    Calls Tryz.prog 44 #[.agg #[.int .i64 4, .int .u32 (fr : Int), .int .u32 (ab : Int), .int .u64 (ntp : Int), .int .u32 (ts : Int), .int .u32 (pk : Int), .int .u32 (oc : Int), .slice Ab nb cb, .slice Ap np cp, .slice Af nf cf, .int .i64 ex, .int .u32 (mt : Int), .slice As ns cs, .int .i64 ty, .int .i64 ct, .slice Ad nd cd]] w (ToldR r (.slice Ad nd cd) w) := by
  obtain ⟨iB, hiB, hz0, hz1, hz2⟩ := info_parts infoByte
  obtain ⟨g1, hg1⟩ : ∃ g1, g1 = w.heap.size := ⟨_, rfl⟩
  obtain ⟨w1, hw1⟩ : ∃ w1, w1 = w.alloc (.cells #[.int .i64 4, .int .u32 (fr : Int), .int .u32 (ab : Int), .int .u64 (ntp : Int), .int .u32 (ts : Int), .int .u32 (pk : Int), .int .u32 (oc : Int), .slice Ab nb cb, .slice Ap np cp, .slice Af nf cf, .int .i64 ex, .int .u32 (mt : Int), .slice As ns cs, .int .i64 ty, .int .i64 ct, .slice Ad nd cd] 81) := ⟨_, rfl⟩
  obtain ⟨B, hB⟩ : ∃ B, B = w1.heap.size := ⟨_, rfl⟩
  have HX1 : Hid (Blk w1 g1 81 #[.int .i64 4, .int .u32 (fr : Int), .int .u32 (ab : Int), .int .u64 (ntp : Int), .int .u32 (ts : Int), .int .u32 (pk : Int), .int .u32 (oc : Int), .slice Ab nb cb, .slice Ap np cp, .slice Af nf cf, .int .i64 ex, .int .u32 (mt : Int), .slice As ns cs, .int .i64 ty, .int .i64 ct, .slice Ad nd cd]) := by show Blk _ _ _ _; rw [hw1]; exact Blk.newAt hg1 _ _
  have HB1 : Hid (Below w.heap.size w w1) := by show Below _ _ _; rw [hw1]; exact balloc (Below.refl _ _) _
  have HG0 : Hid (Grew B (.slice none 0 0) [] w1 (.slice none 0 0) w1) := by show Grew _ _ _ _ _ _; rw [hB]; exact Grew.start w1
  have HBE := Lib.hid hB
  have z1 := wrap64 hfr
  have z2 := wrap64 hab
  have HFR := Lib.hid hfr
  have HAB := Lib.hid hab
  have HR4 := Lib.hid hr
  have HE1 := Lib.hid e1
  have HE2 := Lib.hid e2
  clear hr hfr hab e1 e2
  go_enter Tryz.func44, Tryz.ntmps44
  go_upto_region 1 with fail
  rw [← hw1, ← hg1]
  clear hw1 hg1 hB
  have k1 : w1.cell? ⟨g1, 1, none⟩ = some (.int .u32 (fr : Int)) := HX1.out.cell 1
  go_upto_region 2 with
   (go_at_call 45
    refine (put_c B fr 4 ([] : List UInt8) _ w1 HG0.out.1 (by rw [HBE.out]; exact Nat.le_refl _) (by decide) (by decide) (by have := HFR.out; omega)).mono ?_
    rintro e9 wp1 ⟨v9, rfl, hg9⟩
    have HG1 : Hid (Grew B (.slice none 0 0) (beS fr 4) w1 v9 wp1) := hg9
    obtain ⟨A1, c1, hv9⟩ := own_slice HG1.out.1
    subst hv9
    obtain ⟨m1, hm⟩ : ∃ m, m = (beS fr 4).length := ⟨_, rfl⟩
    have HL1 : Hid ((beS fr 4).length ≤ 100000000) := by show _ ≤ _; simp [beS_len, fours_len, blksB_len]
    rw [← hm] at HG1 ⊢
    have k0 : wp1.cell? ⟨g1, 0, none⟩ = some (.int .i64 4) := (HG1.out.blkN HX1.out).cell 0
    have k2 : wp1.cell? ⟨g1, 2, none⟩ = some (.int .u32 (ab : Int)) := (HG1.out.blkN HX1.out).cell 2
    clear hg9 hm k1)
  go_upto_region 16 with
   (go_at_call 45
    refine (put_c B ab 4 (beS fr 4) _ wp1 HG1.out.1 (by rw [HBE.out]; exact HG1.out.2.1.size) HL1.out (by decide) (by have := HAB.out; omega)).mono ?_
    rintro e9 wp2 ⟨v9, rfl, hg9⟩
    have HG2 : Hid (Grew B (.slice none 0 0) ((beS fr 4) ++ beS ab 4) w1 v9 wp2) := HG1.out.trans hg9
    obtain ⟨A2, c2, hv9⟩ := own_slice HG2.out.1
    subst hv9
    obtain ⟨m2, hm⟩ : ∃ m, m = ((beS fr 4) ++ beS ab 4).length := ⟨_, rfl⟩
    have HL2 : Hid (((beS fr 4) ++ beS ab 4).length ≤ 100000000) := by show _ ≤ _; simp [beS_len, fours_len, blksB_len]
    rw [← hm] at HG2 ⊢
    have k0 : wp2.cell? ⟨g1, 0, none⟩ = some (.int .i64 4) := (HG2.out.blkN HX1.out).cell 0
    clear hg9 hm )
  go_wp2_with fail
  go_ret3
  refine ⟨_, by unfold typS cntS; rw [HR4.out]; rfl, ?_, bcall HB1.out HG2.out.belowN⟩
  have hs := HG2.out.tv (w0 := w) (by rw [HBE.out]; exact HB1.out.size)
  unfold bodyS
  rw [HR4.out, HE1.out, HE2.out]
  exact .inl hs
end Go.Proofs.YtmkifedcanmjoaaGreat
/- What told returns: a rate (contract). Conditions: its streams lie in memory. (Printed by gen8g.py.) -/
set_option linter.unusedVariables false
set_option linter.unusedSimpArgs false
namespace Go.Proofs.YtmkifedcanmjoaaGreat
open Go.RowKit
attribute [local go_sem ↓] Go.wp_at_zero Go.wp_at_succ

theorem own_num {w : World} {base e size n k c : Nat} {A : Option Addr} {xs : List Value} (h : w.ownsRow base e size (.slice A k c) n xs) : k = n := by
  rcases h.2 with ⟨e1, h0⟩ | ⟨g, cap, cur, e1, _⟩
  · injection e1 with _ e2 _
    omega
  · injection e1
theorem or18 (e m : Nat) (he : e < 64) (hm : m < 262144) : bits .or .u64 ((262144 * e : Nat) : Int) (m : Int) = ((262144 * e + m : Nat) : Int) := by
  rw [u64_or_nat _ _ (by omega) (by omega)]
  have := Nat.two_pow_add_eq_or_of_lt (i := 18) hm e
  rw [show (2 : Nat) ^ 18 = 262144 from rfl] at this
  rw [this]
theorem takeN_snoc {α : Type} {xs : List α} {i : Nat} {x : α} (h : xs[i]? = some x) : xs.take (i + 1) = xs.take i ++ [x] := by
  rw [List.take_add_one, h]
  rfl
set_option maxRecDepth 100000 in
set_option maxHeartbeats 12800000 in
theorem told6_c (fr ab ntp ts pk oc mt nb cb np cp nf cf ns cs nd cd : Nat) (ex ty ct : Int) (Ab Ap Af As Ad : Option Addr) (w : World) (r : Rep) (hr : r.kind = 6) (hbs : SlR w ksS (.slice As ns cs) r.ssrcs) (hfb : ∀ e ∈ r.ssrcs, ∀ x ∈ e, x < 4294967296) (hnb : ns ≤ 255) (exn : Nat) (hex : ex = (exn : Int)) (hexn : exn < 64) (hmt : mt < 262144) (e3 : r.ex = ex) (e4 : r.mt = mt)
    (hfr : fr < 4294967296) (hab : ab < 4294967296) (e1 : r.fr = fr) (e2 : r.ab = ab) :
    Calls Tryz.prog 44 #[.agg #[.int .i64 6, .int .u32 (fr : Int), .int .u32 (ab : Int), .int .u64 (ntp : Int), .int .u32 (ts : Int), .int .u32 (pk : Int), .int .u32 (oc : Int), .slice Ab nb cb, .slice Ap np cp, .slice Af nf cf, .int .i64 ex, .int .u32 (mt : Int), .slice As ns cs, .int .i64 ty, .int .i64 ct, .slice Ad nd cd]] w (ToldR r (.slice Ad nd cd) w) := by
  obtain ⟨iB, hiB, hz0, hz1, hz2⟩ := info_parts infoByte
  obtain ⟨g1, hg1⟩ : ∃ g1, g1 = w.heap.size := ⟨_, rfl⟩
  obtain ⟨w1, hw1⟩ : ∃ w1, w1 = w.alloc (.cells #[.int .i64 6, .int .u32 (fr : Int), .int .u32 (ab : Int), .int .u64 (ntp : Int), .int .u32 (ts : Int), .int .u32 (pk : Int), .int .u32 (oc : Int), .slice Ab nb cb, .slice Ap np cp, .slice Af nf cf, .int .i64 ex, .int .u32 (mt : Int), .slice As ns cs, .int .i64 ty, .int .i64 ct, .slice Ad nd cd] 81) := ⟨_, rfl⟩
  obtain ⟨B, hB⟩ : ∃ B, B = w1.heap.size := ⟨_, rfl⟩
  have HX1 : Hid (Blk w1 g1 81 #[.int .i64 6, .int .u32 (fr : Int), .int .u32 (ab : Int), .int .u64 (ntp : Int), .int .u32 (ts : Int), .int .u32 (pk : Int), .int .u32 (oc : Int), .slice Ab nb cb, .slice Ap np cp, .slice Af nf cf, .int .i64 ex, .int .u32 (mt : Int), .slice As ns cs, .int .i64 ty, .int .i64 ct, .slice Ad nd cd]) := by show Blk _ _ _ _; rw [hw1]; exact Blk.newAt hg1 _ _
  have HB1 : Hid (Below w.heap.size w w1) := by show Below _ _ _; rw [hw1]; exact balloc (Below.refl _ _) _
  have HG0 : Hid (Grew B (.slice none 0 0) [] w1 (.slice none 0 0) w1) := by show Grew _ _ _ _ _ _; rw [hB]; exact Grew.start w1
  have HBE := Lib.hid hB
  have zex : IntKind.u64.wrap ex = (exn : Int) := by rw [hex]; exact wrap64 (by omega)
  have HEXE := Lib.hid hex
  clear hex
  have z1 := wrap64 hfr
  have z2 := wrap64 hab
  have HFR := Lib.hid hfr
  have HAB := Lib.hid hab
  have HR4 := Lib.hid hr
  have HE1 := Lib.hid e1
  have HE2 := Lib.hid e2
  have HBS : Hid (SlR w1 ksS (.slice As ns cs) r.ssrcs) := hbs.below HB1.out
  have HFB := Lib.hid hfb
  have HLEN : Hid (r.ssrcs.length = ns) := by obtain ⟨_, _, e, _⟩ := hbs; injection e with _ e; exact e.symm
  have HE3 := Lib.hid e3
  have HE4 := Lib.hid e4
  have HMT := Lib.hid hmt
  have HEX := Lib.hid hexn
  clear hbs hfb e3 e4 hmt hexn
  clear hr hfr hab e1 e2
  go_enter Tryz.func44, Tryz.ntmps44
  go_upto_region 1 with fail
  rw [← hw1, ← hg1]
  clear hw1 hg1 hB
  have k1 : w1.cell? ⟨g1, 1, none⟩ = some (.int .u32 (fr : Int)) := HX1.out.cell 1
  go_upto_region 2 with
   (go_at_call 45
    refine (put_c B fr 4 ([] : List UInt8) _ w1 HG0.out.1 (by rw [HBE.out]; exact Nat.le_refl _) (by decide) (by decide) (by have := HFR.out; omega)).mono ?_
    rintro e9 wp1 ⟨v9, rfl, hg9⟩
    have HG1 : Hid (Grew B (.slice none 0 0) (beS fr 4) w1 v9 wp1) := hg9
    obtain ⟨A1, c1, hv9⟩ := own_slice HG1.out.1
    subst hv9
    obtain ⟨m1, hm⟩ : ∃ m, m = (beS fr 4).length := ⟨_, rfl⟩
    have HL1 : Hid ((beS fr 4).length ≤ 100000000) := by show _ ≤ _; simp [beS_len, fours_len, blksB_len]
    rw [← hm] at HG1 ⊢
    have k0 : wp1.cell? ⟨g1, 0, none⟩ = some (.int .i64 6) := (HG1.out.blkN HX1.out).cell 0
    have k2 : wp1.cell? ⟨g1, 2, none⟩ = some (.int .u32 (ab : Int)) := (HG1.out.blkN HX1.out).cell 2
    clear hg9 hm k1)
  go_upto_region 16 with
   (go_at_call 45
    refine (put_c B ab 4 (beS fr 4) _ wp1 HG1.out.1 (by rw [HBE.out]; exact HG1.out.2.1.size) HL1.out (by decide) (by have := HAB.out; omega)).mono ?_
    rintro e9 wp2 ⟨v9, rfl, hg9⟩
    have HG2 : Hid (Grew B (.slice none 0 0) ((beS fr 4) ++ beS ab 4) w1 v9 wp2) := HG1.out.trans hg9
    obtain ⟨A2, c2, hv9⟩ := own_slice HG2.out.1
    subst hv9
    obtain ⟨m2, hm⟩ : ∃ m, m = ((beS fr 4) ++ beS ab 4).length := ⟨_, rfl⟩
    have HL2 : Hid (((beS fr 4) ++ beS ab 4).length ≤ 100000000) := by show _ ≤ _; simp [beS_len, fours_len, blksB_len]
    rw [← hm] at HG2 ⊢
    have k0 : wp2.cell? ⟨g1, 0, none⟩ = some (.int .i64 6) := (HG2.out.blkN HX1.out).cell 0
    clear hg9 hm k2)
  go_upto_region 32 with fail
  obtain rfl : m2 = 8 := by
    have h1 := own_num HG2.out.1
    rw [h1]
    simp [beS_len]
  obtain ⟨L2, hL2⟩ : ∃ L2, L2 = beS fr 4 ++ beS ab 4 := ⟨_, rfl⟩
  have HGD : Hid (Grew B (.slice none 0 0) L2 w1 (.slice A2 8 c2) (World.drew wp2)) := by
    show Grew _ _ _ _ _ _
    rw [hL2]
    exact ⟨HG2.out.1, HG2.out.2.1.drew, HG2.out.2.2⟩
  have HXD : Hid (Blk (World.drew wp2) g1 81 #[.int .i64 6, .int .u32 (fr : Int), .int .u32 (ab : Int), .int .u64 (ntp : Int), .int .u32 (ts : Int), .int .u32 (pk : Int), .int .u32 (oc : Int), .slice Ab nb cb, .slice Ap np cp, .slice Af nf cf, .int .i64 ex, .int .u32 (mt : Int), .slice As ns cs, .int .i64 ty, .int .i64 ct, .slice Ad nd cd]) := HG2.out.blkN HX1.out
  have HLL : Hid (L2.length = 8) := by show _ = _; rw [hL2]; simp [beS_len]
  have HL12 : Hid ((L2 ++ ([82, 69, 77, 66] : List UInt8)).length = 12) := by show _ = _; rw [List.length_append, HLL.out]; rfl
  have HL2E := Lib.hid hL2
  have hnw : IntKind.u8.wrap (ns : Int) = (ns : Int) := by rw [IntKind.wrap_u8]; omega
  have HN1 : Hid ([Value.int .u8 (ns : Int)] = ([UInt8.ofNat ns] : List UInt8).map u8v) := by
    show _ = _
    simp only [List.map_cons, List.map_nil]
    rw [u8v_of (by omega)]
  have HST : Hid (strV ⟨#[82, 69, 77, 66]⟩ = ([82, 69, 77, 66] : List UInt8).map u8v) := rfl
  clear hL2
  go_cut [2] (fun v2 wx => ∃ A9 c9, v2 = .slice A9 13 c9 ∧ Grew B (.slice none 0 0) (L2 ++ [82, 69, 77, 66] ++ [UInt8.ofNat ns]) w1 v2 wx)
  case first =>
    refine wp_region_held_drew (S := (fun w3 => Blk w3 g1 81 #[.int .i64 6, .int .u32 (fr : Int), .int .u32 (ab : Int), .int .u64 (ntp : Int), .int .u32 (ts : Int), .int .u32 (pk : Int), .int .u32 (oc : Int), .slice Ab nb cb, .slice Ap np cp, .slice Af nf cf, .int .i64 ex, .int .u32 (mt : Int), .slice As ns cs, .int .i64 ty, .int .i64 ct, .slice Ad nd cd])) (by kernel_rfl) (HXD.out) (fun hHeld => ?_)
    refine wpAnyH_takeAt (i := 0) (v := (.slice A2 8 c2)) rfl (by kernel_rfl) (by kernel_rfl) (by kernel_rfl) (fun _ _ _ h => h) rfl (Or.inl ⟨by rfl, fun w' hS => ?_⟩) hHeld ?_
    · go_simp
    simp only [List.set_cons_zero, List.set_cons_succ]
    refine wpAnyH_takeAt (i := 2) (v := (.pointer (some ⟨g1, 12, none⟩))) rfl (by kernel_rfl) (by kernel_rfl) (by kernel_rfl) (fun _ _ _ h => h) rfl (Or.inl ⟨by rfl, fun w' hS => ?_⟩) hHeld ?_
    · go_simp
    simp only [List.set_cons_zero, List.set_cons_succ]
    refine wpAnyH_takeAt (i := 3) (v := (.slice As ns cs)) rfl (by kernel_rfl) (by kernel_rfl) (by kernel_rfl) (fun _ _ _ h => h) rfl (Or.inl ⟨by rfl, fun w' hS => ?_⟩) hHeld ?_
    · have hc := hS.cell 12
      have hc' : w'.cell? ⟨g1, 12, none⟩ = some (.slice As ns cs) := hc
      go_simp
    simp only [List.set_cons_zero, List.set_cons_succ]
    refine wpAnyH_takeAt (i := 4) (v := (.int .i64 (ns : Int))) rfl (by kernel_rfl) (by kernel_rfl) (by kernel_rfl) (fun _ _ _ h => h) rfl (Or.inl ⟨by rfl, fun w' hS => ?_⟩) hHeld ?_
    · go_simp
    simp only [List.set_cons_zero, List.set_cons_succ]
    refine wpAnyH_takeAt (i := 5) (v := (.int .u8 (ns : Int))) rfl (by kernel_rfl) (by kernel_rfl) (by kernel_rfl) (fun _ _ _ h => h) rfl (Or.inl ⟨by rfl, fun w' hS => ?_⟩) hHeld ?_
    · go_simp
    simp only [List.set_cons_zero, List.set_cons_succ]
    refine wpAnyH_ready (rs := [1, 6]) (by kernel_rfl) (by simp) (AllReadyH.cons rfl (fun K' hK => ?_) (AllReadyH.cons rfl (fun K' hK => ?_) AllReadyH.nil))
    · refine step_append_str _ (by rfl) (.tmp 115) _ 28 9 (by rfl) B 5 iB _ Tryz.underlying28 Tryz.underlying9 hiB hz0 hz1 hz2 rfl (.slice A2 8 c2) 8 (L2.map u8v) (by rfl) (by have := HGD.out.1; rw [HLL.out] at this; exact this) ⟨#[82, 69, 77, 66]⟩ (by rfl) (by decide)
        (by show 8 + 4 ≤ maxLen; decide) (by show 8 + 4 ≤ _; decide) (by rw [HBE.out]; exact HGD.out.2.1.size) ?_
      intro v_7 w_7 hown_7 hg_7 hat_7
      obtain ⟨A_7, c_7, hv_7⟩ : ∃ A c, v_7 = .slice A 12 c := own_slice hown_7
      subst hv_7
      have HX_7 : Hid (Blk w_7 g1 81 #[.int .i64 6, .int .u32 (fr : Int), .int .u32 (ab : Int), .int .u64 (ntp : Int), .int .u32 (ts : Int), .int .u32 (pk : Int), .int .u32 (oc : Int), .slice Ab nb cb, .slice Ap np cp, .slice Af nf cf, .int .i64 ex, .int .u32 (mt : Int), .slice As ns cs, .int .i64 ty, .int .i64 ct, .slice Ad nd cd]) := Blk.grown HXD.out hg_7 (fun e => by have h1 := own_blk_ne (by have := HGD.out.1; exact this) HXD.out (by decide); exact h1 e.symm)
      have HG_7 : Hid (Grew B (.slice none 0 0) (L2 ++ [82, 69, 77, 66]) w1 (.slice A_7 12 c_7) w_7) := by
        refine HGD.out.trans (Grew.app (news := [82, 69, 77, 66]) (Sv.refl _ _) ?_ hg_7 hat_7)
        have := hown_7
        rw [HST.out] at this
        rw [HLL.out]
        exact this
      clear hown_7 hg_7 hat_7
      refine hK.out _ _ HX_7.out (fun hHeld' => ?_)
      clear hK hHeld
      have hHeld := hHeld'
      clear hHeld'
      refine wpAnyH_putAt rfl ?_
      simp only [List.set_cons_zero, List.set_cons_succ]
      refine wpAnyH_ready (rs := [6]) (by kernel_rfl) (by simp) (AllReadyH.cons rfl (fun K' hK => ?_) AllReadyH.nil)
      go_simp
      obtain ⟨gy_, hgy_⟩ : ∃ gy_, gy_ = (World.heap w_7).size := ⟨_, rfl⟩
      have HY_8 : Hid (Blk (World.alloc w_7 (.cells #[.int .u8 (ns : Int)] 5)) gy_ 5 #[.int .u8 (ns : Int)]) := Blk.newAt hgy_ _ _
      have HNE : Hid ((Value.slice  A_7 12 c_7).ownBlock ≠ some gy_) := fun e => by have := (HG_7.out.1.lt gy_ e).2; omega
      have HGE : Hid ((w_7).heap.size = gy_) := hgy_.symm
      have HX_8 : Hid (Blk (World.alloc w_7 (.cells #[.int .u8 (ns : Int)] 5)) g1 81 #[.int .i64 6, .int .u32 (fr : Int), .int .u32 (ab : Int), .int .u64 (ntp : Int), .int .u32 (ts : Int), .int .u32 (pk : Int), .int .u32 (oc : Int), .slice Ab nb cb, .slice Ap np cp, .slice Af nf cf, .int .i64 ex, .int .u32 (mt : Int), .slice As ns cs, .int .i64 ty, .int .i64 ct, .slice Ad nd cd]) := Blk.alloc HX_7.out _
      have HG_8 : Hid (Grew B (.slice none 0 0) (L2 ++ [82, 69, 77, 66]) w1 (.slice A_7 12 c_7) (World.alloc w_7 (.cells #[.int .u8 (ns : Int)] 5))) := ⟨HG_7.out.1.alloc _, HG_7.out.2.1.alloc _, HG_7.out.2.2⟩
      refine hK.out _ _ HX_8.out (fun hHeld' => ?_)
      clear hK hHeld
      have hHeld := hHeld'
      clear hHeld'
      rw [HGE.out]
      clear hgy_
      refine wpAnyH_ready (rs := [7]) (by kernel_rfl) (by simp) (AllReadyH.cons rfl (fun K' hK => ?_) AllReadyH.nil)
      have HO_9 : Hid (World.ownsRow (World.alloc w_7 (.cells #[.int .u8 (ns : Int)] 5)) B 5 1 (.slice A_7 12 c_7) 12 ((L2 ++ [82, 69, 77, 66]).map u8v)) := by
        have := HG_8.out.1
        rw [HL12.out] at this
        exact this
      refine step_append_any _ (by rfl) (.tmp 116) (.tmp 121) _ (by rfl) B 5 iB _ 1 1 Tryz.underlying28 hiB hz0 hz1 hz2 rfl (by omega) (.slice A_7 12 c_7) 12 ((L2 ++ [82, 69, 77, 66]).map u8v) (by rfl) HO_9.out
        _ (some ⟨gy_, 0, none⟩) 1 1 [.int .u8 (ns : Int)] (by rfl) (reads_blk HY_8.out rfl) (by simp [Value.oneCell']) (by show 12 + 1 ≤ maxLen; decide) (by show 12 + 1 ≤ _; decide) (by rw [HBE.out]; exact HG_8.out.2.1.size) ?_
      intro v_9 w_9 hown_9 hg_9 hat_9
      obtain ⟨A_9, c_9, hv_9⟩ : ∃ A c, v_9 = .slice A 13 c := own_slice hown_9
      subst hv_9
      have HX_9 : Hid (Blk w_9 g1 81 #[.int .i64 6, .int .u32 (fr : Int), .int .u32 (ab : Int), .int .u64 (ntp : Int), .int .u32 (ts : Int), .int .u32 (pk : Int), .int .u32 (oc : Int), .slice Ab nb cb, .slice Ap np cp, .slice Af nf cf, .int .i64 ex, .int .u32 (mt : Int), .slice As ns cs, .int .i64 ty, .int .i64 ct, .slice Ad nd cd]) := Blk.grown HX_8.out hg_9 (Ne.symm (own_blk_ne HO_9.out HX_8.out (by decide)))
      have HGF : Hid (Grew B (.slice none 0 0) (L2 ++ [82, 69, 77, 66] ++ [UInt8.ofNat ns]) w1 (.slice A_9 13 c_9) w_9) := by
        refine HG_8.out.trans (Grew.app (news := [UInt8.ofNat ns]) (Sv.refl _ _) ?_ hg_9 hat_9)
        have := hown_9
        rw [HN1.out] at this
        rw [HL12.out]
        exact this
      clear hown_9 hg_9 hat_9
      refine hK.out _ _ HX_9.out (fun hHeld' => ?_)
      clear hK hHeld
      have hHeld := hHeld'
      clear hHeld'
      refine wpAnyH_putAt rfl ?_
      simp only [List.set_cons_zero, List.set_cons_succ]
      refine wpAnyH_takeAt (i := 8) (v := (.slice A_9 13 c_9)) rfl (by kernel_rfl) (by kernel_rfl) (by kernel_rfl) (fun _ _ _ h => h) rfl (Or.inl ⟨by rfl, fun w' hS => ?_⟩) hHeld ?_
      · go_simp
      simp only [List.set_cons_zero, List.set_cons_succ]
      refine wpAnyH_done (by kernel_rfl) ?_ _
      go_wp2_with fail
      go_meet
      exact ⟨A_9, c_9, rfl, HGF.out⟩
    · go_simp
      obtain ⟨gy_, hgy_⟩ : ∃ gy_, gy_ = (World.heap (World.drew wp2)).size := ⟨_, rfl⟩
      have HY_10 : Hid (Blk (World.drew (World.alloc wp2 (.cells #[.int .u8 (ns : Int)] 5))) gy_ 5 #[.int .u8 (ns : Int)]) := Blk.newAt hgy_ _ _
      have HNE : Hid ((Value.slice  A2 8 c2).ownBlock ≠ some gy_) := fun e => by have := (HGD.out.1.lt gy_ e).2; omega
      have HGE : Hid ((wp2).heap.size = gy_) := hgy_.symm
      have HX_10 : Hid (Blk (World.drew (World.alloc wp2 (.cells #[.int .u8 (ns : Int)] 5))) g1 81 #[.int .i64 6, .int .u32 (fr : Int), .int .u32 (ab : Int), .int .u64 (ntp : Int), .int .u32 (ts : Int), .int .u32 (pk : Int), .int .u32 (oc : Int), .slice Ab nb cb, .slice Ap np cp, .slice Af nf cf, .int .i64 ex, .int .u32 (mt : Int), .slice As ns cs, .int .i64 ty, .int .i64 ct, .slice Ad nd cd]) := Blk.alloc HXD.out _
      have HG_10 : Hid (Grew B (.slice none 0 0) L2 w1 (.slice A2 8 c2) (World.drew (World.alloc wp2 (.cells #[.int .u8 (ns : Int)] 5)))) := ⟨HGD.out.1.alloc _, HGD.out.2.1.alloc _, HGD.out.2.2⟩
      refine hK.out _ _ HX_10.out (fun hHeld' => ?_)
      clear hK hHeld
      have hHeld := hHeld'
      clear hHeld'
      rw [HGE.out]
      clear hgy_
      refine wpAnyH_ready (rs := [1]) (by kernel_rfl) (by simp) (AllReadyH.cons rfl (fun K' hK => ?_) AllReadyH.nil)
      refine step_append_str _ (by rfl) (.tmp 115) _ 28 9 (by rfl) B 5 iB _ Tryz.underlying28 Tryz.underlying9 hiB hz0 hz1 hz2 rfl (.slice A2 8 c2) 8 (L2.map u8v) (by rfl) (by have := HG_10.out.1; rw [HLL.out] at this; exact this) ⟨#[82, 69, 77, 66]⟩ (by rfl) (by decide)
        (by show 8 + 4 ≤ maxLen; decide) (by show 8 + 4 ≤ _; decide) (by rw [HBE.out]; exact HG_10.out.2.1.size) ?_
      intro v_11 w_11 hown_11 hg_11 hat_11
      obtain ⟨A_11, c_11, hv_11⟩ : ∃ A c, v_11 = .slice A 12 c := own_slice hown_11
      subst hv_11
      have HX_11 : Hid (Blk w_11 g1 81 #[.int .i64 6, .int .u32 (fr : Int), .int .u32 (ab : Int), .int .u64 (ntp : Int), .int .u32 (ts : Int), .int .u32 (pk : Int), .int .u32 (oc : Int), .slice Ab nb cb, .slice Ap np cp, .slice Af nf cf, .int .i64 ex, .int .u32 (mt : Int), .slice As ns cs, .int .i64 ty, .int .i64 ct, .slice Ad nd cd]) := Blk.grown HX_10.out hg_11 (fun e => by have h1 := own_blk_ne (by have := HG_10.out.1; exact this) HX_10.out (by decide); exact h1 e.symm)
      have HG_11 : Hid (Grew B (.slice none 0 0) (L2 ++ [82, 69, 77, 66]) w1 (.slice A_11 12 c_11) w_11) := by
        refine HG_10.out.trans (Grew.app (news := [82, 69, 77, 66]) (Sv.refl _ _) ?_ hg_11 hat_11)
        have := hown_11
        rw [HST.out] at this
        rw [HLL.out]
        exact this
      have HY_11 := Lib.hid (Blk.grown HY_10.out hg_11 (fun e => HNE.out e.symm))
      clear hown_11 hg_11 hat_11
      refine hK.out _ _ HX_11.out (fun hHeld' => ?_)
      clear hK hHeld
      have hHeld := hHeld'
      clear hHeld'
      refine wpAnyH_putAt rfl ?_
      simp only [List.set_cons_zero, List.set_cons_succ]
      refine wpAnyH_ready (rs := [7]) (by kernel_rfl) (by simp) (AllReadyH.cons rfl (fun K' hK => ?_) AllReadyH.nil)
      have HO_12 : Hid (World.ownsRow w_11 B 5 1 (.slice A_11 12 c_11) 12 ((L2 ++ [82, 69, 77, 66]).map u8v)) := by
        have := HG_11.out.1
        rw [HL12.out] at this
        exact this
      refine step_append_any _ (by rfl) (.tmp 116) (.tmp 121) _ (by rfl) B 5 iB _ 1 1 Tryz.underlying28 hiB hz0 hz1 hz2 rfl (by omega) (.slice A_11 12 c_11) 12 ((L2 ++ [82, 69, 77, 66]).map u8v) (by rfl) HO_12.out
        _ (some ⟨gy_, 0, none⟩) 1 1 [.int .u8 (ns : Int)] (by rfl) (reads_blk HY_11.out rfl) (by simp [Value.oneCell']) (by show 12 + 1 ≤ maxLen; decide) (by show 12 + 1 ≤ _; decide) (by rw [HBE.out]; exact HG_11.out.2.1.size) ?_
      intro v_12 w_12 hown_12 hg_12 hat_12
      obtain ⟨A_12, c_12, hv_12⟩ : ∃ A c, v_12 = .slice A 13 c := own_slice hown_12
      subst hv_12
      have HX_12 : Hid (Blk w_12 g1 81 #[.int .i64 6, .int .u32 (fr : Int), .int .u32 (ab : Int), .int .u64 (ntp : Int), .int .u32 (ts : Int), .int .u32 (pk : Int), .int .u32 (oc : Int), .slice Ab nb cb, .slice Ap np cp, .slice Af nf cf, .int .i64 ex, .int .u32 (mt : Int), .slice As ns cs, .int .i64 ty, .int .i64 ct, .slice Ad nd cd]) := Blk.grown HX_11.out hg_12 (Ne.symm (own_blk_ne HO_12.out HX_11.out (by decide)))
      have HGF : Hid (Grew B (.slice none 0 0) (L2 ++ [82, 69, 77, 66] ++ [UInt8.ofNat ns]) w1 (.slice A_12 13 c_12) w_12) := by
        refine HG_11.out.trans (Grew.app (news := [UInt8.ofNat ns]) (Sv.refl _ _) ?_ hg_12 hat_12)
        have := hown_12
        rw [HN1.out] at this
        rw [HL12.out]
        exact this
      clear hown_12 hg_12 hat_12
      refine hK.out _ _ HX_12.out (fun hHeld' => ?_)
      clear hK hHeld
      have hHeld := hHeld'
      clear hHeld'
      refine wpAnyH_putAt rfl ?_
      simp only [List.set_cons_zero, List.set_cons_succ]
      refine wpAnyH_takeAt (i := 8) (v := (.slice A_12 13 c_12)) rfl (by kernel_rfl) (by kernel_rfl) (by kernel_rfl) (fun _ _ _ h => h) rfl (Or.inl ⟨by rfl, fun w' hS => ?_⟩) hHeld ?_
      · go_simp
      simp only [List.set_cons_zero, List.set_cons_succ]
      refine wpAnyH_done (by kernel_rfl) ?_ _
      go_wp2_with fail
      go_meet
      exact ⟨A_12, c_12, rfl, HGF.out⟩
  case rest =>
    obtain ⟨A9, c9, rfl, hg⟩ := hcut
    have HG9 := Lib.hid hg
    have k10 : wc.cell? ⟨g1, 10, none⟩ = some (.int .i64 ex) := (HG9.out.blkN HX1.out).cell 10
    have k11 : wc.cell? ⟨g1, 11, none⟩ = some (.int .u32 (mt : Int)) := (HG9.out.blkN HX1.out).cell 11
    have zmt : IntKind.u64.wrap (mt : Int) = (mt : Int) := wrap64 (by have := HMT.out; omega)
    obtain ⟨Y, hY⟩ : ∃ Y, Y = 262144 * exn := ⟨_, rfl⟩
    obtain ⟨Z, hZ⟩ : ∃ Z, Z = Y + mt := ⟨_, rfl⟩
    have zsh : IntKind.u64.wrap ((exn : Int) * 262144) = (Y : Int) := by
      have := HEX.out
      rw [show (exn : Int) * 262144 = ((262144 * exn : Nat) : Int) by omega, ← hY]
      simp [IntKind.wrap, IntKind.bits, IntKind.signed]; omega
    have zor : bits .or .u64 (Y : Int) (mt : Int) = (Z : Int) := by
      rw [hZ, hY]
      exact or18 exn mt HEX.out HMT.out
    have HZ : Hid (Z = exn * 262144 + mt) := by show _ = _; omega
    obtain ⟨L3, hL3⟩ : ∃ L3, L3 = L2 ++ [82, 69, 77, 66] ++ [UInt8.ofNat ns] := ⟨_, rfl⟩
    rw [← hL3] at HG9
    have HL3l : Hid (L3.length = 13) := by show _ = _; rw [hL3, List.length_append, HL12.out]; rfl
    have HL3 := Lib.hid hL3
    clear hg hY hZ hL3
    go_upto_region 34 with
     (go_at_call 45
      refine (put_c B Z 3 L3 _ wc HG9.out.1 (by rw [HBE.out]; exact HG9.out.2.1.size) (by have := HL3l.out; omega) (by decide) (by have := HZ.out; have := HEX.out; have := HMT.out; omega)).mono ?_
      rintro e9 wp ⟨v9, rfl, hg9⟩
      have HGA : Hid (Grew B (.slice none 0 0) (L3 ++ beS Z 3) w1 v9 wp) := HG9.out.trans hg9
      obtain ⟨AA, cA, hv9⟩ := own_slice HGA.out.1
      subst hv9
      obtain ⟨mA, hm⟩ : ∃ m, m = (L3 ++ beS Z 3).length := ⟨_, rfl⟩
      rw [← hm] at HGA ⊢
      have k12 : wp.cell? ⟨g1, 12, none⟩ = some (.slice As ns cs) := (HGA.out.blkN HX1.out).cell 12
      clear hg9 hm)
    clear k10 k11 zmt zsh zor zex
    obtain ⟨L4, hL4⟩ : ∃ L4, L4 = L3 ++ beS Z 3 := ⟨_, rfl⟩
    have HGS : Hid (Grew B (.slice none 0 0) (L4 ++ fours ((r.ssrcs.take 0).map fun e => e.getD 0 0)) w1 (.slice AA mA cA) wp) := by
      show Grew _ _ _ _ _ _
      rw [hL4]
      simpa [fours] using HGA.out
    have HL4 := Lib.hid hL4
    have HL4l : Hid (L4.length = 16) := by show _ = _; rw [hL4, List.length_append, beS_len, HL3l.out]
    clear hL4 HGA
    go_upto_region 35 with fail
    clear k12
    go_loopg [2, 136] ns (fun gg vv vi wx => ∃ i : Nat, gg = ns - i ∧ i ≤ ns ∧ vi = .int .i64 (i : Int) ∧ Grew B (.slice none 0 0) (L4 ++ fours ((r.ssrcs.take i).map fun e => e.getD 0 0)) w1 vv wx)
    case atStart => exact ⟨0, rfl, by omega, rfl, HGS.out⟩
    case round =>
      obtain ⟨i, hgg, hi, rfl, hg⟩ := hrel
      obtain ⟨Av, cv, hv⟩ := own_slice hg.1
      subst hv
      have HG := Lib.hid hg
      have HGG := Lib.hid hgg
      clear hg hgg HGS
      have HBW : Hid (Below w1.heap.size w1 wr) := HG.out.belowN
      obtain ⟨L, hL⟩ : ∃ L, L = L4 ++ fours ((r.ssrcs.take i).map fun e => e.getD 0 0) := ⟨_, rfl⟩
      have HLE := Lib.hid hL
      have HLl : Hid (L.length ≤ 90000000) := by show _ ≤ _; have := HL4l.out; rw [hL, List.length_append, fours_len, List.length_map, List.length_take]; omega
      rw [← hL] at HG ⊢
      obtain ⟨m, hm⟩ : ∃ m, m = L.length := ⟨_, rfl⟩
      rw [← hm] at HG ⊢
      clear hL hm
      by_cases hin : i < ns
      · have hini : (i : Int) < (ns : Int) := by omega
        have hw1 : IntKind.i64.wrap ((i : Int) + 1) = ((i + 1 : Nat) : Int) := by rw [IntKind.wrap_i64]; omega
        obtain ⟨e, hei⟩ : ∃ e, r.ssrcs[i]? = some e := ⟨r.ssrcs[i]'(by have := HLEN.out; omega), List.getElem?_eq_getElem _⟩
        obtain ⟨hz, ga, oa, hA, hga, hc⟩ := SlR.cells HBS.out (by omega) (by decide)
        subst hA
        obtain ⟨hel, hcc⟩ := hc i e hei
        obtain ⟨a0, rr, he⟩ : ∃ a0 rr, e = a0 :: rr := of1 (ks := ksS) rfl hel
        have u0 : wr.cell? ⟨ga, oa + i, none⟩ = some (.int .u32 (a0 : Int)) := (HBW.out.cell (p := ⟨ga, oa + i, none⟩) hga).trans (by have := hcc 0 _ (by rw [he]; rfl); simpa [ksS, numV] using this)
        have HA0 : Hid (a0 < 4294967296) := HFB.out e (List.mem_of_getElem? hei) a0 (by rw [he]; simp)
        have za0 : IntKind.u64.wrap (a0 : Int) = (a0 : Int) := wrap64 HA0.out
        have HTK : Hid (L4 ++ fours ((r.ssrcs.take (i + 1)).map fun e => e.getD 0 0) = L ++ beS a0 4) := by
          show _ = _
          rw [takeN_snoc hei, List.map_append, List.map_cons, List.map_nil, fours_snoc, ← List.append_assoc, HLE.out, he]
          rfl
        have HLT := Lib.hid hin
        clear hc hcc hei hin he hel hz hi
        go_wp2_with
         (go_at_call 45
          refine (put_c B a0 4 L _ wr HG.out.1 (by rw [HBE.out]; exact HG.out.2.1.size) (by have := HLl.out; omega) (by decide) (by have := HA0.out; omega)).mono ?_
          rintro e9 w9 ⟨v9, rfl, hg9⟩
          have HGN : Hid (Grew B (.slice none 0 0) (L4 ++ fours ((r.ssrcs.take (i + 1)).map fun e => e.getD 0 0)) w1 v9 w9) := by
            show Grew _ _ _ _ _ _
            rw [HTK.out]
            exact HG.out.trans hg9
          clear hg9)
        go_roundg (ns - (i + 1))
        case measure => have := HLT.out; have := HGG.out; omega
        case rel =>
          have hlt := HLT.out
          exact ⟨i + 1, rfl, by omega, by first | rfl | go_num, HGN.out⟩
      · have hini : ¬ (i : Int) < (ns : Int) := by omega
        have hie : ns = i := by omega
        subst hie
        have HT : Hid (r.ssrcs.take ns = r.ssrcs) := List.take_of_length_le (by have := HLEN.out; omega)
        clear hin hi
        go_wp2_with fail
        go_ret3
        refine ⟨_, by unfold typS cntS; rw [HR4.out]; rfl, ?_, bcall HB1.out HG.out.belowN⟩
        have hs := HG.out.tv (w0 := w) (by rw [HBE.out]; exact HB1.out.size)
        unfold bodyS
        rw [HR4.out, HE1.out, HE2.out, HE3.out, HE4.out, HLEN.out, HEXE.out, Int.toNat_natCast, ← HZ.out]
        rw [HLE.out, HT.out, HL4.out, HL3.out, HL2E.out] at hs
        exact .inl hs
end Go.Proofs.YtmkifedcanmjoaaGreat
