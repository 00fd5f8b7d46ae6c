/- The law RingOwn, walked: what the ring has is its own. Conditions: the slice reads and is within reach. -/
import Derived.Test.YtodcmnjimjjahaaKnown0
import Derived.Test.YtodcmnjimjjahaaApp
set_option linter.unusedVariables false
namespace Go.Proofs.Ytodcmnjimjjahaa
open Go.RowKit
attribute [local go_sem ↓] Go.wp_at_zero Go.wp_at_succ

theorem info5 : (Try.prog.info? 5).map (fun i => (i.zero, i.size, i.bytes)) = some (some (.int .u8 0), 1, 1) := by kernel_rfl
def rt5 : TypeId → Bool := fun t => t == 45 || t == 49 || t == 5
theorem rt_rt5 : ∀ t, rt t = true → rt5 t = true := by intro t h; simp only [rt, rt5, Bool.or_eq_true] at *; exact .inl h
theorem RingIs.fr5 {T : TypeId → Bool} {w w' : World} {B r : Nat} {es : List Ent} (h : RingIs w B r es) (hf : Fr B T w w') (h45 : T 45 = false) (h49 : T 49 = false) (hv : ∀ e ∈ es, BytesV 5 B w' e.v e.bs) : RingIs w' B r es := by
  obtain ⟨V, hb, hB, hown, hbv, hs⟩ := h
  exact ⟨V, hb.fr hf (.inr h45), hB, own_fr hown hf h49, hv, hs⟩
/-- The ring has one entry, whose bytes lie from base on. -/
def RingV (w : World) (B r seq base : Nat) (v' : Value) (bs : List UInt8) : Prop := RingIs w B r [⟨seq, v', bs⟩] ∧ w.ownsRow base 5 1 v' bs.length (bs.map u8v)
theorem RingV.below {w w' : World} {B r seq base : Nat} {v' : Value} {bs : List UInt8} (h : RingV w B r seq base v' bs) (hb : Below w.heap.size w w') : RingV w' B r seq base v' bs := ⟨h.1.below hb, own_below h.2 hb⟩
theorem RingV.k {w : World} {B r seq base : Nat} {v' : Value} {bs : List UInt8} (h : RingV w B r seq base v' bs) : RingK w B r [(seq, bs)] := ⟨_, h.1, rfl⟩
theorem RingV.grown {w w' : World} {B r seq base n b0 : Nat} {v' v : Value} {bs : List UInt8} {xs : List Value} (h : RingV w B r seq base v' bs) (ho : w.ownsRow b0 5 1 v n xs) (hg : w.grownBy w' v.ownBlock) (hB : B ≤ b0) (hne : v'.ownBlock ≠ v.ownBlock ∨ v.ownBlock = none) : RingV w' B r seq base v' bs := by
  have ho' : w'.ownsRow base 5 1 v' bs.length (bs.map u8v) := h.2.kept hg (by
    rcases hne with h | h
    · exact .inr h
    · rw [h]; cases hq : v'.ownBlock with
      | none => exact .inl rfl
      | some q => exact .inr (by simp))
  refine ⟨h.1.fr5 ((Fr.refl B (fun t => t == 5) w).grown_own ho hg hB rfl) rfl rfl ?_, ho'⟩
  intro e he
  rw [List.mem_singleton.1 he]
  exact BytesV.owned ho'
theorem own_gt {w : World} {b0 n : Nat} {v : Value} {xs : List Value} (h : w.ownsRow b0 5 1 v n xs) {g : Nat} (hg : g < b0) : v.ownBlock ≠ some g := by
  intro e
  have := (h.lt g e).1
  omega
theorem getK_one (seq : Nat) (bs : List UInt8) : getK [(seq, bs)] seq = some bs := by simp [getK, idxK]
theorem u8v_ints (bs : List UInt8) : bs.map u8v = (bs.map fun (b : UInt8) => (b.toNat : Int)).map (Value.int .u8) := by rw [List.map_map]; rfl
theorem own_form {w : World} {b0 n c : Nat} {A : Option Addr} {xs : List Value} (h : w.ownsRow b0 5 1 (.slice A n c) n xs) (hn : 0 < n) : ∃ g, A = some ⟨g, 0, none⟩ ∧ b0 ≤ g := by
  rcases h.2 with ⟨e, h0⟩ | ⟨g, cap, cur, e, hb, _⟩
  · omega
  · injection e with e; exact ⟨g, e, hb⟩

set_option maxHeartbeats 3200000 in
theorem own_walk (seq n c z : Nat) (A : Option Addr) (bs : List UInt8) (w : World) (hq : seq < 65536) (hr : Reads w w.heap.size 1 A n (bs.map u8v)) (hl : bs.length = n) (hnc : n ≤ c) (hbig : n ≤ 140737488355328) :
    Calls Try.prog 6 #[.int .u16 seq, .slice A n c, .int .u8 z] w fun e w' => e = .returned (.bool true) ∧ Below w.heap.size w w' := by
  obtain ⟨i5, hi5, hz0, hz1, hz2⟩ := info_parts info5
  have HRD := Lib.hid hr
  have HL := Lib.hid hl
  clear hr hl
  go_enter Try.func6, Try.ntmps6
  go_wp2_with fail
  refine (new_c w).mono ?_
  rintro e0 w1 ⟨rfl, hw1⟩
  have hr1 : RingIs w1 w.heap.size w.heap.size [] := by rw [hw1]; exact RingIs.new w _ (Nat.le_refl _)
  have hf1 : Fr w.heap.size rt5 w w1 := by rw [hw1]; exact (Fr.refl _ _ _).alloc _
  clear hw1
  go_wp2_with fail
  refine (awake_c w1).mono ?_
  rintro e0 w2 ⟨rfl, hb2⟩
  have HR2 := Lib.hid (hr1.below hb2)
  have HF2 := Lib.hid (hf1.call hb2)
  have hwle : w.heap.size ≤ w2.heap.size := HF2.out.size
  clear hr1 hf1 hb2
  go_upto_region 5 with
   (at_builtin
    refine wpList_append_any _ rfl (.tmp 23) (.tmp 24) _ rfl w2.heap.size 5 i5 _ 1 1 Try.underlying27 hi5 hz0 hz1 hz2 rfl (by omega) (.slice (some ⟨w2.heap.size, 0, none⟩) 0 0) 0 [] rfl (own_empty w2 5 1)
      w.heap.size A n c (bs.map u8v) rfl (HRD.out.below (HF2.out.alloc _).far) (u8_one bs) (by simp only [maxLen]; omega) (by omega) (by simp) ?_
    intro v1 w3 hown1 hg1 hat1
    rw [Nat.zero_add, List.nil_append] at hown1
    obtain ⟨A1, c1, rfl⟩ := own_slice hown1
    have HO1 := Lib.hid hown1
    have HG1 := Lib.hid hg1
    clear hown1 hg1 hat1)
  go_wp2_with fail
  have hle3 : w2.heap.size ≤ w3.heap.size := Nat.le_trans (by simp) HG1.out.size
  have hf3 : Fr w.heap.size rt5 w w3 := (HF2.out.alloc (.cells #[] 5)).grown_own (own_empty w2 5 1) HG1.out hwle rfl
  have hr3 : RingIs w3 w.heap.size w.heap.size [] := (HR2.out.below (balloc (Below.refl _ _) _)).fr5 ((Fr.refl w.heap.size (fun t => t == 5) _).grown_own (own_empty w2 5 1) HG1.out hwle rfl) rfl rfl (by simp)
  have hb3 : BytesV 5 w.heap.size w3 (.slice A1 n c1) bs := BytesV.of_own HO1.out HL.out.symm (by rw [HL.out]; exact own_bound HO1.out)
  refine (add_c w.heap.size seq w.heap.size [] bs _ w3 hr3 hb3 (by rw [HL.out]; omega) hq (by simp)).mono ?_
  rintro e0 w4 ⟨rfl, v', hr4, hf4, ho4⟩
  have hv4 : RingV w4 w.heap.size w.heap.size seq w3.heap.size v' bs := ⟨hr4, ho4⟩
  have hi4 : w4.ownsRow w2.heap.size 5 1 (.slice A1 n c1) n (bs.map u8v) := own_fr HO1.out hf4 rfl
  have hlt4 : ∀ g, (Value.slice A1 n c1).ownBlock = some g → g < w3.heap.size := fun g e => (HO1.out.lt g e).2
  rw [u8v_ints] at hi4
  have HV4 := Lib.hid hv4
  have HI4 := Lib.hid hi4
  have HF4 := Lib.hid (hf3.trans (hf4.mono rt_rt5))
  have HLT := Lib.hid hlt4
  have HLE := Lib.hid hle3
  clear hle3 hf3 hr3 hb3 hr4 hf4 ho4 hv4 hi4 hlt4
  have hn63 : n ≤ 9223372036854775807 := by omega
  go_wp2_with fail
  go_loopg [9] n (fun gg i wr => ∃ (k : Nat) (zs : List Int), k ≤ n ∧ gg = n - k ∧ i = .int .i64 k ∧ zs.length = n ∧ wr.ownsRow w2.heap.size 5 1 (.slice A1 n c1) n (zs.map (Value.int .u8)) ∧ RingV wr w.heap.size w.heap.size seq w3.heap.size v' bs ∧ Fr w.heap.size rt5 w wr)
  case atStart => exact ⟨0, _, by omega, rfl, rfl, by rw [List.length_map]; exact HL.out, HI4.out, HV4.out, HF4.out⟩
  case round =>
    obtain ⟨k, zs, hk, rfl, rfl, hzl, how, hrv, hfr⟩ := hrel
    have HZL := Lib.hid hzl
    have HOW := Lib.hid how
    have HRV := Lib.hid hrv
    have HFR := Lib.hid hfr
    clear hzl how hrv hfr
    by_cases hkn : k < n
    · obtain ⟨g, rfl, hgb⟩ := own_form HOW.out (by omega)
      obtain ⟨ad, e, hadl, hcell⟩ := (Reads.of_own HOW.out).2 (by omega)
      injection e with e
      subst e
      obtain ⟨x, hx⟩ : ∃ x, zs[k]? = some x := ⟨_, List.getElem?_eq_getElem (by rw [HZL.out]; exact hkn)⟩
      have hck := hcell k (.int .u8 x) (by rw [List.getElem?_map, hx]; rfl)
      rw [Go.WideShapes.add_plain, Nat.zero_add] at hck
      have hfk := HOW.out.frozenAt k
      clear hcell hx hadl
      go_wp2
      obtain ⟨hs1, hs2⟩ := HOW.out.stored k (.int .u8 (bits .xor .u8 x z))
      go_roundg (n - (k + 1))
      case measure => omega
      case rel => exact ⟨k + 1, zs.set k (bits .xor .u8 x z), by omega, rfl, by go_num, by rw [List.length_set]; exact HZL.out, by rw [List.map_set]; exact hs1, (HRV.out.grown (v := .slice (some ⟨g, 0, none⟩) n c1) HOW.out hs2 hwle (.inl (own_gt HRV.out.2 (HLT.out g rfl)))), HFR.out.grown_own (v := .slice (some ⟨g, 0, none⟩) n c1) HOW.out hs2 hwle rfl⟩
    · have hkn' : k = n := by omega
      subst hkn'
      have HR5 := HRV
      have HF5 := HFR
      obtain ⟨w5, rfl⟩ : ∃ w5, w5 = wr := ⟨_, rfl⟩
      have hw5le : w.heap.size ≤ w5.heap.size := HF5.out.size
      clear HRV HFR HOW HZL
      go_wp2_with fail
      refine (getK_hit (bs := bs) HR5.out.k (by simp) (by rw [HL.out]; omega) (getK_one _ _)).mono ?_
      rintro e0 w6 ⟨A2, c2, rfl, ho6, hv6, hb6⟩
      rw [HL.out] at ho6 hv6 ⊢
      have HR6 := Lib.hid (HR5.out.below hb6)
      have HF6 := Lib.hid (HF5.out.call hb6)
      have HV6 := Lib.hid hv6
      have HO6 := Lib.hid ho6
      have hlt6 : ∀ g, (Value.slice A2 k c2).ownBlock = some g → g < w6.heap.size := fun g e => (ho6.lt g e).2
      have HLT6 := Lib.hid hlt6
      have hw56 : w5.heap.size ≤ w6.heap.size := hb6.size
      clear ho6 hv6 hb6 hlt6
      go_upto_region 12 with
       (at_builtin
        refine wpList_append_any _ rfl (.tmp 51) (.tmp 52) _ rfl w6.heap.size 5 i5 _ 1 1 Try.underlying27 hi5 hz0 hz1 hz2 rfl (by omega) (.slice (some ⟨w6.heap.size, 0, none⟩) 0 0) 0 [] rfl (own_empty w6 5 1)
          _ A2 k c2 (bs.map u8v) rfl ((Reads.of_own HO6.out).below (balloc (Below.refl _ _) _)) (u8_one bs) (by simp only [maxLen]; omega) (by omega) (by simp) ?_
        intro v7 w7 hown7 hg7 hat7
        rw [Nat.zero_add, List.nil_append] at hown7
        obtain ⟨A7, c7, rfl⟩ := own_slice hown7
        have HO7 := Lib.hid hown7
        have HG7 := Lib.hid hg7
        clear hown7 hg7 hat7)
      go_upto_region 12 with fail
      have hx7 : w7.ownsRow w5.heap.size 5 1 (.slice A2 k c2) k (bs.map u8v) := (HO6.out.alloc _).kept HG7.out (.inr (fun e => absurd (HLT6.out _ e) (Nat.lt_irrefl _)))
      have hv7 : RingV w7 w.heap.size w.heap.size seq w3.heap.size v' bs := (HR6.out.below (balloc (Below.refl _ _) _)).grown (own_empty w6 5 1) HG7.out (by omega) (.inl (fun e => absurd (HR6.out.2.lt _ e).2 (Nat.lt_irrefl _)))
      have hf7 : Fr w.heap.size rt5 w w7 := (HF6.out.alloc (.cells #[] 5)).grown_own (own_empty w6 5 1) HG7.out (by omega) rfl
      have hvl : ∀ g, v'.ownBlock = some g → g < w5.heap.size := fun g e => (HR5.out.2.lt g e).2
      rw [u8v_ints] at hx7
      have HX7 := Lib.hid hx7
      have HV7 := Lib.hid hv7
      have HF7 := Lib.hid hf7
      have HVL := Lib.hid hvl
      clear hx7 hv7 hf7 hvl
      go_wp2_with fail
      go_loopg [13] k (fun gg i wr => ∃ (j : Nat) (zs : List Int), j ≤ k ∧ gg = k - j ∧ i = .int .i64 j ∧ zs.length = k ∧ wr.ownsRow w5.heap.size 5 1 (.slice A2 k c2) k (zs.map (Value.int .u8)) ∧ RingV wr w.heap.size w.heap.size seq w3.heap.size v' bs ∧ wr.ownsRow w6.heap.size 5 1 (.slice A7 k c7) k (bs.map u8v) ∧ Fr w.heap.size rt5 w wr)
      case atStart => exact ⟨0, _, by omega, rfl, rfl, by rw [List.length_map]; exact HL.out, HX7.out, HV7.out, HO7.out, HF7.out⟩
      case round =>
        obtain ⟨j, zs, hk, rfl, rfl, hzl, how, hrv, hy, hfr⟩ := hrel
        have HZL := Lib.hid hzl
        have HOW := Lib.hid how
        have HRV := Lib.hid hrv
        have HY := Lib.hid hy
        have HFR := Lib.hid hfr
        clear hzl how hrv hy hfr
        by_cases hkn : j < k
        · obtain ⟨g, rfl, hgb⟩ := own_form HOW.out (by omega)
          obtain ⟨ad, e, hadl, hcell⟩ := (Reads.of_own HOW.out).2 (by omega)
          injection e with e
          subst e
          obtain ⟨x, hx⟩ : ∃ x, zs[j]? = some x := ⟨_, List.getElem?_eq_getElem (by rw [HZL.out]; exact hkn)⟩
          have hck := hcell j (.int .u8 x) (by rw [List.getElem?_map, hx]; rfl)
          rw [Go.WideShapes.add_plain, Nat.zero_add] at hck
          have hfk := HOW.out.frozenAt j
          clear hcell hx hadl
          go_wp2
          obtain ⟨hs1, hs2⟩ := HOW.out.stored j (.int .u8 (bits .xor .u8 x z))
          go_roundg (k - (j + 1))
          case measure => omega
          case rel => exact ⟨j + 1, zs.set j (bits .xor .u8 x z), by omega, rfl, by go_num, by rw [List.length_set]; exact HZL.out, by rw [List.map_set]; exact hs1, HRV.out.grown (v := .slice (some ⟨g, 0, none⟩) k c2) HOW.out hs2 hw5le (.inl (fun e => absurd (HVL.out g e) (by omega))), HY.out.kept hs2 (.inr (own_gt HY.out (HLT6.out g rfl))), HFR.out.grown_own (v := .slice (some ⟨g, 0, none⟩) k c2) HOW.out hs2 hw5le rfl⟩
        · have hkn' : j = k := by omega
          subst hkn'
          obtain ⟨w8, rfl⟩ : ∃ w8, w8 = wr := ⟨_, rfl⟩
          go_wp2_with fail
          refine (getK_hit (bs := bs) HRV.out.k (by simp) (by rw [HL.out]; omega) (getK_one _ _)).mono ?_
          rintro e0 w9 ⟨A9, c9, rfl, ho9, hv9, hb9⟩
          have hb : BytesV 5 w.heap.size w9 (.slice A j c) bs := BytesV.of_arg (HRD.out.below (HFR.out.call hb9).far) HL.out.symm hnc (HFR.out.call hb9).size
          have hy : BytesV 5 w.heap.size w9 (.slice A7 j c7) bs := BytesV.of_own (own_below HY.out hb9) HL.out.symm (by rw [HL.out]; exact own_bound HY.out)
          rw [HL.out] at hv9 ⊢
          have HB9 := Lib.hid hb
          have HY9 := Lib.hid hy
          have HV9 := Lib.hid hv9
          have HF9 := Lib.hid (HFR.out.call hb9)
          clear hb hy hv9 hb9 ho9
          go_wp2_with fail
          refine (same_c HY9.out HB9.out).mono ?_
          rintro e0 w10 ⟨rfl, rfl⟩
          rw [beq_self_eq_true]
          go_wp2_with fail
          refine (same_c HV9.out HB9.out).mono ?_
          rintro e0 w10 ⟨rfl, rfl⟩
          rw [beq_self_eq_true]
          go_wp2
          go_ret
          exact ⟨rfl, HF9.out.far⟩
end Go.Proofs.Ytodcmnjimjjahaa
