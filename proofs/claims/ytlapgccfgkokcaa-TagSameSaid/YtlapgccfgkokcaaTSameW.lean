/- What TagSame does. Conditions: the arguments lie in memory. (Printed by gen1s.py.) -/
import Derived.Test.YtlapgccfgkokcaaAwake2
set_option linter.unusedVariables false
set_option linter.unusedSimpArgs false
namespace Go.Proofs.Ytlapgccfgkokcaa
open Go.RowKit
attribute [local go_sem ↓] Go.wp_at_zero Go.wp_at_succ

/-- One byte turned. -/
def turnB (a : List UInt8) (k : Nat) (x : UInt8) : List UInt8 := a.set k (a.getD k 0 ^^^ x)
theorem turnB_len (a : List UInt8) (k : Nat) (x : UInt8) : (turnB a k x).length = a.length := by simp [turnB]
theorem turnB_eq (a : List UInt8) (k : Nat) (x : UInt8) (hk : k < a.length) : (a == turnB a k x) = (x == 0) := by
  by_cases h : x = 0
  · subst h
    have : turnB a k 0 = a := by
      unfold turnB
      rw [UInt8.xor_zero]
      refine List.ext_getElem? fun i => ?_
      rw [List.getElem?_set]
      by_cases e : k = i
      · subst e
        rw [if_pos rfl, if_pos hk, List.getD_eq_getElem?_getD, List.getElem?_eq_getElem hk]
        rfl
      · rw [if_neg e]
    rw [this, beq_self_eq_true]
    rfl
  · rw [beq_eq_false_iff_ne.2 h]
    refine beq_eq_false_iff_ne.2 fun e => h ?_
    have h1 : (turnB a k x)[k]? = some (a.getD k 0 ^^^ x) := by unfold turnB; rw [List.getElem?_set, if_pos rfl, if_pos hk]
    rw [← e, List.getElem?_eq_getElem hk] at h1
    injection h1 with h1
    have h2 : a.getD k 0 = a[k] := by rw [List.getD_eq_getElem?_getD, List.getElem?_eq_getElem hk]; rfl
    rw [h2] at h1
    have h3 : a[k] ^^^ a[k] = a[k] ^^^ (a[k] ^^^ x) := by rw [← h1]
    rw [UInt8.xor_self, ← UInt8.xor_assoc, UInt8.xor_self, UInt8.zero_xor] at h3
    exact h3.symm
theorem own_set_byte {w : World} {B g n c i : Nat} {bs : List UInt8} (h : w.ownsRow B 5 1 (.slice (some ⟨g, 0, none⟩) n c) n (bs.map u8v)) (hi : i < n) (x : UInt8) : (w.setCell ⟨g, i, none⟩ (.int .u8 (x.toNat : Int))).ownsRow B 5 1 (.slice (some ⟨g, 0, none⟩) n c) n ((bs.set i x).map u8v) := by
  rcases h with ⟨h1, h2⟩
  refine ⟨by simpa using h1, ?_⟩
  rcases h2 with ⟨e, _⟩ | ⟨g', cap, cur, e, h3, h4, h5, h6, h7, h8⟩
  · cases e
  · injection e with e1 e2 e3
    injection e1 with e1
    injection e1 with e1
    subst e1 e3
    refine .inr ⟨g, c, cur.setIfInBounds i (u8v x), rfl, h3, Blk.set_ h4 i (u8v x), h5, h6, by simpa using h7, ?_⟩
    rw [Nat.mul_one] at h8 ⊢
    rw [Array.toList_setIfInBounds, List.take_set, h8, List.map_set]
set_option maxRecDepth 100000 in
set_option maxHeartbeats 6400000 in
theorem tagsame_walk (a : List UInt8) (A : Option Addr) (n c at_ b0 m0 : Nat) (w : World) (ha : SlV w (.slice A n c) a) (hn : n = a.length) (hat : at_ < 65536) (hb0 : b0 < 256) (hm0 : m0 < 256) (hl : n < 140737488355327) :
    Calls Try.prog 10 #[.slice A n c, .int .u16 (at_ : Int), .int .u8 (b0 : Int), .int .u8 (m0 : Int)] w fun e w' => e = .returned (.bool true) ∧ Below w.heap.size w w' := by
  obtain ⟨by_, hby⟩ : ∃ x : UInt8, (x.toNat : Int) = (b0 : Int) := ⟨UInt8.ofNat b0, by simp; omega⟩
  obtain ⟨mo, hmo⟩ : ∃ x : UInt8, (x.toNat : Int) = (m0 : Int) := ⟨UInt8.ofNat m0, by simp; omega⟩
  rw [← hby, ← hmo]
  have HA := Lib.hid ha
  have HN := Lib.hid hn
  clear ha hn hby hmo hb0 hm0
  obtain ⟨i5, hi5, hz0, hz1, hz2⟩ := info_parts infoByte
  go_enter Try.func10, Try.ntmps10
  go_upto_region 4 with
   (first
    | (go_at_call 31
       refine (awake2_c w).mono ?_
       rintro e0 w1 ⟨rfl, hb1⟩
       have HB1 := Lib.hid hb1
       have HA1 := Lib.hid (HA.out.below hb1)
       have HRD : Hid (Reads (w1.alloc (.cells #[] 5)) (w1.alloc (.cells #[] 5)).heap.size 1 A n (a.map u8v)) := by
         obtain ⟨A', c', e, hc, hr⟩ := (HA1.out.below (balloc (Below.refl _ (w1)) (.cells #[] 5)))
         injection e with e1 e2 e3
         subst e1 e2
         exact hr
       clear hb1)
    | (at_builtin
       refine wpList_append_any _ rfl (.tmp 12) (.tmp 13) _ rfl w1.heap.size 5 i5 _ 1 1 Try.underlying27 hi5 hz0 hz1 hz2 rfl (by omega) (.slice (some ⟨w1.heap.size, 0, none⟩) 0 0) 0 [] rfl (own_empty w1 _ _)
         _ A n c (a.map u8v) rfl HRD.out (u8_one a) (by simp only [maxLen]; omega) (by omega) (by simp) ?_
       intro v2 w2 hown2 hg2 hv2
       rw [Nat.zero_add, List.nil_append] at hown2
       obtain ⟨A1, c1, rfl⟩ := own_slice hown2
       have HO2 := Lib.hid hown2
       have HB2 : Hid (Below w.heap.size w w2) := bcall HB1.out (fresh_below hg2)
       clear hown2 hg2 hv2))
  obtain ⟨k, hk⟩ : ∃ k, k = at_ % n := ⟨_, rfl⟩
  have HK := Lib.hid hk
  have HW1 : Hid (w.heap.size ≤ w1.heap.size) := HB1.out.size
  go_upto_if 17 with fail
  go_cut [] (fun wx => wx.ownsRow w1.heap.size 5 1 (.slice A1 n c1) n ((if n = 0 then a else turnB a k by_).map u8v) ∧ Below w.heap.size w wx)
  case first =>
    by_cases h0 : n = 0
    · have hni : ¬ (0 : Int) < (n : Int) := by omega
      have H0 := Lib.hid h0
      clear h0
      go_wp2_with fail
      go_meet
      rw [if_pos H0.out]
      exact ⟨HO2.out, HB2.out⟩
    · have hni : (0 : Int) < (n : Int) := by omega
      have H0 := Lib.hid h0
      have hkn : k < n := by rw [hk]; exact Nat.mod_lt _ (by omega)
      have hmod : ((at_ : Int) % (n : Int)) = (k : Int) := by rw [hk]; simp
      have hrow : ByteRow w2 w1.heap.size (.slice A1 n c1) a := by unfold ByteRow; rw [← HN.out]; exact HO2.out
      obtain ⟨g, c', e, hgB, hgl, hcells⟩ := row_form hrow (by rw [← HN.out]; omega)
      injection e with e1 e2 e3
      subst e1
      have c1' := hcells k (by rw [← HN.out]; exact hkn)
      obtain ⟨x, hx⟩ : ∃ x, x = a.getD k 0 := ⟨_, rfl⟩
      rw [← hx] at c1'
      obtain ⟨y, hy⟩ : ∃ y, y = x ^^^ by_ := ⟨_, rfl⟩
      have f1 := U8.xor x by_
      rw [← hy] at f1
      have hfz : w2.frozen? ⟨g, k, none⟩ = false := by
        rcases HO2.out.2 with ⟨e, _⟩ | ⟨g', cap, cur, e, _, h4, _⟩
        · cases e
        · injection e with e1
          injection e1 with e1
          injection e1 with e1
          subst e1
          exact Blk.frozen h4 k
      have HTB : Hid (turnB a k by_ = a.set k y) := by show _ = _; rw [turnB, hy, hx]
      have HGB := Lib.hid hgB
      have HKN := Lib.hid hkn
      have hmod2 : Int.tmod (at_ : Int) (n : Int) = (k : Int) := by rw [Int.tmod_eq_emod_of_nonneg (by omega)]; exact hmod
      have hwr : IntKind.i64.wrap (at_ : Int) = (at_ : Int) := by rw [IntKind.wrap_i64]; omega
      clear hk e2 e3 hx hy hrow hcells hgB hgl
      go_upto_region 5 with fail
      refine wp_region_held_drew (S := (fun _ => True)) (by kernel_rfl) (trivial) (fun hHeld => ?_)
      refine wpAnyH_takeAt (i := 0) (v := (.slice (some ⟨g, 0, none⟩) n c1)) rfl (by kernel_rfl) (by kernel_rfl) (by kernel_rfl) (fun _ _ _ h => h) rfl (Or.inl ⟨by rfl, fun w' hS => ?_⟩) hHeld ?_
      · go_simp
      simp only [List.set_cons_zero, List.set_cons_succ]
      refine wpAnyH_takeAt (i := 1) (v := (.int .u16 (at_ : Int))) rfl (by kernel_rfl) (by kernel_rfl) (by kernel_rfl) (fun _ _ _ h => h) rfl (Or.inl ⟨by rfl, fun w' hS => ?_⟩) hHeld ?_
      · go_simp
      simp only [List.set_cons_zero, List.set_cons_succ]
      refine wpAnyH_takeAt (i := 2) (v := (.int .i64 (at_ : Int))) rfl (by kernel_rfl) (by kernel_rfl) (by kernel_rfl) (fun _ _ _ h => h) rfl (Or.inl ⟨by rfl, fun w' hS => ?_⟩) hHeld ?_
      · go_simp
      simp only [List.set_cons_zero, List.set_cons_succ]
      refine wpAnyH_takeAt (i := 3) (v := (.slice (some ⟨g, 0, none⟩) n c1)) rfl (by kernel_rfl) (by kernel_rfl) (by kernel_rfl) (fun _ _ _ h => h) rfl (Or.inl ⟨by rfl, fun w' hS => ?_⟩) hHeld ?_
      · go_simp
      simp only [List.set_cons_zero, List.set_cons_succ]
      refine wpAnyH_takeAt (i := 4) (v := (.int .i64 (n : Int))) rfl (by kernel_rfl) (by kernel_rfl) (by kernel_rfl) (fun _ _ _ h => h) rfl (Or.inl ⟨by rfl, fun w' hS => ?_⟩) hHeld ?_
      · go_simp
      simp only [List.set_cons_zero, List.set_cons_succ]
      refine wpAnyH_takeAt (i := 5) (v := (.int .i64 (k : Int))) rfl (by kernel_rfl) (by kernel_rfl) (by kernel_rfl) (fun _ _ _ h => h) rfl (Or.inl ⟨by rfl, fun w' hS => ?_⟩) hHeld ?_
      · go_simp
      simp only [List.set_cons_zero, List.set_cons_succ]
      refine wpAnyH_takeAt (i := 6) (v := (.slice (some ⟨g, 0, none⟩) n c1)) rfl (by kernel_rfl) (by kernel_rfl) (by kernel_rfl) (fun _ _ _ h => h) rfl (Or.inl ⟨by rfl, fun w' hS => ?_⟩) hHeld ?_
      · go_simp
      simp only [List.set_cons_zero, List.set_cons_succ]
      refine wpAnyH_takeAt (i := 7) (v := (.int .u16 (at_ : Int))) rfl (by kernel_rfl) (by kernel_rfl) (by kernel_rfl) (fun _ _ _ h => h) rfl (Or.inl ⟨by rfl, fun w' hS => ?_⟩) hHeld ?_
      · go_simp
      simp only [List.set_cons_zero, List.set_cons_succ]
      refine wpAnyH_takeAt (i := 8) (v := (.int .i64 (at_ : Int))) rfl (by kernel_rfl) (by kernel_rfl) (by kernel_rfl) (fun _ _ _ h => h) rfl (Or.inl ⟨by rfl, fun w' hS => ?_⟩) hHeld ?_
      · go_simp
      simp only [List.set_cons_zero, List.set_cons_succ]
      refine wpAnyH_takeAt (i := 9) (v := (.slice (some ⟨g, 0, none⟩) n c1)) rfl (by kernel_rfl) (by kernel_rfl) (by kernel_rfl) (fun _ _ _ h => h) rfl (Or.inl ⟨by rfl, fun w' hS => ?_⟩) hHeld ?_
      · go_simp
      simp only [List.set_cons_zero, List.set_cons_succ]
      refine wpAnyH_takeAt (i := 10) (v := (.int .i64 (n : Int))) rfl (by kernel_rfl) (by kernel_rfl) (by kernel_rfl) (fun _ _ _ h => h) rfl (Or.inl ⟨by rfl, fun w' hS => ?_⟩) hHeld ?_
      · go_simp
      simp only [List.set_cons_zero, List.set_cons_succ]
      refine wpAnyH_takeAt (i := 11) (v := (.int .i64 (k : Int))) rfl (by kernel_rfl) (by kernel_rfl) (by kernel_rfl) (fun _ _ _ h => h) rfl (Or.inl ⟨by rfl, fun w' hS => ?_⟩) hHeld ?_
      · go_simp
      simp only [List.set_cons_zero, List.set_cons_succ]
      refine wpAnyH_takeAt (i := 12) (v := (.pointer (some ⟨g, k, none⟩))) rfl (by kernel_rfl) (by kernel_rfl) (by kernel_rfl) (fun _ _ _ h => h) rfl (Or.inl ⟨by rfl, fun w' hS => ?_⟩) hHeld ?_
      · go_simp
      simp only [List.set_cons_zero, List.set_cons_succ]
      refine wpAnyH_takeAt (i := 14) (v := (.int .u8 (by_.toNat : Int))) rfl (by kernel_rfl) (by kernel_rfl) (by kernel_rfl) (fun _ _ _ h => h) rfl (Or.inl ⟨by rfl, fun w' hS => ?_⟩) hHeld ?_
      · go_simp
      simp only [List.set_cons_zero, List.set_cons_succ]
      refine wpAnyH_ready (rs := [13]) (by kernel_rfl) (by simp) (AllReadyH.cons rfl (fun K' hK => ?_) AllReadyH.nil)
      go_simp
      refine hK.out _ _ hHeld (fun hHeld' => ?_)
      clear hK hHeld
      have hHeld := hHeld'
      clear hHeld'
      refine wpAnyH_takeAt (i := 15) (v := (.int .u8 (y.toNat : Int))) rfl (by kernel_rfl) (by kernel_rfl) (by kernel_rfl) (fun _ _ _ h => h) rfl (Or.inl ⟨by rfl, fun w' hS => ?_⟩) hHeld ?_
      · go_simp
      simp only [List.set_cons_zero, List.set_cons_succ]
      refine wpAnyH_takeAt (i := 16) (v := (.pointer (some ⟨g, k, none⟩))) rfl (by kernel_rfl) (by kernel_rfl) (by kernel_rfl) (fun _ _ _ h => h) rfl (Or.inl ⟨by rfl, fun w' hS => ?_⟩) hHeld ?_
      · go_simp
      simp only [List.set_cons_zero, List.set_cons_succ]
      refine wpAnyH_ready (rs := [17]) (by kernel_rfl) (by simp) (AllReadyH.cons rfl (fun K' hK => ?_) AllReadyH.nil)
      go_simp
      refine hK.out _ _ hHeld (fun hHeld' => ?_)
      clear hK hHeld
      have hHeld := hHeld'
      clear hHeld'
      refine wpAnyH_done (by kernel_rfl) ?_ _
      go_wp2_with fail
      go_meet
      rw [if_neg H0.out, HTB.out]
      exact ⟨own_set_byte HO2.out HKN.out y, bdrew (bset HB2.out (p := ⟨g, k, none⟩) (Nat.le_trans HW1.out HGB.out) _)⟩
  case rest =>
    obtain ⟨ho, hb⟩ := hcut
    obtain ⟨b, hbb⟩ : ∃ b, b = if n = 0 then a else turnB a k by_ := ⟨_, rfl⟩
    rw [← hbb] at ho
    have hbl : b.length = n := by rw [hbb]; split; exact HN.out.symm; rw [turnB_len]; exact HN.out.symm
    obtain ⟨r, hr⟩ : ∃ r, r = (a == b) := ⟨_, rfl⟩
    have hr2 : (b == a) = r := by rw [hr]; exact Bool.beq_comm
    have hrN : n ≠ 0 → r = (by_ == 0) := fun h0 => by
      rw [hr, hbb, if_neg h0]
      exact turnB_eq a k by_ (by rw [← HN.out, hk]; exact Nat.mod_lt _ (by omega))
    have hrZ : n = 0 → r = true := fun h0 => by rw [hr, hbb, if_pos h0, beq_self_eq_true]
    have HSB : Hid (SlV wc (.slice A1 n c1) b) := SlV.own (show ByteRow wc w1.heap.size (.slice A1 n c1) b by unfold ByteRow; rw [hbl]; exact ho)
    have HSA : Hid (SlV wc (.slice A n c) a) := HA.out.below hb
    have HBC := Lib.hid hb
    have HR := Lib.hid hr.symm
    have HR2 := Lib.hid hr2
    have HLT : Hid (Reads wc wc.heap.size 1 A n (a.map u8v)) := by
      obtain ⟨A', c', e, hc, hr⟩ := HSA.out
      injection e with e1 e2 e3
      subst e1 e2
      exact hr
    have HLN : Hid ((a == a ++ [mo]) = false) := beq_eq_false_iff_ne.2 (fun e => by have := congrArg List.length e; rw [List.length_append] at this; simp at this)
    clear ho hb hbb hbl hr hr2 hk HB1 HA1 HRD HO2 HB2 HK HW1 HA
    rcases (by
      by_cases h0 : n = 0
      · exact .inl ⟨h0, hrZ h0⟩
      · by_cases h1 : by_ = 0
        · exact .inr (.inl ⟨h0, by rw [h1]; rfl, by rw [hrN h0, h1]; rfl⟩)
        · exact .inr (.inr ⟨h0, fun e => h1 (UInt8.toNat_inj.1 (by rw [e]; rfl)), by rw [hrN h0]; exact beq_eq_false_iff_ne.2 h1⟩) : (n = 0 ∧ r = true) ∨ (n ≠ 0 ∧ by_.toNat = 0 ∧ r = true) ∨ (n ≠ 0 ∧ by_.toNat ≠ 0 ∧ r = false)) with ⟨hx, rfl⟩ | ⟨hx, hy, rfl⟩ | ⟨hx, hy, rfl⟩
    · have hni : (n : Int) = 0 := by omega
      clear hrN hrZ hx
      go_wp2_with
       (first
        | (go_at_call 33
           first
             | ((with_reducible show Calls _ _ _ wc _)
                refine (tsame_t (r := true) HR.out HSA.out HSB.out (by omega) (by omega)).mono ?_
                rintro e0 w3 ⟨rfl, hb3⟩
                have HB3 := Lib.hid hb3
                clear hb3)
             | ((with_reducible show Calls _ _ _ w3 _)
                refine (tsame_t (r := true) HR2.out (HSB.out.below HB3.out) (HSA.out.below HB3.out) (by omega) (by omega)).mono ?_
                rintro e0 w4 ⟨rfl, hb4⟩
                have HB4 := Lib.hid (bcall HB3.out hb4)
                clear hb4)
             | ((with_reducible show Calls _ _ _ w4 _)
                refine (tsame_t (r := true) HR.out (HSA.out.below HB4.out) (HSB.out.below HB4.out) (by omega) (by omega)).mono ?_
                rintro e0 w5 ⟨rfl, hb5⟩
                have HB5 := Lib.hid (bcall HB4.out hb5)
                have HRD5 : Hid (Reads (w5.alloc (.cells #[] 5)) (w5.alloc (.cells #[] 5)).heap.size 1 A n (a.map u8v)) := HLT.out.to_ (balloc HB5.out _)
                clear hb5)
             | (refine (tsame_t (r := false) HLN.out (HSA.out.below HB7.out) (SlV.own HO7.out) (by omega) (by omega)).mono ?_
                rintro e0 w8 ⟨rfl, hb8⟩
                have HB8 := Lib.hid (bcall HB7.out hb8)
                clear hb8))
        | (at_builtin
           first
             | (refine wpList_append_any_g _ (by rfl) (.tmp 57) (.tmp 58) _ rfl w5.heap.size 5 i5 _ 1 1 Try.underlying27 hi5 hz0 hz1 hz2 rfl (by omega) (.slice (some ⟨w5.heap.size, 0, none⟩) 0 0) 0 [] rfl (own_empty w5 _ _)
                  _ A n c (a.map u8v) rfl HRD5.out (u8_one a) (by simp only [maxLen]; omega) (by omega) (by simp) ?_
                intro v6 w6 hown6 hg6 hv6
                rw [Nat.zero_add, List.nil_append] at hown6
                obtain ⟨A6, c6, rfl⟩ := own_slice hown6
                have HO6 := Lib.hid hown6
                have HB6 : Hid (Below wc.heap.size wc w6) := bcall HB5.out (fresh_below hg6)
                have HBF : Hid (Below w5.heap.size w5 w6) := fresh_below hg6
                clear hown6 hg6 hv6)
             | (refine wpList_append_any_g _ (by rfl) (.tmp 59) (.tmp 61) _ rfl w5.heap.size 5 i5 _ 1 1 Try.underlying27 hi5 hz0 hz1 hz2 rfl (by omega) (.slice A6 n c6) n (a.map u8v) rfl (HO6.out.alloc _)
                  _ (some ⟨w6.heap.size, 0, none⟩) 1 1 [.int .u8 (mo.toNat : Int)] rfl (Reads.of_own (own_one w6 5 _)) (u8_one [mo]) (by simp only [maxLen]; omega) (by omega) (by have := HBF.out.size; rw [World.size_alloc]; omega) ?_
                intro v7 w7 hown7 hg7 hv7
                obtain ⟨A7, c7, rfl⟩ := own_slice hown7
                have HO7 : Hid (ByteRow w7 w5.heap.size (.slice A7 (n + 1) c7) (a ++ [mo])) := by
                  show ByteRow _ _ _ _
                  unfold ByteRow
                  rw [List.length_append, ← HN.out, List.map_append]
                  exact hown7
                have HB7 : Hid (Below wc.heap.size wc w7) := by
                  have h1 := own_grow_below (balloc HBF.out _) (HO6.out.alloc _) hg7
                  exact bcall HB5.out h1
                clear hown7 hg7 hv7)))
      go_ret
      exact ⟨rfl, bcall HBC.out HB8.out⟩
    · have hni : ¬ (n : Int) = 0 := by omega
      have hbi : (by_.toNat : Int) = 0 := by omega
      clear hy
      clear hrN hrZ hx
      go_wp2_with
       (first
        | (go_at_call 33
           first
             | ((with_reducible show Calls _ _ _ wc _)
                refine (tsame_t (r := true) HR.out HSA.out HSB.out (by omega) (by omega)).mono ?_
                rintro e0 w3 ⟨rfl, hb3⟩
                have HB3 := Lib.hid hb3
                clear hb3)
             | ((with_reducible show Calls _ _ _ w3 _)
                refine (tsame_t (r := true) HR2.out (HSB.out.below HB3.out) (HSA.out.below HB3.out) (by omega) (by omega)).mono ?_
                rintro e0 w4 ⟨rfl, hb4⟩
                have HB4 := Lib.hid (bcall HB3.out hb4)
                clear hb4)
             | ((with_reducible show Calls _ _ _ w4 _)
                refine (tsame_t (r := true) HR.out (HSA.out.below HB4.out) (HSB.out.below HB4.out) (by omega) (by omega)).mono ?_
                rintro e0 w5 ⟨rfl, hb5⟩
                have HB5 := Lib.hid (bcall HB4.out hb5)
                have HRD5 : Hid (Reads (w5.alloc (.cells #[] 5)) (w5.alloc (.cells #[] 5)).heap.size 1 A n (a.map u8v)) := HLT.out.to_ (balloc HB5.out _)
                clear hb5)
             | (refine (tsame_t (r := false) HLN.out (HSA.out.below HB7.out) (SlV.own HO7.out) (by omega) (by omega)).mono ?_
                rintro e0 w8 ⟨rfl, hb8⟩
                have HB8 := Lib.hid (bcall HB7.out hb8)
                clear hb8))
        | (at_builtin
           first
             | (refine wpList_append_any_g _ (by rfl) (.tmp 57) (.tmp 58) _ rfl w5.heap.size 5 i5 _ 1 1 Try.underlying27 hi5 hz0 hz1 hz2 rfl (by omega) (.slice (some ⟨w5.heap.size, 0, none⟩) 0 0) 0 [] rfl (own_empty w5 _ _)
                  _ A n c (a.map u8v) rfl HRD5.out (u8_one a) (by simp only [maxLen]; omega) (by omega) (by simp) ?_
                intro v6 w6 hown6 hg6 hv6
                rw [Nat.zero_add, List.nil_append] at hown6
                obtain ⟨A6, c6, rfl⟩ := own_slice hown6
                have HO6 := Lib.hid hown6
                have HB6 : Hid (Below wc.heap.size wc w6) := bcall HB5.out (fresh_below hg6)
                have HBF : Hid (Below w5.heap.size w5 w6) := fresh_below hg6
                clear hown6 hg6 hv6)
             | (refine wpList_append_any_g _ (by rfl) (.tmp 59) (.tmp 61) _ rfl w5.heap.size 5 i5 _ 1 1 Try.underlying27 hi5 hz0 hz1 hz2 rfl (by omega) (.slice A6 n c6) n (a.map u8v) rfl (HO6.out.alloc _)
                  _ (some ⟨w6.heap.size, 0, none⟩) 1 1 [.int .u8 (mo.toNat : Int)] rfl (Reads.of_own (own_one w6 5 _)) (u8_one [mo]) (by simp only [maxLen]; omega) (by omega) (by have := HBF.out.size; rw [World.size_alloc]; omega) ?_
                intro v7 w7 hown7 hg7 hv7
                obtain ⟨A7, c7, rfl⟩ := own_slice hown7
                have HO7 : Hid (ByteRow w7 w5.heap.size (.slice A7 (n + 1) c7) (a ++ [mo])) := by
                  show ByteRow _ _ _ _
                  unfold ByteRow
                  rw [List.length_append, ← HN.out, List.map_append]
                  exact hown7
                have HB7 : Hid (Below wc.heap.size wc w7) := by
                  have h1 := own_grow_below (balloc HBF.out _) (HO6.out.alloc _) hg7
                  exact bcall HB5.out h1
                clear hown7 hg7 hv7)))
      go_ret
      exact ⟨rfl, bcall HBC.out HB8.out⟩
    · have hni : ¬ (n : Int) = 0 := by omega
      have hbi : ¬ (by_.toNat : Int) = 0 := by omega
      have hnb : ((n : Int) == 0) = false := beq_eq_false_iff_ne.2 hni
      have hbb : ((by_.toNat : Int) == 0) = false := beq_eq_false_iff_ne.2 hbi
      clear hy
      clear hrN hrZ hx
      go_wp2_with
       (first
        | (go_at_call 33
           first
             | ((with_reducible show Calls _ _ _ wc _)
                refine (tsame_t (r := false) HR.out HSA.out HSB.out (by omega) (by omega)).mono ?_
                rintro e0 w3 ⟨rfl, hb3⟩
                have HB3 := Lib.hid hb3
                clear hb3)
             | ((with_reducible show Calls _ _ _ w3 _)
                refine (tsame_t (r := false) HR2.out (HSB.out.below HB3.out) (HSA.out.below HB3.out) (by omega) (by omega)).mono ?_
                rintro e0 w4 ⟨rfl, hb4⟩
                have HB4 := Lib.hid (bcall HB3.out hb4)
                clear hb4)
             | ((with_reducible show Calls _ _ _ w4 _)
                refine (tsame_t (r := false) HR.out (HSA.out.below HB4.out) (HSB.out.below HB4.out) (by omega) (by omega)).mono ?_
                rintro e0 w5 ⟨rfl, hb5⟩
                have HB5 := Lib.hid (bcall HB4.out hb5)
                have HRD5 : Hid (Reads (w5.alloc (.cells #[] 5)) (w5.alloc (.cells #[] 5)).heap.size 1 A n (a.map u8v)) := HLT.out.to_ (balloc HB5.out _)
                clear hb5)
             | (refine (tsame_t (r := false) HLN.out (HSA.out.below HB7.out) (SlV.own HO7.out) (by omega) (by omega)).mono ?_
                rintro e0 w8 ⟨rfl, hb8⟩
                have HB8 := Lib.hid (bcall HB7.out hb8)
                clear hb8))
        | (at_builtin
           first
             | (refine wpList_append_any_g _ (by rfl) (.tmp 57) (.tmp 58) _ rfl w5.heap.size 5 i5 _ 1 1 Try.underlying27 hi5 hz0 hz1 hz2 rfl (by omega) (.slice (some ⟨w5.heap.size, 0, none⟩) 0 0) 0 [] rfl (own_empty w5 _ _)
                  _ A n c (a.map u8v) rfl HRD5.out (u8_one a) (by simp only [maxLen]; omega) (by omega) (by simp) ?_
                intro v6 w6 hown6 hg6 hv6
                rw [Nat.zero_add, List.nil_append] at hown6
                obtain ⟨A6, c6, rfl⟩ := own_slice hown6
                have HO6 := Lib.hid hown6
                have HB6 : Hid (Below wc.heap.size wc w6) := bcall HB5.out (fresh_below hg6)
                have HBF : Hid (Below w5.heap.size w5 w6) := fresh_below hg6
                clear hown6 hg6 hv6)
             | (refine wpList_append_any_g _ (by rfl) (.tmp 59) (.tmp 61) _ rfl w5.heap.size 5 i5 _ 1 1 Try.underlying27 hi5 hz0 hz1 hz2 rfl (by omega) (.slice A6 n c6) n (a.map u8v) rfl (HO6.out.alloc _)
                  _ (some ⟨w6.heap.size, 0, none⟩) 1 1 [.int .u8 (mo.toNat : Int)] rfl (Reads.of_own (own_one w6 5 _)) (u8_one [mo]) (by simp only [maxLen]; omega) (by omega) (by have := HBF.out.size; rw [World.size_alloc]; omega) ?_
                intro v7 w7 hown7 hg7 hv7
                obtain ⟨A7, c7, rfl⟩ := own_slice hown7
                have HO7 : Hid (ByteRow w7 w5.heap.size (.slice A7 (n + 1) c7) (a ++ [mo])) := by
                  show ByteRow _ _ _ _
                  unfold ByteRow
                  rw [List.length_append, ← HN.out, List.map_append]
                  exact hown7
                have HB7 : Hid (Below wc.heap.size wc w7) := by
                  have h1 := own_grow_below (balloc HBF.out _) (HO6.out.alloc _) hg7
                  exact bcall HB5.out h1
                clear hown7 hg7 hv7)))
      go_ret
      exact ⟨rfl, bcall HBC.out HB8.out⟩
end Go.Proofs.Ytlapgccfgkokcaa
