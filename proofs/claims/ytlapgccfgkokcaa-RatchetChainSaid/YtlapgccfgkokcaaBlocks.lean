/- What KdfBlocks does. Conditions: the arguments lie in memory. (Printed by gen1b2.py.) -/
import Derived.Test.YtlapgccfgkokcaaAwake3
set_option linter.unusedVariables false
set_option linter.unusedSimpArgs false
namespace Go.Proofs.Ytlapgccfgkokcaa
open Go.RowKit
attribute [local go_sem ↓] Go.wp_at_zero Go.wp_at_succ

set_option maxRecDepth 100000 in
theorem slv_str {w : World} {A : Option Addr} {n c : Nat} {b : List UInt8} (h : SlV w (.slice A n c) b) : (convert 27 9 (.slice A n c)).run Try.prog w = .ok (.string ⟨b.toArray⟩) w := by
  obtain ⟨A1, c1, e1, _, h1⟩ := h
  injection e1 with x1 x2 x3
  subst x1 x2 x3
  exact str_of h1
set_option maxRecDepth 100000 in
theorem cut_mid (wx : World) (A : Option Addr) (n c k e d : Nat) (hk : k ≤ e) (he : e ≤ c) (hd : e - k = d) : (Instr.slice 27 (.slice A n c) (some (.int .i64 (k : Int))) (some (.int .i64 (e : Int))) none).run Try.prog wx = .ok (.slice (cutA A c k) d (c - k)) wx := by
  rw [run_slice_lh (P := Try.prog) wx 27 A n c slice22 .i64 .i64 (k : Int) (e : Int) (by omega) (by omega) (by omega)]
  rw [size22]
  simp [Result.andThen, sliced, cutA, hd]
theorem SlV.mid {w : World} {A : Option Addr} {n c k d : Nat} {b : List UInt8} (h : SlV w (.slice A n c) b) (hk : k + d ≤ n) : SlV w (.slice (cutA A c k) d (c - k)) ((b.drop k).take d) := by
  obtain ⟨A', c', e, hc, hr⟩ := h
  injection e with e1 e2 e3
  subst e1 e2 e3
  have h1 := hr.from_ (show k ≤ b.length by omega) hc
  have h2 := reads_take (r := d) h1 (by rw [List.length_drop]) (by omega)
  have hl : ((b.drop k).take d).length = d := by rw [List.length_take, List.length_drop]; omega
  exact ⟨_, _, by rw [hl], by omega, h2⟩
theorem outE_mid (s info : List UInt8) (i k : Nat) (h : i < k) : ((outE s info k).drop (32 * i)).take 32 = blkE s info (i + 1) := by
  have h1 := outE_take s info (i + 1) k h
  rw [show 32 * (i + 1) = 32 * i + 32 by omega, outE] at h1
  rw [List.take_drop, h1, List.drop_left' (outE_len s info i)]
set_option maxRecDepth 100000 in
set_option maxHeartbeats 6400000 in
theorem blocks_walk (s info : List UInt8) (A0 A1 : Option Addr) (n0 n1 c0 c1 z : Nat) (w : World) (h0 : SlV w (.slice A0 n0 c0) s) (h1 : SlV w (.slice A1 n1 c1) info) (hz : z < 256) :
    Calls Try.prog 16 #[.slice A0 n0 c0, .slice A1 n1 c1, .int .u8 (z : Int)] w fun e w' => e = .returned (.bool true) ∧ Below w.heap.size w w' := by
  obtain ⟨k, hk⟩ : ∃ k, k = z % 40 + 1 := ⟨_, rfl⟩
  obtain ⟨N, hN⟩ : ∃ N, N = 32 * k := ⟨_, rfl⟩
  have hk41 : k < 41 := by omega
  have hzk : (z : Int) % 40 + 1 = (k : Int) := by omega
  have HEX := Lib.hid (fun wx (hb : Below w.heap.size w wx) => expand_c s info A0 A1 n0 n1 c0 c1 N wx (h0.below hb) (h1.below hb) (by omega))
  have HE : Hid (expandS s info N = outE s info k) := by
    show _ = _
    rw [hN, expandS_at s info (32 * k) k (Nat.le_refl _)]
    exact List.take_of_length_le (by rw [outE_len]; exact Nat.le_refl _)
  have H0 := Lib.hid h0
  have H1 := Lib.hid h1
  have HN := Lib.hid hN
  have HZK := Lib.hid hzk
  have HK41 := Lib.hid hk41
  clear hk h0 h1 hN hzk hk41
  go_enter Try.func16, Try.ntmps16
  go_upto_region 4 with (first
    | (go_at_call 35
       refine (awake3_c w).mono ?_
       rintro e0 w1 ⟨rfl, hb1⟩
       have HB1 := Lib.hid hb1
       clear hb1))
  rw [HZK.out]
  have hk41 := HK41.out
  have hN32 : (32 : Int) * (k : Int) = (N : Int) := by have := HN.out; omega
  go_upto_region 5 with (first
    | (go_at_call 36
       refine (HEX.out w1 HB1.out).mono ?_
       rintro e0 wa ⟨A8, c8, rfl, hs8, hba⟩
       have HB2 := Lib.hid (bcall HB1.out hba)
       have HS8 : Hid (SlV wa (.slice A8 N c8) (outE s info k)) := by show SlV _ _ _; rw [← HE.out]; exact hs8
       clear hba hs8))
  go_upto_region 9 with fail
  clear hN32
  go_loopg [10, 11] k (fun gg v10 v11 wx => ∃ i : Nat, i ≤ k ∧ gg = k - i ∧ v11 = .int .i64 (i : Int) ∧ (∃ A' n' c', v10 = .slice A' n' c' ∧ SlV wx (.slice A' n' c') (blkE s info i)) ∧ SlV wx (.slice A8 N c8) (outE s info k) ∧ Below w.heap.size w wx)
  case atStart => exact ⟨0, Nat.zero_le _, rfl, rfl, ⟨none, 0, 0, rfl, SlV.nil _⟩, HS8.out, HB2.out⟩
  case round =>
    obtain ⟨i, hi, rfl, rfl, ⟨A', n', c', rfl, hla⟩, hs8, hb⟩ := hrel
    clear HS8 HB2
    by_cases hik : i < k
    · have hii : (i : Int) < (k : Int) := by omega
      obtain ⟨m, hm⟩ : ∃ m, m = 32 * i := ⟨_, rfl⟩
      obtain ⟨m2, hm2⟩ : ∃ m2, m2 = m + 32 := ⟨_, rfl⟩
      have hm1i : (32 : Int) * (i : Int) = (m : Int) := by omega
      have hm2i : (m : Int) + 32 = (m2 : Int) := by omega
      obtain ⟨x, hx⟩ : ∃ x, x = UInt8.ofNat (i + 1) := ⟨_, rfl⟩
      have hxn : x.toNat = i + 1 := by rw [hx, UInt8.toNat_ofNat']; omega
      have hw1 : IntKind.u8.wrap ((i : Int) + 1) = (x.toNat : Int) := by rw [IntKind.wrap_u8]; omega
      have hcap : N ≤ c8 := by
        obtain ⟨_, _, e, hc, _⟩ := hs8
        injection e with _ e2 e3
        omega
      have hcm := fun wx : World => cut_mid wx A8 N c8 m m2 32 (by omega) (by have := HN.out; omega) (by omega)
      obtain ⟨O, hO⟩ : ∃ O, O = blkE s info (i + 1) := ⟨_, rfl⟩
      have hOl : O.length = 32 := by rw [hO]; exact blkE_len _ _ _
      have HOF : Hid (O = hmacS s ([blkE s info i, info, [x]] : List (List UInt8)).flatten) := by show _ = _; rw [hO, blkE, ← hx]; simp
      have HMID : Hid (∀ wx, SlV wx (.slice A8 N c8) (outE s info k) → SlV wx (.slice (cutA A8 c8 m) 32 (c8 - m)) O) := fun wx h => by
        have := h.mid (k := m) (d := 32) (by have := HN.out; omega)
        rw [hm, outE_mid s info i k hik, ← hO] at this
        rw [hm]
        exact this
      have HOE := Lib.hid hO
      have HOL := Lib.hid hOl
      have HJ := Lib.hid (infoO hOl)
      have HLA := Lib.hid hla
      have HS8 := Lib.hid hs8
      have HB := Lib.hid hb
      clear hla hs8 hb hm hm2 hx hxn hO hOl hcap
      go_upto_region 12 with (first
        | (go_at_call 32
           refine (tag_blk HOF.out (((H0.out.below HB.out).below (balloc (Below.refl _ _) _)).below (balloc (Below.refl _ _) _)) (Parts.three (Blk.newAt (by simp) _ _) ((HLA.out.below (balloc (Below.refl _ _) _)).below (balloc (Below.refl _ _) _)) (((H1.out.below HB.out).below (balloc (Below.refl _ _) _)).below (balloc (Below.refl _ _) _)) ((SlV.lit wr _ _ 1 _ rfl rfl).below (balloc (Below.refl _ _) _))) rfl (by simp)).mono ?_
           rintro e0 w2 ⟨rfl, hb2⟩
           have hbr : Below wr.heap.size wr w2 := bcall (balloc (balloc (Below.refl _ _) _) _) hb2
           have HU2 : Hid (UB (w2.alloc (.cells (z32.map u8v).toArray 24)) w2.heap.size 24 z32) := Blk.new _ _ _
           have HTH : Hid ((w2.alloc (.cells (z32.map u8v).toArray 24)).there w2.heap.size 0 (O.map u8v).toArray.size) := there32 HU2.out rfl HOL.out
           have HBR := Lib.hid hbr
           clear hb2 hbr)
        | ((with_reducible show wpList _ _ _ (⟨none, .store 24 (.tmp 12) (.tmp 49), _, _, _, _⟩ :: _) _ _); refine wpList_store_mid rfl 24 (.tmp 12) (.tmp 49) rfl w2.heap.size 0 (O.map u8v).toArray rfl rfl HTH.out HJ.out (bytes_one _) ?_))
      obtain ⟨w3, hw3⟩ : ∃ w3, w3 = (w2.alloc (.cells (z32.map u8v).toArray 24)).setCells w2.heap.size 0 (O.map u8v) := ⟨_, rfl⟩
      change Code.wp _ _ _ _ ((w2.alloc (.cells (z32.map u8v).toArray 24)).setCells w2.heap.size 0 (O.map u8v))
      have hu3 : UB w3 w2.heap.size 24 O := by rw [hw3]; exact blk_setAll HU2.out (by rw [List.length_map, HOL.out]; rfl)
      have hb3 : Below wr.heap.size wr w3 := by rw [hw3]; exact below_setCells (balloc HBR.out _) HBR.out.size _ _
      have HS3 := Lib.hid (HS8.out.below hb3)
      have HB3 : Hid (Below w.heap.size w w3) := bcall HB.out hb3
      have HS9 : Hid (SlV w3 (.slice (some ⟨w2.heap.size, 0, none⟩) 32 32) O) := SlV.arr hu3 HOL.out
      have HLB : Hid (SlV w3 (.slice (cutA A8 c8 m) 32 (c8 - m)) O) := HMID.out _ HS3.out
      rw [← hw3]
      clear hw3 hu3 hb3 HU2 HTH HBR HJ HS8 HB HLA HMID
      go_upto_region 13 with fail
      clear hcm hm1i hm2i hw1
      refine wp_region_held_drew (S := (fun w' => SlV w' (.slice (some ⟨w2.heap.size, 0, none⟩) 32 32) O ∧ SlV w' (.slice (cutA A8 c8 m) 32 (c8 - m)) O)) (by kernel_rfl) (⟨HS9.out.below (bdrew (Below.refl _ _)), HLB.out.below (bdrew (Below.refl _ _))⟩) (fun hHeld => ?_)
      refine wpAnyH_takeAt (i := 0) (v := (.slice (some ⟨w2.heap.size, 0, none⟩) 32 32)) rfl (by kernel_rfl) (by kernel_rfl) (by kernel_rfl) (fun _ _ _ h => h) rfl (Or.inl ⟨by rfl, fun w' hS => ?_⟩) hHeld ?_
      · go_simp
      simp only [List.set_cons_zero, List.set_cons_succ]
      refine wpAnyH_takeAt (i := 1) (v := (.string ⟨O.toArray⟩)) rfl (by kernel_rfl) (by kernel_rfl) (by kernel_rfl) (fun _ _ _ h => h) rfl (Or.inl ⟨by rfl, fun w' hS => ?_⟩) hHeld ?_
      · have hs1 := slv_str hS.1
        go_simp
      simp only [List.set_cons_zero, List.set_cons_succ]
      refine wpAnyH_takeAt (i := 2) (v := (.slice (cutA A8 c8 m) 32 (c8 - m))) rfl (by kernel_rfl) (by kernel_rfl) (by kernel_rfl) (fun _ _ _ h => h) rfl (Or.inl ⟨by rfl, fun w' hS => ?_⟩) hHeld ?_
      · go_simp
      simp only [List.set_cons_zero, List.set_cons_succ]
      refine wpAnyH_takeAt (i := 3) (v := (.string ⟨O.toArray⟩)) rfl (by kernel_rfl) (by kernel_rfl) (by kernel_rfl) (fun _ _ _ h => h) rfl (Or.inl ⟨by rfl, fun w' hS => ?_⟩) hHeld ?_
      · have hs1 := slv_str hS.2
        go_simp
      simp only [List.set_cons_zero, List.set_cons_succ]
      refine wpAnyH_takeAt (i := 4) (v := (.bool false)) rfl (by kernel_rfl) (by kernel_rfl) (by kernel_rfl) (fun _ _ _ h => h) rfl (Or.inl ⟨by rfl, fun w' hS => ?_⟩) hHeld ?_
      · go_simp
      simp only [List.set_cons_zero, List.set_cons_succ]
      refine wpAnyH_done (by kernel_rfl) ?_ _
      go_wp2_with fail
      go_roundg (k - (i + 1))
      case measure => omega
      case rel => exact ⟨i + 1, by omega, rfl, by go_num, ⟨_, _, _, rfl, by rw [← HOE.out]; exact HLB.out.below (bdrew (Below.refl _ _))⟩, HS3.out.below (bdrew (Below.refl _ _)), bdrew HB3.out⟩
    · have hii : ¬ (i : Int) < (k : Int) := by omega
      have HB := Lib.hid hb
      clear hla hs8 hb
      go_wp2_with fail
      go_ret
      exact ⟨rfl, HB.out⟩
end Go.Proofs.Ytlapgccfgkokcaa
