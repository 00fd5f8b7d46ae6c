/- What New returns for 16 bytes (contract). Conditions: the bytes read. -/
import Derived.Test.YtklkehpcifnfkaaNewK
set_option linter.unusedVariables false
namespace Go.Proofs.Ytklkehpcifnfkaa
open Go.RowKit
attribute [local go_sem ↓] Go.wp_at_zero Go.wp_at_succ

set_option maxRecDepth 100000 in
set_option maxHeartbeats 3200000 in
theorem new_4 (b : List UInt8) (A : Option Addr) (c : Nat) (w : World) (hbn : b.length = 16) (hr : Reads w w.heap.size 1 A 16 (b.map u8v)) (hc : 16 ≤ c) :
    Calls Try.prog 13 #[.slice A 16 c] w fun e w' => e = .returned (.tuple #[.pointer (some ⟨w.heap.size, 0, none⟩), .int .i64 0]) ∧ KeyIs w' w.heap.size w.heap.size (schS 4 b 40).2 44 ∧ Below w.heap.size w w' := by
  obtain ⟨bb, off, rfl, hbl, hcell⟩ := head_cells (by rw [hbn]; exact hr) (by omega)
  obtain ⟨iW, hiW, hz0, hz1, hz2⟩ := info_parts infoWord
  have HCELL := Lib.hid hcell
  have HBN := Lib.hid hbn
  clear hr hcell hbn
  have ht0 : Tab (w.alloc (.cells Try.zeroCells73 73)) w.heap.size 73 (.int .u32 0) (.int .i32 0) (.int .u32 0) (List.replicate 256 0) [.slice none 0 0] := by
    rw [zero73]; exact Blk.new w 73 _
  have HT0 := Lib.hid ht0
  clear ht0
  go_enter Try.func13, Try.ntmps13
  go_wp2_with fail
  refine (made_first w.heap.size 73 _ _ _ HT0.out).mono ?_
  rintro e0 w1 ⟨rfl, ht1, hbut1⟩
  have hb1 : Below w.heap.size w w1 := (balloc (Below.refl w.heap.size w) (.cells Try.zeroCells73 73)).trans (hbut1.toBelow (Nat.le_refl _) (by simp))
  have HT1 := Lib.hid ht1
  have HB1 := Lib.hid hb1
  clear ht1 hbut1 hb1
  go_wp2_with fail
  go_loopg [30] 4 (fun gg v30 wr => ∃ i : Nat, i ≤ 4 ∧ gg = 4 - i ∧ v30 = .int .i64 (i : Int) ∧ KeyIs wr w.heap.size w.heap.size (b.take (4 * i)) i ∧ Below w.heap.size w wr)
  case atStart =>
    exact ⟨0, by omega, rfl, rfl, ⟨none, 0, Nat.le_refl _, by simp, HT1.out, World.ownsRow_nil _ _ _ _⟩, HB1.out⟩
  case round =>
    obtain ⟨i, hi, rfl, rfl, hkey, hbel⟩ := hrel
    by_cases hi2 : i < 4
    · have hii : (i : Int) < 4 := by omega
      obtain ⟨Ak, ck, _, hWl, htab, hown⟩ := hkey
      have cs := htab.suf0
      rw [sbL_len] at cs
      have hcl : ∀ j, j < 16 → wr.cell? ⟨bb, off + j, none⟩ = some (.int .u8 ((b.getD j 0).toNat : Int)) := fun j hj => (hbel.cell (p := ⟨bb, off + j, none⟩) hbl).trans (HCELL.out j (by rw [HBN.out]; exact hj))
      obtain ⟨i4, hi4⟩ : ∃ i4, i4 = 4 * i := ⟨_, rfl⟩
      obtain ⟨y0, e0⟩ : ∃ y, y = b.getD i4 0 := ⟨_, rfl⟩
      obtain ⟨y1, e1⟩ : ∃ y, y = b.getD (i4 + 1) 0 := ⟨_, rfl⟩
      obtain ⟨y2, e2⟩ : ∃ y, y = b.getD (i4 + 2) 0 := ⟨_, rfl⟩
      obtain ⟨y3, e3⟩ : ∃ y, y = b.getD (i4 + 3) 0 := ⟨_, rfl⟩
      have hmul : 4 * (i : Int) = (i4 : Int) := by omega
      have hw4 := wrap64 i4 (by omega)
      have hl4 : (i4 : Int) ≤ 16 := by omega
      have hl5 : (i4 : Int) ≤ (c : Int) := by omega
      have hl6 : ¬ (c : Int) = (i4 : Int) := by omega
      have hl7 : ¬ c = i4 := by omega
      have hl8 : i4 ≤ 16 := by omega
      have hl9 : 4 ≤ 16 - i4 := by omega
      have hat := fun wx => run_arrayAt wx (some ⟨bb, off + i4, none⟩) (16 - i4) (c - i4) hl9
      have c0 : wr.cell? ⟨bb, off + i4, none⟩ = some (.int .u8 (y0.toNat : Int)) := by rw [e0]; exact hcl i4 (by omega)
      have c1 : wr.cell? ⟨bb, off + i4 + 1, none⟩ = some (.int .u8 (y1.toNat : Int)) := by rw [e1]; exact hcl (i4 + 1) (by omega)
      have c2 : wr.cell? ⟨bb, off + i4 + 2, none⟩ = some (.int .u8 (y2.toNat : Int)) := by rw [e2]; exact hcl (i4 + 2) (by omega)
      have c3 : wr.cell? ⟨bb, off + i4 + 3, none⟩ = some (.int .u8 (y3.toNat : Int)) := by rw [e3]; exact hcl (i4 + 3) (by omega)
      have K : Hid (∀ w', Below w.heap.size w w' → w'.cell? ⟨bb, off + i4, none⟩ = some (.int .u8 (y0.toNat : Int)) ∧ w'.cell? ⟨bb, off + i4 + 1, none⟩ = some (.int .u8 (y1.toNat : Int)) ∧ w'.cell? ⟨bb, off + i4 + 2, none⟩ = some (.int .u8 (y2.toNat : Int)) ∧ w'.cell? ⟨bb, off + i4 + 3, none⟩ = some (.int .u8 (y3.toNat : Int))) := fun w' hb => by
        have hcl' : ∀ j, j < 16 → w'.cell? ⟨bb, off + j, none⟩ = some (.int .u8 ((b.getD j 0).toNat : Int)) := fun j hj => (hb.cell (p := ⟨bb, off + j, none⟩) hbl).trans (HCELL.out j (by rw [HBN.out]; exact hj))
        exact ⟨by rw [e0]; exact hcl' i4 (by omega), by rw [e1]; exact hcl' (i4 + 1) (by omega), by rw [e2]; exact hcl' (i4 + 2) (by omega), by rw [e3]; exact hcl' (i4 + 3) (by omega)⟩
      have HF4 : Hid (b.take (4 * i) ++ [y0, y1, y2, y3] = b.take (4 * (i + 1))) := by show _ = _; rw [e0, e1, e2, e3, ← hi4, four_at b i4 (by rw [HBN.out]; omega), hi4]; rfl
      have HTAB := Lib.hid htab
      have HOWN := Lib.hid hown
      have HWL := Lib.hid hWl
      have HBEL := Lib.hid hbel
      clear e0 e1 e2 e3 hcl htab hown hWl hi4
      go_upto_region 9 with (fail)
      have hgl := HTAB.out.lt
      go_region_law (first
          | (refine step_append_any _ (by rfl) (.tmp 37) (.tmp 44) _ (by rfl) w.heap.size 76 iW _ 4 4 Try.underlying71 hiW hz0 hz1 hz2 rfl (by omega) (.slice Ak i ck) i ((b.take (4 * i)).map u8v) (by rfl) (show World.ownsRow _ w.heap.size 76 4 (.slice Ak i ck) i _ from HOWN.out.alloc (.cells #[.int .u8 (y0.toNat : Int), .int .u8 (y1.toNat : Int), .int .u8 (y2.toNat : Int), .int .u8 (y3.toNat : Int)] 76))
               (wr.alloc (.cells #[.int .u8 (y0.toNat : Int), .int .u8 (y1.toNat : Int), .int .u8 (y2.toNat : Int), .int .u8 (y3.toNat : Int)] 76)).heap.size (some ⟨wr.heap.size, 0, none⟩) 1 1 (([y0, y1, y2, y3] : List UInt8).map u8v) (by rfl)
               (show Reads _ _ _ _ _ _ from Reads.of_own (own_lit4 wr 76 _ _ _ _)) (u8_one _) (by simp only [maxLen]; omega) (by omega) (by have := HBEL.out.size; show w.heap.size ≤ (wr.alloc _).heap.size; rw [World.size_alloc]; omega) ?_
             intro v5 w5 hown5 hg5 hat5
             obtain ⟨A5, c5, rfl⟩ := own_slice hown5
             obtain ⟨hT5, hK5⟩ := key_put (Nat.le_refl _) HWL.out (show Tab (World.drew (wr.alloc (.cells #[.int .u8 (y0.toNat : Int), .int .u8 (y1.toNat : Int), .int .u8 (y2.toNat : Int), .int .u8 (y3.toNat : Int)] 76))) _ _ _ _ _ _ _ from HTAB.out.alloc (.cells #[.int .u8 (y0.toNat : Int), .int .u8 (y1.toNat : Int), .int .u8 (y2.toNat : Int), .int .u8 (y3.toNat : Int)] 76)) (show World.ownsRow (World.drew (wr.alloc (.cells #[.int .u8 (y0.toNat : Int), .int .u8 (y1.toNat : Int), .int .u8 (y2.toNat : Int), .int .u8 (y3.toNat : Int)] 76))) w.heap.size 76 4 (.slice Ak i ck) i _ from HOWN.out.alloc (.cells #[.int .u8 (y0.toNat : Int), .int .u8 (y1.toNat : Int), .int .u8 (y2.toNat : Int), .int .u8 (y3.toNat : Int)] 76)) rfl hown5 hg5
             rw [HF4.out] at hK5
             have cs5 := hT5.suf0
             rw [sbL_len] at cs5
             have fs5 := hT5.free 259
             have HK5 := Lib.hid hK5
             have hb5 := own_grow_below (bdrew (balloc HBEL.out (.cells #[.int .u8 (y0.toNat : Int), .int .u8 (y1.toNat : Int), .int .u8 (y2.toNat : Int), .int .u8 (y3.toNat : Int)] 76))) (show World.ownsRow (World.drew (wr.alloc (.cells #[.int .u8 (y0.toNat : Int), .int .u8 (y1.toNat : Int), .int .u8 (y2.toNat : Int), .int .u8 (y3.toNat : Int)] 76))) w.heap.size 76 4 (.slice Ak i ck) i _ from HOWN.out.alloc (.cells #[.int .u8 (y0.toNat : Int), .int .u8 (y1.toNat : Int), .int .u8 (y2.toNat : Int), .int .u8 (y3.toNat : Int)] 76)) hg5
             clear hown5 hg5 hat5 hT5 hK5))
      all_goals
        go_wp2_with fail
        go_roundg (4 - (i + 1))
        case measure => omega
        case rel => exact ⟨i + 1, by omega, rfl, by go_num, HK5.out, by repeat (first | with_reducible assumption | with_reducible refine bdrew ?_ | with_reducible refine bset (p := ⟨w.heap.size, 259, none⟩) ?_ (Nat.le_refl _) _)⟩
    · have hi3 : i = 4 := by omega
      subst hi3
      have hk0 : KeyIs wr w.heap.size w.heap.size (schS 4 b 0).2 (4 + 0) := by
        have := hkey
        rw [List.take_of_length_le (by rw [HBN.out]; decide)] at this
        exact this
      have HK0 := Lib.hid hk0
      have HB0 := Lib.hid hbel
      clear hkey hbel hk0
      go_wp2_with fail
      go_loopg [8, 9] 40 (fun gg v8 v9 wx => ∃ k : Nat, k ≤ 40 ∧ gg = 40 - k ∧ v9 = .int .i64 ((4 + k : Nat) : Int) ∧ v8 = .int .u8 ((schS 4 b k).1.toNat : Int) ∧ KeyIs wx w.heap.size w.heap.size (schS 4 b k).2 (4 + k) ∧ Below w.heap.size w wx)
      case atStart => exact ⟨0, by omega, rfl, rfl, rfl, HK0.out, HB0.out⟩
      case round =>
        obtain ⟨k, hk, rfl, rfl, rfl, hkey, hbel⟩ := hrel
        obtain ⟨wo, hwo⟩ : ∃ wo, wo = wr := ⟨_, rfl⟩
        cases hwo
        rename World => wo
        obtain ⟨i, hi⟩ : ∃ i, i = 4 + k := ⟨_, rfl⟩
        rw [← hi] at hkey ⊢
        by_cases hk2 : k < 40
        · have hlt : (i : Int) < 44 := by omega
          have hi4 : 4 ≤ i := by omega
          have hi44 : i < 44 := by omega
          have HNX : Hid (schS 4 b (k + 1) = ((if i % 4 = 0 then tw (schS 4 b k).1 else (schS 4 b k).1), (schS 4 b k).2 ++ kwN 4 i (schS 4 b k).1 (schS 4 b k).2)) := by show _ = _; rw [schS, ← hi]
          obtain ⟨W, hW⟩ : ∃ W, W = (schS 4 b k).2 := ⟨_, rfl⟩
          obtain ⟨rc, hrc⟩ : ∃ rc, rc = (schS 4 b k).1 := ⟨_, rfl⟩
          rw [← hW] at hkey HNX
          rw [← hrc] at HNX ⊢
          have hWl : W.length = 4 * i := by obtain ⟨_, _, _, h, _⟩ := hkey; exact h
          obtain ⟨gw, cw, hgw1, hgw2, cs, hcw⟩ := hkey.cells (by omega)
          have htab0 : ∃ suf, Tab wo w.heap.size 73 (.int .u32 1) (.int .i32 0) (.int .u32 0) sbL suf := by obtain ⟨_, _, _, _, h, _⟩ := hkey; exact ⟨_, h⟩
          obtain ⟨suf, htab⟩ := htab0
          obtain ⟨im, him⟩ : ∃ im, im = i - 1 := ⟨_, rfl⟩
          have hsub1 : (i : Int) - 1 = (im : Int) := by omega
          have hwim := wrap64 im (by omega)
          have himl : (im : Int) < (i : Int) := by omega
          have himn : im < i := by omega
          obtain ⟨x0, e0⟩ : ∃ y, y = W.getD (4 * i - 4) 0 := ⟨_, rfl⟩
          obtain ⟨x1, e1⟩ : ∃ y, y = W.getD (4 * i - 3) 0 := ⟨_, rfl⟩
          obtain ⟨x2, e2⟩ : ∃ y, y = W.getD (4 * i - 2) 0 := ⟨_, rfl⟩
          obtain ⟨x3, e3⟩ : ∃ y, y = W.getD (4 * i - 1) 0 := ⟨_, rfl⟩
          have c0 : wo.cell? ⟨gw, im * 4, none⟩ = some (.int .u8 (x0.toNat : Int)) := by rw [e0, show im * 4 = 4 * i - 4 by omega]; exact hcw _ (by omega)
          have c1 : wo.cell? ⟨gw, im * 4 + 1, none⟩ = some (.int .u8 (x1.toNat : Int)) := by rw [e1, show im * 4 + 1 = 4 * i - 3 by omega]; exact hcw _ (by omega)
          have c2 : wo.cell? ⟨gw, im * 4 + 2, none⟩ = some (.int .u8 (x2.toNat : Int)) := by rw [e2, show im * 4 + 2 = 4 * i - 2 by omega]; exact hcw _ (by omega)
          have c3 : wo.cell? ⟨gw, im * 4 + 3, none⟩ = some (.int .u8 (x3.toNat : Int)) := by rw [e3, show im * 4 + 3 = 4 * i - 1 by omega]; exact hcw _ (by omega)
          have HT : Hid (kwT 4 i rc W = if i % 4 = 0 then [sb x1 ^^^ rc, sb x2, sb x3, sb x0] else if 6 < 4 ∧ i % 4 = 4 then [sb x0, sb x1, sb x2, sb x3] else [x0, x1, x2, x3]) := by show _ = _; rw [kwT, e0, e1, e2, e3]
          have HKEY := Lib.hid hkey
          have HBEL := Lib.hid hbel
          have HBEL0 := Lib.hid hbel
          have HTAB := Lib.hid htab
          have HCW := Lib.hid hcw
          have HWL := Lib.hid hWl
          have HI := Lib.hid hi
          clear hkey hbel htab hcw hWl hW hrc e0 e1 e2 e3 hi him
          obtain ⟨m, hm⟩ : ∃ m, m = i % 4 := ⟨_, rfl⟩
          have hrem : (i : Int).tmod 4 = (m : Int) := by rw [hm]; rfl
          have HM := Lib.hid hm
          clear hm
          go_upto_block 4 with fail
          have HBW := Lib.hid (show BB (wo.alloc (.cells #[.int .u8 (x0.toNat : Int), .int .u8 (x1.toNat : Int), .int .u8 (x2.toNat : Int), .int .u8 (x3.toNat : Int)] 76)) wo.heap.size 76 [x0, x1, x2, x3] from Blk.new wo 76 _)
          have HB2 := Lib.hid (balloc (Below.refl wo.heap.size wo) (.cells #[.int .u8 (x0.toNat : Int), .int .u8 (x1.toNat : Int), .int .u8 (x2.toNat : Int), .int .u8 (x3.toNat : Int)] 76))
          have HT2 := Lib.hid (HTAB.out.alloc (.cells #[.int .u8 (x0.toNat : Int), .int .u8 (x1.toNat : Int), .int .u8 (x2.toNat : Int), .int .u8 (x3.toNat : Int)] 76))
          have hsz := HTAB.out.lt
          have hszb := HBEL.out.size
          generalize (wo.alloc (Obj.cells #[.int .u8 (x0.toNat : Int), .int .u8 (x1.toNat : Int), .int .u8 (x2.toNat : Int), .int .u8 (x3.toNat : Int)] 76)) = w2 at *
          obtain ⟨h1, hh1⟩ : ∃ h1, h1 = wo.heap.size := ⟨_, rfl⟩
          rw [← hh1] at HBW ⊢
          have hh2 : w.heap.size < h1 := by omega
          have HH1 := Lib.hid hh1
          clear cs c0 c1 c2 c3 hgw2 hh1 hsz hszb
          obtain ⟨rc2, hrc2⟩ : ∃ rc2, rc2 = if m = 0 then tw rc else rc := ⟨_, rfl⟩
          have HRC2 := Lib.hid hrc2
          clear hrc2
          go_cut [8] (fun v8 wx => v8 = .int .u8 (rc2.toNat : Int) ∧ BB wx h1 76 (kwT 4 i rc W) ∧ Below wo.heap.size wo wx)
          case first =>
            have b0 := HBW.out.cell 0 (by simp)
            have b1 := HBW.out.cell 1 (by simp)
            have b2 := HBW.out.cell 2 (by simp)
            have b3 := HBW.out.cell 3 (by simp)
            have f0 := HBW.out.free 0
            have f1 := HBW.out.free 1
            have f2 := HBW.out.free 2
            have f3 := HBW.out.free 3
            simp only [List.getD_cons_zero, List.getD_cons_succ] at b0 b1 b2 b3
            have l0 : x0.toNat < 256 := UInt8.toNat_lt x0
            have l1 : x1.toNat < 256 := UInt8.toNat_lt x1
            have l2 : x2.toNat < 256 := UInt8.toNat_lt x2
            have l3 : x3.toNat < 256 := UInt8.toNat_lt x3
            have k0 : (x0.toNat : Int) < 256 := by omega
            have k1 : (x1.toNat : Int) < 256 := by omega
            have k2 : (x2.toNat : Int) < 256 := by omega
            have k3 : (x3.toNat : Int) < 256 := by omega
            have t0 := HT2.out.cell x0.toNat (by rw [sbL_len]; exact l0)
            have t1 := HT2.out.cell x1.toNat (by rw [sbL_len]; exact l1)
            have t2 := HT2.out.cell x2.toNat (by rw [sbL_len]; exact l2)
            have t3 := HT2.out.cell x3.toNat (by rw [sbL_len]; exact l3)
            obtain ⟨s0, g0⟩ : ∃ s0, s0 = sb x0 := ⟨_, rfl⟩
            obtain ⟨s1, g1⟩ : ∃ s1, s1 = sb x1 := ⟨_, rfl⟩
            obtain ⟨s2, g2⟩ : ∃ s2, s2 = sb x2 := ⟨_, rfl⟩
            obtain ⟨s3, g3⟩ : ∃ s3, s3 = sb x3 := ⟨_, rfl⟩
            rw [← show s0 = sbL.getD x0.toNat 0 from g0] at t0
            rw [← show s1 = sbL.getD x1.toNat 0 from g1] at t1
            rw [← show s2 = sbL.getD x2.toNat 0 from g2] at t2
            rw [← show s3 = sbL.getD x3.toNat 0 from g3] at t3
            rw [← g0, ← g1, ← g2, ← g3, ← HM.out] at HT
            by_cases hm0 : m = 0
            · have hmi : ((m : Int) == 0) = true := by rw [hm0]; rfl
              obtain ⟨y, hy⟩ : ∃ y, y = s1 ^^^ rc := ⟨_, rfl⟩
              have hxor := U8.xor s1 rc
              rw [← hy] at hxor
              rw [if_pos hm0, ← hy] at HT
              have HV : Hid (rc2 = tw rc) := by show _ = _; rw [HRC2.out, if_pos hm0]
              clear g0 g1 g2 g3 hm0 hy l0 l1 l2 l3
              go_upto_region 17 with (fail)
              go_still_tail 27, (by kernel_rfl)
              change wpList _ _ _ _ _ w2.drew
              go_wp2_with (go_at_call 29; refine (twice_c rc _).mono ?_; rintro e0 w3 ⟨rfl, rfl⟩)
              go_meet
              refine ⟨by rw [HV.out], by rw [HT.out]; exact BB.set4 HBW.out, ?_⟩
              have hle : wo.heap.size ≤ h1 := by rw [HH1.out]; exact Nat.le_refl _
              exact bdrew (bset4 HB2.out hle)
            · have hmi : ((m : Int) == 0) = false := by rw [beq_eq_false_iff_ne]; omega
              rw [if_neg hm0] at HT
              have HV : Hid (rc2 = rc) := by show _ = _; rw [HRC2.out, if_neg hm0]
              rw [if_neg (by omega)] at HT
              clear g0 g1 g2 g3 l0 l1 l2 l3
              go_wp2_with fail
              go_meet
              exact ⟨by rw [HV.out], by rw [HT.out]; exact HBW.out, HB2.out⟩
          case rest =>
            obtain ⟨rfl, hbw, hbel3⟩ := hcut
            obtain ⟨T, hT⟩ : ∃ T, T = kwT 4 i rc W := ⟨_, rfl⟩
            rw [← hT] at hbw
            have hTl : T.length = 4 := by rw [hT, kwT]; split; rfl; split <;> rfl
            have HTL := Lib.hid hTl
            obtain ⟨f, hf⟩ : ∃ f : Nat → UInt8, f = fun j => T.getD j 0 ^^^ W.getD (4 * (i - 4) + j) 0 := ⟨_, rfl⟩
            have HF := Lib.hid hf
            have HN4 : Hid (kwN 4 i rc W = (List.range 4).map f) := by show _ = _; rw [kwN, ← hT, hf]
            have HBW3 := Lib.hid hbw
            have HBEL3 := Lib.hid hbel3
            have hsz := HTAB.out.lt
            have HSZ := Lib.hid hsz
            clear hbw hbel3 hT hTl hf HBW HB2 HT2 HT
            go_wp2_with fail
            go_loopg [134] 4 (fun gg v134 wx => ∃ j : Nat, j ≤ 4 ∧ gg = 4 - j ∧ v134 = .int .i64 (j : Int) ∧ BB wx h1 76 (upTo 4 j f (fun j => T.getD j 0)) ∧ Below wo.heap.size wo wx)
            case atStart =>
              refine ⟨0, by omega, rfl, rfl, ?_, HBEL3.out⟩
              rw [upTo_zero, ← HTL.out, list_range]
              exact HBW3.out
            case round =>
              obtain ⟨j, hj, rfl, rfl, hbw, hbel3⟩ := hrel
              by_cases hj2 : j < 4
              · have hji : (j : Int) < 4 := by omega
                have hc1 := hbw.cell j (by rw [upTo_len]; exact hj2)
                rw [upTo_getD _ _ hj2, if_neg (by omega)] at hc1
                have hf1 := hbw.free j
                obtain ⟨dd, hdd⟩ : ∃ dd, dd = i - 4 := ⟨_, rfl⟩
                have hsub2 : (i : Int) - 4 = (dd : Int) := by omega
                have hwd := wrap64 dd (by omega)
                have hdi : (dd : Int) < (i : Int) := by omega
                have hdn : dd < i := by omega
                have csx : KeyIs wr w.heap.size w.heap.size W i := HKEY.out.below hbel3
                obtain ⟨gx, cx, _, hgx2, cs, hcw⟩ := csx.cells (by omega)
                have cw := hcw (dd * 4 + j) (by rw [HWL.out]; omega)
                obtain ⟨a, ha⟩ : ∃ a, a = T.getD j 0 := ⟨_, rfl⟩
                obtain ⟨q, hq⟩ : ∃ q, q = W.getD (dd * 4 + j) 0 := ⟨_, rfl⟩
                rw [← ha] at hc1
                rw [← hq] at cw
                have hxor := U8.xor a q
                have hfk : f j = a ^^^ q := by rw [HF.out, ha, hq, hdd]; show _ ^^^ W.getD (4 * (i - 4) + j) 0 = _; rw [Nat.mul_comm 4]
                obtain ⟨y, hy⟩ : ∃ y, y = a ^^^ q := ⟨_, rfl⟩
                rw [← hy] at hxor hfk
                have HY := Lib.hid hfk
                have HBW4 := Lib.hid hbw
                have HBEL4 := Lib.hid hbel3
                clear hbw hbel3 hdd csx hcw ha hq hy hfk
                go_upto_region 24 with (fail)
                go_still_tail 16, (by kernel_rfl)
                change wpList _ _ _ _ _ wr.drew
                go_wp2_with fail
                go_roundg (4 - (j + 1))
                case measure => omega
                case rel =>
                  refine ⟨j + 1, by omega, rfl, by go_num, ?_, ?_⟩
                  · rw [← upTo_set f _ hj2, HY.out]
                    exact BB.set HBW4.out j y
                  · exact bdrew (bset (p := ⟨h1, j, none⟩) HBEL4.out (by rw [HH1.out]; exact Nat.le_refl _) _)
              · have hj3 : j = 4 := by omega
                subst hj3
                have hbw5 : BB wr h1 76 [f 0, f 1, f 2, f 3] := by have := hbw; rw [upTo_full] at this; exact this
                obtain ⟨z0, e0⟩ : ∃ z, z = f 0 := ⟨_, rfl⟩
                obtain ⟨z1, e1⟩ : ∃ z, z = f 1 := ⟨_, rfl⟩
                obtain ⟨z2, e2⟩ : ∃ z, z = f 2 := ⟨_, rfl⟩
                obtain ⟨z3, e3⟩ : ∃ z, z = f 3 := ⟨_, rfl⟩
                rw [← e0, ← e1, ← e2, ← e3] at hbw5
                have HNZ : Hid (kwN 4 i rc W = [z0, z1, z2, z3]) := by show _ = _; rw [HN4.out, e0, e1, e2, e3]; rfl
                have d0 := hbw5.cell 0 (by simp)
                have d1 := hbw5.cell 1 (by simp)
                have d2 := hbw5.cell 2 (by simp)
                have d3 := hbw5.cell 3 (by simp)
                simp only [List.getD_cons_zero, List.getD_cons_succ] at d0 d1 d2 d3
                have hh1l := hbw5.lt
                have hk6 : KeyIs wr w.heap.size w.heap.size W i := HKEY.out.below hbel3
                obtain ⟨Ak, ck, _, hWl6, htab6, hown6⟩ := hk6
                have cs := htab6.suf0
                rw [sbL_len] at cs
                have hgl := htab6.lt
                have HTAB6 := Lib.hid htab6
                have HOWN6 := Lib.hid hown6
                have HWL6 := Lib.hid hWl6
                have HBEL6 := Lib.hid (bcall HBEL0.out hbel3)
                clear hbw hbw5 hbel3 e0 e1 e2 e3 htab6 hown6 hWl6
                go_upto_region 26 with (fail)
                go_region_law (first
                  | (refine step_append_any _ (by rfl) (.tmp 158) (.tmp 160) _ (by rfl) w.heap.size 76 iW _ 4 4 Try.underlying71 hiW hz0 hz1 hz2 rfl (by omega) (.slice Ak i ck) i (W.map u8v) (by rfl) (show World.ownsRow _ w.heap.size 76 4 (.slice Ak i ck) i _ from HOWN6.out.alloc (.cells #[.int .u8 (z0.toNat : Int), .int .u8 (z1.toNat : Int), .int .u8 (z2.toNat : Int), .int .u8 (z3.toNat : Int)] 76))
                       (wr.alloc (.cells #[.int .u8 (z0.toNat : Int), .int .u8 (z1.toNat : Int), .int .u8 (z2.toNat : Int), .int .u8 (z3.toNat : Int)] 76)).heap.size (some ⟨wr.heap.size, 0, none⟩) 1 1 (([z0, z1, z2, z3] : List UInt8).map u8v) (by rfl)
                       (show Reads _ _ _ _ _ _ from Reads.of_own (own_lit4 wr 76 _ _ _ _)) (u8_one _) (by simp only [maxLen]; omega) (by omega) (by have := HBEL6.out.size; show w.heap.size ≤ (wr.alloc _).heap.size; rw [World.size_alloc]; omega) ?_
                     intro v5 w5 hown5 hg5 hat5
                     obtain ⟨A5, c5, rfl⟩ := own_slice hown5
                     obtain ⟨hT5, hK5⟩ := key_put (Nat.le_refl _) HWL6.out (show Tab (World.drew (wr.alloc (.cells #[.int .u8 (z0.toNat : Int), .int .u8 (z1.toNat : Int), .int .u8 (z2.toNat : Int), .int .u8 (z3.toNat : Int)] 76))) _ _ _ _ _ _ _ from HTAB6.out.alloc (.cells #[.int .u8 (z0.toNat : Int), .int .u8 (z1.toNat : Int), .int .u8 (z2.toNat : Int), .int .u8 (z3.toNat : Int)] 76)) (show World.ownsRow (World.drew (wr.alloc (.cells #[.int .u8 (z0.toNat : Int), .int .u8 (z1.toNat : Int), .int .u8 (z2.toNat : Int), .int .u8 (z3.toNat : Int)] 76))) w.heap.size 76 4 (.slice Ak i ck) i _ from HOWN6.out.alloc (.cells #[.int .u8 (z0.toNat : Int), .int .u8 (z1.toNat : Int), .int .u8 (z2.toNat : Int), .int .u8 (z3.toNat : Int)] 76)) rfl hown5 hg5
                     have cs5 := hT5.suf0
                     rw [sbL_len] at cs5
                     have fs5 := hT5.free 259
                     have HK5 := Lib.hid hK5
                     have hb5 := own_grow_below (bdrew (balloc HBEL6.out (.cells #[.int .u8 (z0.toNat : Int), .int .u8 (z1.toNat : Int), .int .u8 (z2.toNat : Int), .int .u8 (z3.toNat : Int)] 76))) (show World.ownsRow (World.drew (wr.alloc (.cells #[.int .u8 (z0.toNat : Int), .int .u8 (z1.toNat : Int), .int .u8 (z2.toNat : Int), .int .u8 (z3.toNat : Int)] 76))) w.heap.size 76 4 (.slice Ak i ck) i _ from HOWN6.out.alloc (.cells #[.int .u8 (z0.toNat : Int), .int .u8 (z1.toNat : Int), .int .u8 (z2.toNat : Int), .int .u8 (z3.toNat : Int)] 76)) hg5
                     clear hown5 hg5 hat5 hT5 hK5))
                all_goals
                  go_wp2_with fail
                  go_roundg (40 - (k + 1))
                  case measure => omega
                  case rel =>
                    have hnx := HNX.out
                    rw [HNZ.out, ← HM.out, ← HRC2.out] at hnx
                    refine ⟨k + 1, by omega, rfl, ?_, by rw [hnx], ?_, by repeat (first | with_reducible assumption | with_reducible refine bdrew ?_ | with_reducible refine bset (p := ⟨w.heap.size, 259, none⟩) ?_ (Nat.le_refl _) _)⟩
                    · rw [show 4 + (k + 1) = i + 1 by have := HI.out; omega]; go_num
                    · rw [hnx, show 4 + (k + 1) = i + 1 by have := HI.out; omega]; exact HK5.out
        · have hk3 : k = 40 := by omega
          subst hk3
          have hi3 : i = 44 := by omega
          subst hi3
          have HKEY := Lib.hid hkey
          have HBEL := Lib.hid hbel
          clear hkey hbel hi
          go_wp2
          go_ret2
          exact ⟨rfl, HKEY.out, HBEL.out⟩
end Go.Proofs.Ytklkehpcifnfkaa
