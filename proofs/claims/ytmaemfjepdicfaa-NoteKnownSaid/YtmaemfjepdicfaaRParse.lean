/- What the reference's Parse returns (contract). Conditions: the bytes read. -/
import Derived.Test.YtmaemfjepdicfaaParse
set_option linter.unusedVariables false
namespace Go.Proofs.Ytmaemfjepdicfaa
open Go.RowKit
attribute [local go_sem ↓] Go.wp_at_zero Go.wp_at_succ

set_option maxHeartbeats 1600000 in
theorem rparse_cn (bs : List UInt8) (A : Option Addr) (n c : Nat) (hn : bs.length = n) (w : World) (hr : Reads w w.heap.size 1 A n (bs.map u8v)) (hlen : n ≤ 9223372036854775807) (hcap : n ≤ c) :
    Calls Try.prog 15 #[.slice A n c] w (ParseRet bs w) := by
  obtain ⟨iB, hiB, hz0, hz1, hz2⟩ := info_parts infoByte
  have HN := Lib.hid hn
  obtain ⟨Q, hQ⟩ : ∃ Q, Q = ParseRet bs w := ⟨_, rfl⟩
  rw [← hQ]
  have HQ := Lib.hid hQ
  clear hQ
  have HR := Lib.hid hr
  have hb00 := balloc (Below.refl w.heap.size w) (.cells #[.int .i64 0, .int .i64 0, .int .i64 0, .int .i64 0, .int .i64 0, .int .i64 0, .slice none 0 0] 26)
  by_cases h11 : n < 11
  · have hi : (n : Int) < 11 := by omega
    have HE : Hid (errS bs = 3) := by show _ = _; unfold errS; rw [if_pos (by omega)]
    have HB := Lib.hid hb00
    clear hb00 hr hn
    go_enter Try.func15, Try.ntmps15
    go_wp2
    refine bodyPost_ret (v := .tuple #[.agg #[.int .i64 0, .int .i64 0, .int .i64 0, .int .i64 0, .int .i64 0, .int .i64 0, .slice none 0 0], .int .i64 3]) (by simp [results, Try.results15, go_sem]) rfl ?_
    rw [HQ.out]
    exact ParseRet.no HE.out (by decide) HB.out
  · have hi : ¬ (n : Int) < 11 := by omega
    obtain ⟨b, off, rfl, hbl, hcell⟩ := head_cells (by rw [hn]; exact hr) (by omega)
    clear hr
    go_enter Try.func15, Try.ntmps15
    go_wp2_with fail
    have hr2 := HR.out.to_ hb00
    have br := Blk.new w 26 #[.int .i64 0, .int .i64 0, .int .i64 0, .int .i64 0, .int .i64 0, .int .i64 0, .slice none 0 0]
    generalize (w.alloc (Obj.cells #[.int .i64 0, .int .i64 0, .int .i64 0, .int .i64 0, .int .i64 0, .int .i64 0, .slice none 0 0] 26)) = W at *
    have c0 : w.cell? ⟨b, off, none⟩ = _ := hcell 0 (by omega)
    have c1 := hcell 1 (by omega)
    have c2 := hcell 2 (by omega)
    obtain ⟨x0, hx0⟩ : ∃ x, x = (bs.getD 0 0).toNat := ⟨_, rfl⟩
    obtain ⟨x1, hx1⟩ : ∃ x, x = (bs.getD 1 0).toNat := ⟨_, rfl⟩
    obtain ⟨x2, hx2⟩ : ∃ x, x = (bs.getD 2 0).toNat := ⟨_, rfl⟩
    rw [← hx0] at c0
    rw [← hx1] at c1
    rw [← hx2] at c2
    have kW := Below.refl W.heap.size W
    have b0 : x0 < 256 := by rw [hx0]; exact UInt8.toNat_lt _
    have b1 : x1 < 256 := by rw [hx1]; exact UInt8.toNat_lt _
    have b2 : x2 < 256 := by rw [hx2]; exact UInt8.toNat_lt _
    have HX0 := Lib.hid hx0
    have HX1 := Lib.hid hx1
    have HX2 := Lib.hid hx2
    have hAc : ∀ (k : Nat) (p : Addr), ((W.drewN k).alloc (.cells #[.int .i64 0, .int .i64 0, .int .i64 0, .int .i64 0, .int .i64 0, .int .i64 0, .slice none 0 0] 26)).cell? p = (W.alloc (.cells #[.int .i64 0, .int .i64 0, .int .i64 0, .int .i64 0, .int .i64 0, .int .i64 0, .slice none 0 0] 26)).cell? p := fun _ _ => rfl
    have hAf : ∀ (k : Nat) (p : Addr), ((W.drewN k).alloc (.cells #[.int .i64 0, .int .i64 0, .int .i64 0, .int .i64 0, .int .i64 0, .int .i64 0, .slice none 0 0] 26)).frozen? p = (W.alloc (.cells #[.int .i64 0, .int .i64 0, .int .i64 0, .int .i64 0, .int .i64 0, .int .i64 0, .slice none 0 0] 26)).frozen? p := fun _ _ => rfl
    have keep : ∀ w', Below W.heap.size W w' → w'.cell? ⟨b, off, none⟩ = some (.int .u8 (x0 : Int)) ∧ w'.cell? ⟨b, off + 1, none⟩ = some (.int .u8 (x1 : Int)) ∧ w'.cell? ⟨b, off + 2, none⟩ = some (.int .u8 (x2 : Int)) ∧ Below W.heap.size W w' := by
      intro w' hb
      refine ⟨?_, ?_, ?_, hb⟩
      · exact (hb.cell (p := ⟨b, off, none⟩) (Nat.lt_of_lt_of_le hbl hb00.size)).trans ((hb00.cell (p := ⟨b, off, none⟩) hbl).trans c0)
      · exact (hb.cell (p := ⟨b, off + 1, none⟩) (Nat.lt_of_lt_of_le hbl hb00.size)).trans ((hb00.cell (p := ⟨b, off + 1, none⟩) hbl).trans c1)
      · exact (hb.cell (p := ⟨b, off + 2, none⟩) (Nat.lt_of_lt_of_le hbl hb00.size)).trans ((hb00.cell (p := ⟨b, off + 2, none⟩) hbl).trans c2)
    have two : ∀ i, i + 1 < n → ∀ w', Below W.heap.size W w' → Calls Try.prog 27 #[.slice (some ⟨b, off, none⟩) n c, .int .i64 (i : Int)] w' fun e w'' => e = .returned (.int .i64 (twoS bs i)) ∧ ∃ m, w'' = w'.drewN m := by
      intro i hi w' hb
      have := rtwo_c bs (some ⟨b, off, none⟩) c i w' (by rw [hn]; exact hr2.to_ hb) (by omega) (by omega)
      rw [hn] at this
      exact this
    have W0 : Hid (IntKind.i64.wrap (x0 : Int) = (x0 : Int)) := by show IntKind.i64.wrap (x0 : Int) = _; simp [IntKind.wrap, IntKind.bits, IntKind.signed]; omega
    have W1 : Hid (IntKind.i64.wrap (x1 : Int) = (x1 : Int)) := by show IntKind.i64.wrap (x1 : Int) = _; simp [IntKind.wrap, IntKind.bits, IntKind.signed]; omega
    have W2 : Hid (IntKind.i64.wrap (x2 : Int) = (x2 : Int)) := by show IntKind.i64.wrap (x2 : Int) = _; simp [IntKind.wrap, IntKind.bits, IntKind.signed]; omega
    have T3 := Lib.hid (two 3 (by omega))
    have T5 := Lib.hid (two 5 (by omega))
    have two9 := Lib.hid (two 9 (by omega))
    have T7 := Lib.hid (two 7 (by omega))
    have K := Lib.hid keep
    have HC := Lib.hid hcell
    have HBR := Lib.hid br
    have HR2 := Lib.hid hr2
    have HB0 := Lib.hid hb00
    have l1 : (1 : Int) < (n : Int) := by omega
    have l2 : (2 : Int) < (n : Int) := by omega
    have l0 : 0 < n := by omega
    clear hx0 hx1 hx2 hn keep c0 c1 c2 hcell br hr2 hb00 two
    go_upto_region 3 with (fail)
    go_cut [4] (fun p5 wx => p5 = .pointer (some ⟨W.heap.size, 0, none⟩) ∧ Blk wx W.heap.size 26 #[.int .i64 (x0 : Int), .int .i64 (x1 : Int), .int .i64 (x2 : Int), .int .i64 (twoS bs 3), .int .i64 (twoS bs 5), .int .i64 (twoS bs 7), .slice none 0 0] ∧ Below W.heap.size W wx)
    case first =>
      go_region_held3 (fun w' => w'.cell? ⟨b, off, none⟩ = some (.int .u8 (x0 : Int)) ∧ w'.cell? ⟨b, off + 1, none⟩ = some (.int .u8 (x1 : Int)) ∧ w'.cell? ⟨b, off + 2, none⟩ = some (.int .u8 (x2 : Int)) ∧ Below W.heap.size W w')
        (exact K.out _ (by repeat (first | with_reducible assumption | with_reducible refine bdrew ?_ | with_reducible refine below_drewN ?_ _ | with_reducible refine balloc ?_ _ | with_reducible refine bset ?_ (Nat.le_refl _) _)))
        (first
          | (go_at_call_of 27 (Value.int .i64 3); refine (T3.out _ (by repeat (first | with_reducible assumption | with_reducible refine bdrew ?_ | with_reducible refine below_drewN ?_ _ | with_reducible refine balloc ?_ _))).mono ?_; rintro e0 w' ⟨rfl, m, rfl⟩)
          | (go_at_call_of 27 (Value.int .i64 5); refine (T5.out _ (by repeat (first | with_reducible assumption | with_reducible refine bdrew ?_ | with_reducible refine below_drewN ?_ _ | with_reducible refine balloc ?_ _))).mono ?_; rintro e0 w' ⟨rfl, m, rfl⟩)
          | (go_at_call_of 27 (Value.int .i64 7); refine (T7.out _ (by repeat (first | with_reducible assumption | with_reducible refine bdrew ?_ | with_reducible refine below_drewN ?_ _ | with_reducible refine balloc ?_ _))).mono ?_; rintro e0 w' ⟨rfl, m, rfl⟩))
      all_goals
        go_wp2_with fail
        go_meet
        rw [W0.out, W1.out, W2.out]
        refine ⟨rfl, Blk.set7 (z0 := .int .i64 0) (z1 := .int .i64 0) (z2 := .int .i64 0) (z3 := .int .i64 0) (z4 := .int .i64 0) (z5 := .int .i64 0) (z6 := .slice none 0 0) ?_, ?_⟩
        · first | exact Blk.new W _ _ | exact Blk.new (W.drewN _) _ _
        · repeat (first | with_reducible assumption | with_reducible refine bdrew ?_ | with_reducible refine below_drewN ?_ _ | with_reducible refine balloc ?_ _ | with_reducible refine bset ?_ (Nat.le_refl _) _)
    case rest =>
      obtain ⟨rfl, bx, hbw⟩ := hcut
      have hb1 := bcall HB0.out hbw
      have T9 := Lib.hid (fun w' (h : Below wc.heap.size wc w') => two9.out w' (bcall hbw h))
      have l11 : (11 : Int) ≤ (n : Int) := by omega
      have lnc : (n : Int) ≤ (c : Int) := by omega
      have hbw0 := Lib.hid hbw
      have hsz0 := Lib.hid HBR.out.lt
      have HBX := Lib.hid bx
      have HB1 := Lib.hid hb1
      have HBR1 := Lib.hid (HBR.out.below hbw)
      have HRD := Lib.hid (HR2.out.to_ hbw)
      clear HBR HB0 HR2 K T3 T5 T7 two9 bx hb1 hbw hAc hAf W0 W1 W2
      go_wp2_with fail
      refine (T9.out _ (Below.refl _ _)).mono ?_
      rintro e0 wd ⟨rfl, kk, rfl⟩
      obtain ⟨t, ht⟩ : ∃ t, t = twoS bs 9 := ⟨_, rfl⟩
      have ht0 : 0 ≤ t := by rw [ht]; unfold twoS; omega
      have HT := Lib.hid ht
      rw [← ht]
      have hbr := HBR1.out.drewN kk
      have q := hbr.cell7
      have f := hbr.free7
      have HBR2 := Lib.hid hbr
      clear ht hbr T9
      have e11 : ((n - 11 : Nat) : Int) = (n : Int) - 11 := by omega
      have HB3 := Lib.hid (below_drewN HB1.out kk)
      by_cases h1 : 200 < t
      · have HP : Hid (errS bs = 4) := by show _ = _; have e := HT.out; have e2 := HN.out; unfold errS; rw [← e, e2, if_neg h11, if_pos h1]
        clear HRD
        go_wp2
        refine bodyPost_ret (v := .tuple #[.agg #[.int .i64 0, .int .i64 0, .int .i64 0, .int .i64 0, .int .i64 0, .int .i64 0, .slice none 0 0], .int .i64 4]) (by simp [results, Try.results15, go_sem, q]) rfl ?_
        rw [HQ.out]
        exact ParseRet.no HP.out (by decide) (bset7 HB3.out)
      · by_cases h2 : (n : Int) - 11 < t
        · have HP : Hid (errS bs = 3) := by show _ = _; have e := HT.out; have e2 := HN.out; unfold errS; rw [← e, e2, if_neg h11, if_neg h1, if_pos h2]
          clear HRD
          go_wp2
          refine bodyPost_ret (v := .tuple #[.agg #[.int .i64 0, .int .i64 0, .int .i64 0, .int .i64 0, .int .i64 0, .int .i64 0, .slice none 0 0], .int .i64 3]) (by simp [results, Try.results15, go_sem, q]) rfl ?_
          rw [HQ.out]
          exact ParseRet.no HP.out (by decide) (bset7 HB3.out)
        · by_cases h3 : t < (n : Int) - 11
          · have HP : Hid (errS bs = 2) := by show _ = _; have e := HT.out; have e2 := HN.out; unfold errS; rw [← e, e2, if_neg h11, if_neg h1, if_neg h2, if_pos h3]
            clear HRD
            go_wp2
            refine bodyPost_ret (v := .tuple #[.agg #[.int .i64 0, .int .i64 0, .int .i64 0, .int .i64 0, .int .i64 0, .int .i64 0, .slice none 0 0], .int .i64 2]) (by simp [results, Try.results15, go_sem, q]) rfl ?_
            rw [HQ.out]
            exact ParseRet.no HP.out (by decide) (bset7 HB3.out)
          · by_cases hc11 : c = 11
            · skip
              subst hc11
              obtain rfl : n = 11 := by omega
              have hrr : Reads wc wc.heap.size 1 (some ⟨b, off, none⟩) (11 - 11) (((bs.drop 11).map u8v)) := by have := HRD.out.cut (k := 11) (cap := 11) (by omega) hcap; rw [if_pos rfl] at this; rw [List.map_drop]; simpa using this
              have HRR := Lib.hid hrr
              clear hrr HRD
              have hlen' : (bs.drop 11).length = 11 - 11 := by rw [List.length_drop, HN.out]
              have HP : ∀ k, Hid ((if good (headS bs) then 0 else 2) = k → errS bs = k) := by intro k e1; have e := HT.out; have e2 := HN.out; unfold errS; rw [← e, e2, if_neg h11, if_neg h1, if_neg h2, if_neg h3]; exact e1
              have HLEN := Lib.hid hlen'
              clear hlen' q f
              go_wp2_with (first
                | (at_builtin
                   refine wpList_append_any _ rfl (.tmp 49) (.tmp 51) _ rfl wc.heap.size 5 iB _ 1 1 Try.underlying22 hiB hz0 hz1 hz2 rfl (by omega) (.slice (some ⟨wc.heap.size, 0, none⟩) 0 0) 0 [] rfl (own_empty (wc.drewN kk) 5 1)
                     ((wc.drewN kk).alloc (.cells #[] 5)).heap.size (some ⟨b, off, none⟩) (11 - 11) 0 ((bs.drop 11).map u8v) rfl (HRR.out.to_ (balloc (below_drewN (Below.refl _ _) kk) _)) (u8_one _) (by simp only [maxLen]; omega) (by omega) (by simp) ?_
                   intro v5 w5 hown5 hg5 hat5
                   rw [Nat.zero_add, List.nil_append] at hown5
                   obtain ⟨A5, c5, rfl⟩ := own_slice hown5
                   have hb5 : Below wc.heap.size (wc.drewN kk) w5 := fresh_below hg5
                   have bx5 := (HBX.out.drewN kk).below hb5
                   have br5 := HBR2.out.below hb5
                   have qx := bx5.cell7
                   have fx := bx5.free7
                   have HBX5 := Lib.hid bx5
                   have HBR5 := Lib.hid br5
                   have HO5 := Lib.hid hown5
                   have HB5 := Lib.hid hb5
                   clear hown5 hg5 hat5 bx5 br5 hb5))
              have hb5 := HB5.out
              have bx5 := HBX5.out
              have br5 := HBR5.out
              have hown5 := HO5.out
              have hb6 := bcall HB3.out hb5
              have hlt2 := hsz0.out
              have hlt3 := hbw0.out.size
              have hne : w.heap.size ≠ W.heap.size := by omega
              have bx6 := bx5.set_ 6 (.slice A5 (11 - 11) c5)
              simp only [List.setIfInBounds_toArray, List.set_cons_zero, List.set_cons_succ] at bx6
              have br6 := br5.far (p := ⟨W.heap.size, 6, none⟩) hne (.slice A5 (11 - 11) c5)
              have hb6 := bset (p := ⟨W.heap.size, 6, none⟩) (bcall HB3.out hb5) (show w.heap.size ≤ W.heap.size by omega) (.slice A5 (11 - 11) c5)
              have hown6 : (w5.setCell ⟨W.heap.size, 6, none⟩ (.slice A5 (11 - 11) c5)).ownsRow wc.heap.size 5 1 (.slice A5 (11 - 11) c5) (11 - 11) (((bs.drop 11)).map u8v) := own_set_below hown5 (show W.heap.size < wc.heap.size from HBX.out.lt) _
              have hg := goodr_c (headS bs) A5 c5 (w5.setCell ⟨W.heap.size, 6, none⟩ (.slice A5 (11 - 11) c5)) (by rw [show (headS bs).bs = bs.drop 11 from rfl, HLEN.out]; exact Reads.of_own hown6) (by rw [show (headS bs).bs = bs.drop 11 from rfl, HLEN.out]; omega)
              have HV : Hid (noteV (headS bs) A5 c5 = .agg #[.int .i64 (x0 : Int), .int .i64 (x1 : Int), .int .i64 (x2 : Int), .int .i64 (twoS bs 3), .int .i64 (twoS bs 5), .int .i64 (twoS bs 7), .slice A5 (11 - 11) c5]) := by show _ = _; unfold noteV headS; simp only [HLEN.out, HX0.out, HX1.out, HX2.out]
              rw [HV.out] at hg
              obtain ⟨g, hgg⟩ : ∃ g, g = good (headS bs) := ⟨_, rfl⟩
              rw [← hgg] at hg HP
              have HG := Lib.hid hg
              have HGG := Lib.hid hgg
              have HO6 := Lib.hid hown6
              have HBX6 := Lib.hid bx6
              have HBR6 := Lib.hid br6
              have HB6 := Lib.hid hb6
              have HP2 := Lib.hid HP
              clear hg hgg hown6 hown5 bx6 br6 hb6 bx5 br5 hb5 hlt2 hlt3 HP
              refine HG.out.mono ?_
              rintro e0 w7 ⟨rfl, hb7⟩
              have bx7 := HBX6.out.below hb7
              have br7 := HBR6.out.below hb7
              have q7 := bx7.cell7
              have r7 := br7.cell7
              have z7 := br7.free7
              have HO7 := Lib.hid (own_below HO6.out hb7)
              have HB7 := Lib.hid (bcall HB6.out hb7)
              clear bx7 br7 hb7 qx fx
              cases g with
              | false =>
                clear q7
                go_wp2
                refine bodyPost_ret (v := .tuple #[.agg #[.int .i64 0, .int .i64 0, .int .i64 0, .int .i64 0, .int .i64 0, .int .i64 0, .slice none 0 0], .int .i64 2]) (by simp [results, Try.results15, go_sem, r7]) rfl ?_
                rw [HQ.out]
                exact ParseRet.no ((HP2.out 2).out rfl) (by decide) (bset7 HB7.out)
              | true =>
                go_wp2
                refine bodyPost_ret (v := .tuple #[.agg #[.int .i64 (x0 : Int), .int .i64 (x1 : Int), .int .i64 (x2 : Int), .int .i64 (twoS bs 3), .int .i64 (twoS bs 5), .int .i64 (twoS bs 7), .slice A5 (11 - 11) c5], .int .i64 0]) (by simp [results, Try.results15, go_sem, r7]) rfl ?_
                rw [HQ.out, ← HV.out]
                exact ParseRet.yes ((HP2.out 0).out rfl) (own_lower (own_set7 (by rw [HLEN.out]; exact HO7.out) (by have := hsz0.out; have := hbw0.out.size; omega)) HB1.out.size) (bset7 HB7.out)
            · skip
              have hcc : ¬ ((c : Int) = 11) := by omega
              have hrr : Reads wc wc.heap.size 1 (some ⟨b, off + 11, none⟩) (n - 11) (((bs.drop 11).map u8v)) := by have := HRD.out.cut (k := 11) (cap := c) (by omega) hcap; rw [if_neg hc11] at this; rw [List.map_drop]; simpa [Go.WideShapes.add_plain] using this
              have HRR := Lib.hid hrr
              clear hrr HRD
              have hlen' : (bs.drop 11).length = n - 11 := by rw [List.length_drop, HN.out]
              have HP : ∀ k, Hid ((if good (headS bs) then 0 else 2) = k → errS bs = k) := by intro k e1; have e := HT.out; have e2 := HN.out; unfold errS; rw [← e, e2, if_neg h11, if_neg h1, if_neg h2, if_neg h3]; exact e1
              have HLEN := Lib.hid hlen'
              clear hlen' q f
              go_wp2_with (first
                | (at_builtin
                   refine wpList_append_any _ rfl (.tmp 49) (.tmp 51) _ rfl wc.heap.size 5 iB _ 1 1 Try.underlying22 hiB hz0 hz1 hz2 rfl (by omega) (.slice (some ⟨wc.heap.size, 0, none⟩) 0 0) 0 [] rfl (own_empty (wc.drewN kk) 5 1)
                     ((wc.drewN kk).alloc (.cells #[] 5)).heap.size (some ⟨b, off + 11, none⟩) (n - 11) (c - 11) ((bs.drop 11).map u8v) rfl (HRR.out.to_ (balloc (below_drewN (Below.refl _ _) kk) _)) (u8_one _) (by simp only [maxLen]; omega) (by omega) (by simp) ?_
                   intro v5 w5 hown5 hg5 hat5
                   rw [Nat.zero_add, List.nil_append] at hown5
                   obtain ⟨A5, c5, rfl⟩ := own_slice hown5
                   have hb5 : Below wc.heap.size (wc.drewN kk) w5 := fresh_below hg5
                   have bx5 := (HBX.out.drewN kk).below hb5
                   have br5 := HBR2.out.below hb5
                   have qx := bx5.cell7
                   have fx := bx5.free7
                   have HBX5 := Lib.hid bx5
                   have HBR5 := Lib.hid br5
                   have HO5 := Lib.hid hown5
                   have HB5 := Lib.hid hb5
                   clear hown5 hg5 hat5 bx5 br5 hb5))
              have hb5 := HB5.out
              have bx5 := HBX5.out
              have br5 := HBR5.out
              have hown5 := HO5.out
              have hb6 := bcall HB3.out hb5
              have hlt2 := hsz0.out
              have hlt3 := hbw0.out.size
              have hne : w.heap.size ≠ W.heap.size := by omega
              have bx6 := bx5.set_ 6 (.slice A5 (n - 11) c5)
              simp only [List.setIfInBounds_toArray, List.set_cons_zero, List.set_cons_succ] at bx6
              have br6 := br5.far (p := ⟨W.heap.size, 6, none⟩) hne (.slice A5 (n - 11) c5)
              have hb6 := bset (p := ⟨W.heap.size, 6, none⟩) (bcall HB3.out hb5) (show w.heap.size ≤ W.heap.size by omega) (.slice A5 (n - 11) c5)
              have hown6 : (w5.setCell ⟨W.heap.size, 6, none⟩ (.slice A5 (n - 11) c5)).ownsRow wc.heap.size 5 1 (.slice A5 (n - 11) c5) (n - 11) (((bs.drop 11)).map u8v) := own_set_below hown5 (show W.heap.size < wc.heap.size from HBX.out.lt) _
              have hg := goodr_c (headS bs) A5 c5 (w5.setCell ⟨W.heap.size, 6, none⟩ (.slice A5 (n - 11) c5)) (by rw [show (headS bs).bs = bs.drop 11 from rfl, HLEN.out]; exact Reads.of_own hown6) (by rw [show (headS bs).bs = bs.drop 11 from rfl, HLEN.out]; omega)
              have HV : Hid (noteV (headS bs) A5 c5 = .agg #[.int .i64 (x0 : Int), .int .i64 (x1 : Int), .int .i64 (x2 : Int), .int .i64 (twoS bs 3), .int .i64 (twoS bs 5), .int .i64 (twoS bs 7), .slice A5 (n - 11) c5]) := by show _ = _; unfold noteV headS; simp only [HLEN.out, HX0.out, HX1.out, HX2.out]
              rw [HV.out] at hg
              obtain ⟨g, hgg⟩ : ∃ g, g = good (headS bs) := ⟨_, rfl⟩
              rw [← hgg] at hg HP
              have HG := Lib.hid hg
              have HGG := Lib.hid hgg
              have HO6 := Lib.hid hown6
              have HBX6 := Lib.hid bx6
              have HBR6 := Lib.hid br6
              have HB6 := Lib.hid hb6
              have HP2 := Lib.hid HP
              clear hg hgg hown6 hown5 bx6 br6 hb6 bx5 br5 hb5 hlt2 hlt3 HP
              refine HG.out.mono ?_
              rintro e0 w7 ⟨rfl, hb7⟩
              have bx7 := HBX6.out.below hb7
              have br7 := HBR6.out.below hb7
              have q7 := bx7.cell7
              have r7 := br7.cell7
              have z7 := br7.free7
              have HO7 := Lib.hid (own_below HO6.out hb7)
              have HB7 := Lib.hid (bcall HB6.out hb7)
              clear bx7 br7 hb7 qx fx
              cases g with
              | false =>
                clear q7
                go_wp2
                refine bodyPost_ret (v := .tuple #[.agg #[.int .i64 0, .int .i64 0, .int .i64 0, .int .i64 0, .int .i64 0, .int .i64 0, .slice none 0 0], .int .i64 2]) (by simp [results, Try.results15, go_sem, r7]) rfl ?_
                rw [HQ.out]
                exact ParseRet.no ((HP2.out 2).out rfl) (by decide) (bset7 HB7.out)
              | true =>
                go_wp2
                refine bodyPost_ret (v := .tuple #[.agg #[.int .i64 (x0 : Int), .int .i64 (x1 : Int), .int .i64 (x2 : Int), .int .i64 (twoS bs 3), .int .i64 (twoS bs 5), .int .i64 (twoS bs 7), .slice A5 (n - 11) c5], .int .i64 0]) (by simp [results, Try.results15, go_sem, r7]) rfl ?_
                rw [HQ.out, ← HV.out]
                exact ParseRet.yes ((HP2.out 0).out rfl) (own_lower (own_set7 (by rw [HLEN.out]; exact HO7.out) (by have := hsz0.out; have := hbw0.out.size; omega)) HB1.out.size) (bset7 HB7.out)
theorem rparse_c (bs : List UInt8) (A : Option Addr) (c : Nat) (w : World) (hr : Reads w w.heap.size 1 A bs.length (bs.map u8v)) (hlen : bs.length ≤ 140737488355328) (hcap : bs.length ≤ c) :
  Calls Try.prog 15 #[.slice A bs.length c] w (ParseRet bs w) := rparse_cn bs A bs.length c rfl w hr (by omega) hcap
end Go.Proofs.Ytmaemfjepdicfaa
