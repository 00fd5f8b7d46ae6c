/- The law RtcpNack (its walk). Conditions: the numbers lie in memory. -/
import Derived.Test.YtkfimncbfbbopaaLostR
import Derived.BigQuiet
set_option linter.unusedVariables false
set_option linter.unusedSimpArgs false
namespace Go.Proofs.Ytkfimncbfbbopaa
open Go.RowKit
attribute [local go_sem ↓] Go.wp_at_zero Go.wp_at_succ

theorem near_no {x f : Nat} (h : ¬ nearN x f) : dN x f = 0 ∨ 16 < dN x f := by unfold nearN at h; omega
set_option maxRecDepth 100000 in
set_option maxHeartbeats 12800000 in
theorem nackLaw_c (xs : List Nat) (A : Option Addr) (n cap : Nat) (w : World) (hr : Reads w w.heap.size 1 A n (xs.map nV)) (hx : ∀ x ∈ xs, x < 65536) (hn2 : n < 9223372036854775808) :
    Calls Try.prog 5 #[.slice A n cap] w fun e w' => e = .returned (.bool true) ∧ Below w.heap.size w w' := by
  have hlen : xs.length = n := by have := hr.1; rw [List.length_map] at this; omega
  have HLEN := Lib.hid hlen
  have HR := Lib.hid hr
  have HXS := Lib.hid hx
  clear hlen hr hx
  go_enter Try.func5, Try.ntmps5
  by_cases h3 : 300 < n
  · have h3i : (300 : Int) < (n : Int) := by omega
    clear h3
    go_wp2_with (first
      | (go_at_call 9
         refine (awake_c _).mono ?_
         rintro e0 w0 ⟨rfl, hb0⟩
         have HB0 := Lib.hid hb0
         clear hb0))
    go_ret
    exact ⟨rfl, HB0.out⟩
  have h3i : ¬ (300 : Int) < (n : Int) := by omega
  have hn : n ≤ 300 := by omega
  have HN := Lib.hid hn
  obtain ⟨ps, hps⟩ : ∃ ps, ps = nackS xs := ⟨_, rfl⟩
  obtain ⟨k, hk⟩ : ∃ k, k = ps.length := ⟨_, rfl⟩
  obtain ⟨ls, hls⟩ : ∃ ls, ls = lostS ps := ⟨_, rfl⟩
  obtain ⟨l, hl⟩ : ∃ l, l = ls.length := ⟨_, rfl⟩
  have HKN : Hid (k ≤ n) := by have := nackS_len xs; show _ ≤ _; rw [hk, hps, ← HLEN.out]; exact this
  have HLN : Hid (l ≤ 5100) := by have := lostS_len ps; have := HKN.out; show _ ≤ _; rw [hl, hls]; omega
  have HP65 : Hid (∀ p ∈ ps, p.1 < 65536 ∧ p.2 < 65536) := by rw [hps]; exact nackS_head HXS.out
  have HPS := Lib.hid hps
  have HK := Lib.hid hk
  have HLS := Lib.hid hls
  have HL := Lib.hid hl
  have hkl : ¬ (n : Int) < (k : Int) := by have := HKN.out; omega
  have hkl2 : decide (n < k) = false := by have := HKN.out; simp; omega
  have h3j : decide ((300 : Int) < (n : Int)) = false := by simp; omega
  clear hps hk hls hl h3 hn
  go_upto_region 10 with (first
    | (go_at_call 9
       refine (awake_c _).mono ?_
       rintro e0 w0 ⟨rfl, hb0⟩
       have HB0 := Lib.hid hb0
       clear hb0)
    | (go_at_call 16
       refine (nack_c xs A n cap w0 ((HR.out.below HB0.out).more HB0.out.size) HXS.out HN.out).mono ?_
       rintro e1 w1 ⟨v1, rfl, ho1, hb1⟩
       rw [← HPS.out, ← HK.out] at ho1
       obtain ⟨Ap, cp, rfl⟩ := own_slice ho1
       have HO1 := Lib.hid (Reads.of_own ho1)
       have HB1 : Hid (Below w.heap.size w w1) := bcall HB0.out hb1
       clear ho1 hb1)
    | (go_at_call 17
       refine (lost_c ps Ap k cp w1 HO1.out HP65.out (by have := HKN.out; have := HN.out; omega)).mono ?_
       rintro e2 w2 ⟨v2, rfl, ho2, hb2⟩
       rw [← HLS.out, ← HL.out] at ho2
       obtain ⟨Al, cl, rfl⟩ := own_slice ho2
       have HO2 := Lib.hid (Reads.of_own ho2)
       have HB2 : Hid (Below w.heap.size w w2) := bcall HB1.out hb2
       have HP2 : Hid (Reads w2 w2.heap.size 2 Ap k (rowP ps)) := (HO1.out.below hb2).more hb2.size
       clear ho2 hb2)
    | (go_at_call 18
       refine (nackR_c xs A n cap w2 ((HR.out.below HB2.out).more HB2.out.size) HXS.out HN.out).mono ?_
       rintro e3 w3 ⟨v3, rfl, ho3, hb3⟩
       rw [← HPS.out, ← HK.out] at ho3
       obtain ⟨Aq, cq, rfl⟩ := own_slice ho3
       have HO3 := Lib.hid (Reads.of_own ho3)
       have HB3 : Hid (Below w.heap.size w w3) := bcall HB2.out hb3
       have HP3 : Hid (Reads w3 w3.heap.size 2 Ap k (rowP ps)) := (HP2.out.below hb3).more hb3.size
       have HL3 : Hid (Reads w3 w3.heap.size 1 Al l (ls.map nV)) := (HO2.out.below hb3).more hb3.size
       clear ho3 hb3)
    | (go_at_call 20
       refine (lostR_c ps Aq k cq w3 HO3.out HP65.out (by have := HKN.out; have := HN.out; omega)).mono ?_
       rintro e4 w4 ⟨v4, rfl, ho4, hb4⟩
       rw [← HLS.out, ← HL.out] at ho4
       obtain ⟨Am, cm, rfl⟩ := own_slice ho4
       have HO4 := Lib.hid (Reads.of_own ho4)
       have HB4 : Hid (Below w.heap.size w w4) := bcall HB3.out hb4
       have HP4 : Hid (Reads w4 w4.heap.size 2 Ap k (rowP ps)) := (HP3.out.below hb4).more hb4.size
       have HQ4 : Hid (Reads w4 w4.heap.size 2 Aq k (rowP ps)) := (HO3.out.below hb4).more hb4.size
       have HL4 : Hid (Reads w4 w4.heap.size 1 Al l (ls.map nV)) := (HL3.out.below hb4).more hb4.size
       clear ho4 hb4)
    | (go_at_call 19
       refine (numbers_c ls Al Am l cl cm w4 HL4.out HO4.out (by have := HLN.out; omega)).mono ?_
       rintro e5 w5 ⟨rfl, hb5⟩
       have HB5 : Hid (Below w.heap.size w w5) := bcall HB4.out hb5
       have HP5 : Hid (Reads w5 w5.heap.size 2 Ap k (rowP ps)) := (HP4.out.below hb5).more hb5.size
       have HQ5 : Hid (Reads w5 w5.heap.size 2 Aq k (rowP ps)) := (HQ4.out.below hb5).more hb5.size
       have HL5 : Hid (Reads w5 w5.heap.size 1 Al l (ls.map nV)) := (HL4.out.below hb5).more hb5.size
       clear hb5))
  clear HB0 HO1 HB1 HO2 HB2 HP2 HO3 HB3 HP3 HL3 HO4 HB4 HP4 HQ4 HL4
  have HR5 : Hid (Reads w5 w5.heap.size 1 A n (xs.map nV)) := (HR.out.below HB5.out).more HB5.out.size
  go_upto_region 11 with fail
  go_loopg [6] n (fun gg v6 wx => ∃ i : Nat, gg = n - i ∧ i ≤ n ∧ v6 = .int .i64 (i : Int) ∧ w5 = wx)
  case atStart => exact ⟨0, by omega, by omega, rfl, rfl⟩
  case round =>
    obtain ⟨i, hgg, hi, rfl, rfl⟩ := hrel
    have HG := Lib.hid hgg
    clear hgg
    by_cases hin : i < n
    · have hini : (i : Int) < (n : Int) := by omega
      have hw1 : IntKind.i64.wrap ((i : Int) + 1) = ((i + 1 : Nat) : Int) := by rw [IntKind.wrap_i64]; omega
      obtain ⟨x, hxi⟩ : ∃ x, xs[i]? = some x := ⟨xs[i]'(by have := HLEN.out; omega), List.getElem?_eq_getElem _⟩
      have HXM : Hid (x ∈ ls) := by show _ ∈ _; rw [HLS.out, HPS.out, mem_lost HXS.out]; exact List.mem_of_getElem? hxi
      obtain ⟨g, o, hA, hg, hc⟩ := num_cells HR5.out (by omega)
      subst hA
      have ci := hc i x hxi
      have HLT := Lib.hid hin
      clear hc hxi hin
      go_wp2_with (first
        | (go_at_call 21
           refine (has_c ls x Al l cl _ HL5.out (by have := HLN.out; omega) HXM.out).mono ?_
           rintro e6 w6 ⟨rfl, rfl⟩))
      go_roundg (n - (i + 1))
      case measure => have := HLT.out; have := HG.out; omega
      case rel =>
        have hlt := HLT.out
        exact ⟨i + 1, rfl, by omega, rfl, rfl⟩
    · have hini : ¬ (i : Int) < (n : Int) := by omega
      clear hin
      go_upto_region 16 with fail
      go_loopg [7] l (fun gg v7 wx => ∃ j : Nat, gg = l - j ∧ j ≤ l ∧ v7 = .int .i64 (j : Int) ∧ w5 = wx)
      case atStart => exact ⟨0, by omega, by omega, rfl, rfl⟩
      case round =>
        obtain ⟨j, hgj, hj, rfl, rfl⟩ := hrel
        have HGJ := Lib.hid hgj
        clear hgj
        by_cases hjl : j < l
        · have hji : (j : Int) < (l : Int) := by omega
          have hw1 : IntKind.i64.wrap ((j : Int) + 1) = ((j + 1 : Nat) : Int) := by have := HLN.out; rw [IntKind.wrap_i64]; omega
          obtain ⟨x, hxi⟩ : ∃ x, ls[j]? = some x := ⟨ls[j]'(by have := HL.out; omega), List.getElem?_eq_getElem _⟩
          have HXM : Hid (x ∈ xs) := by show _ ∈ _; rw [← mem_lost HXS.out, ← HPS.out, ← HLS.out]; exact List.mem_of_getElem? hxi
          obtain ⟨g, o, hA, hg, hc⟩ := num_cells HL5.out (by omega)
          subst hA
          have ci := hc j x hxi
          have HLT := Lib.hid hjl
          clear hc hxi hjl
          go_wp2_with (first
            | (go_at_call 21
               refine (has_c xs x A n cap _ HR5.out (by have := HN.out; omega) HXM.out).mono ?_
               rintro e6 w6 ⟨rfl, rfl⟩))
          go_roundg (l - (j + 1))
          case measure => have := HLT.out; have := HGJ.out; omega
          case rel =>
            have hlt := HLT.out
            exact ⟨j + 1, rfl, by omega, rfl, rfl⟩
        · have hji : ¬ (j : Int) < (l : Int) := by omega
          clear hjl
          go_upto_region 21 with fail
          go_loopg [8] k (fun gg v8 wx => ∃ q : Nat, gg = k - q ∧ q ≤ k ∧ v8 = .int .i64 (q : Int) ∧ Below w5.heap.size w5 wx)
          case atStart => exact ⟨0, by omega, by omega, rfl, Below.refl _ _⟩
          case round =>
            obtain ⟨q, hgq, hq, rfl, hbq⟩ := hrel
            have HGQ := Lib.hid hgq
            have HBQ := Lib.hid hbq
            clear hgq hbq
            have hw1 : IntKind.i64.wrap ((q : Int) + 1) = ((q + 1 : Nat) : Int) := by have := HKN.out; rw [IntKind.wrap_i64]; omega
            by_cases hqk : q + 1 < k
            · have hqi : ((q + 1 : Nat) : Int) < (k : Int) := by omega
              obtain ⟨⟨f, m⟩, hp1⟩ : ∃ p, ps[q]? = some p := ⟨ps[q]'(by have := HK.out; omega), List.getElem?_eq_getElem _⟩
              obtain ⟨⟨f2, m2⟩, hp2⟩ : ∃ p, ps[q + 1]? = some p := ⟨ps[q + 1]'(by have := HK.out; omega), List.getElem?_eq_getElem _⟩
              have hfar : ¬ nearN f2 f := farN_at ps q (f, m) (f2, m2) (by rw [HPS.out]; exact farN_nack xs) hp1 hp2
              have hf65 := (HP65.out (f, m) (List.mem_of_getElem? hp1)).1
              have hf265 := (HP65.out (f2, m2) (List.mem_of_getElem? hp2)).1
              obtain ⟨g, o, hA, hg, hc⟩ := pair_cells HP5.out (by omega)
              obtain ⟨g2, o2, hA2, hg2, hc2⟩ := pair_cells HQ5.out (by omega)
              subst hA hA2
              have cf : wr.cell? ⟨g, o + q * 2, none⟩ = some (.int .u16 (f : Int)) := (HBQ.out.cell (p := ⟨g, o + q * 2, none⟩) hg).trans (hc q f m hp1).1
              have cm : wr.cell? ⟨g, o + q * 2 + 1, none⟩ = some (.int .u16 (m : Int)) := (HBQ.out.cell (p := ⟨g, o + q * 2 + 1, none⟩) hg).trans (hc q f m hp1).2
              have cf2 : wr.cell? ⟨g, o + (q + 1) * 2, none⟩ = some (.int .u16 (f2 : Int)) := (HBQ.out.cell (p := ⟨g, o + (q + 1) * 2, none⟩) hg).trans (hc (q + 1) f2 m2 hp2).1
              have df : wr.cell? ⟨g2, o2 + q * 2, none⟩ = some (.int .u16 (f : Int)) := (HBQ.out.cell (p := ⟨g2, o2 + q * 2, none⟩) hg2).trans (hc2 q f m hp1).1
              have dm : wr.cell? ⟨g2, o2 + q * 2 + 1, none⟩ = some (.int .u16 (m : Int)) := (HBQ.out.cell (p := ⟨g2, o2 + q * 2 + 1, none⟩) hg2).trans (hc2 q f m hp1).2
              obtain ⟨d, hd⟩ : ∃ d, d = dN f2 f := ⟨_, rfl⟩
              have hdw : IntKind.u16.wrap ((f2 : Int) - (f : Int)) = (d : Int) := by rw [hd, dN, IntKind.wrap_u16]; omega
              have hdd := near_no hfar
              rw [← hd] at hdd
              have HLT := Lib.hid hqk
              clear hc hc2 hp1 hp2 hfar hd hqk
              go_upto_region 23 with fail
              go_quiet (fail)
              obtain ⟨wq, hwq⟩ : ∃ wq, wq = wr.drewN nq := ⟨_, rfl⟩
              rw [← hwq]
              have HBW : Hid (Below w5.heap.size w5 wq) := by rw [hwq]; exact below_drewN HBQ.out _
              replace cf : wq.cell? ⟨g, o + q * 2, none⟩ = some (.int .u16 (f : Int)) := by rw [hwq]; exact cf
              replace cm : wq.cell? ⟨g, o + q * 2 + 1, none⟩ = some (.int .u16 (m : Int)) := by rw [hwq]; exact cm
              replace df : wq.cell? ⟨g2, o2 + q * 2, none⟩ = some (.int .u16 (f : Int)) := by rw [hwq]; exact df
              replace dm : wq.cell? ⟨g2, o2 + q * 2 + 1, none⟩ = some (.int .u16 (m : Int)) := by rw [hwq]; exact dm
              clear hwq cf2 hdw
              rcases hdd with hd0 | hd16
              · subst hd0
                go_upto_region 24 with fail
                go_quiet (fail)
                go_wp2_with fail
                go_roundg (k - (q + 1))
                case measure => have := HLT.out; have := HGQ.out; omega
                case rel =>
                  have hlt := HLT.out
                  exact ⟨q + 1, rfl, by omega, rfl, below_drewN HBW.out _⟩
              · have hd1 : decide ((1 : Int) ≤ (d : Int)) = true := by simp; omega
                have hd2 : decide ((d : Int) ≤ 16) = false := by simp; omega
                have hd3 : (1 : Int) ≤ (d : Int) := by omega
                have hd4 : ¬ (d : Int) ≤ 16 := by omega
                clear hd16
                go_upto_region 24 with fail
                go_quiet (fail)
                go_wp2_with fail
                go_roundg (k - (q + 1))
                case measure => have := HLT.out; have := HGQ.out; omega
                case rel =>
                  have hlt := HLT.out
                  exact ⟨q + 1, rfl, by omega, rfl, below_drewN HBW.out _⟩
            · have hqi : ¬ ((q + 1 : Nat) : Int) < (k : Int) := by omega
              clear hqk
              go_wp2_with fail
              go_ret
              exact ⟨rfl, HB5.out.trans (HBQ.out.mono HB5.out.size)⟩
end Go.Proofs.Ytkfimncbfbbopaa
