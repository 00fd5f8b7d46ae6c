/- Texts of this claim, one behind the other: Rg1, Rg2, Rg3. Each says ahead of itself what it proves, and its conditions. -/
import Derived.Test.YtkfimncbfbbopaaHo1
import Derived.Test.YtkfimncbfbbopaaHj
/- What the reference tells of a report of kind 1 (contract). Conditions: it lies in memory. (Printed by gen8g.py.) -/
set_option linter.unusedVariables false
set_option linter.unusedSimpArgs false
namespace Go.Proofs.Ytkfimncbfbbopaa
open Go.RowKit
attribute [local go_sem ↓] Go.wp_at_zero Go.wp_at_succ

def RgP1 (fr ab ntp ts pk oc mt nb np nf ns nd : Nat) (ex ty ct : Int) (l : List (List Nat)) : Prop := (ab = 0 ∧ ex = 0 ∧ mt = 0 ∧ ty = 0 ∧ ct = 0 ∧ np = 0 ∧ nf = 0 ∧ ns = 0 ∧ nd = 0) ∧ nb ≤ 31 ∧ ¬ ∃ e ∈ l, bigE e
set_option maxRecDepth 100000 in
set_option maxHeartbeats 12800000 in
theorem rgood1_c (fr ab ntp ts pk oc mt nb cb np cp nf cf ns cs nd cd : Nat) (ex ty ct : Int) (Ab Ap Af As Ad : Option Addr) (w : World) (l : List (List Nat)) (hb : SlR w ks7 (.slice Ab nb cb) l) (hnb : nb ≤ 1000000) :
    Calls Try.prog 27 #[.agg #[.int .i64 1, .int .u32 (fr : Int), .int .u32 (ab : Int), .int .u64 (ntp : Int), .int .u32 (ts : Int), .int .u32 (pk : Int), .int .u32 (oc : Int), .slice Ab nb cb, .slice Ap np cp, .slice Af nf cf, .int .i64 ex, .int .u32 (mt : Int), .slice As ns cs, .int .i64 ty, .int .i64 ct, .slice Ad nd cd]] w (BoolIs (RgP1 fr ab ntp ts pk oc mt nb np nf ns nd ex ty ct l) w) := by
  obtain ⟨g1, hg1⟩ : ∃ g1, g1 = w.heap.size := ⟨_, rfl⟩
  obtain ⟨w1, hw1⟩ : ∃ w1, w1 = w.alloc (.cells #[.int .i64 1, .int .u32 (fr : Int), .int .u32 (ab : Int), .int .u64 (ntp : Int), .int .u32 (ts : Int), .int .u32 (pk : Int), .int .u32 (oc : Int), .slice Ab nb cb, .slice Ap np cp, .slice Af nf cf, .int .i64 ex, .int .u32 (mt : Int), .slice As ns cs, .int .i64 ty, .int .i64 ct, .slice Ad nd cd] 40) := ⟨_, rfl⟩
  have HX1 : Hid (Blk w1 g1 40 #[.int .i64 1, .int .u32 (fr : Int), .int .u32 (ab : Int), .int .u64 (ntp : Int), .int .u32 (ts : Int), .int .u32 (pk : Int), .int .u32 (oc : Int), .slice Ab nb cb, .slice Ap np cp, .slice Af nf cf, .int .i64 ex, .int .u32 (mt : Int), .slice As ns cs, .int .i64 ty, .int .i64 ct, .slice Ad nd cd]) := by show Blk _ _ _ _; rw [hw1]; exact Blk.newAt hg1 _ _
  have HB1 : Hid (Below w.heap.size w w1) := by show Below _ _ _; rw [hw1]; exact balloc (Below.refl _ _) _
  have HBC : Hid (Calls Try.prog 44 #[.agg #[.int .i64 1, .int .u32 (fr : Int), .int .u32 (ab : Int), .int .u64 (ntp : Int), .int .u32 (ts : Int), .int .u32 (pk : Int), .int .u32 (oc : Int), .slice Ab nb cb, .slice Ap np cp, .slice Af nf cf, .int .i64 ex, .int .u32 (mt : Int), .slice As ns cs, .int .i64 ty, .int .i64 ct, .slice Ad nd cd]] w1 (BoolIs (ab = 0 ∧ ex = 0 ∧ mt = 0 ∧ ty = 0 ∧ ct = 0 ∧ np = 0 ∧ nf = 0 ∧ ns = 0 ∧ nd = 0) w1)) := by
    have := rbare1_c fr ab ntp ts pk oc mt nb cb np cp nf cf ns cs nd cd ex ty ct Ab Ap Af As Ad w1
    exact this
  have HSR := Lib.hid hb
  clear hb
  by_cases hn : ab = 0 ∧ ex = 0 ∧ mt = 0 ∧ ty = 0 ∧ ct = 0 ∧ np = 0 ∧ nf = 0 ∧ ns = 0 ∧ nd = 0
  case neg =>
    have HNO := Lib.hid hn
    clear hn
    go_enter Try.func27, Try.ntmps27
    go_upto_region 1 with fail
    rw [← hw1, ← hg1]
    clear hw1 hg1
    have c0 : w1.cell? ⟨g1, 0, none⟩ = some (.int .i64 1) := HX1.out.cell 0
    have c1 : w1.cell? ⟨g1, 1, none⟩ = some (.int .u32 (fr : Int)) := HX1.out.cell 1
    have c2 : w1.cell? ⟨g1, 2, none⟩ = some (.int .u32 (ab : Int)) := HX1.out.cell 2
    have c3 : w1.cell? ⟨g1, 3, none⟩ = some (.int .u64 (ntp : Int)) := HX1.out.cell 3
    have c4 : w1.cell? ⟨g1, 4, none⟩ = some (.int .u32 (ts : Int)) := HX1.out.cell 4
    have c5 : w1.cell? ⟨g1, 5, none⟩ = some (.int .u32 (pk : Int)) := HX1.out.cell 5
    have c6 : w1.cell? ⟨g1, 6, none⟩ = some (.int .u32 (oc : Int)) := HX1.out.cell 6
    have c7 : w1.cell? ⟨g1, 7, none⟩ = some (.slice Ab nb cb) := HX1.out.cell 7
    have c8 : w1.cell? ⟨g1, 8, none⟩ = some (.slice Ap np cp) := HX1.out.cell 8
    have c9 : w1.cell? ⟨g1, 9, none⟩ = some (.slice Af nf cf) := HX1.out.cell 9
    have c10 : w1.cell? ⟨g1, 10, none⟩ = some (.int .i64 ex) := HX1.out.cell 10
    have c11 : w1.cell? ⟨g1, 11, none⟩ = some (.int .u32 (mt : Int)) := HX1.out.cell 11
    have c12 : w1.cell? ⟨g1, 12, none⟩ = some (.slice As ns cs) := HX1.out.cell 12
    have c13 : w1.cell? ⟨g1, 13, none⟩ = some (.int .i64 ty) := HX1.out.cell 13
    have c14 : w1.cell? ⟨g1, 14, none⟩ = some (.int .i64 ct) := HX1.out.cell 14
    have c15 : w1.cell? ⟨g1, 15, none⟩ = some (.slice Ad nd cd) := HX1.out.cell 15
    go_upto_if 28 with (first
      | (go_at_call 44
         refine HBC.out.mono ?_
         rintro e9 w9 ⟨q, rfl, hq, hb9⟩
         have hqq : q = false := by cases q with | true => exact absurd (hq.1 rfl) HNO.out | false => rfl
         subst hqq
         have HX9 := Lib.hid (HX1.out.below hb9)
         have HBE : Hid (Below w.heap.size w w9) := bcall HB1.out hb9
         have d0 : w9.cell? ⟨g1, 0, none⟩ = some (.int .i64 1) := HX9.out.cell 0
         have d7 : w9.cell? ⟨g1, 7, none⟩ = some (.slice Ab nb cb) := HX9.out.cell 7
         have d12 : w9.cell? ⟨g1, 12, none⟩ = some (.slice As ns cs) := HX9.out.cell 12
         clear hq hb9))
    clear c0 c1 c2 c3 c4 c5 c6 c7 c8 c9 c10 c11 c12 c13 c14 c15
    go_wp2_with fail
    go_ret
    exact BoolIs.no (fun h => HNO.out h.1) HBE.out
  have HYES := Lib.hid hn
  obtain ⟨z_ab, z_ex, z_mt, z_ty, z_ct, z_np, z_nf, z_ns, z_nd⟩ := hn
  have hns : ¬ (255 : Int) < (ns : Int) := by omega
  clear z_ab z_ex z_mt z_ty z_ct z_np z_nf z_ns z_nd
  by_cases h31 : nb ≤ 31
  case neg =>
    have hbi : (31 : Int) < (nb : Int) := by omega
    go_enter Try.func27, Try.ntmps27
    go_upto_region 1 with fail
    rw [← hw1, ← hg1]
    clear hw1 hg1
    have c0 : w1.cell? ⟨g1, 0, none⟩ = some (.int .i64 1) := HX1.out.cell 0
    have c1 : w1.cell? ⟨g1, 1, none⟩ = some (.int .u32 (fr : Int)) := HX1.out.cell 1
    have c2 : w1.cell? ⟨g1, 2, none⟩ = some (.int .u32 (ab : Int)) := HX1.out.cell 2
    have c3 : w1.cell? ⟨g1, 3, none⟩ = some (.int .u64 (ntp : Int)) := HX1.out.cell 3
    have c4 : w1.cell? ⟨g1, 4, none⟩ = some (.int .u32 (ts : Int)) := HX1.out.cell 4
    have c5 : w1.cell? ⟨g1, 5, none⟩ = some (.int .u32 (pk : Int)) := HX1.out.cell 5
    have c6 : w1.cell? ⟨g1, 6, none⟩ = some (.int .u32 (oc : Int)) := HX1.out.cell 6
    have c7 : w1.cell? ⟨g1, 7, none⟩ = some (.slice Ab nb cb) := HX1.out.cell 7
    have c8 : w1.cell? ⟨g1, 8, none⟩ = some (.slice Ap np cp) := HX1.out.cell 8
    have c9 : w1.cell? ⟨g1, 9, none⟩ = some (.slice Af nf cf) := HX1.out.cell 9
    have c10 : w1.cell? ⟨g1, 10, none⟩ = some (.int .i64 ex) := HX1.out.cell 10
    have c11 : w1.cell? ⟨g1, 11, none⟩ = some (.int .u32 (mt : Int)) := HX1.out.cell 11
    have c12 : w1.cell? ⟨g1, 12, none⟩ = some (.slice As ns cs) := HX1.out.cell 12
    have c13 : w1.cell? ⟨g1, 13, none⟩ = some (.int .i64 ty) := HX1.out.cell 13
    have c14 : w1.cell? ⟨g1, 14, none⟩ = some (.int .i64 ct) := HX1.out.cell 14
    have c15 : w1.cell? ⟨g1, 15, none⟩ = some (.slice Ad nd cd) := HX1.out.cell 15
    go_upto_if 28 with (first
      | (go_at_call 44
         refine HBC.out.mono ?_
         rintro e9 w9 ⟨q, rfl, hq, hb9⟩
         have hqq : q = true := hq.2 HYES.out
         subst hqq
         have HX9 := Lib.hid (HX1.out.below hb9)
         have HBE : Hid (Below w.heap.size w w9) := bcall HB1.out hb9
         have d0 : w9.cell? ⟨g1, 0, none⟩ = some (.int .i64 1) := HX9.out.cell 0
         have d7 : w9.cell? ⟨g1, 7, none⟩ = some (.slice Ab nb cb) := HX9.out.cell 7
         have d12 : w9.cell? ⟨g1, 12, none⟩ = some (.slice As ns cs) := HX9.out.cell 12
         clear hq hb9))
    clear c0 c1 c2 c3 c4 c5 c6 c7 c8 c9 c10 c11 c12 c13 c14 c15
    go_wp2_with fail
    go_ret
    exact BoolIs.no (fun h => h31 h.2.1) HBE.out
  have hbi : ¬ (31 : Int) < (nb : Int) := by omega
  go_enter Try.func27, Try.ntmps27
  go_upto_region 1 with fail
  rw [← hw1, ← hg1]
  clear hw1 hg1
  have c0 : w1.cell? ⟨g1, 0, none⟩ = some (.int .i64 1) := HX1.out.cell 0
  have c1 : w1.cell? ⟨g1, 1, none⟩ = some (.int .u32 (fr : Int)) := HX1.out.cell 1
  have c2 : w1.cell? ⟨g1, 2, none⟩ = some (.int .u32 (ab : Int)) := HX1.out.cell 2
  have c3 : w1.cell? ⟨g1, 3, none⟩ = some (.int .u64 (ntp : Int)) := HX1.out.cell 3
  have c4 : w1.cell? ⟨g1, 4, none⟩ = some (.int .u32 (ts : Int)) := HX1.out.cell 4
  have c5 : w1.cell? ⟨g1, 5, none⟩ = some (.int .u32 (pk : Int)) := HX1.out.cell 5
  have c6 : w1.cell? ⟨g1, 6, none⟩ = some (.int .u32 (oc : Int)) := HX1.out.cell 6
  have c7 : w1.cell? ⟨g1, 7, none⟩ = some (.slice Ab nb cb) := HX1.out.cell 7
  have c8 : w1.cell? ⟨g1, 8, none⟩ = some (.slice Ap np cp) := HX1.out.cell 8
  have c9 : w1.cell? ⟨g1, 9, none⟩ = some (.slice Af nf cf) := HX1.out.cell 9
  have c10 : w1.cell? ⟨g1, 10, none⟩ = some (.int .i64 ex) := HX1.out.cell 10
  have c11 : w1.cell? ⟨g1, 11, none⟩ = some (.int .u32 (mt : Int)) := HX1.out.cell 11
  have c12 : w1.cell? ⟨g1, 12, none⟩ = some (.slice As ns cs) := HX1.out.cell 12
  have c13 : w1.cell? ⟨g1, 13, none⟩ = some (.int .i64 ty) := HX1.out.cell 13
  have c14 : w1.cell? ⟨g1, 14, none⟩ = some (.int .i64 ct) := HX1.out.cell 14
  have c15 : w1.cell? ⟨g1, 15, none⟩ = some (.slice Ad nd cd) := HX1.out.cell 15
  go_upto_if 28 with (first
    | (go_at_call 44
       refine HBC.out.mono ?_
       rintro e9 w9 ⟨q, rfl, hq, hb9⟩
       have hqq : q = true := hq.2 HYES.out
       subst hqq
       have HX9 := Lib.hid (HX1.out.below hb9)
       have HBE : Hid (Below w.heap.size w w9) := bcall HB1.out hb9
       have d0 : w9.cell? ⟨g1, 0, none⟩ = some (.int .i64 1) := HX9.out.cell 0
       have d7 : w9.cell? ⟨g1, 7, none⟩ = some (.slice Ab nb cb) := HX9.out.cell 7
       have d12 : w9.cell? ⟨g1, 12, none⟩ = some (.slice As ns cs) := HX9.out.cell 12
       clear hq hb9))
  clear c0 c1 c2 c3 c4 c5 c6 c7 c8 c9 c10 c11 c12 c13 c14 c15
  go_upto_region 4 with fail
  have HLEN : Hid (l.length = nb) := by obtain ⟨_, _, e, _⟩ := HSR.out; injection e with _ e; exact e.symm
  have H31 := Lib.hid h31
  clear hbi hns h31 d12
  go_loopg [3] nb (fun gg v3 wx => ∃ i : Nat, gg = nb - i ∧ i ≤ nb ∧ v3 = .int .i64 (i : Int) ∧ (∀ (j : Nat) (e : List Nat), j < i → l[j]? = some e → ¬ bigE e) ∧ wx = w9)
  case atStart => exact ⟨0, rfl, by omega, rfl, fun j e hj => absurd hj (by omega), rfl⟩
  case round =>
    obtain ⟨i, hgg, hi, rfl, hno, rfl⟩ := hrel
    have HNO := Lib.hid hno
    have HGG := Lib.hid hgg
    clear hno hgg
    by_cases hin : i < nb
    · have hini : (i : Int) < (nb : Int) := by omega
      have hw2 : IntKind.i64.wrap ((i : Int) + 1) = ((i + 1 : Nat) : Int) := by rw [IntKind.wrap_i64]; omega
      obtain ⟨e, he⟩ : ∃ e, l[i]? = some e := ⟨_, List.getElem?_eq_getElem (by rw [HLEN.out]; exact hin)⟩
      obtain ⟨hz, ga, oa, hA, hga, hc⟩ := SlR.cells HSR.out (by omega) (by decide)
      subst hA
      obtain ⟨hel, hcc⟩ := hc i e he
      obtain ⟨x0, x1, x2, x3, x4, x5, x6, rr, hee⟩ := of7 (ks := ks7) rfl hel
      subst hee
      have u2 : wr.cell? ⟨ga, oa + i * 7 + 2, none⟩ = some (.int .u32 (x2 : Int)) := (HBE.out.cell (p := ⟨ga, oa + i * 7 + 2, none⟩) hga).trans (hcc 2 _ rfl)
      have HE := Lib.hid he
      have HLT := Lib.hid hin
      clear hz hga hc hel hcc he hin hi
      obtain ⟨xz, hxz⟩ : ∃ xz : Int, xz = (x2 : Int) := ⟨_, rfl⟩
      rw [← hxz] at u2
      have HXZ := Lib.hid hxz
      clear hxz
      by_cases hbig : 16777216 ≤ xz
      · go_wp2_with fail
        go_ret
        refine BoolIs.no (fun h => h.2.2 ⟨_, List.mem_of_getElem? HE.out, ?_⟩) HBE.out
        have := HXZ.out
        show 16777216 ≤ x2
        omega
      · have HNB : Hid (¬ 16777216 ≤ x2) := by have := HXZ.out; show ¬ _; omega
        go_wp2_with fail
        go_roundg (nb - (i + 1))
        case measure => have := HLT.out; have := HGG.out; omega
        case rel =>
          have hlt := HLT.out
          refine ⟨i + 1, rfl, by omega, by first | rfl | go_num, fun j e hj he' => ?_, rfl⟩
          by_cases hji : j < i
          · exact HNO.out j e hji he'
          · have hje : j = i := by omega
            subst hje
            rw [HE.out] at he'
            injection he' with he'
            subst he'
            exact HNB.out
    · have hini : ¬ (i : Int) < (nb : Int) := by omega
      have hie : nb = i := by omega
      subst hie
      clear hin hi
      go_wp2_with fail
      go_ret
      refine BoolIs.yes ⟨HYES.out, H31.out, fun ⟨e, he, hb⟩ => ?_⟩ HBE.out
      obtain ⟨j, hj⟩ := List.getElem?_of_mem he
      have hjl : j < l.length := by
        rcases Nat.lt_or_ge j l.length with h | h
        · exact h
        · rw [List.getElem?_eq_none h] at hj; cases hj
      exact HNO.out j e (by rw [HLEN.out] at hjl; exact hjl) hj hb
end Go.Proofs.Ytkfimncbfbbopaa
/- What the reference tells of a report of kind 2 (contract). Conditions: it lies in memory. (Printed by gen8g.py.) -/
set_option linter.unusedVariables false
set_option linter.unusedSimpArgs false
namespace Go.Proofs.Ytkfimncbfbbopaa
open Go.RowKit
attribute [local go_sem ↓] Go.wp_at_zero Go.wp_at_succ

def RgP2 (fr ab ntp ts pk oc mt nb np nf ns nd : Nat) (ex ty ct : Int) (l : List (List Nat)) : Prop := (ab = 0 ∧ ntp = 0 ∧ ts = 0 ∧ pk = 0 ∧ oc = 0 ∧ ex = 0 ∧ mt = 0 ∧ ty = 0 ∧ ct = 0 ∧ np = 0 ∧ nf = 0 ∧ ns = 0 ∧ nd = 0) ∧ nb ≤ 31 ∧ ¬ ∃ e ∈ l, bigE e
set_option maxRecDepth 100000 in
set_option maxHeartbeats 12800000 in
theorem rgood2_c (fr ab ntp ts pk oc mt nb cb np cp nf cf ns cs nd cd : Nat) (ex ty ct : Int) (Ab Ap Af As Ad : Option Addr) (w : World) (l : List (List Nat)) (hb : SlR w ks7 (.slice Ab nb cb) l) (hnb : nb ≤ 1000000) :
    Calls Try.prog 27 #[.agg #[.int .i64 2, .int .u32 (fr : Int), .int .u32 (ab : Int), .int .u64 (ntp : Int), .int .u32 (ts : Int), .int .u32 (pk : Int), .int .u32 (oc : Int), .slice Ab nb cb, .slice Ap np cp, .slice Af nf cf, .int .i64 ex, .int .u32 (mt : Int), .slice As ns cs, .int .i64 ty, .int .i64 ct, .slice Ad nd cd]] w (BoolIs (RgP2 fr ab ntp ts pk oc mt nb np nf ns nd ex ty ct l) w) := by
  obtain ⟨g1, hg1⟩ : ∃ g1, g1 = w.heap.size := ⟨_, rfl⟩
  obtain ⟨w1, hw1⟩ : ∃ w1, w1 = w.alloc (.cells #[.int .i64 2, .int .u32 (fr : Int), .int .u32 (ab : Int), .int .u64 (ntp : Int), .int .u32 (ts : Int), .int .u32 (pk : Int), .int .u32 (oc : Int), .slice Ab nb cb, .slice Ap np cp, .slice Af nf cf, .int .i64 ex, .int .u32 (mt : Int), .slice As ns cs, .int .i64 ty, .int .i64 ct, .slice Ad nd cd] 40) := ⟨_, rfl⟩
  have HX1 : Hid (Blk w1 g1 40 #[.int .i64 2, .int .u32 (fr : Int), .int .u32 (ab : Int), .int .u64 (ntp : Int), .int .u32 (ts : Int), .int .u32 (pk : Int), .int .u32 (oc : Int), .slice Ab nb cb, .slice Ap np cp, .slice Af nf cf, .int .i64 ex, .int .u32 (mt : Int), .slice As ns cs, .int .i64 ty, .int .i64 ct, .slice Ad nd cd]) := by show Blk _ _ _ _; rw [hw1]; exact Blk.newAt hg1 _ _
  have HB1 : Hid (Below w.heap.size w w1) := by show Below _ _ _; rw [hw1]; exact balloc (Below.refl _ _) _
  have HBC : Hid (Calls Try.prog 44 #[.agg #[.int .i64 2, .int .u32 (fr : Int), .int .u32 (ab : Int), .int .u64 (ntp : Int), .int .u32 (ts : Int), .int .u32 (pk : Int), .int .u32 (oc : Int), .slice Ab nb cb, .slice Ap np cp, .slice Af nf cf, .int .i64 ex, .int .u32 (mt : Int), .slice As ns cs, .int .i64 ty, .int .i64 ct, .slice Ad nd cd]] w1 (BoolIs (ab = 0 ∧ ntp = 0 ∧ ts = 0 ∧ pk = 0 ∧ oc = 0 ∧ ex = 0 ∧ mt = 0 ∧ ty = 0 ∧ ct = 0 ∧ np = 0 ∧ nf = 0 ∧ ns = 0 ∧ nd = 0) w1)) := by
    have := rbare2_c fr ab ntp ts pk oc mt nb cb np cp nf cf ns cs nd cd ex ty ct Ab Ap Af As Ad w1
    exact this
  have HSR := Lib.hid hb
  clear hb
  by_cases hn : ab = 0 ∧ ntp = 0 ∧ ts = 0 ∧ pk = 0 ∧ oc = 0 ∧ ex = 0 ∧ mt = 0 ∧ ty = 0 ∧ ct = 0 ∧ np = 0 ∧ nf = 0 ∧ ns = 0 ∧ nd = 0
  case neg =>
    have HNO := Lib.hid hn
    clear hn
    go_enter Try.func27, Try.ntmps27
    go_upto_region 1 with fail
    rw [← hw1, ← hg1]
    clear hw1 hg1
    have c0 : w1.cell? ⟨g1, 0, none⟩ = some (.int .i64 2) := HX1.out.cell 0
    have c1 : w1.cell? ⟨g1, 1, none⟩ = some (.int .u32 (fr : Int)) := HX1.out.cell 1
    have c2 : w1.cell? ⟨g1, 2, none⟩ = some (.int .u32 (ab : Int)) := HX1.out.cell 2
    have c3 : w1.cell? ⟨g1, 3, none⟩ = some (.int .u64 (ntp : Int)) := HX1.out.cell 3
    have c4 : w1.cell? ⟨g1, 4, none⟩ = some (.int .u32 (ts : Int)) := HX1.out.cell 4
    have c5 : w1.cell? ⟨g1, 5, none⟩ = some (.int .u32 (pk : Int)) := HX1.out.cell 5
    have c6 : w1.cell? ⟨g1, 6, none⟩ = some (.int .u32 (oc : Int)) := HX1.out.cell 6
    have c7 : w1.cell? ⟨g1, 7, none⟩ = some (.slice Ab nb cb) := HX1.out.cell 7
    have c8 : w1.cell? ⟨g1, 8, none⟩ = some (.slice Ap np cp) := HX1.out.cell 8
    have c9 : w1.cell? ⟨g1, 9, none⟩ = some (.slice Af nf cf) := HX1.out.cell 9
    have c10 : w1.cell? ⟨g1, 10, none⟩ = some (.int .i64 ex) := HX1.out.cell 10
    have c11 : w1.cell? ⟨g1, 11, none⟩ = some (.int .u32 (mt : Int)) := HX1.out.cell 11
    have c12 : w1.cell? ⟨g1, 12, none⟩ = some (.slice As ns cs) := HX1.out.cell 12
    have c13 : w1.cell? ⟨g1, 13, none⟩ = some (.int .i64 ty) := HX1.out.cell 13
    have c14 : w1.cell? ⟨g1, 14, none⟩ = some (.int .i64 ct) := HX1.out.cell 14
    have c15 : w1.cell? ⟨g1, 15, none⟩ = some (.slice Ad nd cd) := HX1.out.cell 15
    go_upto_if 28 with (first
      | (go_at_call 44
         refine HBC.out.mono ?_
         rintro e9 w9 ⟨q, rfl, hq, hb9⟩
         have hqq : q = false := by cases q with | true => exact absurd (hq.1 rfl) HNO.out | false => rfl
         subst hqq
         have HX9 := Lib.hid (HX1.out.below hb9)
         have HBE : Hid (Below w.heap.size w w9) := bcall HB1.out hb9
         have d0 : w9.cell? ⟨g1, 0, none⟩ = some (.int .i64 2) := HX9.out.cell 0
         have d7 : w9.cell? ⟨g1, 7, none⟩ = some (.slice Ab nb cb) := HX9.out.cell 7
         have d12 : w9.cell? ⟨g1, 12, none⟩ = some (.slice As ns cs) := HX9.out.cell 12
         clear hq hb9))
    clear c0 c1 c2 c3 c4 c5 c6 c7 c8 c9 c10 c11 c12 c13 c14 c15
    go_wp2_with fail
    go_ret
    exact BoolIs.no (fun h => HNO.out h.1) HBE.out
  have HYES := Lib.hid hn
  obtain ⟨z_ab, z_ntp, z_ts, z_pk, z_oc, z_ex, z_mt, z_ty, z_ct, z_np, z_nf, z_ns, z_nd⟩ := hn
  have hns : ¬ (255 : Int) < (ns : Int) := by omega
  clear z_ab z_ntp z_ts z_pk z_oc z_ex z_mt z_ty z_ct z_np z_nf z_ns z_nd
  by_cases h31 : nb ≤ 31
  case neg =>
    have hbi : (31 : Int) < (nb : Int) := by omega
    go_enter Try.func27, Try.ntmps27
    go_upto_region 1 with fail
    rw [← hw1, ← hg1]
    clear hw1 hg1
    have c0 : w1.cell? ⟨g1, 0, none⟩ = some (.int .i64 2) := HX1.out.cell 0
    have c1 : w1.cell? ⟨g1, 1, none⟩ = some (.int .u32 (fr : Int)) := HX1.out.cell 1
    have c2 : w1.cell? ⟨g1, 2, none⟩ = some (.int .u32 (ab : Int)) := HX1.out.cell 2
    have c3 : w1.cell? ⟨g1, 3, none⟩ = some (.int .u64 (ntp : Int)) := HX1.out.cell 3
    have c4 : w1.cell? ⟨g1, 4, none⟩ = some (.int .u32 (ts : Int)) := HX1.out.cell 4
    have c5 : w1.cell? ⟨g1, 5, none⟩ = some (.int .u32 (pk : Int)) := HX1.out.cell 5
    have c6 : w1.cell? ⟨g1, 6, none⟩ = some (.int .u32 (oc : Int)) := HX1.out.cell 6
    have c7 : w1.cell? ⟨g1, 7, none⟩ = some (.slice Ab nb cb) := HX1.out.cell 7
    have c8 : w1.cell? ⟨g1, 8, none⟩ = some (.slice Ap np cp) := HX1.out.cell 8
    have c9 : w1.cell? ⟨g1, 9, none⟩ = some (.slice Af nf cf) := HX1.out.cell 9
    have c10 : w1.cell? ⟨g1, 10, none⟩ = some (.int .i64 ex) := HX1.out.cell 10
    have c11 : w1.cell? ⟨g1, 11, none⟩ = some (.int .u32 (mt : Int)) := HX1.out.cell 11
    have c12 : w1.cell? ⟨g1, 12, none⟩ = some (.slice As ns cs) := HX1.out.cell 12
    have c13 : w1.cell? ⟨g1, 13, none⟩ = some (.int .i64 ty) := HX1.out.cell 13
    have c14 : w1.cell? ⟨g1, 14, none⟩ = some (.int .i64 ct) := HX1.out.cell 14
    have c15 : w1.cell? ⟨g1, 15, none⟩ = some (.slice Ad nd cd) := HX1.out.cell 15
    go_upto_if 28 with (first
      | (go_at_call 44
         refine HBC.out.mono ?_
         rintro e9 w9 ⟨q, rfl, hq, hb9⟩
         have hqq : q = true := hq.2 HYES.out
         subst hqq
         have HX9 := Lib.hid (HX1.out.below hb9)
         have HBE : Hid (Below w.heap.size w w9) := bcall HB1.out hb9
         have d0 : w9.cell? ⟨g1, 0, none⟩ = some (.int .i64 2) := HX9.out.cell 0
         have d7 : w9.cell? ⟨g1, 7, none⟩ = some (.slice Ab nb cb) := HX9.out.cell 7
         have d12 : w9.cell? ⟨g1, 12, none⟩ = some (.slice As ns cs) := HX9.out.cell 12
         clear hq hb9))
    clear c0 c1 c2 c3 c4 c5 c6 c7 c8 c9 c10 c11 c12 c13 c14 c15
    go_wp2_with fail
    go_ret
    exact BoolIs.no (fun h => h31 h.2.1) HBE.out
  have hbi : ¬ (31 : Int) < (nb : Int) := by omega
  go_enter Try.func27, Try.ntmps27
  go_upto_region 1 with fail
  rw [← hw1, ← hg1]
  clear hw1 hg1
  have c0 : w1.cell? ⟨g1, 0, none⟩ = some (.int .i64 2) := HX1.out.cell 0
  have c1 : w1.cell? ⟨g1, 1, none⟩ = some (.int .u32 (fr : Int)) := HX1.out.cell 1
  have c2 : w1.cell? ⟨g1, 2, none⟩ = some (.int .u32 (ab : Int)) := HX1.out.cell 2
  have c3 : w1.cell? ⟨g1, 3, none⟩ = some (.int .u64 (ntp : Int)) := HX1.out.cell 3
  have c4 : w1.cell? ⟨g1, 4, none⟩ = some (.int .u32 (ts : Int)) := HX1.out.cell 4
  have c5 : w1.cell? ⟨g1, 5, none⟩ = some (.int .u32 (pk : Int)) := HX1.out.cell 5
  have c6 : w1.cell? ⟨g1, 6, none⟩ = some (.int .u32 (oc : Int)) := HX1.out.cell 6
  have c7 : w1.cell? ⟨g1, 7, none⟩ = some (.slice Ab nb cb) := HX1.out.cell 7
  have c8 : w1.cell? ⟨g1, 8, none⟩ = some (.slice Ap np cp) := HX1.out.cell 8
  have c9 : w1.cell? ⟨g1, 9, none⟩ = some (.slice Af nf cf) := HX1.out.cell 9
  have c10 : w1.cell? ⟨g1, 10, none⟩ = some (.int .i64 ex) := HX1.out.cell 10
  have c11 : w1.cell? ⟨g1, 11, none⟩ = some (.int .u32 (mt : Int)) := HX1.out.cell 11
  have c12 : w1.cell? ⟨g1, 12, none⟩ = some (.slice As ns cs) := HX1.out.cell 12
  have c13 : w1.cell? ⟨g1, 13, none⟩ = some (.int .i64 ty) := HX1.out.cell 13
  have c14 : w1.cell? ⟨g1, 14, none⟩ = some (.int .i64 ct) := HX1.out.cell 14
  have c15 : w1.cell? ⟨g1, 15, none⟩ = some (.slice Ad nd cd) := HX1.out.cell 15
  go_upto_if 28 with (first
    | (go_at_call 44
       refine HBC.out.mono ?_
       rintro e9 w9 ⟨q, rfl, hq, hb9⟩
       have hqq : q = true := hq.2 HYES.out
       subst hqq
       have HX9 := Lib.hid (HX1.out.below hb9)
       have HBE : Hid (Below w.heap.size w w9) := bcall HB1.out hb9
       have d0 : w9.cell? ⟨g1, 0, none⟩ = some (.int .i64 2) := HX9.out.cell 0
       have d7 : w9.cell? ⟨g1, 7, none⟩ = some (.slice Ab nb cb) := HX9.out.cell 7
       have d12 : w9.cell? ⟨g1, 12, none⟩ = some (.slice As ns cs) := HX9.out.cell 12
       clear hq hb9))
  clear c0 c1 c2 c3 c4 c5 c6 c7 c8 c9 c10 c11 c12 c13 c14 c15
  go_upto_region 4 with fail
  have HLEN : Hid (l.length = nb) := by obtain ⟨_, _, e, _⟩ := HSR.out; injection e with _ e; exact e.symm
  have H31 := Lib.hid h31
  clear hbi hns h31 d12
  go_loopg [3] nb (fun gg v3 wx => ∃ i : Nat, gg = nb - i ∧ i ≤ nb ∧ v3 = .int .i64 (i : Int) ∧ (∀ (j : Nat) (e : List Nat), j < i → l[j]? = some e → ¬ bigE e) ∧ wx = w9)
  case atStart => exact ⟨0, rfl, by omega, rfl, fun j e hj => absurd hj (by omega), rfl⟩
  case round =>
    obtain ⟨i, hgg, hi, rfl, hno, rfl⟩ := hrel
    have HNO := Lib.hid hno
    have HGG := Lib.hid hgg
    clear hno hgg
    by_cases hin : i < nb
    · have hini : (i : Int) < (nb : Int) := by omega
      have hw2 : IntKind.i64.wrap ((i : Int) + 1) = ((i + 1 : Nat) : Int) := by rw [IntKind.wrap_i64]; omega
      obtain ⟨e, he⟩ : ∃ e, l[i]? = some e := ⟨_, List.getElem?_eq_getElem (by rw [HLEN.out]; exact hin)⟩
      obtain ⟨hz, ga, oa, hA, hga, hc⟩ := SlR.cells HSR.out (by omega) (by decide)
      subst hA
      obtain ⟨hel, hcc⟩ := hc i e he
      obtain ⟨x0, x1, x2, x3, x4, x5, x6, rr, hee⟩ := of7 (ks := ks7) rfl hel
      subst hee
      have u2 : wr.cell? ⟨ga, oa + i * 7 + 2, none⟩ = some (.int .u32 (x2 : Int)) := (HBE.out.cell (p := ⟨ga, oa + i * 7 + 2, none⟩) hga).trans (hcc 2 _ rfl)
      have HE := Lib.hid he
      have HLT := Lib.hid hin
      clear hz hga hc hel hcc he hin hi
      obtain ⟨xz, hxz⟩ : ∃ xz : Int, xz = (x2 : Int) := ⟨_, rfl⟩
      rw [← hxz] at u2
      have HXZ := Lib.hid hxz
      clear hxz
      by_cases hbig : 16777216 ≤ xz
      · go_wp2_with fail
        go_ret
        refine BoolIs.no (fun h => h.2.2 ⟨_, List.mem_of_getElem? HE.out, ?_⟩) HBE.out
        have := HXZ.out
        show 16777216 ≤ x2
        omega
      · have HNB : Hid (¬ 16777216 ≤ x2) := by have := HXZ.out; show ¬ _; omega
        go_wp2_with fail
        go_roundg (nb - (i + 1))
        case measure => have := HLT.out; have := HGG.out; omega
        case rel =>
          have hlt := HLT.out
          refine ⟨i + 1, rfl, by omega, by first | rfl | go_num, fun j e hj he' => ?_, rfl⟩
          by_cases hji : j < i
          · exact HNO.out j e hji he'
          · have hje : j = i := by omega
            subst hje
            rw [HE.out] at he'
            injection he' with he'
            subst he'
            exact HNB.out
    · have hini : ¬ (i : Int) < (nb : Int) := by omega
      have hie : nb = i := by omega
      subst hie
      clear hin hi
      go_wp2_with fail
      go_ret
      refine BoolIs.yes ⟨HYES.out, H31.out, fun ⟨e, he, hb⟩ => ?_⟩ HBE.out
      obtain ⟨j, hj⟩ := List.getElem?_of_mem he
      have hjl : j < l.length := by
        rcases Nat.lt_or_ge j l.length with h | h
        · exact h
        · rw [List.getElem?_eq_none h] at hj; cases hj
      exact HNO.out j e (by rw [HLEN.out] at hjl; exact hjl) hj hb
end Go.Proofs.Ytkfimncbfbbopaa
/- What the reference tells of a report of kind 3 (contract). Conditions: it lies in memory. (Printed by gen8g.py.) -/
set_option linter.unusedVariables false
set_option linter.unusedSimpArgs false
namespace Go.Proofs.Ytkfimncbfbbopaa
open Go.RowKit
attribute [local go_sem ↓] Go.wp_at_zero Go.wp_at_succ

def RgP3 (fr ab ntp ts pk oc mt nb np nf ns nd : Nat) (ex ty ct : Int) : Prop := (ntp = 0 ∧ ts = 0 ∧ pk = 0 ∧ oc = 0 ∧ ex = 0 ∧ mt = 0 ∧ ty = 0 ∧ ct = 0 ∧ nb = 0 ∧ nf = 0 ∧ ns = 0 ∧ nd = 0) ∧ 0 < np
set_option maxRecDepth 100000 in
set_option maxHeartbeats 12800000 in
theorem rgood3_c (fr ab ntp ts pk oc mt nb cb np cp nf cf ns cs nd cd : Nat) (ex ty ct : Int) (Ab Ap Af As Ad : Option Addr) (w : World) (hnb : np ≤ 1000000) :
    Calls Try.prog 27 #[.agg #[.int .i64 3, .int .u32 (fr : Int), .int .u32 (ab : Int), .int .u64 (ntp : Int), .int .u32 (ts : Int), .int .u32 (pk : Int), .int .u32 (oc : Int), .slice Ab nb cb, .slice Ap np cp, .slice Af nf cf, .int .i64 ex, .int .u32 (mt : Int), .slice As ns cs, .int .i64 ty, .int .i64 ct, .slice Ad nd cd]] w (BoolIs (RgP3 fr ab ntp ts pk oc mt nb np nf ns nd ex ty ct) w) := by
  obtain ⟨g1, hg1⟩ : ∃ g1, g1 = w.heap.size := ⟨_, rfl⟩
  obtain ⟨w1, hw1⟩ : ∃ w1, w1 = w.alloc (.cells #[.int .i64 3, .int .u32 (fr : Int), .int .u32 (ab : Int), .int .u64 (ntp : Int), .int .u32 (ts : Int), .int .u32 (pk : Int), .int .u32 (oc : Int), .slice Ab nb cb, .slice Ap np cp, .slice Af nf cf, .int .i64 ex, .int .u32 (mt : Int), .slice As ns cs, .int .i64 ty, .int .i64 ct, .slice Ad nd cd] 40) := ⟨_, rfl⟩
  have HX1 : Hid (Blk w1 g1 40 #[.int .i64 3, .int .u32 (fr : Int), .int .u32 (ab : Int), .int .u64 (ntp : Int), .int .u32 (ts : Int), .int .u32 (pk : Int), .int .u32 (oc : Int), .slice Ab nb cb, .slice Ap np cp, .slice Af nf cf, .int .i64 ex, .int .u32 (mt : Int), .slice As ns cs, .int .i64 ty, .int .i64 ct, .slice Ad nd cd]) := by show Blk _ _ _ _; rw [hw1]; exact Blk.newAt hg1 _ _
  have HB1 : Hid (Below w.heap.size w w1) := by show Below _ _ _; rw [hw1]; exact balloc (Below.refl _ _) _
  have HBC : Hid (Calls Try.prog 44 #[.agg #[.int .i64 3, .int .u32 (fr : Int), .int .u32 (ab : Int), .int .u64 (ntp : Int), .int .u32 (ts : Int), .int .u32 (pk : Int), .int .u32 (oc : Int), .slice Ab nb cb, .slice Ap np cp, .slice Af nf cf, .int .i64 ex, .int .u32 (mt : Int), .slice As ns cs, .int .i64 ty, .int .i64 ct, .slice Ad nd cd]] w1 (BoolIs (ntp = 0 ∧ ts = 0 ∧ pk = 0 ∧ oc = 0 ∧ ex = 0 ∧ mt = 0 ∧ ty = 0 ∧ ct = 0 ∧ nb = 0 ∧ nf = 0 ∧ ns = 0 ∧ nd = 0) w1)) := by
    have := rbare3_c fr ab ntp ts pk oc mt nb cb np cp nf cf ns cs nd cd ex ty ct Ab Ap Af As Ad w1
    exact this
  by_cases hn : ntp = 0 ∧ ts = 0 ∧ pk = 0 ∧ oc = 0 ∧ ex = 0 ∧ mt = 0 ∧ ty = 0 ∧ ct = 0 ∧ nb = 0 ∧ nf = 0 ∧ ns = 0 ∧ nd = 0
  case neg =>
    have HNO := Lib.hid hn
    clear hn
    go_enter Try.func27, Try.ntmps27
    go_upto_region 1 with fail
    rw [← hw1, ← hg1]
    clear hw1 hg1
    have c0 : w1.cell? ⟨g1, 0, none⟩ = some (.int .i64 3) := HX1.out.cell 0
    have c1 : w1.cell? ⟨g1, 1, none⟩ = some (.int .u32 (fr : Int)) := HX1.out.cell 1
    have c2 : w1.cell? ⟨g1, 2, none⟩ = some (.int .u32 (ab : Int)) := HX1.out.cell 2
    have c3 : w1.cell? ⟨g1, 3, none⟩ = some (.int .u64 (ntp : Int)) := HX1.out.cell 3
    have c4 : w1.cell? ⟨g1, 4, none⟩ = some (.int .u32 (ts : Int)) := HX1.out.cell 4
    have c5 : w1.cell? ⟨g1, 5, none⟩ = some (.int .u32 (pk : Int)) := HX1.out.cell 5
    have c6 : w1.cell? ⟨g1, 6, none⟩ = some (.int .u32 (oc : Int)) := HX1.out.cell 6
    have c7 : w1.cell? ⟨g1, 7, none⟩ = some (.slice Ab nb cb) := HX1.out.cell 7
    have c8 : w1.cell? ⟨g1, 8, none⟩ = some (.slice Ap np cp) := HX1.out.cell 8
    have c9 : w1.cell? ⟨g1, 9, none⟩ = some (.slice Af nf cf) := HX1.out.cell 9
    have c10 : w1.cell? ⟨g1, 10, none⟩ = some (.int .i64 ex) := HX1.out.cell 10
    have c11 : w1.cell? ⟨g1, 11, none⟩ = some (.int .u32 (mt : Int)) := HX1.out.cell 11
    have c12 : w1.cell? ⟨g1, 12, none⟩ = some (.slice As ns cs) := HX1.out.cell 12
    have c13 : w1.cell? ⟨g1, 13, none⟩ = some (.int .i64 ty) := HX1.out.cell 13
    have c14 : w1.cell? ⟨g1, 14, none⟩ = some (.int .i64 ct) := HX1.out.cell 14
    have c15 : w1.cell? ⟨g1, 15, none⟩ = some (.slice Ad nd cd) := HX1.out.cell 15
    go_upto_if 28 with (first
      | (go_at_call 44
         refine HBC.out.mono ?_
         rintro e9 w9 ⟨q, rfl, hq, hb9⟩
         have hqq : q = false := by cases q with | true => exact absurd (hq.1 rfl) HNO.out | false => rfl
         subst hqq
         have HX9 := Lib.hid (HX1.out.below hb9)
         have HBE : Hid (Below w.heap.size w w9) := bcall HB1.out hb9
         have d0 : w9.cell? ⟨g1, 0, none⟩ = some (.int .i64 3) := HX9.out.cell 0
         have d7 : w9.cell? ⟨g1, 7, none⟩ = some (.slice Ab nb cb) := HX9.out.cell 7
         have d12 : w9.cell? ⟨g1, 12, none⟩ = some (.slice As ns cs) := HX9.out.cell 12
         clear hq hb9))
    clear c0 c1 c2 c3 c4 c5 c6 c7 c8 c9 c10 c11 c12 c13 c14 c15
    go_wp2_with fail
    go_ret
    exact BoolIs.no (fun h => HNO.out h.1) HBE.out
  have HYES := Lib.hid hn
  obtain ⟨z_ntp, z_ts, z_pk, z_oc, z_ex, z_mt, z_ty, z_ct, z_nb, z_nf, z_ns, z_nd⟩ := hn
  subst z_nb
  subst z_ns
  clear z_ntp z_ts z_pk z_oc z_ex z_mt z_ty z_ct z_nf z_nd
  go_enter Try.func27, Try.ntmps27
  go_upto_region 1 with fail
  rw [← hw1, ← hg1]
  clear hw1 hg1
  have c0 : w1.cell? ⟨g1, 0, none⟩ = some (.int .i64 3) := HX1.out.cell 0
  have c1 : w1.cell? ⟨g1, 1, none⟩ = some (.int .u32 (fr : Int)) := HX1.out.cell 1
  have c2 : w1.cell? ⟨g1, 2, none⟩ = some (.int .u32 (ab : Int)) := HX1.out.cell 2
  have c3 : w1.cell? ⟨g1, 3, none⟩ = some (.int .u64 (ntp : Int)) := HX1.out.cell 3
  have c4 : w1.cell? ⟨g1, 4, none⟩ = some (.int .u32 (ts : Int)) := HX1.out.cell 4
  have c5 : w1.cell? ⟨g1, 5, none⟩ = some (.int .u32 (pk : Int)) := HX1.out.cell 5
  have c6 : w1.cell? ⟨g1, 6, none⟩ = some (.int .u32 (oc : Int)) := HX1.out.cell 6
  have c7 : w1.cell? ⟨g1, 7, none⟩ = some (.slice Ab 0 cb) := HX1.out.cell 7
  have c8 : w1.cell? ⟨g1, 8, none⟩ = some (.slice Ap np cp) := HX1.out.cell 8
  have c9 : w1.cell? ⟨g1, 9, none⟩ = some (.slice Af nf cf) := HX1.out.cell 9
  have c10 : w1.cell? ⟨g1, 10, none⟩ = some (.int .i64 ex) := HX1.out.cell 10
  have c11 : w1.cell? ⟨g1, 11, none⟩ = some (.int .u32 (mt : Int)) := HX1.out.cell 11
  have c12 : w1.cell? ⟨g1, 12, none⟩ = some (.slice As 0 cs) := HX1.out.cell 12
  have c13 : w1.cell? ⟨g1, 13, none⟩ = some (.int .i64 ty) := HX1.out.cell 13
  have c14 : w1.cell? ⟨g1, 14, none⟩ = some (.int .i64 ct) := HX1.out.cell 14
  have c15 : w1.cell? ⟨g1, 15, none⟩ = some (.slice Ad nd cd) := HX1.out.cell 15
  go_upto_if 28 with (first
    | (go_at_call 44
       refine HBC.out.mono ?_
       rintro e9 w9 ⟨q, rfl, hq, hb9⟩
       have hqq : q = true := hq.2 HYES.out
       subst hqq
       have HX9 := Lib.hid (HX1.out.below hb9)
       have HBE : Hid (Below w.heap.size w w9) := bcall HB1.out hb9
       have d0 : w9.cell? ⟨g1, 0, none⟩ = some (.int .i64 3) := HX9.out.cell 0
       have d7 : w9.cell? ⟨g1, 7, none⟩ = some (.slice Ab 0 cb) := HX9.out.cell 7
       have d12 : w9.cell? ⟨g1, 12, none⟩ = some (.slice As 0 cs) := HX9.out.cell 12
       clear hq hb9))
  clear c0 c1 c2 c3 c4 c5 c6 c7 c8 c9 c10 c11 c12 c13 c14 c15
  have d8 : w9.cell? ⟨g1, 8, none⟩ = some (.slice Ap np cp) := HX9.out.cell 8
  go_upto_region 4 with fail
  go_loopg [3] 0 (fun gg v3 wx => gg = 0 ∧ v3 = .int .i64 0 ∧ wx = w9)
  case atStart => exact ⟨rfl, rfl, rfl⟩
  case round =>
    obtain ⟨hgg, rfl, rfl⟩ := hrel
    clear hgg
    have HY2 := Lib.hid HYES.out
    go_wp2_with fail
    all_goals go_ret
    all_goals first
      | (refine BoolIs.no (fun h => ?_) HBE.out
         unfold RgP3 at h
         try simp only [bne_iff_ne, ne_eq, bne_eq_false_iff_eq] at *
         omega)
      | (refine BoolIs.yes ?_ HBE.out
         have hyy := HY2.out
         unfold RgP3
         try simp only [bne_iff_ne, ne_eq, bne_eq_false_iff_eq] at *
         omega)
      | (refine ⟨_, rfl, ?_, HBE.out⟩
         have hyy := HY2.out
         unfold RgP3
         try simp only [bne_iff_ne, ne_eq, bne_eq_false_iff_eq] at *
         try simp
         omega)
end Go.Proofs.Ytkfimncbfbbopaa
