/- Texts of this claim, one behind the other: Rg4, Rg5, Rg6, Rg7, RgA. Each says ahead of itself what it proves, and its conditions. -/
import Derived.Test.YtkfimncbfbbopaaHo1
import Derived.Test.YtkfimncbfbbopaaHj
import Derived.Test.YtkfimncbfbbopaaHo2
import Derived.Test.YtkfimncbfbbopaaHk
/- What the reference tells of a report of kind 4 (contract). Conditions: it lies in memory. (Printed by gen8g.py.) -/
set_option linter.unusedVariables false
set_option linter.unusedSimpArgs false
namespace Go.Proofs.Ytkfimncbfbbopaa
open Go.RowKit
attribute [local go_sem ↓] Go.wp_at_zero Go.wp_at_succ

def RgP4 (fr ab ntp ts pk oc mt nb np nf ns nd : Nat) (ex ty ct : Int) : Prop := (ntp = 0 ∧ ts = 0 ∧ pk = 0 ∧ oc = 0 ∧ ex = 0 ∧ mt = 0 ∧ ty = 0 ∧ ct = 0 ∧ nb = 0 ∧ np = 0 ∧ nf = 0 ∧ ns = 0 ∧ nd = 0) ∧ True
set_option maxRecDepth 100000 in
set_option maxHeartbeats 12800000 in
theorem rgood4_c (fr ab ntp ts pk oc mt nb cb np cp nf cf ns cs nd cd : Nat) (ex ty ct : Int) (Ab Ap Af As Ad : Option Addr) (w : World) :
    Calls Try.prog 27 #[.agg #[.int .i64 4, .int .u32 (fr : Int), .int .u32 (ab : Int), .int .u64 (ntp : Int), .int .u32 (ts : Int), .int .u32 (pk : Int), .int .u32 (oc : Int), .slice Ab nb cb, .slice Ap np cp, .slice Af nf cf, .int .i64 ex, .int .u32 (mt : Int), .slice As ns cs, .int .i64 ty, .int .i64 ct, .slice Ad nd cd]] w (BoolIs (RgP4 fr ab ntp ts pk oc mt nb np nf ns nd ex ty ct) w) := by
  obtain ⟨g1, hg1⟩ : ∃ g1, g1 = w.heap.size := ⟨_, rfl⟩
  obtain ⟨w1, hw1⟩ : ∃ w1, w1 = w.alloc (.cells #[.int .i64 4, .int .u32 (fr : Int), .int .u32 (ab : Int), .int .u64 (ntp : Int), .int .u32 (ts : Int), .int .u32 (pk : Int), .int .u32 (oc : Int), .slice Ab nb cb, .slice Ap np cp, .slice Af nf cf, .int .i64 ex, .int .u32 (mt : Int), .slice As ns cs, .int .i64 ty, .int .i64 ct, .slice Ad nd cd] 40) := ⟨_, rfl⟩
  have HX1 : Hid (Blk w1 g1 40 #[.int .i64 4, .int .u32 (fr : Int), .int .u32 (ab : Int), .int .u64 (ntp : Int), .int .u32 (ts : Int), .int .u32 (pk : Int), .int .u32 (oc : Int), .slice Ab nb cb, .slice Ap np cp, .slice Af nf cf, .int .i64 ex, .int .u32 (mt : Int), .slice As ns cs, .int .i64 ty, .int .i64 ct, .slice Ad nd cd]) := by show Blk _ _ _ _; rw [hw1]; exact Blk.newAt hg1 _ _
  have HB1 : Hid (Below w.heap.size w w1) := by show Below _ _ _; rw [hw1]; exact balloc (Below.refl _ _) _
  have HBC : Hid (Calls Try.prog 44 #[.agg #[.int .i64 4, .int .u32 (fr : Int), .int .u32 (ab : Int), .int .u64 (ntp : Int), .int .u32 (ts : Int), .int .u32 (pk : Int), .int .u32 (oc : Int), .slice Ab nb cb, .slice Ap np cp, .slice Af nf cf, .int .i64 ex, .int .u32 (mt : Int), .slice As ns cs, .int .i64 ty, .int .i64 ct, .slice Ad nd cd]] w1 (BoolIs (ntp = 0 ∧ ts = 0 ∧ pk = 0 ∧ oc = 0 ∧ ex = 0 ∧ mt = 0 ∧ ty = 0 ∧ ct = 0 ∧ nb = 0 ∧ np = 0 ∧ nf = 0 ∧ ns = 0 ∧ nd = 0) w1)) := by
    have := rbare4_c fr ab ntp ts pk oc mt nb cb np cp nf cf ns cs nd cd ex ty ct Ab Ap Af As Ad w1
    exact this
  by_cases hn : ntp = 0 ∧ ts = 0 ∧ pk = 0 ∧ oc = 0 ∧ ex = 0 ∧ mt = 0 ∧ ty = 0 ∧ ct = 0 ∧ nb = 0 ∧ np = 0 ∧ nf = 0 ∧ ns = 0 ∧ nd = 0
  case neg =>
    have HNO := Lib.hid hn
    clear hn
    go_enter Try.func27, Try.ntmps27
    go_upto_region 1 with fail
    rw [← hw1, ← hg1]
    clear hw1 hg1
    have c0 : w1.cell? ⟨g1, 0, none⟩ = some (.int .i64 4) := HX1.out.cell 0
    have c1 : w1.cell? ⟨g1, 1, none⟩ = some (.int .u32 (fr : Int)) := HX1.out.cell 1
    have c2 : w1.cell? ⟨g1, 2, none⟩ = some (.int .u32 (ab : Int)) := HX1.out.cell 2
    have c3 : w1.cell? ⟨g1, 3, none⟩ = some (.int .u64 (ntp : Int)) := HX1.out.cell 3
    have c4 : w1.cell? ⟨g1, 4, none⟩ = some (.int .u32 (ts : Int)) := HX1.out.cell 4
    have c5 : w1.cell? ⟨g1, 5, none⟩ = some (.int .u32 (pk : Int)) := HX1.out.cell 5
    have c6 : w1.cell? ⟨g1, 6, none⟩ = some (.int .u32 (oc : Int)) := HX1.out.cell 6
    have c7 : w1.cell? ⟨g1, 7, none⟩ = some (.slice Ab nb cb) := HX1.out.cell 7
    have c8 : w1.cell? ⟨g1, 8, none⟩ = some (.slice Ap np cp) := HX1.out.cell 8
    have c9 : w1.cell? ⟨g1, 9, none⟩ = some (.slice Af nf cf) := HX1.out.cell 9
    have c10 : w1.cell? ⟨g1, 10, none⟩ = some (.int .i64 ex) := HX1.out.cell 10
    have c11 : w1.cell? ⟨g1, 11, none⟩ = some (.int .u32 (mt : Int)) := HX1.out.cell 11
    have c12 : w1.cell? ⟨g1, 12, none⟩ = some (.slice As ns cs) := HX1.out.cell 12
    have c13 : w1.cell? ⟨g1, 13, none⟩ = some (.int .i64 ty) := HX1.out.cell 13
    have c14 : w1.cell? ⟨g1, 14, none⟩ = some (.int .i64 ct) := HX1.out.cell 14
    have c15 : w1.cell? ⟨g1, 15, none⟩ = some (.slice Ad nd cd) := HX1.out.cell 15
    go_upto_if 28 with (first
      | (go_at_call 44
         refine HBC.out.mono ?_
         rintro e9 w9 ⟨q, rfl, hq, hb9⟩
         have hqq : q = false := by cases q with | true => exact absurd (hq.1 rfl) HNO.out | false => rfl
         subst hqq
         have HX9 := Lib.hid (HX1.out.below hb9)
         have HBE : Hid (Below w.heap.size w w9) := bcall HB1.out hb9
         have d0 : w9.cell? ⟨g1, 0, none⟩ = some (.int .i64 4) := HX9.out.cell 0
         have d7 : w9.cell? ⟨g1, 7, none⟩ = some (.slice Ab nb cb) := HX9.out.cell 7
         have d12 : w9.cell? ⟨g1, 12, none⟩ = some (.slice As ns cs) := HX9.out.cell 12
         clear hq hb9))
    clear c0 c1 c2 c3 c4 c5 c6 c7 c8 c9 c10 c11 c12 c13 c14 c15
    go_wp2_with fail
    go_ret
    exact BoolIs.no (fun h => HNO.out h.1) HBE.out
  have HYES := Lib.hid hn
  obtain ⟨z_ntp, z_ts, z_pk, z_oc, z_ex, z_mt, z_ty, z_ct, z_nb, z_np, z_nf, z_ns, z_nd⟩ := hn
  subst z_nb
  subst z_ns
  clear z_ntp z_ts z_pk z_oc z_ex z_mt z_ty z_ct z_np z_nf z_nd
  go_enter Try.func27, Try.ntmps27
  go_upto_region 1 with fail
  rw [← hw1, ← hg1]
  clear hw1 hg1
  have c0 : w1.cell? ⟨g1, 0, none⟩ = some (.int .i64 4) := HX1.out.cell 0
  have c1 : w1.cell? ⟨g1, 1, none⟩ = some (.int .u32 (fr : Int)) := HX1.out.cell 1
  have c2 : w1.cell? ⟨g1, 2, none⟩ = some (.int .u32 (ab : Int)) := HX1.out.cell 2
  have c3 : w1.cell? ⟨g1, 3, none⟩ = some (.int .u64 (ntp : Int)) := HX1.out.cell 3
  have c4 : w1.cell? ⟨g1, 4, none⟩ = some (.int .u32 (ts : Int)) := HX1.out.cell 4
  have c5 : w1.cell? ⟨g1, 5, none⟩ = some (.int .u32 (pk : Int)) := HX1.out.cell 5
  have c6 : w1.cell? ⟨g1, 6, none⟩ = some (.int .u32 (oc : Int)) := HX1.out.cell 6
  have c7 : w1.cell? ⟨g1, 7, none⟩ = some (.slice Ab 0 cb) := HX1.out.cell 7
  have c8 : w1.cell? ⟨g1, 8, none⟩ = some (.slice Ap np cp) := HX1.out.cell 8
  have c9 : w1.cell? ⟨g1, 9, none⟩ = some (.slice Af nf cf) := HX1.out.cell 9
  have c10 : w1.cell? ⟨g1, 10, none⟩ = some (.int .i64 ex) := HX1.out.cell 10
  have c11 : w1.cell? ⟨g1, 11, none⟩ = some (.int .u32 (mt : Int)) := HX1.out.cell 11
  have c12 : w1.cell? ⟨g1, 12, none⟩ = some (.slice As 0 cs) := HX1.out.cell 12
  have c13 : w1.cell? ⟨g1, 13, none⟩ = some (.int .i64 ty) := HX1.out.cell 13
  have c14 : w1.cell? ⟨g1, 14, none⟩ = some (.int .i64 ct) := HX1.out.cell 14
  have c15 : w1.cell? ⟨g1, 15, none⟩ = some (.slice Ad nd cd) := HX1.out.cell 15
  go_upto_if 28 with (first
    | (go_at_call 44
       refine HBC.out.mono ?_
       rintro e9 w9 ⟨q, rfl, hq, hb9⟩
       have hqq : q = true := hq.2 HYES.out
       subst hqq
       have HX9 := Lib.hid (HX1.out.below hb9)
       have HBE : Hid (Below w.heap.size w w9) := bcall HB1.out hb9
       have d0 : w9.cell? ⟨g1, 0, none⟩ = some (.int .i64 4) := HX9.out.cell 0
       have d7 : w9.cell? ⟨g1, 7, none⟩ = some (.slice Ab 0 cb) := HX9.out.cell 7
       have d12 : w9.cell? ⟨g1, 12, none⟩ = some (.slice As 0 cs) := HX9.out.cell 12
       clear hq hb9))
  clear c0 c1 c2 c3 c4 c5 c6 c7 c8 c9 c10 c11 c12 c13 c14 c15
  go_upto_region 4 with fail
  go_loopg [3] 0 (fun gg v3 wx => gg = 0 ∧ v3 = .int .i64 0 ∧ wx = w9)
  case atStart => exact ⟨rfl, rfl, rfl⟩
  case round =>
    obtain ⟨hgg, rfl, rfl⟩ := hrel
    clear hgg
    have HY2 := Lib.hid HYES.out
    go_wp2_with fail
    all_goals go_ret
    all_goals first
      | (refine BoolIs.no (fun h => ?_) HBE.out
         unfold RgP4 at h
         try simp only [bne_iff_ne, ne_eq, bne_eq_false_iff_eq] at *
         omega)
      | (refine BoolIs.yes ?_ HBE.out
         have hyy := HY2.out
         unfold RgP4
         try simp only [bne_iff_ne, ne_eq, bne_eq_false_iff_eq] at *
         omega)
      | (refine ⟨_, rfl, ?_, HBE.out⟩
         have hyy := HY2.out
         unfold RgP4
         try simp only [bne_iff_ne, ne_eq, bne_eq_false_iff_eq] at *
         try simp
         omega)
end Go.Proofs.Ytkfimncbfbbopaa
/- What the reference tells of a report of kind 5 (contract). Conditions: it lies in memory. (Printed by gen8g.py.) -/
set_option linter.unusedVariables false
set_option linter.unusedSimpArgs false
namespace Go.Proofs.Ytkfimncbfbbopaa
open Go.RowKit
attribute [local go_sem ↓] Go.wp_at_zero Go.wp_at_succ

def RgP5 (fr ab ntp ts pk oc mt nb np nf ns nd : Nat) (ex ty ct : Int) : Prop := (ntp = 0 ∧ ts = 0 ∧ pk = 0 ∧ oc = 0 ∧ ex = 0 ∧ mt = 0 ∧ ty = 0 ∧ ct = 0 ∧ nb = 0 ∧ np = 0 ∧ ns = 0 ∧ nd = 0) ∧ 0 < nf
set_option maxRecDepth 100000 in
set_option maxHeartbeats 12800000 in
theorem rgood5_c (fr ab ntp ts pk oc mt nb cb np cp nf cf ns cs nd cd : Nat) (ex ty ct : Int) (Ab Ap Af As Ad : Option Addr) (w : World) (hnb : nf ≤ 1000000) :
    Calls Try.prog 27 #[.agg #[.int .i64 5, .int .u32 (fr : Int), .int .u32 (ab : Int), .int .u64 (ntp : Int), .int .u32 (ts : Int), .int .u32 (pk : Int), .int .u32 (oc : Int), .slice Ab nb cb, .slice Ap np cp, .slice Af nf cf, .int .i64 ex, .int .u32 (mt : Int), .slice As ns cs, .int .i64 ty, .int .i64 ct, .slice Ad nd cd]] w (BoolIs (RgP5 fr ab ntp ts pk oc mt nb np nf ns nd ex ty ct) w) := by
  obtain ⟨g1, hg1⟩ : ∃ g1, g1 = w.heap.size := ⟨_, rfl⟩
  obtain ⟨w1, hw1⟩ : ∃ w1, w1 = w.alloc (.cells #[.int .i64 5, .int .u32 (fr : Int), .int .u32 (ab : Int), .int .u64 (ntp : Int), .int .u32 (ts : Int), .int .u32 (pk : Int), .int .u32 (oc : Int), .slice Ab nb cb, .slice Ap np cp, .slice Af nf cf, .int .i64 ex, .int .u32 (mt : Int), .slice As ns cs, .int .i64 ty, .int .i64 ct, .slice Ad nd cd] 40) := ⟨_, rfl⟩
  have HX1 : Hid (Blk w1 g1 40 #[.int .i64 5, .int .u32 (fr : Int), .int .u32 (ab : Int), .int .u64 (ntp : Int), .int .u32 (ts : Int), .int .u32 (pk : Int), .int .u32 (oc : Int), .slice Ab nb cb, .slice Ap np cp, .slice Af nf cf, .int .i64 ex, .int .u32 (mt : Int), .slice As ns cs, .int .i64 ty, .int .i64 ct, .slice Ad nd cd]) := by show Blk _ _ _ _; rw [hw1]; exact Blk.newAt hg1 _ _
  have HB1 : Hid (Below w.heap.size w w1) := by show Below _ _ _; rw [hw1]; exact balloc (Below.refl _ _) _
  have HBC : Hid (Calls Try.prog 44 #[.agg #[.int .i64 5, .int .u32 (fr : Int), .int .u32 (ab : Int), .int .u64 (ntp : Int), .int .u32 (ts : Int), .int .u32 (pk : Int), .int .u32 (oc : Int), .slice Ab nb cb, .slice Ap np cp, .slice Af nf cf, .int .i64 ex, .int .u32 (mt : Int), .slice As ns cs, .int .i64 ty, .int .i64 ct, .slice Ad nd cd]] w1 (BoolIs (ntp = 0 ∧ ts = 0 ∧ pk = 0 ∧ oc = 0 ∧ ex = 0 ∧ mt = 0 ∧ ty = 0 ∧ ct = 0 ∧ nb = 0 ∧ np = 0 ∧ ns = 0 ∧ nd = 0) w1)) := by
    have := rbare5_c fr ab ntp ts pk oc mt nb cb np cp nf cf ns cs nd cd ex ty ct Ab Ap Af As Ad w1
    exact this
  by_cases hn : ntp = 0 ∧ ts = 0 ∧ pk = 0 ∧ oc = 0 ∧ ex = 0 ∧ mt = 0 ∧ ty = 0 ∧ ct = 0 ∧ nb = 0 ∧ np = 0 ∧ ns = 0 ∧ nd = 0
  case neg =>
    have HNO := Lib.hid hn
    clear hn
    go_enter Try.func27, Try.ntmps27
    go_upto_region 1 with fail
    rw [← hw1, ← hg1]
    clear hw1 hg1
    have c0 : w1.cell? ⟨g1, 0, none⟩ = some (.int .i64 5) := HX1.out.cell 0
    have c1 : w1.cell? ⟨g1, 1, none⟩ = some (.int .u32 (fr : Int)) := HX1.out.cell 1
    have c2 : w1.cell? ⟨g1, 2, none⟩ = some (.int .u32 (ab : Int)) := HX1.out.cell 2
    have c3 : w1.cell? ⟨g1, 3, none⟩ = some (.int .u64 (ntp : Int)) := HX1.out.cell 3
    have c4 : w1.cell? ⟨g1, 4, none⟩ = some (.int .u32 (ts : Int)) := HX1.out.cell 4
    have c5 : w1.cell? ⟨g1, 5, none⟩ = some (.int .u32 (pk : Int)) := HX1.out.cell 5
    have c6 : w1.cell? ⟨g1, 6, none⟩ = some (.int .u32 (oc : Int)) := HX1.out.cell 6
    have c7 : w1.cell? ⟨g1, 7, none⟩ = some (.slice Ab nb cb) := HX1.out.cell 7
    have c8 : w1.cell? ⟨g1, 8, none⟩ = some (.slice Ap np cp) := HX1.out.cell 8
    have c9 : w1.cell? ⟨g1, 9, none⟩ = some (.slice Af nf cf) := HX1.out.cell 9
    have c10 : w1.cell? ⟨g1, 10, none⟩ = some (.int .i64 ex) := HX1.out.cell 10
    have c11 : w1.cell? ⟨g1, 11, none⟩ = some (.int .u32 (mt : Int)) := HX1.out.cell 11
    have c12 : w1.cell? ⟨g1, 12, none⟩ = some (.slice As ns cs) := HX1.out.cell 12
    have c13 : w1.cell? ⟨g1, 13, none⟩ = some (.int .i64 ty) := HX1.out.cell 13
    have c14 : w1.cell? ⟨g1, 14, none⟩ = some (.int .i64 ct) := HX1.out.cell 14
    have c15 : w1.cell? ⟨g1, 15, none⟩ = some (.slice Ad nd cd) := HX1.out.cell 15
    go_upto_if 28 with (first
      | (go_at_call 44
         refine HBC.out.mono ?_
         rintro e9 w9 ⟨q, rfl, hq, hb9⟩
         have hqq : q = false := by cases q with | true => exact absurd (hq.1 rfl) HNO.out | false => rfl
         subst hqq
         have HX9 := Lib.hid (HX1.out.below hb9)
         have HBE : Hid (Below w.heap.size w w9) := bcall HB1.out hb9
         have d0 : w9.cell? ⟨g1, 0, none⟩ = some (.int .i64 5) := HX9.out.cell 0
         have d7 : w9.cell? ⟨g1, 7, none⟩ = some (.slice Ab nb cb) := HX9.out.cell 7
         have d12 : w9.cell? ⟨g1, 12, none⟩ = some (.slice As ns cs) := HX9.out.cell 12
         clear hq hb9))
    clear c0 c1 c2 c3 c4 c5 c6 c7 c8 c9 c10 c11 c12 c13 c14 c15
    go_wp2_with fail
    go_ret
    exact BoolIs.no (fun h => HNO.out h.1) HBE.out
  have HYES := Lib.hid hn
  obtain ⟨z_ntp, z_ts, z_pk, z_oc, z_ex, z_mt, z_ty, z_ct, z_nb, z_np, z_ns, z_nd⟩ := hn
  subst z_nb
  subst z_ns
  clear z_ntp z_ts z_pk z_oc z_ex z_mt z_ty z_ct z_np z_nd
  go_enter Try.func27, Try.ntmps27
  go_upto_region 1 with fail
  rw [← hw1, ← hg1]
  clear hw1 hg1
  have c0 : w1.cell? ⟨g1, 0, none⟩ = some (.int .i64 5) := HX1.out.cell 0
  have c1 : w1.cell? ⟨g1, 1, none⟩ = some (.int .u32 (fr : Int)) := HX1.out.cell 1
  have c2 : w1.cell? ⟨g1, 2, none⟩ = some (.int .u32 (ab : Int)) := HX1.out.cell 2
  have c3 : w1.cell? ⟨g1, 3, none⟩ = some (.int .u64 (ntp : Int)) := HX1.out.cell 3
  have c4 : w1.cell? ⟨g1, 4, none⟩ = some (.int .u32 (ts : Int)) := HX1.out.cell 4
  have c5 : w1.cell? ⟨g1, 5, none⟩ = some (.int .u32 (pk : Int)) := HX1.out.cell 5
  have c6 : w1.cell? ⟨g1, 6, none⟩ = some (.int .u32 (oc : Int)) := HX1.out.cell 6
  have c7 : w1.cell? ⟨g1, 7, none⟩ = some (.slice Ab 0 cb) := HX1.out.cell 7
  have c8 : w1.cell? ⟨g1, 8, none⟩ = some (.slice Ap np cp) := HX1.out.cell 8
  have c9 : w1.cell? ⟨g1, 9, none⟩ = some (.slice Af nf cf) := HX1.out.cell 9
  have c10 : w1.cell? ⟨g1, 10, none⟩ = some (.int .i64 ex) := HX1.out.cell 10
  have c11 : w1.cell? ⟨g1, 11, none⟩ = some (.int .u32 (mt : Int)) := HX1.out.cell 11
  have c12 : w1.cell? ⟨g1, 12, none⟩ = some (.slice As 0 cs) := HX1.out.cell 12
  have c13 : w1.cell? ⟨g1, 13, none⟩ = some (.int .i64 ty) := HX1.out.cell 13
  have c14 : w1.cell? ⟨g1, 14, none⟩ = some (.int .i64 ct) := HX1.out.cell 14
  have c15 : w1.cell? ⟨g1, 15, none⟩ = some (.slice Ad nd cd) := HX1.out.cell 15
  go_upto_if 28 with (first
    | (go_at_call 44
       refine HBC.out.mono ?_
       rintro e9 w9 ⟨q, rfl, hq, hb9⟩
       have hqq : q = true := hq.2 HYES.out
       subst hqq
       have HX9 := Lib.hid (HX1.out.below hb9)
       have HBE : Hid (Below w.heap.size w w9) := bcall HB1.out hb9
       have d0 : w9.cell? ⟨g1, 0, none⟩ = some (.int .i64 5) := HX9.out.cell 0
       have d7 : w9.cell? ⟨g1, 7, none⟩ = some (.slice Ab 0 cb) := HX9.out.cell 7
       have d12 : w9.cell? ⟨g1, 12, none⟩ = some (.slice As 0 cs) := HX9.out.cell 12
       clear hq hb9))
  clear c0 c1 c2 c3 c4 c5 c6 c7 c8 c9 c10 c11 c12 c13 c14 c15
  have d9 : w9.cell? ⟨g1, 9, none⟩ = some (.slice Af nf cf) := HX9.out.cell 9
  go_upto_region 4 with fail
  go_loopg [3] 0 (fun gg v3 wx => gg = 0 ∧ v3 = .int .i64 0 ∧ wx = w9)
  case atStart => exact ⟨rfl, rfl, rfl⟩
  case round =>
    obtain ⟨hgg, rfl, rfl⟩ := hrel
    clear hgg
    have HY2 := Lib.hid HYES.out
    go_wp2_with fail
    all_goals go_ret
    all_goals first
      | (refine BoolIs.no (fun h => ?_) HBE.out
         unfold RgP5 at h
         try simp only [bne_iff_ne, ne_eq, bne_eq_false_iff_eq] at *
         omega)
      | (refine BoolIs.yes ?_ HBE.out
         have hyy := HY2.out
         unfold RgP5
         try simp only [bne_iff_ne, ne_eq, bne_eq_false_iff_eq] at *
         omega)
      | (refine ⟨_, rfl, ?_, HBE.out⟩
         have hyy := HY2.out
         unfold RgP5
         try simp only [bne_iff_ne, ne_eq, bne_eq_false_iff_eq] at *
         try simp
         omega)
end Go.Proofs.Ytkfimncbfbbopaa
/- What the reference tells of a report of kind 6 (contract). Conditions: it lies in memory. (Printed by gen8g.py.) -/
set_option linter.unusedVariables false
set_option linter.unusedSimpArgs false
namespace Go.Proofs.Ytkfimncbfbbopaa
open Go.RowKit
attribute [local go_sem ↓] Go.wp_at_zero Go.wp_at_succ

def RgP6 (fr ab ntp ts pk oc mt nb np nf ns nd : Nat) (ex ty ct : Int) : Prop := (ntp = 0 ∧ ts = 0 ∧ pk = 0 ∧ oc = 0 ∧ ty = 0 ∧ ct = 0 ∧ nb = 0 ∧ np = 0 ∧ nf = 0 ∧ nd = 0) ∧ ns ≤ 255 ∧ 0 ≤ ex ∧ ex ≤ 63 ∧ mt < 262144
set_option maxRecDepth 100000 in
set_option maxHeartbeats 12800000 in
theorem rgood6_c (fr ab ntp ts pk oc mt nb cb np cp nf cf ns cs nd cd : Nat) (ex ty ct : Int) (Ab Ap Af As Ad : Option Addr) (w : World) (hnb : ns ≤ 1000000) (hx1 : -9223372036854775808 ≤ ex) (hx2 : ex ≤ 9223372036854775807) :
    Calls Try.prog 27 #[.agg #[.int .i64 6, .int .u32 (fr : Int), .int .u32 (ab : Int), .int .u64 (ntp : Int), .int .u32 (ts : Int), .int .u32 (pk : Int), .int .u32 (oc : Int), .slice Ab nb cb, .slice Ap np cp, .slice Af nf cf, .int .i64 ex, .int .u32 (mt : Int), .slice As ns cs, .int .i64 ty, .int .i64 ct, .slice Ad nd cd]] w (BoolIs (RgP6 fr ab ntp ts pk oc mt nb np nf ns nd ex ty ct) w) := by
  obtain ⟨mz, hmz⟩ : ∃ mz : Int, mz = (mt : Int) := ⟨_, rfl⟩
  rw [← hmz]
  obtain ⟨g1, hg1⟩ : ∃ g1, g1 = w.heap.size := ⟨_, rfl⟩
  obtain ⟨w1, hw1⟩ : ∃ w1, w1 = w.alloc (.cells #[.int .i64 6, .int .u32 (fr : Int), .int .u32 (ab : Int), .int .u64 (ntp : Int), .int .u32 (ts : Int), .int .u32 (pk : Int), .int .u32 (oc : Int), .slice Ab nb cb, .slice Ap np cp, .slice Af nf cf, .int .i64 ex, .int .u32 mz, .slice As ns cs, .int .i64 ty, .int .i64 ct, .slice Ad nd cd] 40) := ⟨_, rfl⟩
  have HX1 : Hid (Blk w1 g1 40 #[.int .i64 6, .int .u32 (fr : Int), .int .u32 (ab : Int), .int .u64 (ntp : Int), .int .u32 (ts : Int), .int .u32 (pk : Int), .int .u32 (oc : Int), .slice Ab nb cb, .slice Ap np cp, .slice Af nf cf, .int .i64 ex, .int .u32 mz, .slice As ns cs, .int .i64 ty, .int .i64 ct, .slice Ad nd cd]) := by show Blk _ _ _ _; rw [hw1]; exact Blk.newAt hg1 _ _
  have HB1 : Hid (Below w.heap.size w w1) := by show Below _ _ _; rw [hw1]; exact balloc (Below.refl _ _) _
  have HBC : Hid (Calls Try.prog 44 #[.agg #[.int .i64 6, .int .u32 (fr : Int), .int .u32 (ab : Int), .int .u64 (ntp : Int), .int .u32 (ts : Int), .int .u32 (pk : Int), .int .u32 (oc : Int), .slice Ab nb cb, .slice Ap np cp, .slice Af nf cf, .int .i64 ex, .int .u32 mz, .slice As ns cs, .int .i64 ty, .int .i64 ct, .slice Ad nd cd]] w1 (BoolIs (ntp = 0 ∧ ts = 0 ∧ pk = 0 ∧ oc = 0 ∧ ty = 0 ∧ ct = 0 ∧ nb = 0 ∧ np = 0 ∧ nf = 0 ∧ nd = 0) w1)) := by
    have := rbare6_c fr ab ntp ts pk oc mt nb cb np cp nf cf ns cs nd cd ex ty ct Ab Ap Af As Ad w1
    rw [← hmz] at this
    exact this
  have HMZ := Lib.hid hmz
  have hmz0 : 0 ≤ mz := by omega
  clear hmz
  by_cases hn : ntp = 0 ∧ ts = 0 ∧ pk = 0 ∧ oc = 0 ∧ ty = 0 ∧ ct = 0 ∧ nb = 0 ∧ np = 0 ∧ nf = 0 ∧ nd = 0
  case neg =>
    have HNO := Lib.hid hn
    clear hn
    go_enter Try.func27, Try.ntmps27
    go_upto_region 1 with fail
    rw [← hw1, ← hg1]
    clear hw1 hg1
    have c0 : w1.cell? ⟨g1, 0, none⟩ = some (.int .i64 6) := HX1.out.cell 0
    have c1 : w1.cell? ⟨g1, 1, none⟩ = some (.int .u32 (fr : Int)) := HX1.out.cell 1
    have c2 : w1.cell? ⟨g1, 2, none⟩ = some (.int .u32 (ab : Int)) := HX1.out.cell 2
    have c3 : w1.cell? ⟨g1, 3, none⟩ = some (.int .u64 (ntp : Int)) := HX1.out.cell 3
    have c4 : w1.cell? ⟨g1, 4, none⟩ = some (.int .u32 (ts : Int)) := HX1.out.cell 4
    have c5 : w1.cell? ⟨g1, 5, none⟩ = some (.int .u32 (pk : Int)) := HX1.out.cell 5
    have c6 : w1.cell? ⟨g1, 6, none⟩ = some (.int .u32 (oc : Int)) := HX1.out.cell 6
    have c7 : w1.cell? ⟨g1, 7, none⟩ = some (.slice Ab nb cb) := HX1.out.cell 7
    have c8 : w1.cell? ⟨g1, 8, none⟩ = some (.slice Ap np cp) := HX1.out.cell 8
    have c9 : w1.cell? ⟨g1, 9, none⟩ = some (.slice Af nf cf) := HX1.out.cell 9
    have c10 : w1.cell? ⟨g1, 10, none⟩ = some (.int .i64 ex) := HX1.out.cell 10
    have c11 : w1.cell? ⟨g1, 11, none⟩ = some (.int .u32 mz) := HX1.out.cell 11
    have c12 : w1.cell? ⟨g1, 12, none⟩ = some (.slice As ns cs) := HX1.out.cell 12
    have c13 : w1.cell? ⟨g1, 13, none⟩ = some (.int .i64 ty) := HX1.out.cell 13
    have c14 : w1.cell? ⟨g1, 14, none⟩ = some (.int .i64 ct) := HX1.out.cell 14
    have c15 : w1.cell? ⟨g1, 15, none⟩ = some (.slice Ad nd cd) := HX1.out.cell 15
    go_upto_if 28 with (first
      | (go_at_call 44
         refine HBC.out.mono ?_
         rintro e9 w9 ⟨q, rfl, hq, hb9⟩
         have hqq : q = false := by cases q with | true => exact absurd (hq.1 rfl) HNO.out | false => rfl
         subst hqq
         have HX9 := Lib.hid (HX1.out.below hb9)
         have HBE : Hid (Below w.heap.size w w9) := bcall HB1.out hb9
         have d0 : w9.cell? ⟨g1, 0, none⟩ = some (.int .i64 6) := HX9.out.cell 0
         have d7 : w9.cell? ⟨g1, 7, none⟩ = some (.slice Ab nb cb) := HX9.out.cell 7
         have d12 : w9.cell? ⟨g1, 12, none⟩ = some (.slice As ns cs) := HX9.out.cell 12
         clear hq hb9))
    clear c0 c1 c2 c3 c4 c5 c6 c7 c8 c9 c10 c11 c12 c13 c14 c15
    go_wp2_with fail
    go_ret
    exact BoolIs.no (fun h => HNO.out h.1) HBE.out
  have HYES := Lib.hid hn
  obtain ⟨z_ntp, z_ts, z_pk, z_oc, z_ty, z_ct, z_nb, z_np, z_nf, z_nd⟩ := hn
  subst z_nb
  clear z_ntp z_ts z_pk z_oc z_ty z_ct z_np z_nf z_nd
  by_cases h255 : ns ≤ 255
  case neg =>
    have hbi : (255 : Int) < (ns : Int) := by omega
    go_enter Try.func27, Try.ntmps27
    go_upto_region 1 with fail
    rw [← hw1, ← hg1]
    clear hw1 hg1
    have c0 : w1.cell? ⟨g1, 0, none⟩ = some (.int .i64 6) := HX1.out.cell 0
    have c1 : w1.cell? ⟨g1, 1, none⟩ = some (.int .u32 (fr : Int)) := HX1.out.cell 1
    have c2 : w1.cell? ⟨g1, 2, none⟩ = some (.int .u32 (ab : Int)) := HX1.out.cell 2
    have c3 : w1.cell? ⟨g1, 3, none⟩ = some (.int .u64 (ntp : Int)) := HX1.out.cell 3
    have c4 : w1.cell? ⟨g1, 4, none⟩ = some (.int .u32 (ts : Int)) := HX1.out.cell 4
    have c5 : w1.cell? ⟨g1, 5, none⟩ = some (.int .u32 (pk : Int)) := HX1.out.cell 5
    have c6 : w1.cell? ⟨g1, 6, none⟩ = some (.int .u32 (oc : Int)) := HX1.out.cell 6
    have c7 : w1.cell? ⟨g1, 7, none⟩ = some (.slice Ab 0 cb) := HX1.out.cell 7
    have c8 : w1.cell? ⟨g1, 8, none⟩ = some (.slice Ap np cp) := HX1.out.cell 8
    have c9 : w1.cell? ⟨g1, 9, none⟩ = some (.slice Af nf cf) := HX1.out.cell 9
    have c10 : w1.cell? ⟨g1, 10, none⟩ = some (.int .i64 ex) := HX1.out.cell 10
    have c11 : w1.cell? ⟨g1, 11, none⟩ = some (.int .u32 mz) := HX1.out.cell 11
    have c12 : w1.cell? ⟨g1, 12, none⟩ = some (.slice As ns cs) := HX1.out.cell 12
    have c13 : w1.cell? ⟨g1, 13, none⟩ = some (.int .i64 ty) := HX1.out.cell 13
    have c14 : w1.cell? ⟨g1, 14, none⟩ = some (.int .i64 ct) := HX1.out.cell 14
    have c15 : w1.cell? ⟨g1, 15, none⟩ = some (.slice Ad nd cd) := HX1.out.cell 15
    go_upto_if 28 with (first
      | (go_at_call 44
         refine HBC.out.mono ?_
         rintro e9 w9 ⟨q, rfl, hq, hb9⟩
         have hqq : q = true := hq.2 HYES.out
         subst hqq
         have HX9 := Lib.hid (HX1.out.below hb9)
         have HBE : Hid (Below w.heap.size w w9) := bcall HB1.out hb9
         have d0 : w9.cell? ⟨g1, 0, none⟩ = some (.int .i64 6) := HX9.out.cell 0
         have d7 : w9.cell? ⟨g1, 7, none⟩ = some (.slice Ab 0 cb) := HX9.out.cell 7
         have d12 : w9.cell? ⟨g1, 12, none⟩ = some (.slice As ns cs) := HX9.out.cell 12
         clear hq hb9))
    clear c0 c1 c2 c3 c4 c5 c6 c7 c8 c9 c10 c11 c12 c13 c14 c15
    go_wp2_with fail
    go_ret
    exact BoolIs.no (fun h => h255 h.2.1) HBE.out
  have hbi : ¬ (255 : Int) < (ns : Int) := by omega
  go_enter Try.func27, Try.ntmps27
  go_upto_region 1 with fail
  rw [← hw1, ← hg1]
  clear hw1 hg1
  have c0 : w1.cell? ⟨g1, 0, none⟩ = some (.int .i64 6) := HX1.out.cell 0
  have c1 : w1.cell? ⟨g1, 1, none⟩ = some (.int .u32 (fr : Int)) := HX1.out.cell 1
  have c2 : w1.cell? ⟨g1, 2, none⟩ = some (.int .u32 (ab : Int)) := HX1.out.cell 2
  have c3 : w1.cell? ⟨g1, 3, none⟩ = some (.int .u64 (ntp : Int)) := HX1.out.cell 3
  have c4 : w1.cell? ⟨g1, 4, none⟩ = some (.int .u32 (ts : Int)) := HX1.out.cell 4
  have c5 : w1.cell? ⟨g1, 5, none⟩ = some (.int .u32 (pk : Int)) := HX1.out.cell 5
  have c6 : w1.cell? ⟨g1, 6, none⟩ = some (.int .u32 (oc : Int)) := HX1.out.cell 6
  have c7 : w1.cell? ⟨g1, 7, none⟩ = some (.slice Ab 0 cb) := HX1.out.cell 7
  have c8 : w1.cell? ⟨g1, 8, none⟩ = some (.slice Ap np cp) := HX1.out.cell 8
  have c9 : w1.cell? ⟨g1, 9, none⟩ = some (.slice Af nf cf) := HX1.out.cell 9
  have c10 : w1.cell? ⟨g1, 10, none⟩ = some (.int .i64 ex) := HX1.out.cell 10
  have c11 : w1.cell? ⟨g1, 11, none⟩ = some (.int .u32 mz) := HX1.out.cell 11
  have c12 : w1.cell? ⟨g1, 12, none⟩ = some (.slice As ns cs) := HX1.out.cell 12
  have c13 : w1.cell? ⟨g1, 13, none⟩ = some (.int .i64 ty) := HX1.out.cell 13
  have c14 : w1.cell? ⟨g1, 14, none⟩ = some (.int .i64 ct) := HX1.out.cell 14
  have c15 : w1.cell? ⟨g1, 15, none⟩ = some (.slice Ad nd cd) := HX1.out.cell 15
  go_upto_if 28 with (first
    | (go_at_call 44
       refine HBC.out.mono ?_
       rintro e9 w9 ⟨q, rfl, hq, hb9⟩
       have hqq : q = true := hq.2 HYES.out
       subst hqq
       have HX9 := Lib.hid (HX1.out.below hb9)
       have HBE : Hid (Below w.heap.size w w9) := bcall HB1.out hb9
       have d0 : w9.cell? ⟨g1, 0, none⟩ = some (.int .i64 6) := HX9.out.cell 0
       have d7 : w9.cell? ⟨g1, 7, none⟩ = some (.slice Ab 0 cb) := HX9.out.cell 7
       have d12 : w9.cell? ⟨g1, 12, none⟩ = some (.slice As ns cs) := HX9.out.cell 12
       clear hq hb9))
  clear c0 c1 c2 c3 c4 c5 c6 c7 c8 c9 c10 c11 c12 c13 c14 c15
  have d10 : w9.cell? ⟨g1, 10, none⟩ = some (.int .i64 ex) := HX9.out.cell 10
  have d11 : w9.cell? ⟨g1, 11, none⟩ = some (.int .u32 mz) := HX9.out.cell 11
  go_upto_region 4 with fail
  go_loopg [3] 0 (fun gg v3 wx => gg = 0 ∧ v3 = .int .i64 0 ∧ wx = w9)
  case atStart => exact ⟨rfl, rfl, rfl⟩
  case round =>
    obtain ⟨hgg, rfl, rfl⟩ := hrel
    clear hgg
    have HY2 := Lib.hid HYES.out
    go_wp2_with fail
    all_goals go_ret
    all_goals have hmz := HMZ.out
    all_goals first
      | (refine BoolIs.no (fun h => ?_) HBE.out
         unfold RgP6 at h
         try simp only [bne_iff_ne, ne_eq, bne_eq_false_iff_eq] at *
         omega)
      | (refine BoolIs.yes ?_ HBE.out
         have hyy := HY2.out
         unfold RgP6
         try simp only [bne_iff_ne, ne_eq, bne_eq_false_iff_eq] at *
         omega)
      | (refine ⟨_, rfl, ?_, HBE.out⟩
         have hyy := HY2.out
         unfold RgP6
         try simp only [bne_iff_ne, ne_eq, bne_eq_false_iff_eq] at *
         try simp
         omega)
end Go.Proofs.Ytkfimncbfbbopaa
/- What the reference tells of a report of kind 7 (contract). Conditions: it lies in memory. (Printed by gen8g.py.) -/
set_option linter.unusedVariables false
set_option linter.unusedSimpArgs false
namespace Go.Proofs.Ytkfimncbfbbopaa
open Go.RowKit
attribute [local go_sem ↓] Go.wp_at_zero Go.wp_at_succ

theorem bool_ne7 (z : Int) : ((!(z != 7)) = true) ↔ z = 7 := by simp
def RgP7 (fr ab ntp ts pk oc mt nb np nf ns nd : Nat) (ex ty ct : Int) (b : List UInt8) : Prop := (fr = 0 ∧ ab = 0 ∧ ntp = 0 ∧ ts = 0 ∧ pk = 0 ∧ oc = 0 ∧ ex = 0 ∧ mt = 0 ∧ nb = 0 ∧ np = 0 ∧ nf = 0 ∧ ns = 0) ∧ 192 ≤ ty ∧ ty ≤ 223 ∧ 0 ≤ ct ∧ ct ≤ 31 ∧ nd % 4 = 0 ∧ kindS ty ct b = 7
set_option maxRecDepth 100000 in
set_option maxHeartbeats 12800000 in
theorem rgood7_c (fr ab ntp ts pk oc mt nb cb np cp nf cf ns cs nd cd : Nat) (ex ty ct : Int) (Ab Ap Af As Ad : Option Addr) (w : World) (b : List UInt8) (hd : SlV w (.slice Ad nd cd) b) (hnb : nd ≤ 100000000) :
    Calls Try.prog 27 #[.agg #[.int .i64 7, .int .u32 (fr : Int), .int .u32 (ab : Int), .int .u64 (ntp : Int), .int .u32 (ts : Int), .int .u32 (pk : Int), .int .u32 (oc : Int), .slice Ab nb cb, .slice Ap np cp, .slice Af nf cf, .int .i64 ex, .int .u32 (mt : Int), .slice As ns cs, .int .i64 ty, .int .i64 ct, .slice Ad nd cd]] w (BoolIs (RgP7 fr ab ntp ts pk oc mt nb np nf ns nd ex ty ct b) w) := by
  obtain ⟨g1, hg1⟩ : ∃ g1, g1 = w.heap.size := ⟨_, rfl⟩
  obtain ⟨w1, hw1⟩ : ∃ w1, w1 = w.alloc (.cells #[.int .i64 7, .int .u32 (fr : Int), .int .u32 (ab : Int), .int .u64 (ntp : Int), .int .u32 (ts : Int), .int .u32 (pk : Int), .int .u32 (oc : Int), .slice Ab nb cb, .slice Ap np cp, .slice Af nf cf, .int .i64 ex, .int .u32 (mt : Int), .slice As ns cs, .int .i64 ty, .int .i64 ct, .slice Ad nd cd] 40) := ⟨_, rfl⟩
  have HX1 : Hid (Blk w1 g1 40 #[.int .i64 7, .int .u32 (fr : Int), .int .u32 (ab : Int), .int .u64 (ntp : Int), .int .u32 (ts : Int), .int .u32 (pk : Int), .int .u32 (oc : Int), .slice Ab nb cb, .slice Ap np cp, .slice Af nf cf, .int .i64 ex, .int .u32 (mt : Int), .slice As ns cs, .int .i64 ty, .int .i64 ct, .slice Ad nd cd]) := by show Blk _ _ _ _; rw [hw1]; exact Blk.newAt hg1 _ _
  have HB1 : Hid (Below w.heap.size w w1) := by show Below _ _ _; rw [hw1]; exact balloc (Below.refl _ _) _
  have HBC : Hid (Calls Try.prog 44 #[.agg #[.int .i64 7, .int .u32 (fr : Int), .int .u32 (ab : Int), .int .u64 (ntp : Int), .int .u32 (ts : Int), .int .u32 (pk : Int), .int .u32 (oc : Int), .slice Ab nb cb, .slice Ap np cp, .slice Af nf cf, .int .i64 ex, .int .u32 (mt : Int), .slice As ns cs, .int .i64 ty, .int .i64 ct, .slice Ad nd cd]] w1 (BoolIs (fr = 0 ∧ ab = 0 ∧ ntp = 0 ∧ ts = 0 ∧ pk = 0 ∧ oc = 0 ∧ ex = 0 ∧ mt = 0 ∧ nb = 0 ∧ np = 0 ∧ nf = 0 ∧ ns = 0) w1)) := by
    have := rbare7_c fr ab ntp ts pk oc mt nb cb np cp nf cf ns cs nd cd ex ty ct Ab Ap Af As Ad w1
    exact this
  have HSD := Lib.hid hd
  clear hd
  by_cases hn : fr = 0 ∧ ab = 0 ∧ ntp = 0 ∧ ts = 0 ∧ pk = 0 ∧ oc = 0 ∧ ex = 0 ∧ mt = 0 ∧ nb = 0 ∧ np = 0 ∧ nf = 0 ∧ ns = 0
  case neg =>
    have HNO := Lib.hid hn
    clear hn
    go_enter Try.func27, Try.ntmps27
    go_upto_region 1 with fail
    rw [← hw1, ← hg1]
    clear hw1 hg1
    have c0 : w1.cell? ⟨g1, 0, none⟩ = some (.int .i64 7) := HX1.out.cell 0
    have c1 : w1.cell? ⟨g1, 1, none⟩ = some (.int .u32 (fr : Int)) := HX1.out.cell 1
    have c2 : w1.cell? ⟨g1, 2, none⟩ = some (.int .u32 (ab : Int)) := HX1.out.cell 2
    have c3 : w1.cell? ⟨g1, 3, none⟩ = some (.int .u64 (ntp : Int)) := HX1.out.cell 3
    have c4 : w1.cell? ⟨g1, 4, none⟩ = some (.int .u32 (ts : Int)) := HX1.out.cell 4
    have c5 : w1.cell? ⟨g1, 5, none⟩ = some (.int .u32 (pk : Int)) := HX1.out.cell 5
    have c6 : w1.cell? ⟨g1, 6, none⟩ = some (.int .u32 (oc : Int)) := HX1.out.cell 6
    have c7 : w1.cell? ⟨g1, 7, none⟩ = some (.slice Ab nb cb) := HX1.out.cell 7
    have c8 : w1.cell? ⟨g1, 8, none⟩ = some (.slice Ap np cp) := HX1.out.cell 8
    have c9 : w1.cell? ⟨g1, 9, none⟩ = some (.slice Af nf cf) := HX1.out.cell 9
    have c10 : w1.cell? ⟨g1, 10, none⟩ = some (.int .i64 ex) := HX1.out.cell 10
    have c11 : w1.cell? ⟨g1, 11, none⟩ = some (.int .u32 (mt : Int)) := HX1.out.cell 11
    have c12 : w1.cell? ⟨g1, 12, none⟩ = some (.slice As ns cs) := HX1.out.cell 12
    have c13 : w1.cell? ⟨g1, 13, none⟩ = some (.int .i64 ty) := HX1.out.cell 13
    have c14 : w1.cell? ⟨g1, 14, none⟩ = some (.int .i64 ct) := HX1.out.cell 14
    have c15 : w1.cell? ⟨g1, 15, none⟩ = some (.slice Ad nd cd) := HX1.out.cell 15
    go_upto_if 28 with (first
      | (go_at_call 44
         refine HBC.out.mono ?_
         rintro e9 w9 ⟨q, rfl, hq, hb9⟩
         have hqq : q = false := by cases q with | true => exact absurd (hq.1 rfl) HNO.out | false => rfl
         subst hqq
         have HX9 := Lib.hid (HX1.out.below hb9)
         have HBE : Hid (Below w.heap.size w w9) := bcall HB1.out hb9
         have d0 : w9.cell? ⟨g1, 0, none⟩ = some (.int .i64 7) := HX9.out.cell 0
         have d7 : w9.cell? ⟨g1, 7, none⟩ = some (.slice Ab nb cb) := HX9.out.cell 7
         have d12 : w9.cell? ⟨g1, 12, none⟩ = some (.slice As ns cs) := HX9.out.cell 12
         clear hq hb9))
    clear c0 c1 c2 c3 c4 c5 c6 c7 c8 c9 c10 c11 c12 c13 c14 c15
    go_wp2_with fail
    go_ret
    exact BoolIs.no (fun h => HNO.out h.1) HBE.out
  have HYES := Lib.hid hn
  obtain ⟨z_fr, z_ab, z_ntp, z_ts, z_pk, z_oc, z_ex, z_mt, z_nb, z_np, z_nf, z_ns⟩ := hn
  subst z_nb
  subst z_ns
  clear z_fr z_ab z_ntp z_ts z_pk z_oc z_ex z_mt z_np z_nf
  go_enter Try.func27, Try.ntmps27
  go_upto_region 1 with fail
  rw [← hw1, ← hg1]
  clear hw1 hg1
  have c0 : w1.cell? ⟨g1, 0, none⟩ = some (.int .i64 7) := HX1.out.cell 0
  have c1 : w1.cell? ⟨g1, 1, none⟩ = some (.int .u32 (fr : Int)) := HX1.out.cell 1
  have c2 : w1.cell? ⟨g1, 2, none⟩ = some (.int .u32 (ab : Int)) := HX1.out.cell 2
  have c3 : w1.cell? ⟨g1, 3, none⟩ = some (.int .u64 (ntp : Int)) := HX1.out.cell 3
  have c4 : w1.cell? ⟨g1, 4, none⟩ = some (.int .u32 (ts : Int)) := HX1.out.cell 4
  have c5 : w1.cell? ⟨g1, 5, none⟩ = some (.int .u32 (pk : Int)) := HX1.out.cell 5
  have c6 : w1.cell? ⟨g1, 6, none⟩ = some (.int .u32 (oc : Int)) := HX1.out.cell 6
  have c7 : w1.cell? ⟨g1, 7, none⟩ = some (.slice Ab 0 cb) := HX1.out.cell 7
  have c8 : w1.cell? ⟨g1, 8, none⟩ = some (.slice Ap np cp) := HX1.out.cell 8
  have c9 : w1.cell? ⟨g1, 9, none⟩ = some (.slice Af nf cf) := HX1.out.cell 9
  have c10 : w1.cell? ⟨g1, 10, none⟩ = some (.int .i64 ex) := HX1.out.cell 10
  have c11 : w1.cell? ⟨g1, 11, none⟩ = some (.int .u32 (mt : Int)) := HX1.out.cell 11
  have c12 : w1.cell? ⟨g1, 12, none⟩ = some (.slice As 0 cs) := HX1.out.cell 12
  have c13 : w1.cell? ⟨g1, 13, none⟩ = some (.int .i64 ty) := HX1.out.cell 13
  have c14 : w1.cell? ⟨g1, 14, none⟩ = some (.int .i64 ct) := HX1.out.cell 14
  have c15 : w1.cell? ⟨g1, 15, none⟩ = some (.slice Ad nd cd) := HX1.out.cell 15
  go_upto_if 28 with (first
    | (go_at_call 44
       refine HBC.out.mono ?_
       rintro e9 w9 ⟨q, rfl, hq, hb9⟩
       have hqq : q = true := hq.2 HYES.out
       subst hqq
       have HX9 := Lib.hid (HX1.out.below hb9)
       have HBE : Hid (Below w.heap.size w w9) := bcall HB1.out hb9
       have d0 : w9.cell? ⟨g1, 0, none⟩ = some (.int .i64 7) := HX9.out.cell 0
       have d7 : w9.cell? ⟨g1, 7, none⟩ = some (.slice Ab 0 cb) := HX9.out.cell 7
       have d12 : w9.cell? ⟨g1, 12, none⟩ = some (.slice As 0 cs) := HX9.out.cell 12
       clear hq hb9))
  clear c0 c1 c2 c3 c4 c5 c6 c7 c8 c9 c10 c11 c12 c13 c14 c15
  have d13 : w9.cell? ⟨g1, 13, none⟩ = some (.int .i64 ty) := HX9.out.cell 13
  have d14 : w9.cell? ⟨g1, 14, none⟩ = some (.int .i64 ct) := HX9.out.cell 14
  have d15 : w9.cell? ⟨g1, 15, none⟩ = some (.slice Ad nd cd) := HX9.out.cell 15
  go_upto_region 4 with fail
  go_loopg [3] 0 (fun gg v3 wx => gg = 0 ∧ v3 = .int .i64 0 ∧ wx = w9)
  case atStart => exact ⟨rfl, rfl, rfl⟩
  case round =>
    obtain ⟨hgg, rfl, rfl⟩ := hrel
    clear hgg
    have HY2 := Lib.hid HYES.out
    go_wp2_with (first
      | (go_at_call 45
         refine (other_c ty ct b Ad nd cd _ (HSD.out.below HBE.out)).mono ?_
         rintro e7 w7 ⟨rfl, rfl⟩))
    all_goals go_ret
    all_goals first
      | (refine BoolIs.no (fun h => ?_) HBE.out
         unfold RgP7 at h
         obtain ⟨_, h1, h2, h3, h4, h5, h6⟩ := h
         omega)
      | (refine ⟨_, rfl, ?_, HBE.out⟩
         rw [bool_ne7]
         unfold RgP7
         refine ⟨fun h => ⟨(by have hyy := HY2.out; omega), by omega, by omega, by omega, by omega, by omega, h⟩, fun h => h.2.2.2.2.2.2⟩)
end Go.Proofs.Ytkfimncbfbbopaa
/- What GoodReport tells of any report (contract). Conditions: it lies in memory. (Printed by gen8g.py.) -/
set_option linter.unusedVariables false
set_option linter.unusedSimpArgs false
namespace Go.Proofs.Ytkfimncbfbbopaa
open Go.RowKit
attribute [local go_sem ↓] Go.wp_at_zero Go.wp_at_succ

set_option maxRecDepth 100000 in
set_option maxHeartbeats 6400000 in
theorem rgood0_c (kd : Int) (fr ab ntp ts pk oc mt nb cb np cp nf cf ns cs nd cd : Nat) (ex ty ct : Int) (Ab Ap Af As Ad : Option Addr) (w : World) (hk : ¬ (1 ≤ kd ∧ kd ≤ 7)) :
    Calls Try.prog 27 #[.agg #[.int .i64 kd, .int .u32 (fr : Int), .int .u32 (ab : Int), .int .u64 (ntp : Int), .int .u32 (ts : Int), .int .u32 (pk : Int), .int .u32 (oc : Int), .slice Ab nb cb, .slice Ap np cp, .slice Af nf cf, .int .i64 ex, .int .u32 (mt : Int), .slice As ns cs, .int .i64 ty, .int .i64 ct, .slice Ad nd cd]] w fun e w' => e = .returned (.bool false) ∧ Below w.heap.size w w' := by
  by_cases h1 : kd < 1
  · clear hk
    go_enter Try.func27, Try.ntmps27
    go_wp2_with fail
    go_ret
    exact ⟨rfl, balloc (Below.refl _ _) _⟩
  · have h7 : 7 < kd := by omega
    clear hk
    go_enter Try.func27, Try.ntmps27
    go_wp2_with fail
    go_ret
    exact ⟨rfl, balloc (Below.refl _ _) _⟩
set_option maxHeartbeats 3200000 in
theorem rgood_c (cs0 : Array Value) (r : Rep) (w : World) (h : RepV w cs0 r) (h1 : r.blocks.length ≤ 1000000) (h2 : r.pairs.length ≤ 1000000) (h3 : r.firs.length ≤ 1000000) (h4 : r.ssrcs.length ≤ 1000000) (h5 : r.body.length ≤ 1000000) (hx1 : -9223372036854775808 ≤ r.ex) (hx2 : r.ex ≤ 9223372036854775807) :
    Calls Try.prog 27 #[.agg cs0] w (BoolIs (goodS r) w) := by
  obtain ⟨vb, vp, vf, vs, vd, e1, hb, hp, hf, hs, hd⟩ := h
  subst e1
  obtain ⟨Ab, cb, eb, _, _⟩ := id hb
  subst eb
  obtain ⟨Ap, cp, ep, _, _⟩ := id hp
  subst ep
  obtain ⟨Af, cf, ef, _, _⟩ := id hf
  subst ef
  obtain ⟨As, cs, es, _, _⟩ := id hs
  subst es
  obtain ⟨Ad, cd, ed, _, _⟩ := id hd
  subst ed
  obtain ⟨kd, hkd⟩ : ∃ kd, kd = r.kind := ⟨_, rfl⟩
  unfold repA
  rw [← hkd]
  by_cases h17 : 1 ≤ kd ∧ kd ≤ 7
  case neg =>
    refine (rgood0_c kd _ _ _ _ _ _ _ _ _ _ _ _ _ _ _ _ _ _ _ _ _ _ _ _ _ w h17).mono ?_
    rintro e w' ⟨rfl, hb⟩
    exact BoolIs.no (fun h => h17 (by rw [hkd]; exact goodS_kind h)) hb
  by_cases h_1 : kd = 1
  · subst h_1
    refine (rgood1_c r.fr r.ab r.ntp r.ts r.pk r.oc r.mt r.blocks.length cb r.pairs.length cp r.firs.length cf r.ssrcs.length cs r.body.length cd r.ex r.ty r.ct Ab Ap Af As Ad w r.blocks hb h1).mono ?_
    intro e w' h
    refine h.iff ⟨fun h => ⟨1, hkd.symm, h.1, h.2⟩, fun h => ?_⟩
    obtain ⟨k', hk', hn', hc'⟩ := h
    have : k' = 1 := by omega
    subst this
    exact ⟨hn', hc'⟩
  by_cases h_2 : kd = 2
  · subst h_2
    refine (rgood2_c r.fr r.ab r.ntp r.ts r.pk r.oc r.mt r.blocks.length cb r.pairs.length cp r.firs.length cf r.ssrcs.length cs r.body.length cd r.ex r.ty r.ct Ab Ap Af As Ad w r.blocks hb h1).mono ?_
    intro e w' h
    refine h.iff ⟨fun h => ⟨2, hkd.symm, h.1, h.2⟩, fun h => ?_⟩
    obtain ⟨k', hk', hn', hc'⟩ := h
    have : k' = 2 := by omega
    subst this
    exact ⟨hn', hc'⟩
  by_cases h_3 : kd = 3
  · subst h_3
    refine (rgood3_c r.fr r.ab r.ntp r.ts r.pk r.oc r.mt r.blocks.length cb r.pairs.length cp r.firs.length cf r.ssrcs.length cs r.body.length cd r.ex r.ty r.ct Ab Ap Af As Ad w h2).mono ?_
    intro e w' h
    refine h.iff ⟨fun h => ⟨3, hkd.symm, h.1, h.2⟩, fun h => ?_⟩
    obtain ⟨k', hk', hn', hc'⟩ := h
    have : k' = 3 := by omega
    subst this
    exact ⟨hn', hc'⟩
  by_cases h_4 : kd = 4
  · subst h_4
    refine (rgood4_c r.fr r.ab r.ntp r.ts r.pk r.oc r.mt r.blocks.length cb r.pairs.length cp r.firs.length cf r.ssrcs.length cs r.body.length cd r.ex r.ty r.ct Ab Ap Af As Ad w).mono ?_
    intro e w' h
    refine h.iff ⟨fun h => ⟨4, hkd.symm, h.1, h.2⟩, fun h => ?_⟩
    obtain ⟨k', hk', hn', hc'⟩ := h
    have : k' = 4 := by omega
    subst this
    exact ⟨hn', hc'⟩
  by_cases h_5 : kd = 5
  · subst h_5
    refine (rgood5_c r.fr r.ab r.ntp r.ts r.pk r.oc r.mt r.blocks.length cb r.pairs.length cp r.firs.length cf r.ssrcs.length cs r.body.length cd r.ex r.ty r.ct Ab Ap Af As Ad w h3).mono ?_
    intro e w' h
    refine h.iff ⟨fun h => ⟨5, hkd.symm, h.1, h.2⟩, fun h => ?_⟩
    obtain ⟨k', hk', hn', hc'⟩ := h
    have : k' = 5 := by omega
    subst this
    exact ⟨hn', hc'⟩
  by_cases h_6 : kd = 6
  · subst h_6
    refine (rgood6_c r.fr r.ab r.ntp r.ts r.pk r.oc r.mt r.blocks.length cb r.pairs.length cp r.firs.length cf r.ssrcs.length cs r.body.length cd r.ex r.ty r.ct Ab Ap Af As Ad w h4 hx1 hx2).mono ?_
    intro e w' h
    refine h.iff ⟨fun h => ⟨6, hkd.symm, h.1, h.2⟩, fun h => ?_⟩
    obtain ⟨k', hk', hn', hc'⟩ := h
    have : k' = 6 := by omega
    subst this
    exact ⟨hn', hc'⟩
  by_cases h_7 : kd = 7
  · subst h_7
    refine (rgood7_c r.fr r.ab r.ntp r.ts r.pk r.oc r.mt r.blocks.length cb r.pairs.length cp r.firs.length cf r.ssrcs.length cs r.body.length cd r.ex r.ty r.ct Ab Ap Af As Ad w r.body hd (by omega)).mono ?_
    intro e w' h
    refine h.iff ⟨fun h => ⟨7, hkd.symm, h.1, h.2⟩, fun h => ?_⟩
    obtain ⟨k', hk', hn', hc'⟩ := h
    have : k' = 7 := by omega
    subst this
    exact ⟨hn', hc'⟩
  exact absurd h17 (by omega)
end Go.Proofs.Ytkfimncbfbbopaa
