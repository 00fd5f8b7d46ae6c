/- Texts of this claim, one behind the other: Good1, Good2, Good3, Good4, Good5, Good6, Good7, GoodA. Each says ahead of itself what it proves, and its conditions. -/
import Derived.Test.YtkfimncbfbbopaaGh
import Derived.Test.YtkfimncbfbbopaaGj
import Derived.Test.YtkfimncbfbbopaaGi
/- What Good tells of a report of one kind (contract). Conditions: what it has lies in memory. (Printed by gen8g.py.) -/
set_option linter.unusedVariables false
set_option linter.unusedSimpArgs false
namespace Go.Proofs.Ytkfimncbfbbopaa
open Go.RowKit
attribute [local go_sem ↓] Go.wp_at_zero Go.wp_at_succ

set_option maxRecDepth 100000 in
set_option maxHeartbeats 12800000 in
theorem good1_c (fr ab ntp ts pk oc mt nb cb np cp nf cf ns cs nd cd : Nat) (ex ty ct : Int) (Ab Ap Af As Ad : Option Addr) (w : World) (blocks : List (List Nat)) (hbs : SlR w ks7 (.slice Ab nb cb) blocks) (hnb : nb ≤ 1000000) :
    Calls Try.prog 26 #[.agg #[.int .i64 1, .int .u32 (fr : Int), .int .u32 (ab : Int), .int .u64 (ntp : Int), .int .u32 (ts : Int), .int .u32 (pk : Int), .int .u32 (oc : Int), .slice Ab nb cb, .slice Ap np cp, .slice Af nf cf, .int .i64 ex, .int .u32 (mt : Int), .slice As ns cs, .int .i64 ty, .int .i64 ct, .slice Ad nd cd]] w (BoolIs (AlikeV fr ab ntp ts pk oc mt nb cb np cp nf cf ns cs nd cd ex ty ct Ab Ap Af As Ad fr 0 ntp ts pk oc 0 nb cb 0 0 0 0 0 0 0 0 0 0 0 Ab none none none none ∧ (nb ≤ 31 ∧ ¬ ∃ e ∈ blocks, bigE e)) w) := by
  obtain ⟨P, hP⟩ : ∃ P : Prop, P = (AlikeV fr ab ntp ts pk oc mt nb cb np cp nf cf ns cs nd cd ex ty ct Ab Ap Af As Ad fr 0 ntp ts pk oc 0 nb cb 0 0 0 0 0 0 0 0 0 0 0 Ab none none none none ∧ (nb ≤ 31 ∧ ¬ ∃ e ∈ blocks, bigE e)) := ⟨_, rfl⟩
  rw [← hP]
  obtain ⟨g1, hg1⟩ : ∃ g1, g1 = w.heap.size := ⟨_, rfl⟩
  obtain ⟨w1, hw1⟩ : ∃ w1, w1 = w.alloc (.cells #[.int .i64 1, .int .u32 (fr : Int), .int .u32 (ab : Int), .int .u64 (ntp : Int), .int .u32 (ts : Int), .int .u32 (pk : Int), .int .u32 (oc : Int), .slice Ab nb cb, .slice Ap np cp, .slice Af nf cf, .int .i64 ex, .int .u32 (mt : Int), .slice As ns cs, .int .i64 ty, .int .i64 ct, .slice Ad nd cd] 46) := ⟨_, rfl⟩
  have HG : Hid (Blk w1 g1 46 #[.int .i64 1, .int .u32 (fr : Int), .int .u32 (ab : Int), .int .u64 (ntp : Int), .int .u32 (ts : Int), .int .u32 (pk : Int), .int .u32 (oc : Int), .slice Ab nb cb, .slice Ap np cp, .slice Af nf cf, .int .i64 ex, .int .u32 (mt : Int), .slice As ns cs, .int .i64 ty, .int .i64 ct, .slice Ad nd cd]) := by show Blk _ _ _ _; rw [hw1]; exact Blk.newAt hg1 _ _
  have HB : Hid (Below w.heap.size w w1) := by show Below _ _ _; rw [hw1]; exact balloc (Below.refl _ _) _
  have HPE := Lib.hid hP
  have HGL : Hid (g1 < w1.heap.size) := HG.out.lt
  have HBS : Hid (SlR w1 ks7 (.slice Ab nb cb) blocks) := hbs.below HB.out
  clear hbs
  clear hP
  go_enter Try.func26, Try.ntmps26
  go_upto_region 1 with fail
  rw [← hw1, ← hg1]
  clear hw1 hg1
  obtain ⟨Bq, hBq⟩ : ∃ Bq, Bq = w1.heap.size := ⟨_, rfl⟩
  have HBQ := Lib.hid hBq
  clear hBq
  have HBd : Hid (Below w1.heap.size w1 (World.drew w1)) := bdrew (Below.refl _ _)
  have HI : Hid ((Try.prog.info? 46).map (·.size) = some ([.int .i64 1, .int .u32 (fr : Int), .int .u32 (ab : Int), .int .u64 (ntp : Int), .int .u32 (ts : Int), .int .u32 (pk : Int), .int .u32 (oc : Int), .slice Ab nb cb, .slice Ap np cp, .slice Af nf cf, .int .i64 ex, .int .u32 (mt : Int), .slice As ns cs, .int .i64 ty, .int .i64 ct, .slice Ad nd cd] : List Value).length) := infoRep
  have HRG : Hid (w1.rangeAt g1 0 [.int .i64 1, .int .u32 (fr : Int), .int .u32 (ab : Int), .int .u64 (ntp : Int), .int .u32 (ts : Int), .int .u32 (pk : Int), .int .u32 (oc : Int), .slice Ab nb cb, .slice Ap np cp, .slice Af nf cf, .int .i64 ex, .int .u32 (mt : Int), .slice As ns cs, .int .i64 ty, .int .i64 ct, .slice Ad nd cd]) := blk_range (l := [.int .i64 1, .int .u32 (fr : Int), .int .u32 (ab : Int), .int .u64 (ntp : Int), .int .u32 (ts : Int), .int .u32 (pk : Int), .int .u32 (oc : Int), .slice Ab nb cb, .slice Ap np cp, .slice Af nf cf, .int .i64 ex, .int .u32 (mt : Int), .slice As ns cs, .int .i64 ty, .int .i64 ct, .slice Ad nd cd]) HG.out
  refine wp_region_held_drew (S := (fun w2 => Below Bq w1 w2)) (by kernel_rfl) (HBQ.out.symm ▸ HBd.out) (fun hHeld => ?_)
  refine wpAnyH_takeAt (i := 0) (v := (.pointer (some ⟨g1, 0, none⟩))) rfl (by kernel_rfl) (by kernel_rfl) (by kernel_rfl) (fun _ _ _ h => h) rfl (Or.inl ⟨by rfl, fun w' hS => ?_⟩) hHeld ?_
  · go_simp
  simp only [List.set_cons_zero, List.set_cons_succ]
  refine wpAnyH_takeAt (i := 1) (v := (.int .i64 1)) rfl (by kernel_rfl) (by kernel_rfl) (by kernel_rfl) (fun _ _ _ h => h) rfl (Or.inl ⟨by rfl, fun w' hS => ?_⟩) hHeld ?_
  · have hc := (Below.cell hS (p := ⟨g1, 0, none⟩) (HBQ.out.symm ▸ HGL.out)).trans (HG.out.cell 0)
    have hc' : w'.cell? ⟨g1, 0, none⟩ = some (.int .i64 1) := hc
    go_simp
  simp only [List.set_cons_zero, List.set_cons_succ]
  refine wpAnyH_takeAt (i := 2) (v := (.bool false)) rfl (by kernel_rfl) (by kernel_rfl) (by kernel_rfl) (fun _ _ _ h => h) rfl (Or.inl ⟨by rfl, fun w' hS => ?_⟩) hHeld ?_
  · go_simp
  simp only [List.set_cons_zero, List.set_cons_succ]
  refine wpAnyH_takeAt (i := 3) (v := (.bool false)) rfl (by kernel_rfl) (by kernel_rfl) (by kernel_rfl) (fun _ _ _ h => h) rfl (Or.inl ⟨by rfl, fun w' hS => ?_⟩) hHeld ?_
  · go_simp
  simp only [List.set_cons_zero, List.set_cons_succ]
  refine wpAnyH_takeAt (i := 4) (v := (.pointer (some ⟨g1, 0, none⟩))) rfl (by kernel_rfl) (by kernel_rfl) (by kernel_rfl) (fun _ _ _ h => h) rfl (Or.inl ⟨by rfl, fun w' hS => ?_⟩) hHeld ?_
  · go_simp
  simp only [List.set_cons_zero, List.set_cons_succ]
  refine wpAnyH_takeAt (i := 5) (v := (.int .i64 1)) rfl (by kernel_rfl) (by kernel_rfl) (by kernel_rfl) (fun _ _ _ h => h) rfl (Or.inl ⟨by rfl, fun w' hS => ?_⟩) hHeld ?_
  · have hc := (Below.cell hS (p := ⟨g1, 0, none⟩) (HBQ.out.symm ▸ HGL.out)).trans (HG.out.cell 0)
    have hc' : w'.cell? ⟨g1, 0, none⟩ = some (.int .i64 1) := hc
    go_simp
  simp only [List.set_cons_zero, List.set_cons_succ]
  refine wpAnyH_takeAt (i := 6) (v := (.bool false)) rfl (by kernel_rfl) (by kernel_rfl) (by kernel_rfl) (fun _ _ _ h => h) rfl (Or.inl ⟨by rfl, fun w' hS => ?_⟩) hHeld ?_
  · go_simp
  simp only [List.set_cons_zero, List.set_cons_succ]
  refine wpAnyH_takeAt (i := 7) (v := (.bool false)) rfl (by kernel_rfl) (by kernel_rfl) (by kernel_rfl) (fun _ _ _ h => h) rfl (Or.inl ⟨by rfl, fun w' hS => ?_⟩) hHeld ?_
  · go_simp
  simp only [List.set_cons_zero, List.set_cons_succ]
  refine wpAnyH_takeAt (i := 8) (v := (.bool false)) rfl (by kernel_rfl) (by kernel_rfl) (by kernel_rfl) (fun _ _ _ h => h) rfl (Or.inl ⟨by rfl, fun w' hS => ?_⟩) hHeld ?_
  · go_simp
  simp only [List.set_cons_zero, List.set_cons_succ]
  refine wpAnyH_takeAt (i := 9) (v := (.agg #[.int .i64 1, .int .u32 (fr : Int), .int .u32 (ab : Int), .int .u64 (ntp : Int), .int .u32 (ts : Int), .int .u32 (pk : Int), .int .u32 (oc : Int), .slice Ab nb cb, .slice Ap np cp, .slice Af nf cf, .int .i64 ex, .int .u32 (mt : Int), .slice As ns cs, .int .i64 ty, .int .i64 ct, .slice Ad nd cd])) rfl (by kernel_rfl) (by kernel_rfl) (by kernel_rfl) (fun _ _ _ h => h) rfl (yieldsIf_load_mid (by rfl) 46 _ rfl g1 0 rfl [.int .i64 1, .int .u32 (fr : Int), .int .u32 (ab : Int), .int .u64 (ntp : Int), .int .u32 (ts : Int), .int .u32 (pk : Int), .int .u32 (oc : Int), .slice Ab nb cb, .slice Ap np cp, .slice Af nf cf, .int .i64 ex, .int .u32 (mt : Int), .slice As ns cs, .int .i64 ty, .int .i64 ct, .slice Ad nd cd] _ (fun w' hS => below_range HRG.out hS (HBQ.out.symm ▸ HGL.out)) Try.underlying46 rfl HI.out) hHeld ?_
  simp only [List.set_cons_zero, List.set_cons_succ]
  refine wpAnyH_takeAt (i := 10) (v := (.agg #[.int .i64 1, .int .u32 (fr : Int), .int .u32 (ab : Int), .int .u64 (ntp : Int), .int .u32 (ts : Int), .int .u32 (pk : Int), .int .u32 (oc : Int), .slice Ab nb cb, .slice Ap np cp, .slice Af nf cf, .int .i64 ex, .int .u32 (mt : Int), .slice As ns cs, .int .i64 ty, .int .i64 ct, .slice Ad nd cd])) rfl (by kernel_rfl) (by kernel_rfl) (by kernel_rfl) (fun _ _ _ h => h) rfl (yieldsIf_load_mid (by rfl) 46 _ rfl g1 0 rfl [.int .i64 1, .int .u32 (fr : Int), .int .u32 (ab : Int), .int .u64 (ntp : Int), .int .u32 (ts : Int), .int .u32 (pk : Int), .int .u32 (oc : Int), .slice Ab nb cb, .slice Ap np cp, .slice Af nf cf, .int .i64 ex, .int .u32 (mt : Int), .slice As ns cs, .int .i64 ty, .int .i64 ct, .slice Ad nd cd] _ (fun w' hS => below_range HRG.out hS (HBQ.out.symm ▸ HGL.out)) Try.underlying46 rfl HI.out) hHeld ?_
  simp only [List.set_cons_zero, List.set_cons_succ]
  refine wpAnyH_ready (rs := [11]) (by kernel_rfl) (by simp) (AllReadyH.cons rfl (fun K' hK => ?_) AllReadyH.nil)
  go_simp
  go_at_call 40
  refine (bare1_c _ _ _ _ _ _ _ _ _ _ _ _ _ _ _ _ _ _ _ _ _ _ _ _ _ _).mono ?_
  rintro e0 w2 ⟨rfl, hb2⟩
  go_wp2_with fail
  have HB2 : Hid (Below w1.heap.size w1 w2) := bcall HBd.out hb2
  clear hb2
  refine hK.out _ _ (HBQ.out.symm ▸ HB2.out) (fun hHeld' => ?_)
  clear hK hHeld
  have hHeld := hHeld'
  clear hHeld'
  refine wpAnyH_ready (rs := [12]) (by kernel_rfl) (by simp) (AllReadyH.cons rfl (fun K' hK => ?_) AllReadyH.nil)
  go_simp
  go_at_call 39
  refine (alike_c _ _ fr ab ntp ts pk oc mt nb cb np cp nf cf ns cs nd cd ex ty ct Ab Ap Af As Ad fr 0 ntp ts pk oc 0 nb cb 0 0 0 0 0 0 0 0 0 0 0 Ab none none none none _).mono ?_
  rintro e0 w3 ⟨q, rfl, hq, hb3⟩
  go_wp2_with fail
  have HQ := Lib.hid hq
  have HB3 : Hid (Below w1.heap.size w1 w3) := bcall HB2.out hb3
  clear hq hb3
  refine hK.out _ _ (HBQ.out.symm ▸ HB3.out) (fun hHeld' => ?_)
  clear hK hHeld
  have hHeld := hHeld'
  clear hHeld'
  refine wpAnyH_takeAt (i := 13) (v := (.bool (!q))) rfl (by kernel_rfl) (by kernel_rfl) (by kernel_rfl) (fun _ _ _ h => h) rfl (Or.inl ⟨by rfl, fun w' hS => ?_⟩) hHeld ?_
  · go_simp
  simp only [List.set_cons_zero, List.set_cons_succ]
  refine wpAnyH_takeAt (i := 14) (v := (.bool (!q))) rfl (by kernel_rfl) (by kernel_rfl) (by kernel_rfl) (fun _ _ _ h => h) rfl (Or.inl ⟨by rfl, fun w' hS => ?_⟩) hHeld ?_
  · go_simp
  simp only [List.set_cons_zero, List.set_cons_succ]
  refine wpAnyH_done (by kernel_rfl) ?_ _
  have HBW : Hid (Below w.heap.size w w3) := bcall HB.out HB3.out
  cases q with
  | false =>
    have HN : Hid (¬ P) := by show ¬ P; rw [HPE.out]; exact fun h => absurd (HQ.out.2 h.1) (by decide)
    go_wp2_with fail
    go_ret
    exact BoolIs.no HN.out HBW.out
  | true =>
    have HA : Hid (P ↔ (nb ≤ 31 ∧ ¬ ∃ e ∈ blocks, bigE e)) := by show _ ↔ _; rw [HPE.out]; exact and_iff_right (HQ.out.1 rfl)
    have HG3 : Hid (Blk w3 g1 46 #[.int .i64 1, .int .u32 (fr : Int), .int .u32 (ab : Int), .int .u64 (ntp : Int), .int .u32 (ts : Int), .int .u32 (pk : Int), .int .u32 (oc : Int), .slice Ab nb cb, .slice Ap np cp, .slice Af nf cf, .int .i64 ex, .int .u32 (mt : Int), .slice As ns cs, .int .i64 ty, .int .i64 ct, .slice Ad nd cd]) := HG.out.below HB3.out
    have k0 : w3.cell? ⟨g1, 0, none⟩ = some (.int .i64 1) := HG3.out.cell 0
    have k7 : w3.cell? ⟨g1, 7, none⟩ = some (.slice Ab nb cb) := HG3.out.cell 7
    by_cases h31 : nb ≤ 31
    case neg =>
      have h31i : ¬ (nb : Int) ≤ 31 := by omega
      have h31d : decide ((nb : Int) ≤ 31) = false := by simp; omega
      have HN : Hid (¬ P) := by show ¬ P; rw [HA.out]; exact fun h => h31 h.1
      clear h31
      go_wp2_with fail
      go_ret
      exact BoolIs.no HN.out HBW.out
    have h31i : (nb : Int) ≤ 31 := by omega
    have h31d : decide ((nb : Int) ≤ 31) = true := by simp; omega
    go_wp2_with (first
      | (go_at_call 41
         refine (contB_c blocks Ab nb cb w3 (HBS.out.below HB3.out) (by omega)).mono ?_
         rintro e9 w9 ⟨q, rfl, hq, hb9⟩
         have HQ9 := Lib.hid hq
         have HB9 : Hid (Below w.heap.size w w9) := bcall HBW.out hb9
         clear hq hb9))
    go_ret
    refine ⟨!q, rfl, ?_, HB9.out⟩
    rw [HA.out, ← HQ9.out]
    cases q <;> simp [h31]
end Go.Proofs.Ytkfimncbfbbopaa
/- What Good tells of a report of one kind (contract). Conditions: what it has lies in memory. (Printed by gen8g.py.) -/
set_option linter.unusedVariables false
set_option linter.unusedSimpArgs false
namespace Go.Proofs.Ytkfimncbfbbopaa
open Go.RowKit
attribute [local go_sem ↓] Go.wp_at_zero Go.wp_at_succ

set_option maxRecDepth 100000 in
set_option maxHeartbeats 12800000 in
theorem good2_c (fr ab ntp ts pk oc mt nb cb np cp nf cf ns cs nd cd : Nat) (ex ty ct : Int) (Ab Ap Af As Ad : Option Addr) (w : World) (blocks : List (List Nat)) (hbs : SlR w ks7 (.slice Ab nb cb) blocks) (hnb : nb ≤ 1000000) :
    Calls Try.prog 26 #[.agg #[.int .i64 2, .int .u32 (fr : Int), .int .u32 (ab : Int), .int .u64 (ntp : Int), .int .u32 (ts : Int), .int .u32 (pk : Int), .int .u32 (oc : Int), .slice Ab nb cb, .slice Ap np cp, .slice Af nf cf, .int .i64 ex, .int .u32 (mt : Int), .slice As ns cs, .int .i64 ty, .int .i64 ct, .slice Ad nd cd]] w (BoolIs (AlikeV fr ab ntp ts pk oc mt nb cb np cp nf cf ns cs nd cd ex ty ct Ab Ap Af As Ad fr 0 0 0 0 0 0 nb cb 0 0 0 0 0 0 0 0 0 0 0 Ab none none none none ∧ (nb ≤ 31 ∧ ¬ ∃ e ∈ blocks, bigE e)) w) := by
  obtain ⟨P, hP⟩ : ∃ P : Prop, P = (AlikeV fr ab ntp ts pk oc mt nb cb np cp nf cf ns cs nd cd ex ty ct Ab Ap Af As Ad fr 0 0 0 0 0 0 nb cb 0 0 0 0 0 0 0 0 0 0 0 Ab none none none none ∧ (nb ≤ 31 ∧ ¬ ∃ e ∈ blocks, bigE e)) := ⟨_, rfl⟩
  rw [← hP]
  obtain ⟨g1, hg1⟩ : ∃ g1, g1 = w.heap.size := ⟨_, rfl⟩
  obtain ⟨w1, hw1⟩ : ∃ w1, w1 = w.alloc (.cells #[.int .i64 2, .int .u32 (fr : Int), .int .u32 (ab : Int), .int .u64 (ntp : Int), .int .u32 (ts : Int), .int .u32 (pk : Int), .int .u32 (oc : Int), .slice Ab nb cb, .slice Ap np cp, .slice Af nf cf, .int .i64 ex, .int .u32 (mt : Int), .slice As ns cs, .int .i64 ty, .int .i64 ct, .slice Ad nd cd] 46) := ⟨_, rfl⟩
  have HG : Hid (Blk w1 g1 46 #[.int .i64 2, .int .u32 (fr : Int), .int .u32 (ab : Int), .int .u64 (ntp : Int), .int .u32 (ts : Int), .int .u32 (pk : Int), .int .u32 (oc : Int), .slice Ab nb cb, .slice Ap np cp, .slice Af nf cf, .int .i64 ex, .int .u32 (mt : Int), .slice As ns cs, .int .i64 ty, .int .i64 ct, .slice Ad nd cd]) := by show Blk _ _ _ _; rw [hw1]; exact Blk.newAt hg1 _ _
  have HB : Hid (Below w.heap.size w w1) := by show Below _ _ _; rw [hw1]; exact balloc (Below.refl _ _) _
  have HPE := Lib.hid hP
  have HGL : Hid (g1 < w1.heap.size) := HG.out.lt
  have HBS : Hid (SlR w1 ks7 (.slice Ab nb cb) blocks) := hbs.below HB.out
  clear hbs
  clear hP
  go_enter Try.func26, Try.ntmps26
  go_upto_region 1 with fail
  rw [← hw1, ← hg1]
  clear hw1 hg1
  obtain ⟨Bq, hBq⟩ : ∃ Bq, Bq = w1.heap.size := ⟨_, rfl⟩
  have HBQ := Lib.hid hBq
  clear hBq
  have HBd : Hid (Below w1.heap.size w1 (World.drew w1)) := bdrew (Below.refl _ _)
  have HI : Hid ((Try.prog.info? 46).map (·.size) = some ([.int .i64 2, .int .u32 (fr : Int), .int .u32 (ab : Int), .int .u64 (ntp : Int), .int .u32 (ts : Int), .int .u32 (pk : Int), .int .u32 (oc : Int), .slice Ab nb cb, .slice Ap np cp, .slice Af nf cf, .int .i64 ex, .int .u32 (mt : Int), .slice As ns cs, .int .i64 ty, .int .i64 ct, .slice Ad nd cd] : List Value).length) := infoRep
  have HRG : Hid (w1.rangeAt g1 0 [.int .i64 2, .int .u32 (fr : Int), .int .u32 (ab : Int), .int .u64 (ntp : Int), .int .u32 (ts : Int), .int .u32 (pk : Int), .int .u32 (oc : Int), .slice Ab nb cb, .slice Ap np cp, .slice Af nf cf, .int .i64 ex, .int .u32 (mt : Int), .slice As ns cs, .int .i64 ty, .int .i64 ct, .slice Ad nd cd]) := blk_range (l := [.int .i64 2, .int .u32 (fr : Int), .int .u32 (ab : Int), .int .u64 (ntp : Int), .int .u32 (ts : Int), .int .u32 (pk : Int), .int .u32 (oc : Int), .slice Ab nb cb, .slice Ap np cp, .slice Af nf cf, .int .i64 ex, .int .u32 (mt : Int), .slice As ns cs, .int .i64 ty, .int .i64 ct, .slice Ad nd cd]) HG.out
  refine wp_region_held_drew (S := (fun w2 => Below Bq w1 w2)) (by kernel_rfl) (HBQ.out.symm ▸ HBd.out) (fun hHeld => ?_)
  refine wpAnyH_takeAt (i := 0) (v := (.pointer (some ⟨g1, 0, none⟩))) rfl (by kernel_rfl) (by kernel_rfl) (by kernel_rfl) (fun _ _ _ h => h) rfl (Or.inl ⟨by rfl, fun w' hS => ?_⟩) hHeld ?_
  · go_simp
  simp only [List.set_cons_zero, List.set_cons_succ]
  refine wpAnyH_takeAt (i := 1) (v := (.int .i64 2)) rfl (by kernel_rfl) (by kernel_rfl) (by kernel_rfl) (fun _ _ _ h => h) rfl (Or.inl ⟨by rfl, fun w' hS => ?_⟩) hHeld ?_
  · have hc := (Below.cell hS (p := ⟨g1, 0, none⟩) (HBQ.out.symm ▸ HGL.out)).trans (HG.out.cell 0)
    have hc' : w'.cell? ⟨g1, 0, none⟩ = some (.int .i64 2) := hc
    go_simp
  simp only [List.set_cons_zero, List.set_cons_succ]
  refine wpAnyH_takeAt (i := 2) (v := (.bool false)) rfl (by kernel_rfl) (by kernel_rfl) (by kernel_rfl) (fun _ _ _ h => h) rfl (Or.inl ⟨by rfl, fun w' hS => ?_⟩) hHeld ?_
  · go_simp
  simp only [List.set_cons_zero, List.set_cons_succ]
  refine wpAnyH_takeAt (i := 3) (v := (.bool false)) rfl (by kernel_rfl) (by kernel_rfl) (by kernel_rfl) (fun _ _ _ h => h) rfl (Or.inl ⟨by rfl, fun w' hS => ?_⟩) hHeld ?_
  · go_simp
  simp only [List.set_cons_zero, List.set_cons_succ]
  refine wpAnyH_takeAt (i := 4) (v := (.pointer (some ⟨g1, 0, none⟩))) rfl (by kernel_rfl) (by kernel_rfl) (by kernel_rfl) (fun _ _ _ h => h) rfl (Or.inl ⟨by rfl, fun w' hS => ?_⟩) hHeld ?_
  · go_simp
  simp only [List.set_cons_zero, List.set_cons_succ]
  refine wpAnyH_takeAt (i := 5) (v := (.int .i64 2)) rfl (by kernel_rfl) (by kernel_rfl) (by kernel_rfl) (fun _ _ _ h => h) rfl (Or.inl ⟨by rfl, fun w' hS => ?_⟩) hHeld ?_
  · have hc := (Below.cell hS (p := ⟨g1, 0, none⟩) (HBQ.out.symm ▸ HGL.out)).trans (HG.out.cell 0)
    have hc' : w'.cell? ⟨g1, 0, none⟩ = some (.int .i64 2) := hc
    go_simp
  simp only [List.set_cons_zero, List.set_cons_succ]
  refine wpAnyH_takeAt (i := 6) (v := (.bool false)) rfl (by kernel_rfl) (by kernel_rfl) (by kernel_rfl) (fun _ _ _ h => h) rfl (Or.inl ⟨by rfl, fun w' hS => ?_⟩) hHeld ?_
  · go_simp
  simp only [List.set_cons_zero, List.set_cons_succ]
  refine wpAnyH_takeAt (i := 7) (v := (.bool false)) rfl (by kernel_rfl) (by kernel_rfl) (by kernel_rfl) (fun _ _ _ h => h) rfl (Or.inl ⟨by rfl, fun w' hS => ?_⟩) hHeld ?_
  · go_simp
  simp only [List.set_cons_zero, List.set_cons_succ]
  refine wpAnyH_takeAt (i := 8) (v := (.bool false)) rfl (by kernel_rfl) (by kernel_rfl) (by kernel_rfl) (fun _ _ _ h => h) rfl (Or.inl ⟨by rfl, fun w' hS => ?_⟩) hHeld ?_
  · go_simp
  simp only [List.set_cons_zero, List.set_cons_succ]
  refine wpAnyH_takeAt (i := 9) (v := (.agg #[.int .i64 2, .int .u32 (fr : Int), .int .u32 (ab : Int), .int .u64 (ntp : Int), .int .u32 (ts : Int), .int .u32 (pk : Int), .int .u32 (oc : Int), .slice Ab nb cb, .slice Ap np cp, .slice Af nf cf, .int .i64 ex, .int .u32 (mt : Int), .slice As ns cs, .int .i64 ty, .int .i64 ct, .slice Ad nd cd])) rfl (by kernel_rfl) (by kernel_rfl) (by kernel_rfl) (fun _ _ _ h => h) rfl (yieldsIf_load_mid (by rfl) 46 _ rfl g1 0 rfl [.int .i64 2, .int .u32 (fr : Int), .int .u32 (ab : Int), .int .u64 (ntp : Int), .int .u32 (ts : Int), .int .u32 (pk : Int), .int .u32 (oc : Int), .slice Ab nb cb, .slice Ap np cp, .slice Af nf cf, .int .i64 ex, .int .u32 (mt : Int), .slice As ns cs, .int .i64 ty, .int .i64 ct, .slice Ad nd cd] _ (fun w' hS => below_range HRG.out hS (HBQ.out.symm ▸ HGL.out)) Try.underlying46 rfl HI.out) hHeld ?_
  simp only [List.set_cons_zero, List.set_cons_succ]
  refine wpAnyH_takeAt (i := 10) (v := (.agg #[.int .i64 2, .int .u32 (fr : Int), .int .u32 (ab : Int), .int .u64 (ntp : Int), .int .u32 (ts : Int), .int .u32 (pk : Int), .int .u32 (oc : Int), .slice Ab nb cb, .slice Ap np cp, .slice Af nf cf, .int .i64 ex, .int .u32 (mt : Int), .slice As ns cs, .int .i64 ty, .int .i64 ct, .slice Ad nd cd])) rfl (by kernel_rfl) (by kernel_rfl) (by kernel_rfl) (fun _ _ _ h => h) rfl (yieldsIf_load_mid (by rfl) 46 _ rfl g1 0 rfl [.int .i64 2, .int .u32 (fr : Int), .int .u32 (ab : Int), .int .u64 (ntp : Int), .int .u32 (ts : Int), .int .u32 (pk : Int), .int .u32 (oc : Int), .slice Ab nb cb, .slice Ap np cp, .slice Af nf cf, .int .i64 ex, .int .u32 (mt : Int), .slice As ns cs, .int .i64 ty, .int .i64 ct, .slice Ad nd cd] _ (fun w' hS => below_range HRG.out hS (HBQ.out.symm ▸ HGL.out)) Try.underlying46 rfl HI.out) hHeld ?_
  simp only [List.set_cons_zero, List.set_cons_succ]
  refine wpAnyH_ready (rs := [11]) (by kernel_rfl) (by simp) (AllReadyH.cons rfl (fun K' hK => ?_) AllReadyH.nil)
  go_simp
  go_at_call 40
  refine (bare2_c _ _ _ _ _ _ _ _ _ _ _ _ _ _ _ _ _ _ _ _ _ _ _ _ _ _).mono ?_
  rintro e0 w2 ⟨rfl, hb2⟩
  go_wp2_with fail
  have HB2 : Hid (Below w1.heap.size w1 w2) := bcall HBd.out hb2
  clear hb2
  refine hK.out _ _ (HBQ.out.symm ▸ HB2.out) (fun hHeld' => ?_)
  clear hK hHeld
  have hHeld := hHeld'
  clear hHeld'
  refine wpAnyH_ready (rs := [12]) (by kernel_rfl) (by simp) (AllReadyH.cons rfl (fun K' hK => ?_) AllReadyH.nil)
  go_simp
  go_at_call 39
  refine (alike_c _ _ fr ab ntp ts pk oc mt nb cb np cp nf cf ns cs nd cd ex ty ct Ab Ap Af As Ad fr 0 0 0 0 0 0 nb cb 0 0 0 0 0 0 0 0 0 0 0 Ab none none none none _).mono ?_
  rintro e0 w3 ⟨q, rfl, hq, hb3⟩
  go_wp2_with fail
  have HQ := Lib.hid hq
  have HB3 : Hid (Below w1.heap.size w1 w3) := bcall HB2.out hb3
  clear hq hb3
  refine hK.out _ _ (HBQ.out.symm ▸ HB3.out) (fun hHeld' => ?_)
  clear hK hHeld
  have hHeld := hHeld'
  clear hHeld'
  refine wpAnyH_takeAt (i := 13) (v := (.bool (!q))) rfl (by kernel_rfl) (by kernel_rfl) (by kernel_rfl) (fun _ _ _ h => h) rfl (Or.inl ⟨by rfl, fun w' hS => ?_⟩) hHeld ?_
  · go_simp
  simp only [List.set_cons_zero, List.set_cons_succ]
  refine wpAnyH_takeAt (i := 14) (v := (.bool (!q))) rfl (by kernel_rfl) (by kernel_rfl) (by kernel_rfl) (fun _ _ _ h => h) rfl (Or.inl ⟨by rfl, fun w' hS => ?_⟩) hHeld ?_
  · go_simp
  simp only [List.set_cons_zero, List.set_cons_succ]
  refine wpAnyH_done (by kernel_rfl) ?_ _
  have HBW : Hid (Below w.heap.size w w3) := bcall HB.out HB3.out
  cases q with
  | false =>
    have HN : Hid (¬ P) := by show ¬ P; rw [HPE.out]; exact fun h => absurd (HQ.out.2 h.1) (by decide)
    go_wp2_with fail
    go_ret
    exact BoolIs.no HN.out HBW.out
  | true =>
    have HA : Hid (P ↔ (nb ≤ 31 ∧ ¬ ∃ e ∈ blocks, bigE e)) := by show _ ↔ _; rw [HPE.out]; exact and_iff_right (HQ.out.1 rfl)
    have HG3 : Hid (Blk w3 g1 46 #[.int .i64 2, .int .u32 (fr : Int), .int .u32 (ab : Int), .int .u64 (ntp : Int), .int .u32 (ts : Int), .int .u32 (pk : Int), .int .u32 (oc : Int), .slice Ab nb cb, .slice Ap np cp, .slice Af nf cf, .int .i64 ex, .int .u32 (mt : Int), .slice As ns cs, .int .i64 ty, .int .i64 ct, .slice Ad nd cd]) := HG.out.below HB3.out
    have k0 : w3.cell? ⟨g1, 0, none⟩ = some (.int .i64 2) := HG3.out.cell 0
    have k7 : w3.cell? ⟨g1, 7, none⟩ = some (.slice Ab nb cb) := HG3.out.cell 7
    by_cases h31 : nb ≤ 31
    case neg =>
      have h31i : ¬ (nb : Int) ≤ 31 := by omega
      have h31d : decide ((nb : Int) ≤ 31) = false := by simp; omega
      have HN : Hid (¬ P) := by show ¬ P; rw [HA.out]; exact fun h => h31 h.1
      clear h31
      go_wp2_with fail
      go_ret
      exact BoolIs.no HN.out HBW.out
    have h31i : (nb : Int) ≤ 31 := by omega
    have h31d : decide ((nb : Int) ≤ 31) = true := by simp; omega
    go_wp2_with (first
      | (go_at_call 41
         refine (contB_c blocks Ab nb cb w3 (HBS.out.below HB3.out) (by omega)).mono ?_
         rintro e9 w9 ⟨q, rfl, hq, hb9⟩
         have HQ9 := Lib.hid hq
         have HB9 : Hid (Below w.heap.size w w9) := bcall HBW.out hb9
         clear hq hb9))
    go_ret
    refine ⟨!q, rfl, ?_, HB9.out⟩
    rw [HA.out, ← HQ9.out]
    cases q <;> simp [h31]
end Go.Proofs.Ytkfimncbfbbopaa
/- What Good tells of a report of one kind (contract). Conditions: what it has lies in memory. (Printed by gen8g.py.) -/
set_option linter.unusedVariables false
set_option linter.unusedSimpArgs false
namespace Go.Proofs.Ytkfimncbfbbopaa
open Go.RowKit
attribute [local go_sem ↓] Go.wp_at_zero Go.wp_at_succ

set_option maxRecDepth 100000 in
set_option maxHeartbeats 12800000 in
theorem good3_c (fr ab ntp ts pk oc mt nb cb np cp nf cf ns cs nd cd : Nat) (ex ty ct : Int) (Ab Ap Af As Ad : Option Addr) (w : World) :
    Calls Try.prog 26 #[.agg #[.int .i64 3, .int .u32 (fr : Int), .int .u32 (ab : Int), .int .u64 (ntp : Int), .int .u32 (ts : Int), .int .u32 (pk : Int), .int .u32 (oc : Int), .slice Ab nb cb, .slice Ap np cp, .slice Af nf cf, .int .i64 ex, .int .u32 (mt : Int), .slice As ns cs, .int .i64 ty, .int .i64 ct, .slice Ad nd cd]] w (BoolIs (AlikeV fr ab ntp ts pk oc mt nb cb np cp nf cf ns cs nd cd ex ty ct Ab Ap Af As Ad fr ab 0 0 0 0 0 0 0 np cp 0 0 0 0 0 0 0 0 0 none Ap none none none ∧ 0 < np) w) := by
  obtain ⟨P, hP⟩ : ∃ P : Prop, P = (AlikeV fr ab ntp ts pk oc mt nb cb np cp nf cf ns cs nd cd ex ty ct Ab Ap Af As Ad fr ab 0 0 0 0 0 0 0 np cp 0 0 0 0 0 0 0 0 0 none Ap none none none ∧ 0 < np) := ⟨_, rfl⟩
  rw [← hP]
  obtain ⟨g1, hg1⟩ : ∃ g1, g1 = w.heap.size := ⟨_, rfl⟩
  obtain ⟨w1, hw1⟩ : ∃ w1, w1 = w.alloc (.cells #[.int .i64 3, .int .u32 (fr : Int), .int .u32 (ab : Int), .int .u64 (ntp : Int), .int .u32 (ts : Int), .int .u32 (pk : Int), .int .u32 (oc : Int), .slice Ab nb cb, .slice Ap np cp, .slice Af nf cf, .int .i64 ex, .int .u32 (mt : Int), .slice As ns cs, .int .i64 ty, .int .i64 ct, .slice Ad nd cd] 46) := ⟨_, rfl⟩
  have HG : Hid (Blk w1 g1 46 #[.int .i64 3, .int .u32 (fr : Int), .int .u32 (ab : Int), .int .u64 (ntp : Int), .int .u32 (ts : Int), .int .u32 (pk : Int), .int .u32 (oc : Int), .slice Ab nb cb, .slice Ap np cp, .slice Af nf cf, .int .i64 ex, .int .u32 (mt : Int), .slice As ns cs, .int .i64 ty, .int .i64 ct, .slice Ad nd cd]) := by show Blk _ _ _ _; rw [hw1]; exact Blk.newAt hg1 _ _
  have HB : Hid (Below w.heap.size w w1) := by show Below _ _ _; rw [hw1]; exact balloc (Below.refl _ _) _
  have HPE := Lib.hid hP
  have HGL : Hid (g1 < w1.heap.size) := HG.out.lt
  clear hP
  go_enter Try.func26, Try.ntmps26
  go_upto_region 1 with fail
  rw [← hw1, ← hg1]
  clear hw1 hg1
  obtain ⟨Bq, hBq⟩ : ∃ Bq, Bq = w1.heap.size := ⟨_, rfl⟩
  have HBQ := Lib.hid hBq
  clear hBq
  have HBd : Hid (Below w1.heap.size w1 (World.drew w1)) := bdrew (Below.refl _ _)
  have HI : Hid ((Try.prog.info? 46).map (·.size) = some ([.int .i64 3, .int .u32 (fr : Int), .int .u32 (ab : Int), .int .u64 (ntp : Int), .int .u32 (ts : Int), .int .u32 (pk : Int), .int .u32 (oc : Int), .slice Ab nb cb, .slice Ap np cp, .slice Af nf cf, .int .i64 ex, .int .u32 (mt : Int), .slice As ns cs, .int .i64 ty, .int .i64 ct, .slice Ad nd cd] : List Value).length) := infoRep
  have HRG : Hid (w1.rangeAt g1 0 [.int .i64 3, .int .u32 (fr : Int), .int .u32 (ab : Int), .int .u64 (ntp : Int), .int .u32 (ts : Int), .int .u32 (pk : Int), .int .u32 (oc : Int), .slice Ab nb cb, .slice Ap np cp, .slice Af nf cf, .int .i64 ex, .int .u32 (mt : Int), .slice As ns cs, .int .i64 ty, .int .i64 ct, .slice Ad nd cd]) := blk_range (l := [.int .i64 3, .int .u32 (fr : Int), .int .u32 (ab : Int), .int .u64 (ntp : Int), .int .u32 (ts : Int), .int .u32 (pk : Int), .int .u32 (oc : Int), .slice Ab nb cb, .slice Ap np cp, .slice Af nf cf, .int .i64 ex, .int .u32 (mt : Int), .slice As ns cs, .int .i64 ty, .int .i64 ct, .slice Ad nd cd]) HG.out
  refine wp_region_held_drew (S := (fun w2 => Below Bq w1 w2)) (by kernel_rfl) (HBQ.out.symm ▸ HBd.out) (fun hHeld => ?_)
  refine wpAnyH_takeAt (i := 0) (v := (.pointer (some ⟨g1, 0, none⟩))) rfl (by kernel_rfl) (by kernel_rfl) (by kernel_rfl) (fun _ _ _ h => h) rfl (Or.inl ⟨by rfl, fun w' hS => ?_⟩) hHeld ?_
  · go_simp
  simp only [List.set_cons_zero, List.set_cons_succ]
  refine wpAnyH_takeAt (i := 1) (v := (.int .i64 3)) rfl (by kernel_rfl) (by kernel_rfl) (by kernel_rfl) (fun _ _ _ h => h) rfl (Or.inl ⟨by rfl, fun w' hS => ?_⟩) hHeld ?_
  · have hc := (Below.cell hS (p := ⟨g1, 0, none⟩) (HBQ.out.symm ▸ HGL.out)).trans (HG.out.cell 0)
    have hc' : w'.cell? ⟨g1, 0, none⟩ = some (.int .i64 3) := hc
    go_simp
  simp only [List.set_cons_zero, List.set_cons_succ]
  refine wpAnyH_takeAt (i := 2) (v := (.bool false)) rfl (by kernel_rfl) (by kernel_rfl) (by kernel_rfl) (fun _ _ _ h => h) rfl (Or.inl ⟨by rfl, fun w' hS => ?_⟩) hHeld ?_
  · go_simp
  simp only [List.set_cons_zero, List.set_cons_succ]
  refine wpAnyH_takeAt (i := 3) (v := (.bool false)) rfl (by kernel_rfl) (by kernel_rfl) (by kernel_rfl) (fun _ _ _ h => h) rfl (Or.inl ⟨by rfl, fun w' hS => ?_⟩) hHeld ?_
  · go_simp
  simp only [List.set_cons_zero, List.set_cons_succ]
  refine wpAnyH_takeAt (i := 4) (v := (.pointer (some ⟨g1, 0, none⟩))) rfl (by kernel_rfl) (by kernel_rfl) (by kernel_rfl) (fun _ _ _ h => h) rfl (Or.inl ⟨by rfl, fun w' hS => ?_⟩) hHeld ?_
  · go_simp
  simp only [List.set_cons_zero, List.set_cons_succ]
  refine wpAnyH_takeAt (i := 5) (v := (.int .i64 3)) rfl (by kernel_rfl) (by kernel_rfl) (by kernel_rfl) (fun _ _ _ h => h) rfl (Or.inl ⟨by rfl, fun w' hS => ?_⟩) hHeld ?_
  · have hc := (Below.cell hS (p := ⟨g1, 0, none⟩) (HBQ.out.symm ▸ HGL.out)).trans (HG.out.cell 0)
    have hc' : w'.cell? ⟨g1, 0, none⟩ = some (.int .i64 3) := hc
    go_simp
  simp only [List.set_cons_zero, List.set_cons_succ]
  refine wpAnyH_takeAt (i := 6) (v := (.bool false)) rfl (by kernel_rfl) (by kernel_rfl) (by kernel_rfl) (fun _ _ _ h => h) rfl (Or.inl ⟨by rfl, fun w' hS => ?_⟩) hHeld ?_
  · go_simp
  simp only [List.set_cons_zero, List.set_cons_succ]
  refine wpAnyH_takeAt (i := 7) (v := (.bool false)) rfl (by kernel_rfl) (by kernel_rfl) (by kernel_rfl) (fun _ _ _ h => h) rfl (Or.inl ⟨by rfl, fun w' hS => ?_⟩) hHeld ?_
  · go_simp
  simp only [List.set_cons_zero, List.set_cons_succ]
  refine wpAnyH_takeAt (i := 8) (v := (.bool false)) rfl (by kernel_rfl) (by kernel_rfl) (by kernel_rfl) (fun _ _ _ h => h) rfl (Or.inl ⟨by rfl, fun w' hS => ?_⟩) hHeld ?_
  · go_simp
  simp only [List.set_cons_zero, List.set_cons_succ]
  refine wpAnyH_takeAt (i := 9) (v := (.agg #[.int .i64 3, .int .u32 (fr : Int), .int .u32 (ab : Int), .int .u64 (ntp : Int), .int .u32 (ts : Int), .int .u32 (pk : Int), .int .u32 (oc : Int), .slice Ab nb cb, .slice Ap np cp, .slice Af nf cf, .int .i64 ex, .int .u32 (mt : Int), .slice As ns cs, .int .i64 ty, .int .i64 ct, .slice Ad nd cd])) rfl (by kernel_rfl) (by kernel_rfl) (by kernel_rfl) (fun _ _ _ h => h) rfl (yieldsIf_load_mid (by rfl) 46 _ rfl g1 0 rfl [.int .i64 3, .int .u32 (fr : Int), .int .u32 (ab : Int), .int .u64 (ntp : Int), .int .u32 (ts : Int), .int .u32 (pk : Int), .int .u32 (oc : Int), .slice Ab nb cb, .slice Ap np cp, .slice Af nf cf, .int .i64 ex, .int .u32 (mt : Int), .slice As ns cs, .int .i64 ty, .int .i64 ct, .slice Ad nd cd] _ (fun w' hS => below_range HRG.out hS (HBQ.out.symm ▸ HGL.out)) Try.underlying46 rfl HI.out) hHeld ?_
  simp only [List.set_cons_zero, List.set_cons_succ]
  refine wpAnyH_takeAt (i := 10) (v := (.agg #[.int .i64 3, .int .u32 (fr : Int), .int .u32 (ab : Int), .int .u64 (ntp : Int), .int .u32 (ts : Int), .int .u32 (pk : Int), .int .u32 (oc : Int), .slice Ab nb cb, .slice Ap np cp, .slice Af nf cf, .int .i64 ex, .int .u32 (mt : Int), .slice As ns cs, .int .i64 ty, .int .i64 ct, .slice Ad nd cd])) rfl (by kernel_rfl) (by kernel_rfl) (by kernel_rfl) (fun _ _ _ h => h) rfl (yieldsIf_load_mid (by rfl) 46 _ rfl g1 0 rfl [.int .i64 3, .int .u32 (fr : Int), .int .u32 (ab : Int), .int .u64 (ntp : Int), .int .u32 (ts : Int), .int .u32 (pk : Int), .int .u32 (oc : Int), .slice Ab nb cb, .slice Ap np cp, .slice Af nf cf, .int .i64 ex, .int .u32 (mt : Int), .slice As ns cs, .int .i64 ty, .int .i64 ct, .slice Ad nd cd] _ (fun w' hS => below_range HRG.out hS (HBQ.out.symm ▸ HGL.out)) Try.underlying46 rfl HI.out) hHeld ?_
  simp only [List.set_cons_zero, List.set_cons_succ]
  refine wpAnyH_ready (rs := [11]) (by kernel_rfl) (by simp) (AllReadyH.cons rfl (fun K' hK => ?_) AllReadyH.nil)
  go_simp
  go_at_call 40
  refine (bare3_c _ _ _ _ _ _ _ _ _ _ _ _ _ _ _ _ _ _ _ _ _ _ _ _ _ _).mono ?_
  rintro e0 w2 ⟨rfl, hb2⟩
  go_wp2_with fail
  have HB2 : Hid (Below w1.heap.size w1 w2) := bcall HBd.out hb2
  clear hb2
  refine hK.out _ _ (HBQ.out.symm ▸ HB2.out) (fun hHeld' => ?_)
  clear hK hHeld
  have hHeld := hHeld'
  clear hHeld'
  refine wpAnyH_ready (rs := [12]) (by kernel_rfl) (by simp) (AllReadyH.cons rfl (fun K' hK => ?_) AllReadyH.nil)
  go_simp
  go_at_call 39
  refine (alike_c _ _ fr ab ntp ts pk oc mt nb cb np cp nf cf ns cs nd cd ex ty ct Ab Ap Af As Ad fr ab 0 0 0 0 0 0 0 np cp 0 0 0 0 0 0 0 0 0 none Ap none none none _).mono ?_
  rintro e0 w3 ⟨q, rfl, hq, hb3⟩
  go_wp2_with fail
  have HQ := Lib.hid hq
  have HB3 : Hid (Below w1.heap.size w1 w3) := bcall HB2.out hb3
  clear hq hb3
  refine hK.out _ _ (HBQ.out.symm ▸ HB3.out) (fun hHeld' => ?_)
  clear hK hHeld
  have hHeld := hHeld'
  clear hHeld'
  refine wpAnyH_takeAt (i := 13) (v := (.bool (!q))) rfl (by kernel_rfl) (by kernel_rfl) (by kernel_rfl) (fun _ _ _ h => h) rfl (Or.inl ⟨by rfl, fun w' hS => ?_⟩) hHeld ?_
  · go_simp
  simp only [List.set_cons_zero, List.set_cons_succ]
  refine wpAnyH_takeAt (i := 14) (v := (.bool (!q))) rfl (by kernel_rfl) (by kernel_rfl) (by kernel_rfl) (fun _ _ _ h => h) rfl (Or.inl ⟨by rfl, fun w' hS => ?_⟩) hHeld ?_
  · go_simp
  simp only [List.set_cons_zero, List.set_cons_succ]
  refine wpAnyH_done (by kernel_rfl) ?_ _
  have HBW : Hid (Below w.heap.size w w3) := bcall HB.out HB3.out
  cases q with
  | false =>
    have HN : Hid (¬ P) := by show ¬ P; rw [HPE.out]; exact fun h => absurd (HQ.out.2 h.1) (by decide)
    go_wp2_with fail
    go_ret
    exact BoolIs.no HN.out HBW.out
  | true =>
    have HA : Hid (P ↔ 0 < np) := by show _ ↔ _; rw [HPE.out]; exact and_iff_right (HQ.out.1 rfl)
    have HG3 : Hid (Blk w3 g1 46 #[.int .i64 3, .int .u32 (fr : Int), .int .u32 (ab : Int), .int .u64 (ntp : Int), .int .u32 (ts : Int), .int .u32 (pk : Int), .int .u32 (oc : Int), .slice Ab nb cb, .slice Ap np cp, .slice Af nf cf, .int .i64 ex, .int .u32 (mt : Int), .slice As ns cs, .int .i64 ty, .int .i64 ct, .slice Ad nd cd]) := HG.out.below HB3.out
    have k0 : w3.cell? ⟨g1, 0, none⟩ = some (.int .i64 3) := HG3.out.cell 0
    have k8 : w3.cell? ⟨g1, 8, none⟩ = some (.slice Ap np cp) := HG3.out.cell 8
    by_cases h0 : 0 < np
    · have h0i : (0 : Int) < (np : Int) := by omega
      have h0d : decide (0 < np) = true := by simpa using h0
      have HY : Hid P := by show P; rw [HA.out]; exact h0
      clear h0
      go_wp2_with fail
      go_ret
      exact BoolIs.yes HY.out HBW.out
    · have h0i : ¬ (0 : Int) < (np : Int) := by omega
      have h0d : decide (0 < np) = false := by simpa using h0
      have HN : Hid (¬ P) := by show ¬ P; rw [HA.out]; exact h0
      clear h0
      go_wp2_with fail
      go_ret
      exact BoolIs.no HN.out HBW.out
end Go.Proofs.Ytkfimncbfbbopaa
/- What Good tells of a report of one kind (contract). Conditions: what it has lies in memory. (Printed by gen8g.py.) -/
set_option linter.unusedVariables false
set_option linter.unusedSimpArgs false
namespace Go.Proofs.Ytkfimncbfbbopaa
open Go.RowKit
attribute [local go_sem ↓] Go.wp_at_zero Go.wp_at_succ

set_option maxRecDepth 100000 in
set_option maxHeartbeats 12800000 in
theorem good4_c (fr ab ntp ts pk oc mt nb cb np cp nf cf ns cs nd cd : Nat) (ex ty ct : Int) (Ab Ap Af As Ad : Option Addr) (w : World) :
    Calls Try.prog 26 #[.agg #[.int .i64 4, .int .u32 (fr : Int), .int .u32 (ab : Int), .int .u64 (ntp : Int), .int .u32 (ts : Int), .int .u32 (pk : Int), .int .u32 (oc : Int), .slice Ab nb cb, .slice Ap np cp, .slice Af nf cf, .int .i64 ex, .int .u32 (mt : Int), .slice As ns cs, .int .i64 ty, .int .i64 ct, .slice Ad nd cd]] w (BoolIs (AlikeV fr ab ntp ts pk oc mt nb cb np cp nf cf ns cs nd cd ex ty ct Ab Ap Af As Ad fr ab 0 0 0 0 0 0 0 0 0 0 0 0 0 0 0 0 0 0 none none none none none ∧ True) w) := by
  obtain ⟨P, hP⟩ : ∃ P : Prop, P = (AlikeV fr ab ntp ts pk oc mt nb cb np cp nf cf ns cs nd cd ex ty ct Ab Ap Af As Ad fr ab 0 0 0 0 0 0 0 0 0 0 0 0 0 0 0 0 0 0 none none none none none ∧ True) := ⟨_, rfl⟩
  rw [← hP]
  obtain ⟨g1, hg1⟩ : ∃ g1, g1 = w.heap.size := ⟨_, rfl⟩
  obtain ⟨w1, hw1⟩ : ∃ w1, w1 = w.alloc (.cells #[.int .i64 4, .int .u32 (fr : Int), .int .u32 (ab : Int), .int .u64 (ntp : Int), .int .u32 (ts : Int), .int .u32 (pk : Int), .int .u32 (oc : Int), .slice Ab nb cb, .slice Ap np cp, .slice Af nf cf, .int .i64 ex, .int .u32 (mt : Int), .slice As ns cs, .int .i64 ty, .int .i64 ct, .slice Ad nd cd] 46) := ⟨_, rfl⟩
  have HG : Hid (Blk w1 g1 46 #[.int .i64 4, .int .u32 (fr : Int), .int .u32 (ab : Int), .int .u64 (ntp : Int), .int .u32 (ts : Int), .int .u32 (pk : Int), .int .u32 (oc : Int), .slice Ab nb cb, .slice Ap np cp, .slice Af nf cf, .int .i64 ex, .int .u32 (mt : Int), .slice As ns cs, .int .i64 ty, .int .i64 ct, .slice Ad nd cd]) := by show Blk _ _ _ _; rw [hw1]; exact Blk.newAt hg1 _ _
  have HB : Hid (Below w.heap.size w w1) := by show Below _ _ _; rw [hw1]; exact balloc (Below.refl _ _) _
  have HPE := Lib.hid hP
  have HGL : Hid (g1 < w1.heap.size) := HG.out.lt
  clear hP
  go_enter Try.func26, Try.ntmps26
  go_upto_region 1 with fail
  rw [← hw1, ← hg1]
  clear hw1 hg1
  obtain ⟨Bq, hBq⟩ : ∃ Bq, Bq = w1.heap.size := ⟨_, rfl⟩
  have HBQ := Lib.hid hBq
  clear hBq
  have HBd : Hid (Below w1.heap.size w1 (World.drew w1)) := bdrew (Below.refl _ _)
  have HI : Hid ((Try.prog.info? 46).map (·.size) = some ([.int .i64 4, .int .u32 (fr : Int), .int .u32 (ab : Int), .int .u64 (ntp : Int), .int .u32 (ts : Int), .int .u32 (pk : Int), .int .u32 (oc : Int), .slice Ab nb cb, .slice Ap np cp, .slice Af nf cf, .int .i64 ex, .int .u32 (mt : Int), .slice As ns cs, .int .i64 ty, .int .i64 ct, .slice Ad nd cd] : List Value).length) := infoRep
  have HRG : Hid (w1.rangeAt g1 0 [.int .i64 4, .int .u32 (fr : Int), .int .u32 (ab : Int), .int .u64 (ntp : Int), .int .u32 (ts : Int), .int .u32 (pk : Int), .int .u32 (oc : Int), .slice Ab nb cb, .slice Ap np cp, .slice Af nf cf, .int .i64 ex, .int .u32 (mt : Int), .slice As ns cs, .int .i64 ty, .int .i64 ct, .slice Ad nd cd]) := blk_range (l := [.int .i64 4, .int .u32 (fr : Int), .int .u32 (ab : Int), .int .u64 (ntp : Int), .int .u32 (ts : Int), .int .u32 (pk : Int), .int .u32 (oc : Int), .slice Ab nb cb, .slice Ap np cp, .slice Af nf cf, .int .i64 ex, .int .u32 (mt : Int), .slice As ns cs, .int .i64 ty, .int .i64 ct, .slice Ad nd cd]) HG.out
  refine wp_region_held_drew (S := (fun w2 => Below Bq w1 w2)) (by kernel_rfl) (HBQ.out.symm ▸ HBd.out) (fun hHeld => ?_)
  refine wpAnyH_takeAt (i := 0) (v := (.pointer (some ⟨g1, 0, none⟩))) rfl (by kernel_rfl) (by kernel_rfl) (by kernel_rfl) (fun _ _ _ h => h) rfl (Or.inl ⟨by rfl, fun w' hS => ?_⟩) hHeld ?_
  · go_simp
  simp only [List.set_cons_zero, List.set_cons_succ]
  refine wpAnyH_takeAt (i := 1) (v := (.int .i64 4)) rfl (by kernel_rfl) (by kernel_rfl) (by kernel_rfl) (fun _ _ _ h => h) rfl (Or.inl ⟨by rfl, fun w' hS => ?_⟩) hHeld ?_
  · have hc := (Below.cell hS (p := ⟨g1, 0, none⟩) (HBQ.out.symm ▸ HGL.out)).trans (HG.out.cell 0)
    have hc' : w'.cell? ⟨g1, 0, none⟩ = some (.int .i64 4) := hc
    go_simp
  simp only [List.set_cons_zero, List.set_cons_succ]
  refine wpAnyH_takeAt (i := 2) (v := (.bool false)) rfl (by kernel_rfl) (by kernel_rfl) (by kernel_rfl) (fun _ _ _ h => h) rfl (Or.inl ⟨by rfl, fun w' hS => ?_⟩) hHeld ?_
  · go_simp
  simp only [List.set_cons_zero, List.set_cons_succ]
  refine wpAnyH_takeAt (i := 3) (v := (.bool false)) rfl (by kernel_rfl) (by kernel_rfl) (by kernel_rfl) (fun _ _ _ h => h) rfl (Or.inl ⟨by rfl, fun w' hS => ?_⟩) hHeld ?_
  · go_simp
  simp only [List.set_cons_zero, List.set_cons_succ]
  refine wpAnyH_takeAt (i := 4) (v := (.pointer (some ⟨g1, 0, none⟩))) rfl (by kernel_rfl) (by kernel_rfl) (by kernel_rfl) (fun _ _ _ h => h) rfl (Or.inl ⟨by rfl, fun w' hS => ?_⟩) hHeld ?_
  · go_simp
  simp only [List.set_cons_zero, List.set_cons_succ]
  refine wpAnyH_takeAt (i := 5) (v := (.int .i64 4)) rfl (by kernel_rfl) (by kernel_rfl) (by kernel_rfl) (fun _ _ _ h => h) rfl (Or.inl ⟨by rfl, fun w' hS => ?_⟩) hHeld ?_
  · have hc := (Below.cell hS (p := ⟨g1, 0, none⟩) (HBQ.out.symm ▸ HGL.out)).trans (HG.out.cell 0)
    have hc' : w'.cell? ⟨g1, 0, none⟩ = some (.int .i64 4) := hc
    go_simp
  simp only [List.set_cons_zero, List.set_cons_succ]
  refine wpAnyH_takeAt (i := 6) (v := (.bool false)) rfl (by kernel_rfl) (by kernel_rfl) (by kernel_rfl) (fun _ _ _ h => h) rfl (Or.inl ⟨by rfl, fun w' hS => ?_⟩) hHeld ?_
  · go_simp
  simp only [List.set_cons_zero, List.set_cons_succ]
  refine wpAnyH_takeAt (i := 7) (v := (.bool false)) rfl (by kernel_rfl) (by kernel_rfl) (by kernel_rfl) (fun _ _ _ h => h) rfl (Or.inl ⟨by rfl, fun w' hS => ?_⟩) hHeld ?_
  · go_simp
  simp only [List.set_cons_zero, List.set_cons_succ]
  refine wpAnyH_takeAt (i := 8) (v := (.bool false)) rfl (by kernel_rfl) (by kernel_rfl) (by kernel_rfl) (fun _ _ _ h => h) rfl (Or.inl ⟨by rfl, fun w' hS => ?_⟩) hHeld ?_
  · go_simp
  simp only [List.set_cons_zero, List.set_cons_succ]
  refine wpAnyH_takeAt (i := 9) (v := (.agg #[.int .i64 4, .int .u32 (fr : Int), .int .u32 (ab : Int), .int .u64 (ntp : Int), .int .u32 (ts : Int), .int .u32 (pk : Int), .int .u32 (oc : Int), .slice Ab nb cb, .slice Ap np cp, .slice Af nf cf, .int .i64 ex, .int .u32 (mt : Int), .slice As ns cs, .int .i64 ty, .int .i64 ct, .slice Ad nd cd])) rfl (by kernel_rfl) (by kernel_rfl) (by kernel_rfl) (fun _ _ _ h => h) rfl (yieldsIf_load_mid (by rfl) 46 _ rfl g1 0 rfl [.int .i64 4, .int .u32 (fr : Int), .int .u32 (ab : Int), .int .u64 (ntp : Int), .int .u32 (ts : Int), .int .u32 (pk : Int), .int .u32 (oc : Int), .slice Ab nb cb, .slice Ap np cp, .slice Af nf cf, .int .i64 ex, .int .u32 (mt : Int), .slice As ns cs, .int .i64 ty, .int .i64 ct, .slice Ad nd cd] _ (fun w' hS => below_range HRG.out hS (HBQ.out.symm ▸ HGL.out)) Try.underlying46 rfl HI.out) hHeld ?_
  simp only [List.set_cons_zero, List.set_cons_succ]
  refine wpAnyH_takeAt (i := 10) (v := (.agg #[.int .i64 4, .int .u32 (fr : Int), .int .u32 (ab : Int), .int .u64 (ntp : Int), .int .u32 (ts : Int), .int .u32 (pk : Int), .int .u32 (oc : Int), .slice Ab nb cb, .slice Ap np cp, .slice Af nf cf, .int .i64 ex, .int .u32 (mt : Int), .slice As ns cs, .int .i64 ty, .int .i64 ct, .slice Ad nd cd])) rfl (by kernel_rfl) (by kernel_rfl) (by kernel_rfl) (fun _ _ _ h => h) rfl (yieldsIf_load_mid (by rfl) 46 _ rfl g1 0 rfl [.int .i64 4, .int .u32 (fr : Int), .int .u32 (ab : Int), .int .u64 (ntp : Int), .int .u32 (ts : Int), .int .u32 (pk : Int), .int .u32 (oc : Int), .slice Ab nb cb, .slice Ap np cp, .slice Af nf cf, .int .i64 ex, .int .u32 (mt : Int), .slice As ns cs, .int .i64 ty, .int .i64 ct, .slice Ad nd cd] _ (fun w' hS => below_range HRG.out hS (HBQ.out.symm ▸ HGL.out)) Try.underlying46 rfl HI.out) hHeld ?_
  simp only [List.set_cons_zero, List.set_cons_succ]
  refine wpAnyH_ready (rs := [11]) (by kernel_rfl) (by simp) (AllReadyH.cons rfl (fun K' hK => ?_) AllReadyH.nil)
  go_simp
  go_at_call 40
  refine (bare4_c _ _ _ _ _ _ _ _ _ _ _ _ _ _ _ _ _ _ _ _ _ _ _ _ _ _).mono ?_
  rintro e0 w2 ⟨rfl, hb2⟩
  go_wp2_with fail
  have HB2 : Hid (Below w1.heap.size w1 w2) := bcall HBd.out hb2
  clear hb2
  refine hK.out _ _ (HBQ.out.symm ▸ HB2.out) (fun hHeld' => ?_)
  clear hK hHeld
  have hHeld := hHeld'
  clear hHeld'
  refine wpAnyH_ready (rs := [12]) (by kernel_rfl) (by simp) (AllReadyH.cons rfl (fun K' hK => ?_) AllReadyH.nil)
  go_simp
  go_at_call 39
  refine (alike_c _ _ fr ab ntp ts pk oc mt nb cb np cp nf cf ns cs nd cd ex ty ct Ab Ap Af As Ad fr ab 0 0 0 0 0 0 0 0 0 0 0 0 0 0 0 0 0 0 none none none none none _).mono ?_
  rintro e0 w3 ⟨q, rfl, hq, hb3⟩
  go_wp2_with fail
  have HQ := Lib.hid hq
  have HB3 : Hid (Below w1.heap.size w1 w3) := bcall HB2.out hb3
  clear hq hb3
  refine hK.out _ _ (HBQ.out.symm ▸ HB3.out) (fun hHeld' => ?_)
  clear hK hHeld
  have hHeld := hHeld'
  clear hHeld'
  refine wpAnyH_takeAt (i := 13) (v := (.bool (!q))) rfl (by kernel_rfl) (by kernel_rfl) (by kernel_rfl) (fun _ _ _ h => h) rfl (Or.inl ⟨by rfl, fun w' hS => ?_⟩) hHeld ?_
  · go_simp
  simp only [List.set_cons_zero, List.set_cons_succ]
  refine wpAnyH_takeAt (i := 14) (v := (.bool (!q))) rfl (by kernel_rfl) (by kernel_rfl) (by kernel_rfl) (fun _ _ _ h => h) rfl (Or.inl ⟨by rfl, fun w' hS => ?_⟩) hHeld ?_
  · go_simp
  simp only [List.set_cons_zero, List.set_cons_succ]
  refine wpAnyH_done (by kernel_rfl) ?_ _
  have HBW : Hid (Below w.heap.size w w3) := bcall HB.out HB3.out
  cases q with
  | false =>
    have HN : Hid (¬ P) := by show ¬ P; rw [HPE.out]; exact fun h => absurd (HQ.out.2 h.1) (by decide)
    go_wp2_with fail
    go_ret
    exact BoolIs.no HN.out HBW.out
  | true =>
    have HA : Hid (P ↔ True) := by show _ ↔ _; rw [HPE.out]; exact and_iff_right (HQ.out.1 rfl)
    have HG3 : Hid (Blk w3 g1 46 #[.int .i64 4, .int .u32 (fr : Int), .int .u32 (ab : Int), .int .u64 (ntp : Int), .int .u32 (ts : Int), .int .u32 (pk : Int), .int .u32 (oc : Int), .slice Ab nb cb, .slice Ap np cp, .slice Af nf cf, .int .i64 ex, .int .u32 (mt : Int), .slice As ns cs, .int .i64 ty, .int .i64 ct, .slice Ad nd cd]) := HG.out.below HB3.out
    have k0 : w3.cell? ⟨g1, 0, none⟩ = some (.int .i64 4) := HG3.out.cell 0
    have HY : Hid P := by show P; rw [HA.out]; trivial
    go_wp2_with fail
    go_ret
    exact BoolIs.yes HY.out HBW.out
end Go.Proofs.Ytkfimncbfbbopaa
/- What Good tells of a report of one kind (contract). Conditions: what it has lies in memory. (Printed by gen8g.py.) -/
set_option linter.unusedVariables false
set_option linter.unusedSimpArgs false
namespace Go.Proofs.Ytkfimncbfbbopaa
open Go.RowKit
attribute [local go_sem ↓] Go.wp_at_zero Go.wp_at_succ

set_option maxRecDepth 100000 in
set_option maxHeartbeats 12800000 in
theorem good5_c (fr ab ntp ts pk oc mt nb cb np cp nf cf ns cs nd cd : Nat) (ex ty ct : Int) (Ab Ap Af As Ad : Option Addr) (w : World) :
    Calls Try.prog 26 #[.agg #[.int .i64 5, .int .u32 (fr : Int), .int .u32 (ab : Int), .int .u64 (ntp : Int), .int .u32 (ts : Int), .int .u32 (pk : Int), .int .u32 (oc : Int), .slice Ab nb cb, .slice Ap np cp, .slice Af nf cf, .int .i64 ex, .int .u32 (mt : Int), .slice As ns cs, .int .i64 ty, .int .i64 ct, .slice Ad nd cd]] w (BoolIs (AlikeV fr ab ntp ts pk oc mt nb cb np cp nf cf ns cs nd cd ex ty ct Ab Ap Af As Ad fr ab 0 0 0 0 0 0 0 0 0 nf cf 0 0 0 0 0 0 0 none none Af none none ∧ 0 < nf) w) := by
  obtain ⟨P, hP⟩ : ∃ P : Prop, P = (AlikeV fr ab ntp ts pk oc mt nb cb np cp nf cf ns cs nd cd ex ty ct Ab Ap Af As Ad fr ab 0 0 0 0 0 0 0 0 0 nf cf 0 0 0 0 0 0 0 none none Af none none ∧ 0 < nf) := ⟨_, rfl⟩
  rw [← hP]
  obtain ⟨g1, hg1⟩ : ∃ g1, g1 = w.heap.size := ⟨_, rfl⟩
  obtain ⟨w1, hw1⟩ : ∃ w1, w1 = w.alloc (.cells #[.int .i64 5, .int .u32 (fr : Int), .int .u32 (ab : Int), .int .u64 (ntp : Int), .int .u32 (ts : Int), .int .u32 (pk : Int), .int .u32 (oc : Int), .slice Ab nb cb, .slice Ap np cp, .slice Af nf cf, .int .i64 ex, .int .u32 (mt : Int), .slice As ns cs, .int .i64 ty, .int .i64 ct, .slice Ad nd cd] 46) := ⟨_, rfl⟩
  have HG : Hid (Blk w1 g1 46 #[.int .i64 5, .int .u32 (fr : Int), .int .u32 (ab : Int), .int .u64 (ntp : Int), .int .u32 (ts : Int), .int .u32 (pk : Int), .int .u32 (oc : Int), .slice Ab nb cb, .slice Ap np cp, .slice Af nf cf, .int .i64 ex, .int .u32 (mt : Int), .slice As ns cs, .int .i64 ty, .int .i64 ct, .slice Ad nd cd]) := by show Blk _ _ _ _; rw [hw1]; exact Blk.newAt hg1 _ _
  have HB : Hid (Below w.heap.size w w1) := by show Below _ _ _; rw [hw1]; exact balloc (Below.refl _ _) _
  have HPE := Lib.hid hP
  have HGL : Hid (g1 < w1.heap.size) := HG.out.lt
  clear hP
  go_enter Try.func26, Try.ntmps26
  go_upto_region 1 with fail
  rw [← hw1, ← hg1]
  clear hw1 hg1
  obtain ⟨Bq, hBq⟩ : ∃ Bq, Bq = w1.heap.size := ⟨_, rfl⟩
  have HBQ := Lib.hid hBq
  clear hBq
  have HBd : Hid (Below w1.heap.size w1 (World.drew w1)) := bdrew (Below.refl _ _)
  have HI : Hid ((Try.prog.info? 46).map (·.size) = some ([.int .i64 5, .int .u32 (fr : Int), .int .u32 (ab : Int), .int .u64 (ntp : Int), .int .u32 (ts : Int), .int .u32 (pk : Int), .int .u32 (oc : Int), .slice Ab nb cb, .slice Ap np cp, .slice Af nf cf, .int .i64 ex, .int .u32 (mt : Int), .slice As ns cs, .int .i64 ty, .int .i64 ct, .slice Ad nd cd] : List Value).length) := infoRep
  have HRG : Hid (w1.rangeAt g1 0 [.int .i64 5, .int .u32 (fr : Int), .int .u32 (ab : Int), .int .u64 (ntp : Int), .int .u32 (ts : Int), .int .u32 (pk : Int), .int .u32 (oc : Int), .slice Ab nb cb, .slice Ap np cp, .slice Af nf cf, .int .i64 ex, .int .u32 (mt : Int), .slice As ns cs, .int .i64 ty, .int .i64 ct, .slice Ad nd cd]) := blk_range (l := [.int .i64 5, .int .u32 (fr : Int), .int .u32 (ab : Int), .int .u64 (ntp : Int), .int .u32 (ts : Int), .int .u32 (pk : Int), .int .u32 (oc : Int), .slice Ab nb cb, .slice Ap np cp, .slice Af nf cf, .int .i64 ex, .int .u32 (mt : Int), .slice As ns cs, .int .i64 ty, .int .i64 ct, .slice Ad nd cd]) HG.out
  refine wp_region_held_drew (S := (fun w2 => Below Bq w1 w2)) (by kernel_rfl) (HBQ.out.symm ▸ HBd.out) (fun hHeld => ?_)
  refine wpAnyH_takeAt (i := 0) (v := (.pointer (some ⟨g1, 0, none⟩))) rfl (by kernel_rfl) (by kernel_rfl) (by kernel_rfl) (fun _ _ _ h => h) rfl (Or.inl ⟨by rfl, fun w' hS => ?_⟩) hHeld ?_
  · go_simp
  simp only [List.set_cons_zero, List.set_cons_succ]
  refine wpAnyH_takeAt (i := 1) (v := (.int .i64 5)) rfl (by kernel_rfl) (by kernel_rfl) (by kernel_rfl) (fun _ _ _ h => h) rfl (Or.inl ⟨by rfl, fun w' hS => ?_⟩) hHeld ?_
  · have hc := (Below.cell hS (p := ⟨g1, 0, none⟩) (HBQ.out.symm ▸ HGL.out)).trans (HG.out.cell 0)
    have hc' : w'.cell? ⟨g1, 0, none⟩ = some (.int .i64 5) := hc
    go_simp
  simp only [List.set_cons_zero, List.set_cons_succ]
  refine wpAnyH_takeAt (i := 2) (v := (.bool false)) rfl (by kernel_rfl) (by kernel_rfl) (by kernel_rfl) (fun _ _ _ h => h) rfl (Or.inl ⟨by rfl, fun w' hS => ?_⟩) hHeld ?_
  · go_simp
  simp only [List.set_cons_zero, List.set_cons_succ]
  refine wpAnyH_takeAt (i := 3) (v := (.bool false)) rfl (by kernel_rfl) (by kernel_rfl) (by kernel_rfl) (fun _ _ _ h => h) rfl (Or.inl ⟨by rfl, fun w' hS => ?_⟩) hHeld ?_
  · go_simp
  simp only [List.set_cons_zero, List.set_cons_succ]
  refine wpAnyH_takeAt (i := 4) (v := (.pointer (some ⟨g1, 0, none⟩))) rfl (by kernel_rfl) (by kernel_rfl) (by kernel_rfl) (fun _ _ _ h => h) rfl (Or.inl ⟨by rfl, fun w' hS => ?_⟩) hHeld ?_
  · go_simp
  simp only [List.set_cons_zero, List.set_cons_succ]
  refine wpAnyH_takeAt (i := 5) (v := (.int .i64 5)) rfl (by kernel_rfl) (by kernel_rfl) (by kernel_rfl) (fun _ _ _ h => h) rfl (Or.inl ⟨by rfl, fun w' hS => ?_⟩) hHeld ?_
  · have hc := (Below.cell hS (p := ⟨g1, 0, none⟩) (HBQ.out.symm ▸ HGL.out)).trans (HG.out.cell 0)
    have hc' : w'.cell? ⟨g1, 0, none⟩ = some (.int .i64 5) := hc
    go_simp
  simp only [List.set_cons_zero, List.set_cons_succ]
  refine wpAnyH_takeAt (i := 6) (v := (.bool false)) rfl (by kernel_rfl) (by kernel_rfl) (by kernel_rfl) (fun _ _ _ h => h) rfl (Or.inl ⟨by rfl, fun w' hS => ?_⟩) hHeld ?_
  · go_simp
  simp only [List.set_cons_zero, List.set_cons_succ]
  refine wpAnyH_takeAt (i := 7) (v := (.bool false)) rfl (by kernel_rfl) (by kernel_rfl) (by kernel_rfl) (fun _ _ _ h => h) rfl (Or.inl ⟨by rfl, fun w' hS => ?_⟩) hHeld ?_
  · go_simp
  simp only [List.set_cons_zero, List.set_cons_succ]
  refine wpAnyH_takeAt (i := 8) (v := (.bool false)) rfl (by kernel_rfl) (by kernel_rfl) (by kernel_rfl) (fun _ _ _ h => h) rfl (Or.inl ⟨by rfl, fun w' hS => ?_⟩) hHeld ?_
  · go_simp
  simp only [List.set_cons_zero, List.set_cons_succ]
  refine wpAnyH_takeAt (i := 9) (v := (.agg #[.int .i64 5, .int .u32 (fr : Int), .int .u32 (ab : Int), .int .u64 (ntp : Int), .int .u32 (ts : Int), .int .u32 (pk : Int), .int .u32 (oc : Int), .slice Ab nb cb, .slice Ap np cp, .slice Af nf cf, .int .i64 ex, .int .u32 (mt : Int), .slice As ns cs, .int .i64 ty, .int .i64 ct, .slice Ad nd cd])) rfl (by kernel_rfl) (by kernel_rfl) (by kernel_rfl) (fun _ _ _ h => h) rfl (yieldsIf_load_mid (by rfl) 46 _ rfl g1 0 rfl [.int .i64 5, .int .u32 (fr : Int), .int .u32 (ab : Int), .int .u64 (ntp : Int), .int .u32 (ts : Int), .int .u32 (pk : Int), .int .u32 (oc : Int), .slice Ab nb cb, .slice Ap np cp, .slice Af nf cf, .int .i64 ex, .int .u32 (mt : Int), .slice As ns cs, .int .i64 ty, .int .i64 ct, .slice Ad nd cd] _ (fun w' hS => below_range HRG.out hS (HBQ.out.symm ▸ HGL.out)) Try.underlying46 rfl HI.out) hHeld ?_
  simp only [List.set_cons_zero, List.set_cons_succ]
  refine wpAnyH_takeAt (i := 10) (v := (.agg #[.int .i64 5, .int .u32 (fr : Int), .int .u32 (ab : Int), .int .u64 (ntp : Int), .int .u32 (ts : Int), .int .u32 (pk : Int), .int .u32 (oc : Int), .slice Ab nb cb, .slice Ap np cp, .slice Af nf cf, .int .i64 ex, .int .u32 (mt : Int), .slice As ns cs, .int .i64 ty, .int .i64 ct, .slice Ad nd cd])) rfl (by kernel_rfl) (by kernel_rfl) (by kernel_rfl) (fun _ _ _ h => h) rfl (yieldsIf_load_mid (by rfl) 46 _ rfl g1 0 rfl [.int .i64 5, .int .u32 (fr : Int), .int .u32 (ab : Int), .int .u64 (ntp : Int), .int .u32 (ts : Int), .int .u32 (pk : Int), .int .u32 (oc : Int), .slice Ab nb cb, .slice Ap np cp, .slice Af nf cf, .int .i64 ex, .int .u32 (mt : Int), .slice As ns cs, .int .i64 ty, .int .i64 ct, .slice Ad nd cd] _ (fun w' hS => below_range HRG.out hS (HBQ.out.symm ▸ HGL.out)) Try.underlying46 rfl HI.out) hHeld ?_
  simp only [List.set_cons_zero, List.set_cons_succ]
  refine wpAnyH_ready (rs := [11]) (by kernel_rfl) (by simp) (AllReadyH.cons rfl (fun K' hK => ?_) AllReadyH.nil)
  go_simp
  go_at_call 40
  refine (bare5_c _ _ _ _ _ _ _ _ _ _ _ _ _ _ _ _ _ _ _ _ _ _ _ _ _ _).mono ?_
  rintro e0 w2 ⟨rfl, hb2⟩
  go_wp2_with fail
  have HB2 : Hid (Below w1.heap.size w1 w2) := bcall HBd.out hb2
  clear hb2
  refine hK.out _ _ (HBQ.out.symm ▸ HB2.out) (fun hHeld' => ?_)
  clear hK hHeld
  have hHeld := hHeld'
  clear hHeld'
  refine wpAnyH_ready (rs := [12]) (by kernel_rfl) (by simp) (AllReadyH.cons rfl (fun K' hK => ?_) AllReadyH.nil)
  go_simp
  go_at_call 39
  refine (alike_c _ _ fr ab ntp ts pk oc mt nb cb np cp nf cf ns cs nd cd ex ty ct Ab Ap Af As Ad fr ab 0 0 0 0 0 0 0 0 0 nf cf 0 0 0 0 0 0 0 none none Af none none _).mono ?_
  rintro e0 w3 ⟨q, rfl, hq, hb3⟩
  go_wp2_with fail
  have HQ := Lib.hid hq
  have HB3 : Hid (Below w1.heap.size w1 w3) := bcall HB2.out hb3
  clear hq hb3
  refine hK.out _ _ (HBQ.out.symm ▸ HB3.out) (fun hHeld' => ?_)
  clear hK hHeld
  have hHeld := hHeld'
  clear hHeld'
  refine wpAnyH_takeAt (i := 13) (v := (.bool (!q))) rfl (by kernel_rfl) (by kernel_rfl) (by kernel_rfl) (fun _ _ _ h => h) rfl (Or.inl ⟨by rfl, fun w' hS => ?_⟩) hHeld ?_
  · go_simp
  simp only [List.set_cons_zero, List.set_cons_succ]
  refine wpAnyH_takeAt (i := 14) (v := (.bool (!q))) rfl (by kernel_rfl) (by kernel_rfl) (by kernel_rfl) (fun _ _ _ h => h) rfl (Or.inl ⟨by rfl, fun w' hS => ?_⟩) hHeld ?_
  · go_simp
  simp only [List.set_cons_zero, List.set_cons_succ]
  refine wpAnyH_done (by kernel_rfl) ?_ _
  have HBW : Hid (Below w.heap.size w w3) := bcall HB.out HB3.out
  cases q with
  | false =>
    have HN : Hid (¬ P) := by show ¬ P; rw [HPE.out]; exact fun h => absurd (HQ.out.2 h.1) (by decide)
    go_wp2_with fail
    go_ret
    exact BoolIs.no HN.out HBW.out
  | true =>
    have HA : Hid (P ↔ 0 < nf) := by show _ ↔ _; rw [HPE.out]; exact and_iff_right (HQ.out.1 rfl)
    have HG3 : Hid (Blk w3 g1 46 #[.int .i64 5, .int .u32 (fr : Int), .int .u32 (ab : Int), .int .u64 (ntp : Int), .int .u32 (ts : Int), .int .u32 (pk : Int), .int .u32 (oc : Int), .slice Ab nb cb, .slice Ap np cp, .slice Af nf cf, .int .i64 ex, .int .u32 (mt : Int), .slice As ns cs, .int .i64 ty, .int .i64 ct, .slice Ad nd cd]) := HG.out.below HB3.out
    have k0 : w3.cell? ⟨g1, 0, none⟩ = some (.int .i64 5) := HG3.out.cell 0
    have k9 : w3.cell? ⟨g1, 9, none⟩ = some (.slice Af nf cf) := HG3.out.cell 9
    by_cases h0 : 0 < nf
    · have h0i : (0 : Int) < (nf : Int) := by omega
      have h0d : decide (0 < nf) = true := by simpa using h0
      have HY : Hid P := by show P; rw [HA.out]; exact h0
      clear h0
      go_wp2_with fail
      go_ret
      exact BoolIs.yes HY.out HBW.out
    · have h0i : ¬ (0 : Int) < (nf : Int) := by omega
      have h0d : decide (0 < nf) = false := by simpa using h0
      have HN : Hid (¬ P) := by show ¬ P; rw [HA.out]; exact h0
      clear h0
      go_wp2_with fail
      go_ret
      exact BoolIs.no HN.out HBW.out
end Go.Proofs.Ytkfimncbfbbopaa
/- What Good tells of a report of one kind (contract). Conditions: what it has lies in memory. (Printed by gen8g.py.) -/
set_option linter.unusedVariables false
set_option linter.unusedSimpArgs false
namespace Go.Proofs.Ytkfimncbfbbopaa
open Go.RowKit
attribute [local go_sem ↓] Go.wp_at_zero Go.wp_at_succ

set_option maxRecDepth 100000 in
set_option maxHeartbeats 12800000 in
theorem good6_c (fr ab ntp ts pk oc mt nb cb np cp nf cf ns cs nd cd : Nat) (ex ty ct : Int) (Ab Ap Af As Ad : Option Addr) (w : World) (hx1 : -9223372036854775808 ≤ ex) (hx2 : ex ≤ 9223372036854775807) :
    Calls Try.prog 26 #[.agg #[.int .i64 6, .int .u32 (fr : Int), .int .u32 (ab : Int), .int .u64 (ntp : Int), .int .u32 (ts : Int), .int .u32 (pk : Int), .int .u32 (oc : Int), .slice Ab nb cb, .slice Ap np cp, .slice Af nf cf, .int .i64 ex, .int .u32 (mt : Int), .slice As ns cs, .int .i64 ty, .int .i64 ct, .slice Ad nd cd]] w (BoolIs (AlikeV fr ab ntp ts pk oc mt nb cb np cp nf cf ns cs nd cd ex ty ct Ab Ap Af As Ad fr ab 0 0 0 0 mt 0 0 0 0 0 0 ns cs 0 0 ex 0 0 none none none As none ∧ (ns ≤ 255 ∧ 0 ≤ ex ∧ ex ≤ 63 ∧ mt < 262144)) w) := by
  obtain ⟨P, hP⟩ : ∃ P : Prop, P = (AlikeV fr ab ntp ts pk oc mt nb cb np cp nf cf ns cs nd cd ex ty ct Ab Ap Af As Ad fr ab 0 0 0 0 mt 0 0 0 0 0 0 ns cs 0 0 ex 0 0 none none none As none ∧ (ns ≤ 255 ∧ 0 ≤ ex ∧ ex ≤ 63 ∧ mt < 262144)) := ⟨_, rfl⟩
  rw [← hP]
  obtain ⟨g1, hg1⟩ : ∃ g1, g1 = w.heap.size := ⟨_, rfl⟩
  obtain ⟨w1, hw1⟩ : ∃ w1, w1 = w.alloc (.cells #[.int .i64 6, .int .u32 (fr : Int), .int .u32 (ab : Int), .int .u64 (ntp : Int), .int .u32 (ts : Int), .int .u32 (pk : Int), .int .u32 (oc : Int), .slice Ab nb cb, .slice Ap np cp, .slice Af nf cf, .int .i64 ex, .int .u32 (mt : Int), .slice As ns cs, .int .i64 ty, .int .i64 ct, .slice Ad nd cd] 46) := ⟨_, rfl⟩
  have HG : Hid (Blk w1 g1 46 #[.int .i64 6, .int .u32 (fr : Int), .int .u32 (ab : Int), .int .u64 (ntp : Int), .int .u32 (ts : Int), .int .u32 (pk : Int), .int .u32 (oc : Int), .slice Ab nb cb, .slice Ap np cp, .slice Af nf cf, .int .i64 ex, .int .u32 (mt : Int), .slice As ns cs, .int .i64 ty, .int .i64 ct, .slice Ad nd cd]) := by show Blk _ _ _ _; rw [hw1]; exact Blk.newAt hg1 _ _
  have HB : Hid (Below w.heap.size w w1) := by show Below _ _ _; rw [hw1]; exact balloc (Below.refl _ _) _
  have HPE := Lib.hid hP
  have HGL : Hid (g1 < w1.heap.size) := HG.out.lt
  clear hP
  go_enter Try.func26, Try.ntmps26
  go_upto_region 1 with fail
  rw [← hw1, ← hg1]
  clear hw1 hg1
  obtain ⟨Bq, hBq⟩ : ∃ Bq, Bq = w1.heap.size := ⟨_, rfl⟩
  have HBQ := Lib.hid hBq
  clear hBq
  have HBd : Hid (Below w1.heap.size w1 (World.drew w1)) := bdrew (Below.refl _ _)
  have HI : Hid ((Try.prog.info? 46).map (·.size) = some ([.int .i64 6, .int .u32 (fr : Int), .int .u32 (ab : Int), .int .u64 (ntp : Int), .int .u32 (ts : Int), .int .u32 (pk : Int), .int .u32 (oc : Int), .slice Ab nb cb, .slice Ap np cp, .slice Af nf cf, .int .i64 ex, .int .u32 (mt : Int), .slice As ns cs, .int .i64 ty, .int .i64 ct, .slice Ad nd cd] : List Value).length) := infoRep
  have HRG : Hid (w1.rangeAt g1 0 [.int .i64 6, .int .u32 (fr : Int), .int .u32 (ab : Int), .int .u64 (ntp : Int), .int .u32 (ts : Int), .int .u32 (pk : Int), .int .u32 (oc : Int), .slice Ab nb cb, .slice Ap np cp, .slice Af nf cf, .int .i64 ex, .int .u32 (mt : Int), .slice As ns cs, .int .i64 ty, .int .i64 ct, .slice Ad nd cd]) := blk_range (l := [.int .i64 6, .int .u32 (fr : Int), .int .u32 (ab : Int), .int .u64 (ntp : Int), .int .u32 (ts : Int), .int .u32 (pk : Int), .int .u32 (oc : Int), .slice Ab nb cb, .slice Ap np cp, .slice Af nf cf, .int .i64 ex, .int .u32 (mt : Int), .slice As ns cs, .int .i64 ty, .int .i64 ct, .slice Ad nd cd]) HG.out
  refine wp_region_held_drew (S := (fun w2 => Below Bq w1 w2)) (by kernel_rfl) (HBQ.out.symm ▸ HBd.out) (fun hHeld => ?_)
  refine wpAnyH_takeAt (i := 0) (v := (.pointer (some ⟨g1, 0, none⟩))) rfl (by kernel_rfl) (by kernel_rfl) (by kernel_rfl) (fun _ _ _ h => h) rfl (Or.inl ⟨by rfl, fun w' hS => ?_⟩) hHeld ?_
  · go_simp
  simp only [List.set_cons_zero, List.set_cons_succ]
  refine wpAnyH_takeAt (i := 1) (v := (.int .i64 6)) rfl (by kernel_rfl) (by kernel_rfl) (by kernel_rfl) (fun _ _ _ h => h) rfl (Or.inl ⟨by rfl, fun w' hS => ?_⟩) hHeld ?_
  · have hc := (Below.cell hS (p := ⟨g1, 0, none⟩) (HBQ.out.symm ▸ HGL.out)).trans (HG.out.cell 0)
    have hc' : w'.cell? ⟨g1, 0, none⟩ = some (.int .i64 6) := hc
    go_simp
  simp only [List.set_cons_zero, List.set_cons_succ]
  refine wpAnyH_takeAt (i := 2) (v := (.bool false)) rfl (by kernel_rfl) (by kernel_rfl) (by kernel_rfl) (fun _ _ _ h => h) rfl (Or.inl ⟨by rfl, fun w' hS => ?_⟩) hHeld ?_
  · go_simp
  simp only [List.set_cons_zero, List.set_cons_succ]
  refine wpAnyH_takeAt (i := 3) (v := (.bool false)) rfl (by kernel_rfl) (by kernel_rfl) (by kernel_rfl) (fun _ _ _ h => h) rfl (Or.inl ⟨by rfl, fun w' hS => ?_⟩) hHeld ?_
  · go_simp
  simp only [List.set_cons_zero, List.set_cons_succ]
  refine wpAnyH_takeAt (i := 4) (v := (.pointer (some ⟨g1, 0, none⟩))) rfl (by kernel_rfl) (by kernel_rfl) (by kernel_rfl) (fun _ _ _ h => h) rfl (Or.inl ⟨by rfl, fun w' hS => ?_⟩) hHeld ?_
  · go_simp
  simp only [List.set_cons_zero, List.set_cons_succ]
  refine wpAnyH_takeAt (i := 5) (v := (.int .i64 6)) rfl (by kernel_rfl) (by kernel_rfl) (by kernel_rfl) (fun _ _ _ h => h) rfl (Or.inl ⟨by rfl, fun w' hS => ?_⟩) hHeld ?_
  · have hc := (Below.cell hS (p := ⟨g1, 0, none⟩) (HBQ.out.symm ▸ HGL.out)).trans (HG.out.cell 0)
    have hc' : w'.cell? ⟨g1, 0, none⟩ = some (.int .i64 6) := hc
    go_simp
  simp only [List.set_cons_zero, List.set_cons_succ]
  refine wpAnyH_takeAt (i := 6) (v := (.bool false)) rfl (by kernel_rfl) (by kernel_rfl) (by kernel_rfl) (fun _ _ _ h => h) rfl (Or.inl ⟨by rfl, fun w' hS => ?_⟩) hHeld ?_
  · go_simp
  simp only [List.set_cons_zero, List.set_cons_succ]
  refine wpAnyH_takeAt (i := 7) (v := (.bool false)) rfl (by kernel_rfl) (by kernel_rfl) (by kernel_rfl) (fun _ _ _ h => h) rfl (Or.inl ⟨by rfl, fun w' hS => ?_⟩) hHeld ?_
  · go_simp
  simp only [List.set_cons_zero, List.set_cons_succ]
  refine wpAnyH_takeAt (i := 8) (v := (.bool false)) rfl (by kernel_rfl) (by kernel_rfl) (by kernel_rfl) (fun _ _ _ h => h) rfl (Or.inl ⟨by rfl, fun w' hS => ?_⟩) hHeld ?_
  · go_simp
  simp only [List.set_cons_zero, List.set_cons_succ]
  refine wpAnyH_takeAt (i := 9) (v := (.agg #[.int .i64 6, .int .u32 (fr : Int), .int .u32 (ab : Int), .int .u64 (ntp : Int), .int .u32 (ts : Int), .int .u32 (pk : Int), .int .u32 (oc : Int), .slice Ab nb cb, .slice Ap np cp, .slice Af nf cf, .int .i64 ex, .int .u32 (mt : Int), .slice As ns cs, .int .i64 ty, .int .i64 ct, .slice Ad nd cd])) rfl (by kernel_rfl) (by kernel_rfl) (by kernel_rfl) (fun _ _ _ h => h) rfl (yieldsIf_load_mid (by rfl) 46 _ rfl g1 0 rfl [.int .i64 6, .int .u32 (fr : Int), .int .u32 (ab : Int), .int .u64 (ntp : Int), .int .u32 (ts : Int), .int .u32 (pk : Int), .int .u32 (oc : Int), .slice Ab nb cb, .slice Ap np cp, .slice Af nf cf, .int .i64 ex, .int .u32 (mt : Int), .slice As ns cs, .int .i64 ty, .int .i64 ct, .slice Ad nd cd] _ (fun w' hS => below_range HRG.out hS (HBQ.out.symm ▸ HGL.out)) Try.underlying46 rfl HI.out) hHeld ?_
  simp only [List.set_cons_zero, List.set_cons_succ]
  refine wpAnyH_takeAt (i := 10) (v := (.agg #[.int .i64 6, .int .u32 (fr : Int), .int .u32 (ab : Int), .int .u64 (ntp : Int), .int .u32 (ts : Int), .int .u32 (pk : Int), .int .u32 (oc : Int), .slice Ab nb cb, .slice Ap np cp, .slice Af nf cf, .int .i64 ex, .int .u32 (mt : Int), .slice As ns cs, .int .i64 ty, .int .i64 ct, .slice Ad nd cd])) rfl (by kernel_rfl) (by kernel_rfl) (by kernel_rfl) (fun _ _ _ h => h) rfl (yieldsIf_load_mid (by rfl) 46 _ rfl g1 0 rfl [.int .i64 6, .int .u32 (fr : Int), .int .u32 (ab : Int), .int .u64 (ntp : Int), .int .u32 (ts : Int), .int .u32 (pk : Int), .int .u32 (oc : Int), .slice Ab nb cb, .slice Ap np cp, .slice Af nf cf, .int .i64 ex, .int .u32 (mt : Int), .slice As ns cs, .int .i64 ty, .int .i64 ct, .slice Ad nd cd] _ (fun w' hS => below_range HRG.out hS (HBQ.out.symm ▸ HGL.out)) Try.underlying46 rfl HI.out) hHeld ?_
  simp only [List.set_cons_zero, List.set_cons_succ]
  refine wpAnyH_ready (rs := [11]) (by kernel_rfl) (by simp) (AllReadyH.cons rfl (fun K' hK => ?_) AllReadyH.nil)
  go_simp
  go_at_call 40
  refine (bare6_c _ _ _ _ _ _ _ _ _ _ _ _ _ _ _ _ _ _ _ _ _ _ _ _ _ _).mono ?_
  rintro e0 w2 ⟨rfl, hb2⟩
  go_wp2_with fail
  have HB2 : Hid (Below w1.heap.size w1 w2) := bcall HBd.out hb2
  clear hb2
  refine hK.out _ _ (HBQ.out.symm ▸ HB2.out) (fun hHeld' => ?_)
  clear hK hHeld
  have hHeld := hHeld'
  clear hHeld'
  refine wpAnyH_ready (rs := [12]) (by kernel_rfl) (by simp) (AllReadyH.cons rfl (fun K' hK => ?_) AllReadyH.nil)
  go_simp
  go_at_call 39
  refine (alike_c _ _ fr ab ntp ts pk oc mt nb cb np cp nf cf ns cs nd cd ex ty ct Ab Ap Af As Ad fr ab 0 0 0 0 mt 0 0 0 0 0 0 ns cs 0 0 ex 0 0 none none none As none _).mono ?_
  rintro e0 w3 ⟨q, rfl, hq, hb3⟩
  go_wp2_with fail
  have HQ := Lib.hid hq
  have HB3 : Hid (Below w1.heap.size w1 w3) := bcall HB2.out hb3
  clear hq hb3
  refine hK.out _ _ (HBQ.out.symm ▸ HB3.out) (fun hHeld' => ?_)
  clear hK hHeld
  have hHeld := hHeld'
  clear hHeld'
  refine wpAnyH_takeAt (i := 13) (v := (.bool (!q))) rfl (by kernel_rfl) (by kernel_rfl) (by kernel_rfl) (fun _ _ _ h => h) rfl (Or.inl ⟨by rfl, fun w' hS => ?_⟩) hHeld ?_
  · go_simp
  simp only [List.set_cons_zero, List.set_cons_succ]
  refine wpAnyH_takeAt (i := 14) (v := (.bool (!q))) rfl (by kernel_rfl) (by kernel_rfl) (by kernel_rfl) (fun _ _ _ h => h) rfl (Or.inl ⟨by rfl, fun w' hS => ?_⟩) hHeld ?_
  · go_simp
  simp only [List.set_cons_zero, List.set_cons_succ]
  refine wpAnyH_done (by kernel_rfl) ?_ _
  have HBW : Hid (Below w.heap.size w w3) := bcall HB.out HB3.out
  cases q with
  | false =>
    have HN : Hid (¬ P) := by show ¬ P; rw [HPE.out]; exact fun h => absurd (HQ.out.2 h.1) (by decide)
    go_wp2_with fail
    go_ret
    exact BoolIs.no HN.out HBW.out
  | true =>
    have HA : Hid (P ↔ (ns ≤ 255 ∧ 0 ≤ ex ∧ ex ≤ 63 ∧ mt < 262144)) := by show _ ↔ _; rw [HPE.out]; exact and_iff_right (HQ.out.1 rfl)
    have HG3 : Hid (Blk w3 g1 46 #[.int .i64 6, .int .u32 (fr : Int), .int .u32 (ab : Int), .int .u64 (ntp : Int), .int .u32 (ts : Int), .int .u32 (pk : Int), .int .u32 (oc : Int), .slice Ab nb cb, .slice Ap np cp, .slice Af nf cf, .int .i64 ex, .int .u32 (mt : Int), .slice As ns cs, .int .i64 ty, .int .i64 ct, .slice Ad nd cd]) := HG.out.below HB3.out
    have k0 : w3.cell? ⟨g1, 0, none⟩ = some (.int .i64 6) := HG3.out.cell 0
    obtain ⟨mz, hmz⟩ : ∃ mz : Int, mz = (mt : Int) := ⟨_, rfl⟩
    have k12 : w3.cell? ⟨g1, 12, none⟩ = some (.slice As ns cs) := HG3.out.cell 12
    have k10 : w3.cell? ⟨g1, 10, none⟩ = some (.int .i64 ex) := HG3.out.cell 10
    have k11 : w3.cell? ⟨g1, 11, none⟩ = some (.int .u32 mz) := by rw [hmz]; exact HG3.out.cell 11
    have HMZ := Lib.hid hmz
    have HMI : Hid ((mt < 262144) ↔ mz < 262144) := by show _ ↔ _; omega
    clear hmz hx1 hx2
    by_cases h0 : ns ≤ 255
    case neg =>
      have n1 : ¬ ((ns : Int) ≤ 255) := by omega
      have n2 : decide ((ns : Int) ≤ 255) = false := by simp; omega
      have HN : Hid (¬ P) := by show ¬ P; rw [HA.out]; exact fun h => h0 h.1
      clear h0
      go_wp2_with fail
      go_ret
      exact BoolIs.no HN.out HBW.out
    have y0 : (ns : Int) ≤ 255 := by omega
    have z0 : decide ((ns : Int) ≤ 255) = true := by simp; omega
    by_cases h1 : 0 ≤ ex
    case neg =>
      have n1 : ¬ (0 ≤ ex) := by omega
      have n2 : decide (0 ≤ ex) = false := by simp; omega
      have HN : Hid (¬ P) := by show ¬ P; rw [HA.out]; exact fun h => h1 h.2.1
      clear h0 h1
      go_wp2_with fail
      go_ret
      exact BoolIs.no HN.out HBW.out
    have y1 : 0 ≤ ex := by omega
    have z1 : decide (0 ≤ ex) = true := by simp; omega
    by_cases h2 : ex ≤ 63
    case neg =>
      have n1 : ¬ (ex ≤ 63) := by omega
      have n2 : decide (ex ≤ 63) = false := by simp; omega
      have HN : Hid (¬ P) := by show ¬ P; rw [HA.out]; exact fun h => h2 h.2.2.1
      clear h0 h1 h2
      go_wp2_with fail
      go_ret
      exact BoolIs.no HN.out HBW.out
    have y2 : ex ≤ 63 := by omega
    have z2 : decide (ex ≤ 63) = true := by simp; omega
    by_cases h3 : mz < 262144
    case neg =>
      have n2 : decide (mz < 262144) = false := by simp; omega
      have HN : Hid (¬ P) := by show ¬ P; rw [HA.out]; exact fun h => h3 (HMI.out.1 h.2.2.2)
      clear h0 h1 h2 h3
      go_wp2_with fail
      go_ret
      exact BoolIs.no HN.out HBW.out
    have y3 : mz < 262144 := by omega
    have z3 : decide (mz < 262144) = true := by simp; omega
    have HY : Hid P := by show P; rw [HA.out]; exact ⟨h0, h1, h2, HMI.out.2 h3⟩
    clear h0 h1 h2 h3
    go_wp2_with fail
    go_ret
    exact BoolIs.yes HY.out HBW.out
end Go.Proofs.Ytkfimncbfbbopaa
/- What Good tells of a report of one kind (contract). Conditions: what it has lies in memory. (Printed by gen8g.py.) -/
set_option linter.unusedVariables false
set_option linter.unusedSimpArgs false
namespace Go.Proofs.Ytkfimncbfbbopaa
open Go.RowKit
attribute [local go_sem ↓] Go.wp_at_zero Go.wp_at_succ

set_option maxRecDepth 100000 in
set_option maxHeartbeats 12800000 in
theorem good7_c (fr ab ntp ts pk oc mt nb cb np cp nf cf ns cs nd cd : Nat) (ex ty ct : Int) (Ab Ap Af As Ad : Option Addr) (w : World) (body : List UInt8) (hbd : SlV w (.slice Ad nd cd) body) :
    Calls Try.prog 26 #[.agg #[.int .i64 7, .int .u32 (fr : Int), .int .u32 (ab : Int), .int .u64 (ntp : Int), .int .u32 (ts : Int), .int .u32 (pk : Int), .int .u32 (oc : Int), .slice Ab nb cb, .slice Ap np cp, .slice Af nf cf, .int .i64 ex, .int .u32 (mt : Int), .slice As ns cs, .int .i64 ty, .int .i64 ct, .slice Ad nd cd]] w (BoolIs (AlikeV fr ab ntp ts pk oc mt nb cb np cp nf cf ns cs nd cd ex ty ct Ab Ap Af As Ad 0 0 0 0 0 0 0 0 0 0 0 0 0 0 0 nd cd 0 ty ct none none none none Ad ∧ (192 ≤ ty ∧ ty ≤ 223 ∧ 0 ≤ ct ∧ ct ≤ 31 ∧ nd % 4 = 0 ∧ kindS ty ct body = 7)) w) := by
  obtain ⟨P, hP⟩ : ∃ P : Prop, P = (AlikeV fr ab ntp ts pk oc mt nb cb np cp nf cf ns cs nd cd ex ty ct Ab Ap Af As Ad 0 0 0 0 0 0 0 0 0 0 0 0 0 0 0 nd cd 0 ty ct none none none none Ad ∧ (192 ≤ ty ∧ ty ≤ 223 ∧ 0 ≤ ct ∧ ct ≤ 31 ∧ nd % 4 = 0 ∧ kindS ty ct body = 7)) := ⟨_, rfl⟩
  rw [← hP]
  obtain ⟨g1, hg1⟩ : ∃ g1, g1 = w.heap.size := ⟨_, rfl⟩
  obtain ⟨w1, hw1⟩ : ∃ w1, w1 = w.alloc (.cells #[.int .i64 7, .int .u32 (fr : Int), .int .u32 (ab : Int), .int .u64 (ntp : Int), .int .u32 (ts : Int), .int .u32 (pk : Int), .int .u32 (oc : Int), .slice Ab nb cb, .slice Ap np cp, .slice Af nf cf, .int .i64 ex, .int .u32 (mt : Int), .slice As ns cs, .int .i64 ty, .int .i64 ct, .slice Ad nd cd] 46) := ⟨_, rfl⟩
  have HG : Hid (Blk w1 g1 46 #[.int .i64 7, .int .u32 (fr : Int), .int .u32 (ab : Int), .int .u64 (ntp : Int), .int .u32 (ts : Int), .int .u32 (pk : Int), .int .u32 (oc : Int), .slice Ab nb cb, .slice Ap np cp, .slice Af nf cf, .int .i64 ex, .int .u32 (mt : Int), .slice As ns cs, .int .i64 ty, .int .i64 ct, .slice Ad nd cd]) := by show Blk _ _ _ _; rw [hw1]; exact Blk.newAt hg1 _ _
  have HB : Hid (Below w.heap.size w w1) := by show Below _ _ _; rw [hw1]; exact balloc (Below.refl _ _) _
  have HPE := Lib.hid hP
  have HGL : Hid (g1 < w1.heap.size) := HG.out.lt
  have HBD : Hid (SlV w1 (.slice Ad nd cd) body) := hbd.below HB.out
  clear hbd
  clear hP
  go_enter Try.func26, Try.ntmps26
  go_upto_region 1 with fail
  rw [← hw1, ← hg1]
  clear hw1 hg1
  obtain ⟨Bq, hBq⟩ : ∃ Bq, Bq = w1.heap.size := ⟨_, rfl⟩
  have HBQ := Lib.hid hBq
  clear hBq
  have HBd : Hid (Below w1.heap.size w1 (World.drew w1)) := bdrew (Below.refl _ _)
  have HI : Hid ((Try.prog.info? 46).map (·.size) = some ([.int .i64 7, .int .u32 (fr : Int), .int .u32 (ab : Int), .int .u64 (ntp : Int), .int .u32 (ts : Int), .int .u32 (pk : Int), .int .u32 (oc : Int), .slice Ab nb cb, .slice Ap np cp, .slice Af nf cf, .int .i64 ex, .int .u32 (mt : Int), .slice As ns cs, .int .i64 ty, .int .i64 ct, .slice Ad nd cd] : List Value).length) := infoRep
  have HRG : Hid (w1.rangeAt g1 0 [.int .i64 7, .int .u32 (fr : Int), .int .u32 (ab : Int), .int .u64 (ntp : Int), .int .u32 (ts : Int), .int .u32 (pk : Int), .int .u32 (oc : Int), .slice Ab nb cb, .slice Ap np cp, .slice Af nf cf, .int .i64 ex, .int .u32 (mt : Int), .slice As ns cs, .int .i64 ty, .int .i64 ct, .slice Ad nd cd]) := blk_range (l := [.int .i64 7, .int .u32 (fr : Int), .int .u32 (ab : Int), .int .u64 (ntp : Int), .int .u32 (ts : Int), .int .u32 (pk : Int), .int .u32 (oc : Int), .slice Ab nb cb, .slice Ap np cp, .slice Af nf cf, .int .i64 ex, .int .u32 (mt : Int), .slice As ns cs, .int .i64 ty, .int .i64 ct, .slice Ad nd cd]) HG.out
  refine wp_region_held_drew (S := (fun w2 => Below Bq w1 w2)) (by kernel_rfl) (HBQ.out.symm ▸ HBd.out) (fun hHeld => ?_)
  refine wpAnyH_takeAt (i := 0) (v := (.pointer (some ⟨g1, 0, none⟩))) rfl (by kernel_rfl) (by kernel_rfl) (by kernel_rfl) (fun _ _ _ h => h) rfl (Or.inl ⟨by rfl, fun w' hS => ?_⟩) hHeld ?_
  · go_simp
  simp only [List.set_cons_zero, List.set_cons_succ]
  refine wpAnyH_takeAt (i := 1) (v := (.int .i64 7)) rfl (by kernel_rfl) (by kernel_rfl) (by kernel_rfl) (fun _ _ _ h => h) rfl (Or.inl ⟨by rfl, fun w' hS => ?_⟩) hHeld ?_
  · have hc := (Below.cell hS (p := ⟨g1, 0, none⟩) (HBQ.out.symm ▸ HGL.out)).trans (HG.out.cell 0)
    have hc' : w'.cell? ⟨g1, 0, none⟩ = some (.int .i64 7) := hc
    go_simp
  simp only [List.set_cons_zero, List.set_cons_succ]
  refine wpAnyH_takeAt (i := 2) (v := (.bool false)) rfl (by kernel_rfl) (by kernel_rfl) (by kernel_rfl) (fun _ _ _ h => h) rfl (Or.inl ⟨by rfl, fun w' hS => ?_⟩) hHeld ?_
  · go_simp
  simp only [List.set_cons_zero, List.set_cons_succ]
  refine wpAnyH_takeAt (i := 3) (v := (.bool false)) rfl (by kernel_rfl) (by kernel_rfl) (by kernel_rfl) (fun _ _ _ h => h) rfl (Or.inl ⟨by rfl, fun w' hS => ?_⟩) hHeld ?_
  · go_simp
  simp only [List.set_cons_zero, List.set_cons_succ]
  refine wpAnyH_takeAt (i := 4) (v := (.pointer (some ⟨g1, 0, none⟩))) rfl (by kernel_rfl) (by kernel_rfl) (by kernel_rfl) (fun _ _ _ h => h) rfl (Or.inl ⟨by rfl, fun w' hS => ?_⟩) hHeld ?_
  · go_simp
  simp only [List.set_cons_zero, List.set_cons_succ]
  refine wpAnyH_takeAt (i := 5) (v := (.int .i64 7)) rfl (by kernel_rfl) (by kernel_rfl) (by kernel_rfl) (fun _ _ _ h => h) rfl (Or.inl ⟨by rfl, fun w' hS => ?_⟩) hHeld ?_
  · have hc := (Below.cell hS (p := ⟨g1, 0, none⟩) (HBQ.out.symm ▸ HGL.out)).trans (HG.out.cell 0)
    have hc' : w'.cell? ⟨g1, 0, none⟩ = some (.int .i64 7) := hc
    go_simp
  simp only [List.set_cons_zero, List.set_cons_succ]
  refine wpAnyH_takeAt (i := 6) (v := (.bool false)) rfl (by kernel_rfl) (by kernel_rfl) (by kernel_rfl) (fun _ _ _ h => h) rfl (Or.inl ⟨by rfl, fun w' hS => ?_⟩) hHeld ?_
  · go_simp
  simp only [List.set_cons_zero, List.set_cons_succ]
  refine wpAnyH_takeAt (i := 7) (v := (.bool false)) rfl (by kernel_rfl) (by kernel_rfl) (by kernel_rfl) (fun _ _ _ h => h) rfl (Or.inl ⟨by rfl, fun w' hS => ?_⟩) hHeld ?_
  · go_simp
  simp only [List.set_cons_zero, List.set_cons_succ]
  refine wpAnyH_takeAt (i := 8) (v := (.bool false)) rfl (by kernel_rfl) (by kernel_rfl) (by kernel_rfl) (fun _ _ _ h => h) rfl (Or.inl ⟨by rfl, fun w' hS => ?_⟩) hHeld ?_
  · go_simp
  simp only [List.set_cons_zero, List.set_cons_succ]
  refine wpAnyH_takeAt (i := 9) (v := (.agg #[.int .i64 7, .int .u32 (fr : Int), .int .u32 (ab : Int), .int .u64 (ntp : Int), .int .u32 (ts : Int), .int .u32 (pk : Int), .int .u32 (oc : Int), .slice Ab nb cb, .slice Ap np cp, .slice Af nf cf, .int .i64 ex, .int .u32 (mt : Int), .slice As ns cs, .int .i64 ty, .int .i64 ct, .slice Ad nd cd])) rfl (by kernel_rfl) (by kernel_rfl) (by kernel_rfl) (fun _ _ _ h => h) rfl (yieldsIf_load_mid (by rfl) 46 _ rfl g1 0 rfl [.int .i64 7, .int .u32 (fr : Int), .int .u32 (ab : Int), .int .u64 (ntp : Int), .int .u32 (ts : Int), .int .u32 (pk : Int), .int .u32 (oc : Int), .slice Ab nb cb, .slice Ap np cp, .slice Af nf cf, .int .i64 ex, .int .u32 (mt : Int), .slice As ns cs, .int .i64 ty, .int .i64 ct, .slice Ad nd cd] _ (fun w' hS => below_range HRG.out hS (HBQ.out.symm ▸ HGL.out)) Try.underlying46 rfl HI.out) hHeld ?_
  simp only [List.set_cons_zero, List.set_cons_succ]
  refine wpAnyH_takeAt (i := 10) (v := (.agg #[.int .i64 7, .int .u32 (fr : Int), .int .u32 (ab : Int), .int .u64 (ntp : Int), .int .u32 (ts : Int), .int .u32 (pk : Int), .int .u32 (oc : Int), .slice Ab nb cb, .slice Ap np cp, .slice Af nf cf, .int .i64 ex, .int .u32 (mt : Int), .slice As ns cs, .int .i64 ty, .int .i64 ct, .slice Ad nd cd])) rfl (by kernel_rfl) (by kernel_rfl) (by kernel_rfl) (fun _ _ _ h => h) rfl (yieldsIf_load_mid (by rfl) 46 _ rfl g1 0 rfl [.int .i64 7, .int .u32 (fr : Int), .int .u32 (ab : Int), .int .u64 (ntp : Int), .int .u32 (ts : Int), .int .u32 (pk : Int), .int .u32 (oc : Int), .slice Ab nb cb, .slice Ap np cp, .slice Af nf cf, .int .i64 ex, .int .u32 (mt : Int), .slice As ns cs, .int .i64 ty, .int .i64 ct, .slice Ad nd cd] _ (fun w' hS => below_range HRG.out hS (HBQ.out.symm ▸ HGL.out)) Try.underlying46 rfl HI.out) hHeld ?_
  simp only [List.set_cons_zero, List.set_cons_succ]
  refine wpAnyH_ready (rs := [11]) (by kernel_rfl) (by simp) (AllReadyH.cons rfl (fun K' hK => ?_) AllReadyH.nil)
  go_simp
  go_at_call 40
  refine (bare7_c _ _ _ _ _ _ _ _ _ _ _ _ _ _ _ _ _ _ _ _ _ _ _ _ _ _).mono ?_
  rintro e0 w2 ⟨rfl, hb2⟩
  go_wp2_with fail
  have HB2 : Hid (Below w1.heap.size w1 w2) := bcall HBd.out hb2
  clear hb2
  refine hK.out _ _ (HBQ.out.symm ▸ HB2.out) (fun hHeld' => ?_)
  clear hK hHeld
  have hHeld := hHeld'
  clear hHeld'
  refine wpAnyH_ready (rs := [12]) (by kernel_rfl) (by simp) (AllReadyH.cons rfl (fun K' hK => ?_) AllReadyH.nil)
  go_simp
  go_at_call 39
  refine (alike_c _ _ fr ab ntp ts pk oc mt nb cb np cp nf cf ns cs nd cd ex ty ct Ab Ap Af As Ad 0 0 0 0 0 0 0 0 0 0 0 0 0 0 0 nd cd 0 ty ct none none none none Ad _).mono ?_
  rintro e0 w3 ⟨q, rfl, hq, hb3⟩
  go_wp2_with fail
  have HQ := Lib.hid hq
  have HB3 : Hid (Below w1.heap.size w1 w3) := bcall HB2.out hb3
  clear hq hb3
  refine hK.out _ _ (HBQ.out.symm ▸ HB3.out) (fun hHeld' => ?_)
  clear hK hHeld
  have hHeld := hHeld'
  clear hHeld'
  refine wpAnyH_takeAt (i := 13) (v := (.bool (!q))) rfl (by kernel_rfl) (by kernel_rfl) (by kernel_rfl) (fun _ _ _ h => h) rfl (Or.inl ⟨by rfl, fun w' hS => ?_⟩) hHeld ?_
  · go_simp
  simp only [List.set_cons_zero, List.set_cons_succ]
  refine wpAnyH_takeAt (i := 14) (v := (.bool (!q))) rfl (by kernel_rfl) (by kernel_rfl) (by kernel_rfl) (fun _ _ _ h => h) rfl (Or.inl ⟨by rfl, fun w' hS => ?_⟩) hHeld ?_
  · go_simp
  simp only [List.set_cons_zero, List.set_cons_succ]
  refine wpAnyH_done (by kernel_rfl) ?_ _
  have HBW : Hid (Below w.heap.size w w3) := bcall HB.out HB3.out
  cases q with
  | false =>
    have HN : Hid (¬ P) := by show ¬ P; rw [HPE.out]; exact fun h => absurd (HQ.out.2 h.1) (by decide)
    go_wp2_with fail
    go_ret
    exact BoolIs.no HN.out HBW.out
  | true =>
    have HA : Hid (P ↔ (192 ≤ ty ∧ ty ≤ 223 ∧ 0 ≤ ct ∧ ct ≤ 31 ∧ nd % 4 = 0 ∧ kindS ty ct body = 7)) := by show _ ↔ _; rw [HPE.out]; exact and_iff_right (HQ.out.1 rfl)
    have HG3 : Hid (Blk w3 g1 46 #[.int .i64 7, .int .u32 (fr : Int), .int .u32 (ab : Int), .int .u64 (ntp : Int), .int .u32 (ts : Int), .int .u32 (pk : Int), .int .u32 (oc : Int), .slice Ab nb cb, .slice Ap np cp, .slice Af nf cf, .int .i64 ex, .int .u32 (mt : Int), .slice As ns cs, .int .i64 ty, .int .i64 ct, .slice Ad nd cd]) := HG.out.below HB3.out
    have k0 : w3.cell? ⟨g1, 0, none⟩ = some (.int .i64 7) := HG3.out.cell 0
    have k13 : w3.cell? ⟨g1, 13, none⟩ = some (.int .i64 ty) := HG3.out.cell 13
    have k14 : w3.cell? ⟨g1, 14, none⟩ = some (.int .i64 ct) := HG3.out.cell 14
    have k15 : w3.cell? ⟨g1, 15, none⟩ = some (.slice Ad nd cd) := HG3.out.cell 15
    obtain ⟨K, hK⟩ : ∃ K, K = kindS ty ct body := ⟨_, rfl⟩
    have HKE := Lib.hid hK
    have HKC := Lib.hid (kind_c ty ct body Ad nd cd w3 (HBD.out.below HB3.out))
    rw [← hK] at HKC HA
    clear hK
    by_cases h0 : 192 ≤ ty
    case neg =>
      have n1 : ¬ (192 ≤ ty) := by omega
      have n2 : decide (192 ≤ ty) = false := by simp; omega
      have HN : Hid (¬ P) := by show ¬ P; rw [HA.out]; exact fun h => h0 h.1
      clear h0
      go_wp2_with (first
      | (go_at_call 43
         refine HKC.out.mono ?_
         rintro e9 _ ⟨rfl, rfl⟩))
      go_ret
      exact BoolIs.no HN.out HBW.out
    have y0 : 192 ≤ ty := by omega
    have z0 : decide (192 ≤ ty) = true := by simp; omega
    by_cases h1 : ty ≤ 223
    case neg =>
      have n1 : ¬ (ty ≤ 223) := by omega
      have n2 : decide (ty ≤ 223) = false := by simp; omega
      have HN : Hid (¬ P) := by show ¬ P; rw [HA.out]; exact fun h => h1 h.2.1
      clear h0 h1
      go_wp2_with (first
      | (go_at_call 43
         refine HKC.out.mono ?_
         rintro e9 _ ⟨rfl, rfl⟩))
      go_ret
      exact BoolIs.no HN.out HBW.out
    have y1 : ty ≤ 223 := by omega
    have z1 : decide (ty ≤ 223) = true := by simp; omega
    by_cases h2 : 0 ≤ ct
    case neg =>
      have n1 : ¬ (0 ≤ ct) := by omega
      have n2 : decide (0 ≤ ct) = false := by simp; omega
      have HN : Hid (¬ P) := by show ¬ P; rw [HA.out]; exact fun h => h2 h.2.2.1
      clear h0 h1 h2
      go_wp2_with (first
      | (go_at_call 43
         refine HKC.out.mono ?_
         rintro e9 _ ⟨rfl, rfl⟩))
      go_ret
      exact BoolIs.no HN.out HBW.out
    have y2 : 0 ≤ ct := by omega
    have z2 : decide (0 ≤ ct) = true := by simp; omega
    by_cases h3 : ct ≤ 31
    case neg =>
      have n1 : ¬ (ct ≤ 31) := by omega
      have n2 : decide (ct ≤ 31) = false := by simp; omega
      have HN : Hid (¬ P) := by show ¬ P; rw [HA.out]; exact fun h => h3 h.2.2.2.1
      clear h0 h1 h2 h3
      go_wp2_with (first
      | (go_at_call 43
         refine HKC.out.mono ?_
         rintro e9 _ ⟨rfl, rfl⟩))
      go_ret
      exact BoolIs.no HN.out HBW.out
    have y3 : ct ≤ 31 := by omega
    have z3 : decide (ct ≤ 31) = true := by simp; omega
    by_cases h4 : nd % 4 = 0
    case neg =>
      have n1 : ((nd : Int) % 4 == 0) = false := by rw [beq_eq_false_iff_ne]; omega
      have n2 : (nd % 4 == 0) = false := by rw [beq_eq_false_iff_ne]; omega
      have n3 : decide (nd % 4 = 0) = false := by simp; omega
      have HN : Hid (¬ P) := by show ¬ P; rw [HA.out]; exact fun h => h4 h.2.2.2.2.1
      clear h0 h1 h2 h3 h4
      go_wp2_with (first
      | (go_at_call 43
         refine HKC.out.mono ?_
         rintro e9 _ ⟨rfl, rfl⟩))
      go_ret
      exact BoolIs.no HN.out HBW.out
    have y4 : ((nd : Int) % 4 == 0) = true := by simp; omega
    have z4 : (nd % 4 == 0) = true := by simp; omega
    have x4 : decide (nd % 4 = 0) = true := by simp; omega
    by_cases h5 : K = 7
    case neg =>
      have n1 : (K == 7) = false := by rw [beq_eq_false_iff_ne]; exact h5
      have HN : Hid (¬ P) := by show ¬ P; rw [HA.out]; exact fun h => h5 h.2.2.2.2.2
      clear h0 h1 h2 h3 h4 h5
      go_wp2_with (first
      | (go_at_call 43
         refine HKC.out.mono ?_
         rintro e9 _ ⟨rfl, rfl⟩))
      go_ret
      exact BoolIs.no HN.out HBW.out
    have y5 : (K == 7) = true := by rw [beq_iff_eq]; exact h5
    have HY : Hid P := by show P; rw [HA.out]; exact ⟨h0, h1, h2, h3, h4, h5⟩
    clear h0 h1 h2 h3 h4 h5
    go_wp2_with (first
      | (go_at_call 43
         refine HKC.out.mono ?_
         rintro e9 _ ⟨rfl, rfl⟩))
    go_ret
    exact BoolIs.yes HY.out HBW.out
end Go.Proofs.Ytkfimncbfbbopaa
/- What Good tells of any report; whether one of several is not good (contracts). Conditions: they lie in memory. (Printed by gen8g.py.) -/
set_option linter.unusedVariables false
set_option linter.unusedSimpArgs false
namespace Go.Proofs.Ytkfimncbfbbopaa
open Go.RowKit
attribute [local go_sem ↓] Go.wp_at_zero Go.wp_at_succ

/-- What a report of a kind has none of. -/
def noneS (k : Nat) (r : Rep) : Prop :=
  match k with
  | 1 => r.ab = 0 ∧ r.ex = 0 ∧ r.mt = 0 ∧ r.ty = 0 ∧ r.ct = 0 ∧ r.pairs.length = 0 ∧ r.firs.length = 0 ∧ r.ssrcs.length = 0 ∧ r.body.length = 0
  | 2 => r.ab = 0 ∧ r.ntp = 0 ∧ r.ts = 0 ∧ r.pk = 0 ∧ r.oc = 0 ∧ r.ex = 0 ∧ r.mt = 0 ∧ r.ty = 0 ∧ r.ct = 0 ∧ r.pairs.length = 0 ∧ r.firs.length = 0 ∧ r.ssrcs.length = 0 ∧ r.body.length = 0
  | 3 => r.ntp = 0 ∧ r.ts = 0 ∧ r.pk = 0 ∧ r.oc = 0 ∧ r.ex = 0 ∧ r.mt = 0 ∧ r.ty = 0 ∧ r.ct = 0 ∧ r.blocks.length = 0 ∧ r.firs.length = 0 ∧ r.ssrcs.length = 0 ∧ r.body.length = 0
  | 4 => r.ntp = 0 ∧ r.ts = 0 ∧ r.pk = 0 ∧ r.oc = 0 ∧ r.ex = 0 ∧ r.mt = 0 ∧ r.ty = 0 ∧ r.ct = 0 ∧ r.blocks.length = 0 ∧ r.pairs.length = 0 ∧ r.firs.length = 0 ∧ r.ssrcs.length = 0 ∧ r.body.length = 0
  | 5 => r.ntp = 0 ∧ r.ts = 0 ∧ r.pk = 0 ∧ r.oc = 0 ∧ r.ex = 0 ∧ r.mt = 0 ∧ r.ty = 0 ∧ r.ct = 0 ∧ r.blocks.length = 0 ∧ r.pairs.length = 0 ∧ r.ssrcs.length = 0 ∧ r.body.length = 0
  | 6 => r.ntp = 0 ∧ r.ts = 0 ∧ r.pk = 0 ∧ r.oc = 0 ∧ r.ty = 0 ∧ r.ct = 0 ∧ r.blocks.length = 0 ∧ r.pairs.length = 0 ∧ r.firs.length = 0 ∧ r.body.length = 0
  | 7 => r.fr = 0 ∧ r.ab = 0 ∧ r.ntp = 0 ∧ r.ts = 0 ∧ r.pk = 0 ∧ r.oc = 0 ∧ r.ex = 0 ∧ r.mt = 0 ∧ r.blocks.length = 0 ∧ r.pairs.length = 0 ∧ r.firs.length = 0 ∧ r.ssrcs.length = 0
  | _ => False
/-- What must be of a kind. -/
def condS (k : Nat) (r : Rep) : Prop :=
  match k with
  | 1 => r.blocks.length ≤ 31 ∧ ¬ ∃ e ∈ r.blocks, bigE e
  | 2 => r.blocks.length ≤ 31 ∧ ¬ ∃ e ∈ r.blocks, bigE e
  | 3 => 0 < r.pairs.length
  | 4 => True
  | 5 => 0 < r.firs.length
  | 6 => r.ssrcs.length ≤ 255 ∧ 0 ≤ r.ex ∧ r.ex ≤ 63 ∧ r.mt < 262144
  | 7 => 192 ≤ r.ty ∧ r.ty ≤ 223 ∧ 0 ≤ r.ct ∧ r.ct ≤ 31 ∧ r.body.length % 4 = 0 ∧ kindS r.ty r.ct r.body = 7
  | _ => False
/-- A report may be. -/
def goodS (r : Rep) : Prop := ∃ k : Nat, r.kind = (k : Int) ∧ noneS k r ∧ condS k r
theorem BoolIs.iff {P Q : Prop} {w w' : World} {e : Ending} (h : BoolIs P w e w') (hpq : P ↔ Q) : BoolIs Q w e w' := by
  obtain ⟨q, h1, h2, h3⟩ := h
  exact ⟨q, h1, h2.trans hpq, h3⟩
theorem goodS_kind {r : Rep} (h : goodS r) : 1 ≤ r.kind ∧ r.kind ≤ 7 := by
  obtain ⟨k, hk, hn, _⟩ := h
  match k, hn with
  | 1, _ => exact ⟨by omega, by omega⟩
  | 2, _ => exact ⟨by omega, by omega⟩
  | 3, _ => exact ⟨by omega, by omega⟩
  | 4, _ => exact ⟨by omega, by omega⟩
  | 5, _ => exact ⟨by omega, by omega⟩
  | 6, _ => exact ⟨by omega, by omega⟩
  | 7, _ => exact ⟨by omega, by omega⟩
  | 0, hn => exact hn.elim
  | k + 8, hn => exact hn.elim
set_option maxRecDepth 100000 in
set_option maxHeartbeats 6400000 in
theorem good0_c (kd : Int) (fr ab ntp ts pk oc mt nb cb np cp nf cf ns cs nd cd : Nat) (ex ty ct : Int) (Ab Ap Af As Ad : Option Addr) (w : World) (hk : ¬ (1 ≤ kd ∧ kd ≤ 7)) :
    Calls Try.prog 26 #[.agg #[.int .i64 kd, .int .u32 (fr : Int), .int .u32 (ab : Int), .int .u64 (ntp : Int), .int .u32 (ts : Int), .int .u32 (pk : Int), .int .u32 (oc : Int), .slice Ab nb cb, .slice Ap np cp, .slice Af nf cf, .int .i64 ex, .int .u32 (mt : Int), .slice As ns cs, .int .i64 ty, .int .i64 ct, .slice Ad nd cd]] w fun e w' => e = .returned (.bool false) ∧ Below w.heap.size w w' := by
  obtain ⟨g1, hg1⟩ : ∃ g1, g1 = w.heap.size := ⟨_, rfl⟩
  obtain ⟨w1, hw1⟩ : ∃ w1, w1 = w.alloc (.cells #[.int .i64 kd, .int .u32 (fr : Int), .int .u32 (ab : Int), .int .u64 (ntp : Int), .int .u32 (ts : Int), .int .u32 (pk : Int), .int .u32 (oc : Int), .slice Ab nb cb, .slice Ap np cp, .slice Af nf cf, .int .i64 ex, .int .u32 (mt : Int), .slice As ns cs, .int .i64 ty, .int .i64 ct, .slice Ad nd cd] 46) := ⟨_, rfl⟩
  have HG : Hid (Blk w1 g1 46 #[.int .i64 kd, .int .u32 (fr : Int), .int .u32 (ab : Int), .int .u64 (ntp : Int), .int .u32 (ts : Int), .int .u32 (pk : Int), .int .u32 (oc : Int), .slice Ab nb cb, .slice Ap np cp, .slice Af nf cf, .int .i64 ex, .int .u32 (mt : Int), .slice As ns cs, .int .i64 ty, .int .i64 ct, .slice Ad nd cd]) := by show Blk _ _ _ _; rw [hw1]; exact Blk.newAt hg1 _ _
  have HB : Hid (Below w.heap.size w w1) := by show Below _ _ _; rw [hw1]; exact balloc (Below.refl _ _) _
  by_cases h1 : kd < 1
  · have d1 : decide (kd < 1) = true := by simpa using h1
    clear hk
    go_enter Try.func26, Try.ntmps26
    go_upto_region 1 with fail
    rw [← hw1, ← hg1]
    clear hw1 hg1
    have c0 : w1.cell? ⟨g1, 0, none⟩ = some (.int .i64 kd) := HG.out.cell 0
    go_quiet (fail)
    go_wp2_with fail
    go_ret
    exact ⟨rfl, below_drewN HB.out _⟩
  · have d1 : decide (kd < 1) = false := by simpa using h1
    have h7 : 7 < kd := by omega
    have d7 : decide (7 < kd) = true := by simpa using h7
    clear hk
    go_enter Try.func26, Try.ntmps26
    go_upto_region 1 with fail
    rw [← hw1, ← hg1]
    clear hw1 hg1
    have c0 : w1.cell? ⟨g1, 0, none⟩ = some (.int .i64 kd) := HG.out.cell 0
    go_quiet (fail)
    go_wp2_with fail
    go_ret
    exact ⟨rfl, below_drewN HB.out _⟩
theorem good_c (cs0 : Array Value) (r : Rep) (w : World) (h : RepV w cs0 r) (hnb : r.blocks.length ≤ 1000000) (hx1 : -9223372036854775808 ≤ r.ex) (hx2 : r.ex ≤ 9223372036854775807) :
    Calls Try.prog 26 #[.agg cs0] w (BoolIs (goodS r) w) := by
  obtain ⟨vb, vp, vf, vs, vd, e1, hb, hp, hf, hs, hd⟩ := h
  subst e1
  obtain ⟨Ab, cb, eb, _, _⟩ := id hb
  subst eb
  obtain ⟨Ap, cp, ep, _, _⟩ := id hp
  subst ep
  obtain ⟨Af, cf, ef, _, _⟩ := id hf
  subst ef
  obtain ⟨As, cs, es, _, _⟩ := id hs
  subst es
  obtain ⟨Ad, cd, ed, _, _⟩ := id hd
  subst ed
  obtain ⟨kd, hkd⟩ : ∃ kd, kd = r.kind := ⟨_, rfl⟩
  unfold repA
  rw [← hkd]
  by_cases h17 : 1 ≤ kd ∧ kd ≤ 7
  case neg =>
    refine (good0_c kd _ _ _ _ _ _ _ _ _ _ _ _ _ _ _ _ _ _ _ _ _ _ _ _ _ w h17).mono ?_
    rintro e w' ⟨rfl, hb⟩
    exact BoolIs.no (fun h => h17 (by rw [hkd]; exact goodS_kind h)) hb
  by_cases h1 : kd = 1
  · subst h1
    refine (good1_c _ _ _ _ _ _ _ _ _ _ _ _ _ _ _ _ _ _ _ _ _ _ _ _ _ w r.blocks hb hnb).mono ?_
    intro e w' h
    refine h.iff ⟨fun h => ⟨1, hkd.symm, ?_, h.2⟩, fun h => ?_⟩
    · have h1 := h.1
      unfold AlikeV at h1
      show r.ab = 0 ∧ r.ex = 0 ∧ r.mt = 0 ∧ r.ty = 0 ∧ r.ct = 0 ∧ r.pairs.length = 0 ∧ r.firs.length = 0 ∧ r.ssrcs.length = 0 ∧ r.body.length = 0
      omega
    · obtain ⟨k', hk', hn', hc'⟩ := h
      have : k' = 1 := by omega
      subst this
      have hn2 : r.ab = 0 ∧ r.ex = 0 ∧ r.mt = 0 ∧ r.ty = 0 ∧ r.ct = 0 ∧ r.pairs.length = 0 ∧ r.firs.length = 0 ∧ r.ssrcs.length = 0 ∧ r.body.length = 0 := hn'
      refine ⟨?_, hc'⟩
      unfold AlikeV
      omega
  by_cases h2 : kd = 2
  · subst h2
    refine (good2_c _ _ _ _ _ _ _ _ _ _ _ _ _ _ _ _ _ _ _ _ _ _ _ _ _ w r.blocks hb hnb).mono ?_
    intro e w' h
    refine h.iff ⟨fun h => ⟨2, hkd.symm, ?_, h.2⟩, fun h => ?_⟩
    · have h1 := h.1
      unfold AlikeV at h1
      show r.ab = 0 ∧ r.ntp = 0 ∧ r.ts = 0 ∧ r.pk = 0 ∧ r.oc = 0 ∧ r.ex = 0 ∧ r.mt = 0 ∧ r.ty = 0 ∧ r.ct = 0 ∧ r.pairs.length = 0 ∧ r.firs.length = 0 ∧ r.ssrcs.length = 0 ∧ r.body.length = 0
      omega
    · obtain ⟨k', hk', hn', hc'⟩ := h
      have : k' = 2 := by omega
      subst this
      have hn2 : r.ab = 0 ∧ r.ntp = 0 ∧ r.ts = 0 ∧ r.pk = 0 ∧ r.oc = 0 ∧ r.ex = 0 ∧ r.mt = 0 ∧ r.ty = 0 ∧ r.ct = 0 ∧ r.pairs.length = 0 ∧ r.firs.length = 0 ∧ r.ssrcs.length = 0 ∧ r.body.length = 0 := hn'
      refine ⟨?_, hc'⟩
      unfold AlikeV
      omega
  by_cases h3 : kd = 3
  · subst h3
    refine (good3_c _ _ _ _ _ _ _ _ _ _ _ _ _ _ _ _ _ _ _ _ _ _ _ _ _ w).mono ?_
    intro e w' h
    refine h.iff ⟨fun h => ⟨3, hkd.symm, ?_, h.2⟩, fun h => ?_⟩
    · have h1 := h.1
      unfold AlikeV at h1
      show r.ntp = 0 ∧ r.ts = 0 ∧ r.pk = 0 ∧ r.oc = 0 ∧ r.ex = 0 ∧ r.mt = 0 ∧ r.ty = 0 ∧ r.ct = 0 ∧ r.blocks.length = 0 ∧ r.firs.length = 0 ∧ r.ssrcs.length = 0 ∧ r.body.length = 0
      omega
    · obtain ⟨k', hk', hn', hc'⟩ := h
      have : k' = 3 := by omega
      subst this
      have hn2 : r.ntp = 0 ∧ r.ts = 0 ∧ r.pk = 0 ∧ r.oc = 0 ∧ r.ex = 0 ∧ r.mt = 0 ∧ r.ty = 0 ∧ r.ct = 0 ∧ r.blocks.length = 0 ∧ r.firs.length = 0 ∧ r.ssrcs.length = 0 ∧ r.body.length = 0 := hn'
      refine ⟨?_, hc'⟩
      unfold AlikeV
      omega
  by_cases h4 : kd = 4
  · subst h4
    refine (good4_c _ _ _ _ _ _ _ _ _ _ _ _ _ _ _ _ _ _ _ _ _ _ _ _ _ w).mono ?_
    intro e w' h
    refine h.iff ⟨fun h => ⟨4, hkd.symm, ?_, h.2⟩, fun h => ?_⟩
    · have h1 := h.1
      unfold AlikeV at h1
      show r.ntp = 0 ∧ r.ts = 0 ∧ r.pk = 0 ∧ r.oc = 0 ∧ r.ex = 0 ∧ r.mt = 0 ∧ r.ty = 0 ∧ r.ct = 0 ∧ r.blocks.length = 0 ∧ r.pairs.length = 0 ∧ r.firs.length = 0 ∧ r.ssrcs.length = 0 ∧ r.body.length = 0
      omega
    · obtain ⟨k', hk', hn', hc'⟩ := h
      have : k' = 4 := by omega
      subst this
      have hn2 : r.ntp = 0 ∧ r.ts = 0 ∧ r.pk = 0 ∧ r.oc = 0 ∧ r.ex = 0 ∧ r.mt = 0 ∧ r.ty = 0 ∧ r.ct = 0 ∧ r.blocks.length = 0 ∧ r.pairs.length = 0 ∧ r.firs.length = 0 ∧ r.ssrcs.length = 0 ∧ r.body.length = 0 := hn'
      refine ⟨?_, hc'⟩
      unfold AlikeV
      omega
  by_cases h5 : kd = 5
  · subst h5
    refine (good5_c _ _ _ _ _ _ _ _ _ _ _ _ _ _ _ _ _ _ _ _ _ _ _ _ _ w).mono ?_
    intro e w' h
    refine h.iff ⟨fun h => ⟨5, hkd.symm, ?_, h.2⟩, fun h => ?_⟩
    · have h1 := h.1
      unfold AlikeV at h1
      show r.ntp = 0 ∧ r.ts = 0 ∧ r.pk = 0 ∧ r.oc = 0 ∧ r.ex = 0 ∧ r.mt = 0 ∧ r.ty = 0 ∧ r.ct = 0 ∧ r.blocks.length = 0 ∧ r.pairs.length = 0 ∧ r.ssrcs.length = 0 ∧ r.body.length = 0
      omega
    · obtain ⟨k', hk', hn', hc'⟩ := h
      have : k' = 5 := by omega
      subst this
      have hn2 : r.ntp = 0 ∧ r.ts = 0 ∧ r.pk = 0 ∧ r.oc = 0 ∧ r.ex = 0 ∧ r.mt = 0 ∧ r.ty = 0 ∧ r.ct = 0 ∧ r.blocks.length = 0 ∧ r.pairs.length = 0 ∧ r.ssrcs.length = 0 ∧ r.body.length = 0 := hn'
      refine ⟨?_, hc'⟩
      unfold AlikeV
      omega
  by_cases h6 : kd = 6
  · subst h6
    refine (good6_c _ _ _ _ _ _ _ _ _ _ _ _ _ _ _ _ _ _ _ _ _ _ _ _ _ w hx1 hx2).mono ?_
    intro e w' h
    refine h.iff ⟨fun h => ⟨6, hkd.symm, ?_, h.2⟩, fun h => ?_⟩
    · have h1 := h.1
      unfold AlikeV at h1
      show r.ntp = 0 ∧ r.ts = 0 ∧ r.pk = 0 ∧ r.oc = 0 ∧ r.ty = 0 ∧ r.ct = 0 ∧ r.blocks.length = 0 ∧ r.pairs.length = 0 ∧ r.firs.length = 0 ∧ r.body.length = 0
      omega
    · obtain ⟨k', hk', hn', hc'⟩ := h
      have : k' = 6 := by omega
      subst this
      have hn2 : r.ntp = 0 ∧ r.ts = 0 ∧ r.pk = 0 ∧ r.oc = 0 ∧ r.ty = 0 ∧ r.ct = 0 ∧ r.blocks.length = 0 ∧ r.pairs.length = 0 ∧ r.firs.length = 0 ∧ r.body.length = 0 := hn'
      refine ⟨?_, hc'⟩
      unfold AlikeV
      omega
  by_cases h7 : kd = 7
  · subst h7
    refine (good7_c _ _ _ _ _ _ _ _ _ _ _ _ _ _ _ _ _ _ _ _ _ _ _ _ _ w r.body hd).mono ?_
    intro e w' h
    refine h.iff ⟨fun h => ⟨7, hkd.symm, ?_, h.2⟩, fun h => ?_⟩
    · have h1 := h.1
      unfold AlikeV at h1
      show r.fr = 0 ∧ r.ab = 0 ∧ r.ntp = 0 ∧ r.ts = 0 ∧ r.pk = 0 ∧ r.oc = 0 ∧ r.ex = 0 ∧ r.mt = 0 ∧ r.blocks.length = 0 ∧ r.pairs.length = 0 ∧ r.firs.length = 0 ∧ r.ssrcs.length = 0
      omega
    · obtain ⟨k', hk', hn', hc'⟩ := h
      have : k' = 7 := by omega
      subst this
      have hn2 : r.fr = 0 ∧ r.ab = 0 ∧ r.ntp = 0 ∧ r.ts = 0 ∧ r.pk = 0 ∧ r.oc = 0 ∧ r.ex = 0 ∧ r.mt = 0 ∧ r.blocks.length = 0 ∧ r.pairs.length = 0 ∧ r.firs.length = 0 ∧ r.ssrcs.length = 0 := hn'
      refine ⟨?_, hc'⟩
      unfold AlikeV
      omega
  exact absurd h17 (by omega)
set_option maxRecDepth 100000 in
set_option maxHeartbeats 6400000 in
theorem closR_c (cs0 : Array Value) (r : Rep) (w : World) (h : RepV w cs0 r) (hnb : r.blocks.length ≤ 1000000) (hx1 : -9223372036854775808 ≤ r.ex) (hx2 : r.ex ≤ 9223372036854775807) :
    Calls Try.prog 36 #[.agg cs0] w (BoolIs (¬ goodS r) w) := by
  obtain ⟨vb, vp, vf, vs, vd, e1, hb, hp, hf, hs, hd⟩ := id h
  subst e1
  obtain ⟨Ab, cb, eb, _, _⟩ := id hb
  subst eb
  obtain ⟨Ap, cp, ep, _, _⟩ := id hp
  subst ep
  obtain ⟨Af, cf, ef, _, _⟩ := id hf
  subst ef
  obtain ⟨As, cs, es, _, _⟩ := id hs
  subst es
  obtain ⟨Ad, cd, ed, _, _⟩ := id hd
  subst ed
  clear hb hp hf hs hd
  have HGD : Hid (∀ wx cells, RepV wx cells r → Calls Try.prog 26 #[.agg cells] wx (BoolIs (goodS r) wx)) := fun wx cells hv => good_c _ r wx hv hnb hx1 hx2
  have HV := Lib.hid h
  clear h hx1 hx2 hnb
  revert HV
  generalize r.kind = kd, r.fr = fr, r.ab = ab, r.ntp = ntp, r.ts = ts, r.pk = pk, r.oc = oc, r.blocks.length = nb, r.pairs.length = np, r.firs.length = nf, r.ex = ex, r.mt = mt, r.ssrcs.length = ns, r.ty = ty, r.ct = ct, r.body.length = nd
  intro HV
  unfold repA at HV
  unfold repA
  have HB : Hid (Below w.heap.size w (w.alloc (.cells #[.int .i64 kd, .int .u32 (fr : Int), .int .u32 (ab : Int), .int .u64 (ntp : Int), .int .u32 (ts : Int), .int .u32 (pk : Int), .int .u32 (oc : Int), .slice Ab nb cb, .slice Ap np cp, .slice Af nf cf, .int .i64 ex, .int .u32 (mt : Int), .slice As ns cs, .int .i64 ty, .int .i64 ct, .slice Ad nd cd] 46))) := balloc (Below.refl _ _) _
  have HVB : Hid (RepV (w.alloc (.cells #[.int .i64 kd, .int .u32 (fr : Int), .int .u32 (ab : Int), .int .u64 (ntp : Int), .int .u32 (ts : Int), .int .u32 (pk : Int), .int .u32 (oc : Int), .slice Ab nb cb, .slice Ap np cp, .slice Af nf cf, .int .i64 ex, .int .u32 (mt : Int), .slice As ns cs, .int .i64 ty, .int .i64 ct, .slice Ad nd cd] 46)) #[.int .i64 kd, .int .u32 (fr : Int), .int .u32 (ab : Int), .int .u64 (ntp : Int), .int .u32 (ts : Int), .int .u32 (pk : Int), .int .u32 (oc : Int), .slice Ab nb cb, .slice Ap np cp, .slice Af nf cf, .int .i64 ex, .int .u32 (mt : Int), .slice As ns cs, .int .i64 ty, .int .i64 ct, .slice Ad nd cd] r) := HV.out.below HB.out
  have HRG : Hid ((w.alloc (.cells #[.int .i64 kd, .int .u32 (fr : Int), .int .u32 (ab : Int), .int .u64 (ntp : Int), .int .u32 (ts : Int), .int .u32 (pk : Int), .int .u32 (oc : Int), .slice Ab nb cb, .slice Ap np cp, .slice Af nf cf, .int .i64 ex, .int .u32 (mt : Int), .slice As ns cs, .int .i64 ty, .int .i64 ct, .slice Ad nd cd] 46)).rangeAt w.heap.size 0 [.int .i64 kd, .int .u32 (fr : Int), .int .u32 (ab : Int), .int .u64 (ntp : Int), .int .u32 (ts : Int), .int .u32 (pk : Int), .int .u32 (oc : Int), .slice Ab nb cb, .slice Ap np cp, .slice Af nf cf, .int .i64 ex, .int .u32 (mt : Int), .slice As ns cs, .int .i64 ty, .int .i64 ct, .slice Ad nd cd]) := blk_range (l := [.int .i64 kd, .int .u32 (fr : Int), .int .u32 (ab : Int), .int .u64 (ntp : Int), .int .u32 (ts : Int), .int .u32 (pk : Int), .int .u32 (oc : Int), .slice Ab nb cb, .slice Ap np cp, .slice Af nf cf, .int .i64 ex, .int .u32 (mt : Int), .slice As ns cs, .int .i64 ty, .int .i64 ct, .slice Ad nd cd]) (Blk.newAt rfl _ _)
  go_enter Try.func36, Try.ntmps36
  go_wp2_with (first
    | ((with_reducible show wpList _ _ _ (⟨some 3, .load 46 (.tmp 1), _, _, _, _⟩ :: _) _ _); refine wpList_load_mid rfl 46 (.tmp 1) rfl w.heap.size 0 rfl [.int .i64 kd, .int .u32 (fr : Int), .int .u32 (ab : Int), .int .u64 (ntp : Int), .int .u32 (ts : Int), .int .u32 (pk : Int), .int .u32 (oc : Int), .slice Ab nb cb, .slice Ap np cp, .slice Af nf cf, .int .i64 ex, .int .u32 (mt : Int), .slice As ns cs, .int .i64 ty, .int .i64 ct, .slice Ad nd cd] _ HRG.out Try.underlying46 rfl infoRep ?_)
    | (go_at_call 26
       refine (HGD.out _ _ HVB.out).mono ?_
       rintro e9 w9 ⟨q, rfl, hq, hb9⟩
       have HQ9 := Lib.hid hq
       have HB9 : Hid (Below w.heap.size w w9) := bcall HB.out hb9
       clear hq hb9))
  go_ret
  refine ⟨!q, rfl, ?_, HB9.out⟩
  rw [← HQ9.out]
  cases q <;> simp
/-- IndexFunc over reports: is one of them not good? -/
theorem idxR_c (rs : List Rep) (A : Option Addr) (n cap : Nat) (w : World) (h : RepsAt w A n rs) (hl : rs.length = n) (hn : n ≤ 1000000) (hf : ∀ r ∈ rs, r.blocks.length ≤ 1000000 ∧ -9223372036854775808 ≤ r.ex ∧ r.ex ≤ 9223372036854775807) :
    Calls Try.prog 55 #[.slice A n cap, .func (.func 36) #[] #[]] w (IdxIs (∃ r ∈ rs, ¬ goodS r) w) := by
  have HLEN := Lib.hid hl
  have H := Lib.hid h
  have HF := Lib.hid hf
  clear hl h hf
  go_enter Try.func55, Try.ntmps55
  go_upto_region 2 with fail
  go_loopg [8] n (fun gg v8 wx => ∃ i : Nat, gg = n - i ∧ i ≤ n ∧ v8 = .int .i64 (i : Int) ∧ (∀ (j : Nat) (e : Rep), j < i → rs[j]? = some e → goodS e) ∧ Below w.heap.size w wx)
  case atStart => exact ⟨0, by omega, by omega, rfl, fun j e hj => absurd hj (by omega), Below.refl _ _⟩
  case round =>
    obtain ⟨i, hgg, hi, rfl, hno, hb⟩ := hrel
    have HB := Lib.hid hb
    have HNO := Lib.hid hno
    have HG := Lib.hid hgg
    clear hb hno hgg
    by_cases hin : i < n
    · have hini : (i : Int) < (n : Int) := by omega
      have hw1 : IntKind.i64.wrap ((i : Int) + 1) = ((i + 1 : Nat) : Int) := by rw [IntKind.wrap_i64]; omega
      obtain ⟨r, hr⟩ : ∃ r, rs[i]? = some r := ⟨_, List.getElem?_eq_getElem (by have := HLEN.out; omega)⟩
      obtain ⟨g3, o3, hA3, hg3, h3⟩ := H.out.at_ (by omega)
      obtain ⟨L3, hv3, hl3, hrg3⟩ := h3 i r hr
      subst hA3
      have HV : Hid (RepV wr L3.toArray r) := hv3.below HB.out
      have HRG : Hid (wr.rangeAt g3 (o3 + i * 16) L3) := below_range hrg3 HB.out hg3
      have HI : Hid ((Try.prog.info? 46).map (·.size) = some L3.length) := by show _ = _; rw [hl3]; exact infoRep
      have HFR := Lib.hid (HF.out r (List.mem_of_getElem? hr))
      have HE := Lib.hid hr
      have HLT := Lib.hid hin
      clear hg3 h3 hv3 hl3 hrg3 hr hin hi
      go_upto_if 16 with (first
        | ((with_reducible show wpList _ _ _ (⟨some 15, .load 46 (.tmp 14), _, _, _, _⟩ :: _) _ _); refine wpList_load_mid rfl 46 (.tmp 14) rfl g3 (o3 + i * 16) rfl L3 _ HRG.out Try.underlying46 rfl HI.out ?_)
        | (go_at_call 36
           refine (closR_c L3.toArray r wr HV.out HFR.out.1 HFR.out.2.1 HFR.out.2.2).mono ?_
           rintro e9 w9 ⟨q, rfl, hq, hb9⟩
           have HQ := Lib.hid hq
           have HB9 : Hid (Below w.heap.size w w9) := bcall HB.out hb9
           clear hq hb9))
      cases q with
      | true =>
        have hq := HQ.out
        have HP : Hid (∃ e ∈ rs, ¬ goodS e) := ⟨r, List.mem_of_getElem? HE.out, hq.1 rfl⟩
        clear hq
        go_wp2_with fail
        go_ret
        exact ⟨(i : Int), rfl, ⟨fun _ => HP.out, fun _ => by omega⟩, HB9.out⟩
      | false =>
        go_wp2_with fail
        go_roundg (n - (i + 1))
        case measure => have := HLT.out; have := HG.out; omega
        case rel =>
          have hlt := HLT.out
          refine ⟨i + 1, rfl, by omega, by first | rfl | go_num, fun j e' hj he' => ?_, HB9.out⟩
          by_cases hji : j < i
          · exact HNO.out j e' hji he'
          · have hje : j = i := by omega
            subst hje
            rw [HE.out] at he'
            injection he' with he'
            subst he'
            exact Classical.byContradiction fun hbad => absurd (HQ.out.2 hbad) (by decide)
    · have hini : ¬ (i : Int) < (n : Int) := by omega
      have hie : n = i := by omega
      subst hie
      have HP : Hid (¬ ∃ e ∈ rs, ¬ goodS e) := by
        rintro ⟨e, he, hb⟩
        obtain ⟨j, hj⟩ := List.getElem?_of_mem he
        have hjl : j < rs.length := by
          rcases Nat.lt_or_ge j rs.length with h | h
          · exact h
          · rw [List.getElem?_eq_none h] at hj; cases hj
        exact hb (HNO.out j e (by have := HLEN.out; omega) hj)
      clear hin hi
      go_wp2_with fail
      go_ret
      exact ⟨-1, rfl, ⟨fun h => absurd h (by decide), fun h => absurd h HP.out⟩, HB.out⟩
theorem contR_c (rs : List Rep) (A : Option Addr) (n cap : Nat) (w : World) (h : RepsAt w A n rs) (hl : rs.length = n) (hn : n ≤ 1000000) (hf : ∀ r ∈ rs, r.blocks.length ≤ 1000000 ∧ -9223372036854775808 ≤ r.ex ∧ r.ex ≤ 9223372036854775807) :
    Calls Try.prog 35 #[.slice A n cap, .func (.func 36) #[] #[]] w (BoolIs (∃ r ∈ rs, ¬ goodS r) w) := by
  have HC := Lib.hid (idxR_c rs A n cap w h hl hn hf)
  clear hl h hf hn
  go_enter Try.func35, Try.ntmps35
  go_wp2_with (first
    | (go_at_call 55
       refine HC.out.mono ?_
       rintro e9 w9 ⟨z, rfl, hq, hb9⟩
       have HQ := Lib.hid hq
       have HB9 := Lib.hid hb9
       clear hq hb9))
  go_ret
  refine ⟨decide (0 ≤ z), rfl, ?_, HB9.out⟩
  rw [decide_eq_true_iff]
  exact HQ.out
end Go.Proofs.Ytkfimncbfbbopaa
