/- Texts of this claim, one behind the other: Rb1, Rb2, OtherR. Each says ahead of itself what it proves, and its conditions. -/
import Derived.Test.YtkfimncbfbbopaaHg
/- What the reference tells of fields that a Kind has not (contracts). Conditions: none. (Printed by gen8g.py.) -/
set_option linter.unusedVariables false
set_option linter.unusedSimpArgs false
namespace Go.Proofs.Ytkfimncbfbbopaa
open Go.RowKit
attribute [local go_sem ↓] Go.wp_at_zero Go.wp_at_succ

set_option maxRecDepth 100000 in
set_option maxHeartbeats 12800000 in
theorem rbare1_c (fr ab ntp ts pk oc mt nb cb np cp nf cf ns cs nd cd : Nat) (ex ty ct : Int) (Ab Ap Af As Ad : Option Addr) (w : World) :
    Calls Try.prog 44 #[.agg #[.int .i64 1, .int .u32 (fr : Int), .int .u32 (ab : Int), .int .u64 (ntp : Int), .int .u32 (ts : Int), .int .u32 (pk : Int), .int .u32 (oc : Int), .slice Ab nb cb, .slice Ap np cp, .slice Af nf cf, .int .i64 ex, .int .u32 (mt : Int), .slice As ns cs, .int .i64 ty, .int .i64 ct, .slice Ad nd cd]] w (BoolIs (ab = 0 ∧ ex = 0 ∧ mt = 0 ∧ ty = 0 ∧ ct = 0 ∧ np = 0 ∧ nf = 0 ∧ ns = 0 ∧ nd = 0) w) := by
  go_enter Try.func44, Try.ntmps44
  go_wp2_with fail
  all_goals go_ret
  all_goals first
    | (refine BoolIs.no (fun h => ?_) (balloc (Below.refl _ _) _)
       try simp only [bne_iff_ne, ne_eq, bne_eq_false_iff_eq] at *
       omega)
    | (refine BoolIs.yes ?_ (balloc (Below.refl _ _) _)
       try simp only [bne_iff_ne, ne_eq, bne_eq_false_iff_eq] at *
       omega)
    | (refine ⟨_, rfl, ?_, balloc (Below.refl _ _) _⟩
       try simp only [bne_iff_ne, ne_eq, bne_eq_false_iff_eq] at *
       try simp
       omega)
set_option maxRecDepth 100000 in
set_option maxHeartbeats 12800000 in
theorem rbare2_c (fr ab ntp ts pk oc mt nb cb np cp nf cf ns cs nd cd : Nat) (ex ty ct : Int) (Ab Ap Af As Ad : Option Addr) (w : World) :
    Calls Try.prog 44 #[.agg #[.int .i64 2, .int .u32 (fr : Int), .int .u32 (ab : Int), .int .u64 (ntp : Int), .int .u32 (ts : Int), .int .u32 (pk : Int), .int .u32 (oc : Int), .slice Ab nb cb, .slice Ap np cp, .slice Af nf cf, .int .i64 ex, .int .u32 (mt : Int), .slice As ns cs, .int .i64 ty, .int .i64 ct, .slice Ad nd cd]] w (BoolIs (ab = 0 ∧ ntp = 0 ∧ ts = 0 ∧ pk = 0 ∧ oc = 0 ∧ ex = 0 ∧ mt = 0 ∧ ty = 0 ∧ ct = 0 ∧ np = 0 ∧ nf = 0 ∧ ns = 0 ∧ nd = 0) w) := by
  go_enter Try.func44, Try.ntmps44
  go_wp2_with fail
  all_goals go_ret
  all_goals first
    | (refine BoolIs.no (fun h => ?_) (balloc (Below.refl _ _) _)
       try simp only [bne_iff_ne, ne_eq, bne_eq_false_iff_eq] at *
       omega)
    | (refine BoolIs.yes ?_ (balloc (Below.refl _ _) _)
       try simp only [bne_iff_ne, ne_eq, bne_eq_false_iff_eq] at *
       omega)
    | (refine ⟨_, rfl, ?_, balloc (Below.refl _ _) _⟩
       try simp only [bne_iff_ne, ne_eq, bne_eq_false_iff_eq] at *
       try simp
       omega)
set_option maxRecDepth 100000 in
set_option maxHeartbeats 12800000 in
theorem rbare3_c (fr ab ntp ts pk oc mt nb cb np cp nf cf ns cs nd cd : Nat) (ex ty ct : Int) (Ab Ap Af As Ad : Option Addr) (w : World) :
    Calls Try.prog 44 #[.agg #[.int .i64 3, .int .u32 (fr : Int), .int .u32 (ab : Int), .int .u64 (ntp : Int), .int .u32 (ts : Int), .int .u32 (pk : Int), .int .u32 (oc : Int), .slice Ab nb cb, .slice Ap np cp, .slice Af nf cf, .int .i64 ex, .int .u32 (mt : Int), .slice As ns cs, .int .i64 ty, .int .i64 ct, .slice Ad nd cd]] w (BoolIs (ntp = 0 ∧ ts = 0 ∧ pk = 0 ∧ oc = 0 ∧ ex = 0 ∧ mt = 0 ∧ ty = 0 ∧ ct = 0 ∧ nb = 0 ∧ nf = 0 ∧ ns = 0 ∧ nd = 0) w) := by
  go_enter Try.func44, Try.ntmps44
  go_wp2_with fail
  all_goals go_ret
  all_goals first
    | (refine BoolIs.no (fun h => ?_) (balloc (Below.refl _ _) _)
       try simp only [bne_iff_ne, ne_eq, bne_eq_false_iff_eq] at *
       omega)
    | (refine BoolIs.yes ?_ (balloc (Below.refl _ _) _)
       try simp only [bne_iff_ne, ne_eq, bne_eq_false_iff_eq] at *
       omega)
    | (refine ⟨_, rfl, ?_, balloc (Below.refl _ _) _⟩
       try simp only [bne_iff_ne, ne_eq, bne_eq_false_iff_eq] at *
       try simp
       omega)
set_option maxRecDepth 100000 in
set_option maxHeartbeats 12800000 in
theorem rbare4_c (fr ab ntp ts pk oc mt nb cb np cp nf cf ns cs nd cd : Nat) (ex ty ct : Int) (Ab Ap Af As Ad : Option Addr) (w : World) :
    Calls Try.prog 44 #[.agg #[.int .i64 4, .int .u32 (fr : Int), .int .u32 (ab : Int), .int .u64 (ntp : Int), .int .u32 (ts : Int), .int .u32 (pk : Int), .int .u32 (oc : Int), .slice Ab nb cb, .slice Ap np cp, .slice Af nf cf, .int .i64 ex, .int .u32 (mt : Int), .slice As ns cs, .int .i64 ty, .int .i64 ct, .slice Ad nd cd]] w (BoolIs (ntp = 0 ∧ ts = 0 ∧ pk = 0 ∧ oc = 0 ∧ ex = 0 ∧ mt = 0 ∧ ty = 0 ∧ ct = 0 ∧ nb = 0 ∧ np = 0 ∧ nf = 0 ∧ ns = 0 ∧ nd = 0) w) := by
  go_enter Try.func44, Try.ntmps44
  go_wp2_with fail
  all_goals go_ret
  all_goals first
    | (refine BoolIs.no (fun h => ?_) (balloc (Below.refl _ _) _)
       try simp only [bne_iff_ne, ne_eq, bne_eq_false_iff_eq] at *
       omega)
    | (refine BoolIs.yes ?_ (balloc (Below.refl _ _) _)
       try simp only [bne_iff_ne, ne_eq, bne_eq_false_iff_eq] at *
       omega)
    | (refine ⟨_, rfl, ?_, balloc (Below.refl _ _) _⟩
       try simp only [bne_iff_ne, ne_eq, bne_eq_false_iff_eq] at *
       try simp
       omega)
end Go.Proofs.Ytkfimncbfbbopaa
/- What the reference tells of fields that a Kind has not (contracts). Conditions: none. (Printed by gen8g.py.) -/
set_option linter.unusedVariables false
set_option linter.unusedSimpArgs false
namespace Go.Proofs.Ytkfimncbfbbopaa
open Go.RowKit
attribute [local go_sem ↓] Go.wp_at_zero Go.wp_at_succ

set_option maxRecDepth 100000 in
set_option maxHeartbeats 12800000 in
theorem rbare5_c (fr ab ntp ts pk oc mt nb cb np cp nf cf ns cs nd cd : Nat) (ex ty ct : Int) (Ab Ap Af As Ad : Option Addr) (w : World) :
    Calls Try.prog 44 #[.agg #[.int .i64 5, .int .u32 (fr : Int), .int .u32 (ab : Int), .int .u64 (ntp : Int), .int .u32 (ts : Int), .int .u32 (pk : Int), .int .u32 (oc : Int), .slice Ab nb cb, .slice Ap np cp, .slice Af nf cf, .int .i64 ex, .int .u32 (mt : Int), .slice As ns cs, .int .i64 ty, .int .i64 ct, .slice Ad nd cd]] w (BoolIs (ntp = 0 ∧ ts = 0 ∧ pk = 0 ∧ oc = 0 ∧ ex = 0 ∧ mt = 0 ∧ ty = 0 ∧ ct = 0 ∧ nb = 0 ∧ np = 0 ∧ ns = 0 ∧ nd = 0) w) := by
  go_enter Try.func44, Try.ntmps44
  go_wp2_with fail
  all_goals go_ret
  all_goals first
    | (refine BoolIs.no (fun h => ?_) (balloc (Below.refl _ _) _)
       try simp only [bne_iff_ne, ne_eq, bne_eq_false_iff_eq] at *
       omega)
    | (refine BoolIs.yes ?_ (balloc (Below.refl _ _) _)
       try simp only [bne_iff_ne, ne_eq, bne_eq_false_iff_eq] at *
       omega)
    | (refine ⟨_, rfl, ?_, balloc (Below.refl _ _) _⟩
       try simp only [bne_iff_ne, ne_eq, bne_eq_false_iff_eq] at *
       try simp
       omega)
set_option maxRecDepth 100000 in
set_option maxHeartbeats 12800000 in
theorem rbare6_c (fr ab ntp ts pk oc mt nb cb np cp nf cf ns cs nd cd : Nat) (ex ty ct : Int) (Ab Ap Af As Ad : Option Addr) (w : World) :
    Calls Try.prog 44 #[.agg #[.int .i64 6, .int .u32 (fr : Int), .int .u32 (ab : Int), .int .u64 (ntp : Int), .int .u32 (ts : Int), .int .u32 (pk : Int), .int .u32 (oc : Int), .slice Ab nb cb, .slice Ap np cp, .slice Af nf cf, .int .i64 ex, .int .u32 (mt : Int), .slice As ns cs, .int .i64 ty, .int .i64 ct, .slice Ad nd cd]] w (BoolIs (ntp = 0 ∧ ts = 0 ∧ pk = 0 ∧ oc = 0 ∧ ty = 0 ∧ ct = 0 ∧ nb = 0 ∧ np = 0 ∧ nf = 0 ∧ nd = 0) w) := by
  go_enter Try.func44, Try.ntmps44
  go_wp2_with fail
  all_goals go_ret
  all_goals first
    | (refine BoolIs.no (fun h => ?_) (balloc (Below.refl _ _) _)
       try simp only [bne_iff_ne, ne_eq, bne_eq_false_iff_eq] at *
       omega)
    | (refine BoolIs.yes ?_ (balloc (Below.refl _ _) _)
       try simp only [bne_iff_ne, ne_eq, bne_eq_false_iff_eq] at *
       omega)
    | (refine ⟨_, rfl, ?_, balloc (Below.refl _ _) _⟩
       try simp only [bne_iff_ne, ne_eq, bne_eq_false_iff_eq] at *
       try simp
       omega)
set_option maxRecDepth 100000 in
set_option maxHeartbeats 12800000 in
theorem rbare7_c (fr ab ntp ts pk oc mt nb cb np cp nf cf ns cs nd cd : Nat) (ex ty ct : Int) (Ab Ap Af As Ad : Option Addr) (w : World) :
    Calls Try.prog 44 #[.agg #[.int .i64 7, .int .u32 (fr : Int), .int .u32 (ab : Int), .int .u64 (ntp : Int), .int .u32 (ts : Int), .int .u32 (pk : Int), .int .u32 (oc : Int), .slice Ab nb cb, .slice Ap np cp, .slice Af nf cf, .int .i64 ex, .int .u32 (mt : Int), .slice As ns cs, .int .i64 ty, .int .i64 ct, .slice Ad nd cd]] w (BoolIs (fr = 0 ∧ ab = 0 ∧ ntp = 0 ∧ ts = 0 ∧ pk = 0 ∧ oc = 0 ∧ ex = 0 ∧ mt = 0 ∧ nb = 0 ∧ np = 0 ∧ nf = 0 ∧ ns = 0) w) := by
  go_enter Try.func44, Try.ntmps44
  go_wp2_with fail
  all_goals go_ret
  all_goals first
    | (refine BoolIs.no (fun h => ?_) (balloc (Below.refl _ _) _)
       try simp only [bne_iff_ne, ne_eq, bne_eq_false_iff_eq] at *
       omega)
    | (refine BoolIs.yes ?_ (balloc (Below.refl _ _) _)
       try simp only [bne_iff_ne, ne_eq, bne_eq_false_iff_eq] at *
       omega)
    | (refine ⟨_, rfl, ?_, balloc (Below.refl _ _) _⟩
       try simp only [bne_iff_ne, ne_eq, bne_eq_false_iff_eq] at *
       try simp
       omega)
end Go.Proofs.Ytkfimncbfbbopaa
/- What the reference's other tells (contract). Conditions: the bytes lie in memory. -/
set_option linter.unusedVariables false
set_option linter.unusedSimpArgs false
namespace Go.Proofs.Ytkfimncbfbbopaa
open Go.RowKit
attribute [local go_sem ↓] Go.wp_at_zero Go.wp_at_succ

set_option maxRecDepth 100000 in
set_option maxHeartbeats 6400000 in
theorem other_c (t c : Int) (b : List UInt8) (A : Option Addr) (n cap : Nat) (w : World) (h : SlV w (.slice A n cap) b) :
    Calls Try.prog 45 #[.int .i64 t, .int .i64 c, .slice A n cap] w fun e w' => e = .returned (.bool (kindS t c b != 7)) ∧ w = w' := by
  have HN := Lib.hid h.num
  have H := Lib.hid h
  clear h
  by_cases h1 : t = 200
  · subst h1
    go_enter Try.func45, Try.ntmps45
    go_wp2
    go_ret
    exact ⟨rfl, rfl⟩
  by_cases h2 : t = 201
  · subst h2
    go_enter Try.func45, Try.ntmps45
    go_wp2
    go_ret
    exact ⟨rfl, rfl⟩
  by_cases h5 : t = 205
  · subst h5
    by_cases hc : c = 1
    · subst hc
      go_enter Try.func45, Try.ntmps45
      go_wp2
      go_ret
      exact ⟨rfl, rfl⟩
    · have q1 := beq_no hc
      have HX : Hid (kindS 205 c b = 7) := by show _ = _; simp [kindS, hc]
      clear hc h1 h2
      go_enter Try.func45, Try.ntmps45
      go_wp2
      go_ret
      exact ⟨by rw [HX.out]; rfl, rfl⟩
  by_cases h6 : t = 206
  · subst h6
    by_cases hc1 : c = 1
    · subst hc1
      go_enter Try.func45, Try.ntmps45
      go_wp2
      go_ret
      exact ⟨rfl, rfl⟩
    by_cases hc4 : c = 4
    · subst hc4
      go_enter Try.func45, Try.ntmps45
      go_wp2
      go_ret
      exact ⟨rfl, rfl⟩
    by_cases hc15 : c = 15
    · subst hc15
      by_cases hl : 12 ≤ n
      · have hli : (12 : Int) ≤ (n : Int) := by omega
        have hcap : n ≤ cap := by obtain ⟨_, _, e, hc, _⟩ := H.out; injection e with e1 e2 e3; omega
        have hcut : ∀ wx : World, (Instr.slice 22 (.slice A n cap) (some (.int .i64 8)) (some (.int .i64 12)) none).run Try.prog wx = .ok (.slice (cutA A cap 8) 4 (cap - 8)) wx := fun wx => cut_mid wx A n cap 8 12 4 (by decide) (by omega) rfl
        have hmid : SlB w w.heap.size (.slice (cutA A cap 8) 4 (cap - 8)) ((b.drop 8).take 4) := SlB.mid (k := 8) (d := 4) H.out (by omega)
        obtain ⟨m, hm⟩ : ∃ m, m = (b.drop 8).take 4 := ⟨_, rfl⟩
        rw [← hm] at hmid
        have hml : m.length = 4 := (hmid.num).symm
        have hst : (convert 22 9 (.slice (cutA A cap 8) 4 (cap - 8))).run Try.prog w = .ok (.string ⟨m.toArray⟩) w := by
          have := str_of (c := cap - 8) (hml ▸ hmid.rd)
          rw [hml] at this
          exact this
        obtain ⟨S, hS⟩ : ∃ S : ByteArray, S = ⟨m.toArray⟩ := ⟨_, rfl⟩
        rw [← hS] at hst
        by_cases hR : m = lettersL
        · have hSe : S = ⟨#[82, 69, 77, 66]⟩ := by rw [hS, hR]; rfl
          have HX : Hid (kindS 206 15 b = 6) := by
            show _ = _
            have hb : rembB b = true := by rw [rembB, ← hm, hR]; simp; have := HN.out; omega
            simp [kindS, hb]
          subst hSe
          clear hS hR hm hml hmid hc1 hc4 h1 h2 h5
          go_enter Try.func45, Try.ntmps45
          go_wp2
          go_ret
          exact ⟨by rw [HX.out]; rfl, rfl⟩
        · have q2 : (S.toList == [82, 69, 77, 66]) = false := by
            rw [beq_eq_false_iff_ne, hS]
            intro e
            exact hR (by rw [ByteArray.toList_eq] at e; exact e)
          have HX : Hid (kindS 206 15 b = 7) := by
            show _ = _
            have hb : rembB b = false := by rw [rembB, ← hm]; simp [hR]
            simp [kindS, hb]
          clear hS hR hm hml hmid hc1 hc4 h1 h2 h5
          go_enter Try.func45, Try.ntmps45
          go_wp2
          go_ret
          exact ⟨by rw [HX.out]; rfl, rfl⟩
      · have hli : ¬ (12 : Int) ≤ (n : Int) := by omega
        have HX : Hid (kindS 206 15 b = 7) := by
          show _ = _
          have hb : rembB b = false := by rw [rembB]; simp; intro h; have := HN.out; omega
          simp [kindS, hb]
        clear hc1 hc4 h1 h2 h5
        go_enter Try.func45, Try.ntmps45
        go_wp2
        go_ret
        exact ⟨by rw [HX.out]; rfl, rfl⟩
    · have q1 := beq_no hc1
      have q4 := beq_no hc4
      have q15 := beq_no hc15
      have HX : Hid (kindS 206 c b = 7) := by show _ = _; simp [kindS, hc1, hc4, hc15]
      clear hc1 hc4 hc15 h1 h2 h5
      go_enter Try.func45, Try.ntmps45
      go_wp2
      go_ret
      exact ⟨by rw [HX.out]; rfl, rfl⟩
  have q1 := beq_no h1
  have q2 := beq_no h2
  have q5 := beq_no h5
  have q6 := beq_no h6
  have HX : Hid (kindS t c b = 7) := by show _ = _; simp [kindS, h1, h2, h5, h6]
  clear h1 h2 h5 h6
  go_enter Try.func45, Try.ntmps45
  go_wp2
  go_ret
  exact ⟨by rw [HX.out]; rfl, rfl⟩
end Go.Proofs.Ytkfimncbfbbopaa
