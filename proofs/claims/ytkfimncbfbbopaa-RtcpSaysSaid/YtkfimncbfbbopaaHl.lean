/- Texts of this claim, one behind the other: Shelf8, Rate, BytesE, Put, BlkW, AppStr, Told. Each says ahead of itself what it proves, and its conditions. -/
import Derived.Test.YtkfimncbfbbopaaProg
import Derived.Test.YtkfimncbfbbopaaHg
import Derived.Test.YtkfimncbfbbopaaHk
import Derived.Shelf.Strconv.Itoa0
import Derived.Lib.BitFns
/-
  DERIVED: THE SHELF's CONTRACTS AT THIS DUMP, IN PLAIN WORDS (tools/lay-plain.mjs out of 'TryShelf.lean', which tools/lay-shelf.mjs wrote): THE SAME DECLARATIONS UNDER THE SAME NAMES: 'import', 'namespace', 'open', 'def', 'theorem' AND NOTHING ELSE: no command of the shelf's: FOR A HAND-IN. Each laying: the table of numbers ('.._ren') and one theorem, a field a fact of the dump's own or the kernel's comparison; each contract: ONE APPLICATION.
-/
namespace Go.Proofs
open Go.Shelf
def Try.lays129_ren : Go.Shelf.Ren := ⟨fun | 129 => 46 | n => n, fun | 53 => 34 | 3 => 3 | 4 => 4 | 46 => 70 | 5 => 5 | 9 => 9 | n => n, fun | n => n⟩
theorem Try.lays129 : Go.Proofs.Lays.n129 Try.prog Try.lays129_ren := {
  mixed := by kernel_rfl
  f129 := Try.func46.trans (congrArg some (by kernel_rfl))
  t3 := Try.underlying3
  a3 := Try.isAgg3
  z3 := Try.sizeOf3
  v3 := Try.zeroValue3
  t4 := Try.underlying4
  a4 := Try.isAgg4
  z4 := Try.sizeOf4
  v4 := Try.zeroValue4
  t5 := Try.underlying5
  a5 := Try.isAgg5
  z5 := Try.sizeOf5
  v5 := Try.zeroValue5
  t9 := Try.underlying9
  a9 := Try.isAgg9
  z9 := Try.sizeOf9
  v9 := Try.zeroValue9
  t46 := Try.underlying70
  a46 := Try.isAgg70
  z46 := Try.sizeOf70
  v46 := Try.zeroValue70
  t53 := Try.underlying34
  a53 := Try.isAgg34
  z53 := Try.sizeOf34
  v53 := Try.zeroValue34 }
/-- bits.Len64: "Len64 returns the minimum number of bits required to represent x; the result is 0 for x == 0.": IT RETURNS 'Lib.bitLen x'; the world is as it was. ('h0', 'h1': x is a uint64.) (LAID: no walk: one application.) -/
theorem Try.bits_Len64 (x : Int) (w : World) (h0 : 0 ≤ x) (h1 : x ≤ 18446744073709551615) :
    Calls Try.prog 46 #[.int .u64 x] w fun e w' => e = .returned (.int .i64 (Lib.bitLen x.toNat)) ∧ w' = w := Any.bits_Len64 Try.lays129 x w h0 h1
end Go.Proofs
/- What Rate tells (contracts: the program's and the reference's). Conditions: none. -/
set_option linter.unusedVariables false
set_option linter.unusedSimpArgs false
namespace Go.Proofs.Ytkfimncbfbbopaa
open Go.RowKit
attribute [local go_sem ↓] Go.wp_at_zero Go.wp_at_succ

def topU : Nat := 18446744073709551615
/-- Bits a second. -/
def rateS (m : Nat) (ex : Int) : Nat := if m = 0 ∨ ex < 0 then m else if 63 < ex ∨ topU / 2 ^ ex.toNat < m then topU else m * 2 ^ ex.toNat
theorem bitLen_pos {x : Nat} (h0 : x ≠ 0) (h : x < 2 ^ 64) : 1 ≤ Lib.bitLen x := by rw [Lib.bitLen_half x h0 h]; omega
theorem bitLen_gt {x k : Nat} (hk : k ≤ 64) (hx : x < 2 ^ 64) : k < Lib.bitLen x ↔ 2 ^ k ≤ x := by
  constructor
  · intro h
    rcases Nat.lt_or_ge x (2 ^ k) with h1 | h1
    · have := Lib.bitLen_le x k hk h1; omega
    · exact h1
  · intro h
    rw [Lib.bitLen_shift k x h hx]
    have h1 : x / 2 ^ k ≠ 0 := by
      have := Nat.div_pos h (Nat.pow_pos (n := k) (by decide : 0 < 2))
      omega
    have := bitLen_pos h1 (Nat.lt_of_le_of_lt (Nat.div_le_self _ _) hx)
    omega
theorem top_div {n : Nat} (hn : n ≤ 63) (m : Nat) : topU / 2 ^ n < m ↔ 2 ^ (64 - n) ≤ m := by
  have h : topU / 2 ^ n = 2 ^ (64 - n) - 1 := by
    have : ∀ n : Fin 64, topU / 2 ^ n.val = 2 ^ (64 - n.val) - 1 := by decide +kernel
    exact this ⟨n, by omega⟩
  have hp : 0 < 2 ^ (64 - n) := Nat.pow_pos (by decide)
  rw [h]
  omega
theorem rate_over {m n : Nat} (hm : m ≠ 0) (hm2 : m < 4294967296) (hn : n ≤ 63) : 64 < Lib.bitLen m + n ↔ topU / 2 ^ n < m := by
  rw [top_div hn, ← bitLen_gt (by omega) (by omega)]
  omega
--WALK
set_option maxRecDepth 100000 in
set_option maxHeartbeats 6400000 in
theorem rate_c (k : Int) (fr ab ntp ts pk oc mt nb cb np cp nf cf ns cs nd cd : Nat) (ex ty ct : Int) (Ab Ap Af As Ad : Option Addr) (w : World) (hm : mt < 4294967296) (hx1 : -9223372036854775808 ≤ ex) (hx2 : ex ≤ 9223372036854775807) :
    Calls Try.prog 28 #[.agg #[.int .i64 k, .int .u32 (fr : Int), .int .u32 (ab : Int), .int .u64 (ntp : Int), .int .u32 (ts : Int), .int .u32 (pk : Int), .int .u32 (oc : Int), .slice Ab nb cb, .slice Ap np cp, .slice Af nf cf, .int .i64 ex, .int .u32 (mt : Int), .slice As ns cs, .int .i64 ty, .int .i64 ct, .slice Ad nd cd]] w fun e w' => e = .returned (.int .u64 (rateS mt ex : Int)) ∧ Below w.heap.size w w' := by
  obtain ⟨p, hp⟩ : ∃ p : Nat, (p : Int) = max ex 0 := ⟨(max ex 0).toNat, by omega⟩
  obtain ⟨n, hn⟩ : ∃ n : Nat, (n : Int) = min (p : Int) 64 := ⟨(min (p : Int) 64).toNat, by omega⟩
  have hp' : max ex 0 = (p : Int) := hp.symm
  have hn' : min (p : Int) 64 = (n : Int) := hn.symm
  have hn64 : n ≤ 64 := by omega
  have HNX : Hid ((ex < 0 → n = 0) ∧ (0 ≤ ex → ex ≤ 63 → (n : Int) = ex) ∧ (63 < ex → n = 64)) := ⟨by omega, by omega, by omega⟩
  clear hp hn
  obtain ⟨g1, hg1⟩ : ∃ g1, g1 = w.heap.size := ⟨_, rfl⟩
  obtain ⟨w1, hw1⟩ : ∃ w1, w1 = w.alloc (.cells #[.int .i64 k, .int .u32 (fr : Int), .int .u32 (ab : Int), .int .u64 (ntp : Int), .int .u32 (ts : Int), .int .u32 (pk : Int), .int .u32 (oc : Int), .slice Ab nb cb, .slice Ap np cp, .slice Af nf cf, .int .i64 ex, .int .u32 (mt : Int), .slice As ns cs, .int .i64 ty, .int .i64 ct, .slice Ad nd cd] 46) := ⟨_, rfl⟩
  have HG : Hid (Blk w1 g1 46 #[.int .i64 k, .int .u32 (fr : Int), .int .u32 (ab : Int), .int .u64 (ntp : Int), .int .u32 (ts : Int), .int .u32 (pk : Int), .int .u32 (oc : Int), .slice Ab nb cb, .slice Ap np cp, .slice Af nf cf, .int .i64 ex, .int .u32 (mt : Int), .slice As ns cs, .int .i64 ty, .int .i64 ct, .slice Ad nd cd]) := by show Blk _ _ _ _; rw [hw1]; exact Blk.newAt hg1 _ _
  have HB : Hid (Below w.heap.size w w1) := by show Below _ _ _; rw [hw1]; exact balloc (Below.refl _ _) _
  go_enter Try.func28, Try.ntmps28
  go_upto_region 1 with fail
  rw [← hw1, ← hg1]
  clear hw1 hg1
  have c10 : w1.cell? ⟨g1, 10, none⟩ = some (.int .i64 ex) := HG.out.cell 10
  have c11 : w1.cell? ⟨g1, 11, none⟩ = some (.int .u32 (mt : Int)) := HG.out.cell 11
  go_quiet (fail)
  clear c10 c11
  go_upto_region 2 with fail
  clear hp' hn'
  obtain ⟨w2, hw2⟩ : ∃ w2, w2 = World.drewN w1 nq := ⟨_, rfl⟩
  rw [← hw2]
  have HB2 : Hid (Below w.heap.size w w2) := by show Below _ _ _; rw [hw2]; exact below_drewN HB.out _
  clear hw2 HB HG
  by_cases h0 : mt = 0
  · subst h0
    go_wp2_with fail
    go_ret
    exact ⟨rfl, HB2.out⟩
  have q0 : ((mt : Int) == 0) = false := by rw [beq_eq_false_iff_ne]; omega
  obtain ⟨b, hb⟩ : ∃ b, b = Lib.bitLen mt := ⟨_, rfl⟩
  have hb32 : b ≤ 32 := by rw [hb]; exact Lib.bitLen_le mt 32 (by decide) (by omega)
  have hb1 : 1 ≤ b := by rw [hb]; exact bitLen_pos h0 (by omega)
  have HL : Hid (∀ wx : World, Calls Try.prog 46 #[.int .u64 (mt : Int)] wx fun e w' => e = .returned (.int .i64 (b : Int)) ∧ wx = w') := fun wx => (Try.bits_Len64 (mt : Int) wx (by omega) (by omega)).mono fun e w' ⟨h1, h2⟩ => ⟨by rw [h1, hb]; rfl, h2.symm⟩
  have HM0 := Lib.hid h0
  have HBE := Lib.hid hb
  have HM := Lib.hid hm
  clear hm hb h0
  by_cases ho : 64 < b + n
  · have hoi : (64 : Int) < (b : Int) + (n : Int) := by omega
    have HR : Hid (rateS mt ex = topU) := by
      show _ = _
      unfold rateS
      obtain ⟨a1, a2, a3⟩ := HNX.out
      rw [if_neg (by rintro (h | h); exact HM0.out h; have := a1 h; omega)]
      by_cases h63 : 63 < ex
      · rw [if_pos (.inl h63)]
      · have hx := a2 (by have : ¬ ex < 0 := fun h => by have := a1 h; omega
                          omega) (by omega)
        have hgt : topU / 2 ^ ex.toNat < mt := by
          rw [show ex.toNat = n by omega]
          exact (rate_over HM0.out HM.out (by omega)).1 (by rw [← HBE.out]; exact ho)
        rw [if_pos (.inr hgt)]
    clear ho
    go_wp2_with (first
      | (go_at_call 46
         refine (HL.out _).mono ?_
         rintro e0 _ ⟨rfl, rfl⟩))
    go_ret
    exact ⟨by rw [HR.out]; rfl, HB2.out⟩
  · have hoi : ¬ (64 : Int) < (b : Int) + (n : Int) := by omega
    have hn63 : n ≤ 63 := by omega
    have HR : Hid (rateS mt ex = mt * 2 ^ n ∧ mt * 2 ^ n < 2 ^ 64) := by
      obtain ⟨a1, a2, a3⟩ := HNX.out
      have hno : ¬ topU / 2 ^ n < mt := fun h => ho (by rw [HBE.out]; exact (rate_over HM0.out HM.out hn63).2 h)
      have hlt : mt * 2 ^ n < 2 ^ 64 := by
        have h1 : mt ≤ topU / 2 ^ n := by omega
        have h2 := Nat.mul_le_mul_right (2 ^ n) h1
        have h3 := Nat.div_mul_le_self topU (2 ^ n)
        unfold topU at h2 h3
        omega
      refine ⟨?_, hlt⟩
      unfold rateS
      by_cases hx0 : ex < 0
      · rw [if_pos (.inr hx0), a1 hx0]; omega
      · rw [if_neg (by rintro (h | h); exact HM0.out h; exact hx0 h)]
        have h63 : ¬ 63 < ex := fun h => by have := a3 h; omega
        have hx := a2 (by omega) (by omega)
        rw [show ex.toNat = n by omega, if_neg (by rintro (h | h); exact h63 h; exact hno h)]
    clear ho
    obtain ⟨Y, hY⟩ : ∃ Y, Y = mt * 2 ^ n := ⟨_, rfl⟩
    have HRY : Hid (rateS mt ex = Y) := by show _ = _; rw [hY]; exact HR.out.1
    have hYi : (mt : Int) * 2 ^ n = (Y : Int) := by rw [hY]; simp
    have HYL : Hid (Y < 2 ^ 64) := by show _ < _; rw [hY]; exact HR.out.2
    have HYE := Lib.hid hY
    clear hY
    have hYm : (Y : Int) % 18446744073709551616 = (Y : Int) := by have := HYL.out; omega
    have hYw : IntKind.u64.wrap (Y : Int) = (Y : Int) := by have := HYL.out; simp [IntKind.wrap, IntKind.bits, IntKind.signed]; omega
    go_wp2_with (first
      | (go_at_call 46
         refine (HL.out _).mono ?_
         rintro e0 _ ⟨rfl, rfl⟩))
    go_ret
    exact ⟨by rw [HRY.out]; rfl, HB2.out⟩
set_option maxRecDepth 100000 in
set_option maxHeartbeats 6400000 in
theorem rateR_c (k : Int) (fr ab ntp ts pk oc mt nb cb np cp nf cf ns cs nd cd : Nat) (ex ty ct : Int) (Ab Ap Af As Ad : Option Addr) (w : World) (hm : mt < 4294967296) (hx1 : -9223372036854775808 ≤ ex) (hx2 : ex ≤ 9223372036854775807) :
    Calls Try.prog 29 #[.agg #[.int .i64 k, .int .u32 (fr : Int), .int .u32 (ab : Int), .int .u64 (ntp : Int), .int .u32 (ts : Int), .int .u32 (pk : Int), .int .u32 (oc : Int), .slice Ab nb cb, .slice Ap np cp, .slice Af nf cf, .int .i64 ex, .int .u32 (mt : Int), .slice As ns cs, .int .i64 ty, .int .i64 ct, .slice Ad nd cd]] w fun e w' => e = .returned (.int .u64 (rateS mt ex : Int)) ∧ Below w.heap.size w w' := by
  have HB : Hid (Below w.heap.size w (w.alloc (.cells #[.int .i64 k, .int .u32 (fr : Int), .int .u32 (ab : Int), .int .u64 (ntp : Int), .int .u32 (ts : Int), .int .u32 (pk : Int), .int .u32 (oc : Int), .slice Ab nb cb, .slice Ap np cp, .slice Af nf cf, .int .i64 ex, .int .u32 (mt : Int), .slice As ns cs, .int .i64 ty, .int .i64 ct, .slice Ad nd cd] 40))) := balloc (Below.refl _ _) _
  by_cases h0 : mt = 0
  · subst h0
    have HR : Hid (rateS 0 ex = 0) := by show _ = _; unfold rateS; rw [if_pos (.inl rfl)]
    go_enter Try.func29, Try.ntmps29
    go_wp2_with fail
    go_ret
    exact ⟨by rw [HR.out]; rfl, HB.out⟩
  have q0 : ((mt : Int) == 0) = false := by rw [beq_eq_false_iff_ne]; omega
  have HM0 := Lib.hid h0
  clear h0
  by_cases hx0 : ex < 0
  · have HR : Hid (rateS mt ex = mt) := by show _ = _; unfold rateS; rw [if_pos (.inr hx0)]
    go_enter Try.func29, Try.ntmps29
    go_wp2_with fail
    go_ret
    exact ⟨by rw [HR.out]; rfl, HB.out⟩
  have hx0d : decide (ex < 0) = false := by simpa using hx0
  by_cases h63 : 63 < ex
  · have HR : Hid (rateS mt ex = topU) := by show _ = _; unfold rateS; rw [if_neg (by rintro (h | h); exact HM0.out h; exact hx0 h), if_pos (.inl h63)]
    go_enter Try.func29, Try.ntmps29
    go_wp2_with fail
    go_ret
    exact ⟨by rw [HR.out]; rfl, HB.out⟩
  obtain ⟨n, rfl⟩ : ∃ n : Nat, ex = (n : Int) := ⟨ex.toNat, by omega⟩
  have hn63 : n ≤ 63 := by omega
  have h63i : ¬ (63 : Int) < (n : Int) := by omega
  have h63d : decide ((63 : Int) < (n : Int)) = false := by simp; omega
  have hmin : min n 64 = n := by omega
  obtain ⟨Q, hQ⟩ : ∃ Q, Q = topU / 2 ^ n := ⟨_, rfl⟩
  have hQi : (18446744073709551615 : Int) / 2 ^ n = (Q : Int) := by rw [hQ]; unfold topU; simp
  have HQ := Lib.hid hQ
  have HM := Lib.hid hm
  have hmw : IntKind.u64.wrap (mt : Int) = (mt : Int) := by simp [IntKind.wrap, IntKind.bits, IntKind.signed]; omega
  clear hQ hm hx0 h63
  by_cases ho : Q < mt
  · have hoi : (Q : Int) < (mt : Int) := by omega
    have hod : decide (Q < mt) = true := by simpa using ho
    have HR : Hid (rateS mt (n : Int) = topU) := by
      show _ = _
      unfold rateS
      rw [if_neg (by rintro (h | h); exact HM0.out h; omega), if_pos (.inr (by rw [Int.toNat_natCast, ← HQ.out]; exact ho))]
    clear ho
    go_enter Try.func29, Try.ntmps29
    go_wp2_with fail
    go_ret
    exact ⟨by rw [HR.out]; rfl, HB.out⟩
  · have hoi : ¬ (Q : Int) < (mt : Int) := by omega
    have hod : decide (Q < mt) = false := by simpa using ho
    have HR : Hid (rateS mt (n : Int) = mt * 2 ^ n ∧ mt * 2 ^ n < 2 ^ 64) := by
      refine ⟨?_, ?_⟩
      · unfold rateS
        rw [if_neg (by rintro (h | h); exact HM0.out h; omega), if_neg (by rw [Int.toNat_natCast, ← HQ.out]; rintro (h | h); omega; exact ho h), Int.toNat_natCast]
      · have h1 : mt ≤ topU / 2 ^ n := by rw [← HQ.out]; omega
        have h2 := Nat.mul_le_mul_right (2 ^ n) h1
        have h3 := Nat.div_mul_le_self topU (2 ^ n)
        unfold topU at h2 h3
        omega
    clear ho
    obtain ⟨Y, hY⟩ : ∃ Y, Y = mt * 2 ^ n := ⟨_, rfl⟩
    have HRY : Hid (rateS mt (n : Int) = Y) := by show _ = _; rw [hY]; exact HR.out.1
    have hYi : (mt : Int) * 2 ^ n = (Y : Int) := by rw [hY]; simp
    have HYL : Hid (Y < 2 ^ 64) := by show _ < _; rw [hY]; exact HR.out.2
    clear hY
    have hYm : (Y : Int) % 18446744073709551616 = (Y : Int) := by have := HYL.out; omega
    have hYw : IntKind.u64.wrap (Y : Int) = (Y : Int) := by have := HYL.out; simp [IntKind.wrap, IntKind.bits, IntKind.signed]; omega
    go_enter Try.func29, Try.ntmps29
    go_wp2_with fail
    go_ret
    exact ⟨by rw [HRY.out]; rfl, HB.out⟩
end Go.Proofs.Ytkfimncbfbbopaa
/- Bytes where it refuses; Rate of a report in memory (contracts). Conditions: the reports lie in memory. (Printed by gen8g.py.) -/
set_option linter.unusedVariables false
set_option linter.unusedSimpArgs false
namespace Go.Proofs.Ytkfimncbfbbopaa
open Go.RowKit
attribute [local go_sem ↓] Go.wp_at_zero Go.wp_at_succ

set_option maxRecDepth 100000 in
set_option maxHeartbeats 3200000 in
theorem bytesNil_c (w : World) : Calls Try.prog 23 #[.slice none 0 0] w fun e w' => e = .returned (.tuple #[.slice none 0 0, .int .i64 1]) ∧ w = w' := by
  go_enter Try.func23, Try.ntmps23
  go_wp2_with fail
  go_ret2
  exact ⟨rfl, rfl⟩
set_option maxRecDepth 100000 in
set_option maxHeartbeats 3200000 in
theorem bytesBad_c (rs : List Rep) (A : Option Addr) (n cap : Nat) (w : World) (h : RepsAt w A n rs) (hl : rs.length = n) (h0 : 0 < n) (hn : n ≤ 1000000) (hf : ∀ r ∈ rs, r.blocks.length ≤ 1000000 ∧ -9223372036854775808 ≤ r.ex ∧ r.ex ≤ 9223372036854775807) (hb : ∃ r ∈ rs, ¬ goodS r) :
    Calls Try.prog 23 #[.slice A n cap] w fun e w' => e = .returned (.tuple #[.slice none 0 0, .int .i64 1]) ∧ Below w.heap.size w w' := by
  have HC := Lib.hid (contR_c rs A n cap w h hl hn hf)
  have HBAD := Lib.hid hb
  have q0 : ((n : Int) == 0) = false := by rw [beq_eq_false_iff_ne]; omega
  have q1 : (n == 0) = false := by rw [beq_eq_false_iff_ne]; omega
  clear hl h hf hn h0 hb
  go_enter Try.func23, Try.ntmps23
  go_wp2_with (first
    | (go_at_call 35
       refine HC.out.mono ?_
       rintro e9 w9 ⟨q, rfl, hq, hb9⟩
       have hqt : q = true := hq.2 HBAD.out
       subst hqt
       have HB9 := Lib.hid hb9
       clear hq hb9))
  go_ret2
  exact ⟨rfl, HB9.out⟩
theorem rateV_c (cs0 : Array Value) (r : Rep) (w : World) (h : RepV w cs0 r) (hm : r.mt < 4294967296) (hx1 : -9223372036854775808 ≤ r.ex) (hx2 : r.ex ≤ 9223372036854775807) :
    Calls Try.prog 28 #[.agg cs0] w fun e w' => e = .returned (.int .u64 (rateS r.mt r.ex : Int)) ∧ Below w.heap.size w w' := by
  obtain ⟨vb, vp, vf, vs, vd, e1, hb, hp, hf, hs, hd⟩ := h
  subst e1
  obtain ⟨Ab, cb, eb, _, _⟩ := id hb
  subst eb
  obtain ⟨Ap, cp, ep, _, _⟩ := id hp
  subst ep
  obtain ⟨Af, cf, ef, _, _⟩ := id hf
  subst ef
  obtain ⟨As, cs, es, _, _⟩ := id hs
  subst es
  obtain ⟨Ad, cd, ed, _, _⟩ := id hd
  subst ed
  exact rate_c r.kind _ _ _ _ _ _ _ _ _ _ _ _ _ _ _ _ _ _ _ _ _ _ _ _ _ w hm hx1 hx2
end Go.Proofs.Ytkfimncbfbbopaa
/- What put does: a number's bytes behind a row of the call's own (contract). Conditions: the row is the caller's own. -/
set_option linter.unusedVariables false
set_option linter.unusedSimpArgs false
namespace Go.Proofs.Ytkfimncbfbbopaa
open Go.RowKit
attribute [local go_sem ↓] Go.wp_at_zero Go.wp_at_succ

/-- The first k of a number's n bytes, the highest first. -/
def beTake (x n : Nat) : Nat → List UInt8
  | 0 => []
  | k + 1 => beTake x n k ++ [UInt8.ofNat (x / 2 ^ (8 * (n - 1 - k)))]
def beS (x n : Nat) : List UInt8 := beTake x n n
theorem beTake_len (x n : Nat) : ∀ k, (beTake x n k).length = k
  | 0 => rfl
  | k + 1 => by rw [beTake, List.length_append, beTake_len x n k]; rfl
theorem beS_len (x n : Nat) : (beS x n).length = n := beTake_len x n n
theorem beTake_next (x : Nat) {n k j : Nat} (h : j + 1 + k = n) : beTake x n (k + 1) = beTake x n k ++ [UInt8.ofNat (x / 2 ^ (8 * j))] := by
  rw [beTake, show n - 1 - k = j by omega]
/-- What a call leaves that writes behind a row v, of base B: the row v' that reads l; all else is as it was. -/
def Grew (B : Nat) (v : Value) (l : List UInt8) (w : World) (v' : Value) (w' : World) : Prop :=
  w'.ownsRow B 5 1 v' l.length (l.map u8v) ∧ Sv (fun j => v.ownBlock = some j) w w' ∧ ∀ g, v'.ownBlock = some g → v.ownBlock = some g ∨ w.heap.size ≤ g
theorem Grew.trans {B : Nat} {v v1 v2 : Value} {l1 l2 : List UInt8} {w w1 w2 : World} (h1 : Grew B v l1 w v1 w1) (h2 : Grew B v1 l2 w1 v2 w2) : Grew B v l2 w v2 w2 := by
  refine ⟨h2.1, ?_, fun g hg => ?_⟩
  · refine h1.2.1.trans h2.2.1 fun k hk e => ?_
    rcases h1.2.2 k e with h | h
    · exact h
    · exact absurd hk (by omega)
  · rcases h2.2.2 g hg with h | h
    · exact h1.2.2 g h
    · exact .inr (Nat.le_trans h1.2.1.size h)
/-- One append. -/
theorem Grew.app {B : Nat} {v v' : Value} {l news : List UInt8} {w w1 w' : World} (hs : Sv (fun j => v.ownBlock = some j) w w1) (hown : w'.ownsRow B 5 1 v' (l.length + news.length) (l.map u8v ++ news.map u8v)) (hg : w1.grownBy w' v.ownBlock) (hat : v'.ownBlock = v.ownBlock ∨ v'.ownBlock = some w1.heap.size) : Grew B v (l ++ news) w v' w' := by
  refine ⟨by rw [List.length_append, List.map_append]; exact hown, hs.grown hg fun g e => .inl e, fun g e => ?_⟩
  rcases hat with h | h
  · exact .inl (h ▸ e)
  · rw [h] at e
    injection e with e
    subst e
    exact .inr hs.size
theorem Grew.refl {B : Nat} {v : Value} {l : List UInt8} {w : World} (h : w.ownsRow B 5 1 v l.length (l.map u8v)) : Grew B v l w v w := ⟨h, Sv.refl _ _, fun g e => .inl e⟩
set_option maxHeartbeats 3200000 in
theorem put_c (B x n : Nat) (l : List UInt8) (v : Value) (w : World) (h : w.ownsRow B 5 1 v l.length (l.map u8v)) (hB : B ≤ w.heap.size) (hl : l.length ≤ 100000000) (hn : n ≤ 8) (hx : x < 18446744073709551616) :
    Calls Try.prog 38 #[v, .int .u64 (x : Int), .int .i64 (n : Int)] w fun e w' => ∃ v', e = .returned v' ∧ Grew B v (l ++ beS x n) w v' w' := by
  obtain ⟨iB, hiB, hz0, hz1, hz2⟩ := info_parts infoByte
  have HG0 := Lib.hid (Grew.refl h)
  have HBB := Lib.hid hB
  obtain ⟨A, c, rfl⟩ := own_slice h
  clear h hx hB
  have hni : (n : Int) ≤ 8 := by omega
  go_enter Try.func38, Try.ntmps38
  go_upto_region 2 with fail
  go_loopg [0, 7] n (fun gg v0 i wr => ∃ (j k : Nat) (A' : Option Addr) (c' : Nat), j + k = n ∧ j = gg ∧ i = .int .i64 ((j : Int) - 1) ∧ v0 = .slice A' (l.length + k) c' ∧ Grew B (.slice A l.length c) (l ++ beTake x n k) w v0 wr)
  case atStart => exact ⟨n, 0, A, c, rfl, rfl, rfl, rfl, by rw [beTake, List.append_nil]; exact HG0.out⟩
  case round =>
    obtain ⟨j, k, A', c', hjk, rfl, rfl, rfl, hg⟩ := hrel
    have HG := Lib.hid hg
    have HJK := Lib.hid hjk
    clear hg
    cases j with
    | zero =>
      have hk : k = n := by omega
      subst hk
      clear hjk
      go_wp2
      go_ret
      exact ⟨_, rfl, HG.out⟩
    | succ j =>
      rw [show (((j + 1 : Nat) : Int) - 1) = (j : Int) by omega]
      have hj8 : j < 8 := by omega
      have hj9 : (j : Int) < 8 := by omega
      have HV := Lib.hid (byte_at x (8 * j))
      have HT := Lib.hid (beTake_next x hjk)
      clear hjk
      have hkl : k < 8 := by have := HJK.out; omega
      have HOW : Hid (wr.ownsRow B 5 1 (.slice A' (l.length + k) c') (l.length + k) ((l ++ beTake x n k).map u8v)) := by
        have := HG.out.1
        rw [List.length_append, beTake_len] at this
        exact this
      go_wp2_with (first
        | (at_builtin
           refine wpList_append_any _ rfl (.tmp 14) (.tmp 20) _ rfl B 5 iB _ 1 1 Try.underlying22 hiB hz0 hz1 hz2 rfl (by omega) (.slice A' (l.length + k) c') (l.length + k) ((l ++ beTake x n k).map u8v) rfl (HOW.out.alloc _)
             (wr.alloc (.cells #[.int .u8 ((x : Int) / 2 ^ (8 * j) % 256)] 5)).heap.size (some ⟨wr.heap.size, 0, none⟩) 1 1 [.int .u8 ((x : Int) / 2 ^ (8 * j) % 256)] rfl (Reads.of_own (own_one wr 5 _)) (by simp [Value.oneCell']) (by simp only [maxLen]; omega) (by omega) (by have := HG.out.2.1.size; have := HBB.out; simp; omega) ?_
           intro v2 w2 hown2 hg2 hat2
           obtain ⟨A2, c2, rfl⟩ := own_slice hown2
           rw [HV.out] at hown2
           have HN := Lib.hid hown2
           have HGR := Lib.hid hg2
           have HAT := Lib.hid hat2
           clear hown2 hg2 hat2))
      go_roundg j
      case measure => omega
      case rel =>
        refine ⟨j, k + 1, A2, c2, by have := HJK.out; omega, rfl, rfl, rfl, ?_⟩
        rw [HT.out, ← List.append_assoc]
        refine HG.out.trans (Grew.app (news := [UInt8.ofNat (x / 2 ^ (8 * j))]) (Sv.alloc (Sv.refl _ _) _) ?_ HGR.out HAT.out)
        have := HN.out
        rw [List.length_append, beTake_len]
        exact this
end Go.Proofs.Ytkfimncbfbbopaa
/- What blocks writes (contract). Conditions: the row is the caller's own; the blocks lie in memory below it. -/
set_option linter.unusedVariables false
set_option linter.unusedSimpArgs false
namespace Go.Proofs.Ytkfimncbfbbopaa
open Go.RowKit
attribute [local go_sem ↓] Go.wp_at_zero Go.wp_at_succ

/-- Numbers, four bytes each. -/
def fours (l : List Nat) : List UInt8 := l.flatMap fun x => beS x 4
theorem fours_len : ∀ l : List Nat, (fours l).length = 4 * l.length
  | [] => rfl
  | x :: l => by
    show (beS x 4 ++ fours l).length = _
    rw [List.length_append, beS_len, fours_len l, List.length_cons]; omega
theorem fours_snoc (l : List Nat) (x : Nat) : fours (l ++ [x]) = fours l ++ beS x 4 := by simp [fours]
/-- A block's bytes. -/
def blkB (e : List Nat) : List UInt8 := beS (e.getD 0 0) 4 ++ [UInt8.ofNat (e.getD 1 0)] ++ beS (e.getD 2 0) 3 ++ fours [e.getD 3 0, e.getD 4 0, e.getD 5 0, e.getD 6 0]
theorem blkB_len (e : List Nat) : (blkB e).length = 24 := by simp [blkB, beS_len, fours_len]
def blksB (l : List (List Nat)) : List UInt8 := l.flatMap blkB
theorem blksB_len : ∀ l : List (List Nat), (blksB l).length = 24 * l.length
  | [] => rfl
  | e :: l => by
    show (blkB e ++ blksB l).length = _
    rw [List.length_append, blkB_len, blksB_len l, List.length_cons]; omega
theorem blksB_snoc (l : List (List Nat)) (e : List Nat) : blksB (l ++ [e]) = blksB l ++ blkB e := by simp [blksB]
/-- Each number fits its place. -/
def FitL (l : List (List Nat)) : Prop := ∀ e ∈ l, (∀ x ∈ e, x < 4294967296) ∧ e.getD 1 0 < 256
theorem Grew.below {B : Nat} {v v' : Value} {l0 l : List UInt8} {w w' : World} (h : Grew B v l w v' w') (ho : w.ownsRow B 5 1 v l0.length (l0.map u8v)) (hB : B ≤ w.heap.size) : Below B w w' :=
  h.2.1.toBelow (fun k e => (ho.lt k e).1) hB
theorem wrap64 {x : Nat} (h : x < 4294967296) : IntKind.u64.wrap (x : Int) = (x : Int) := by simp [IntKind.wrap, IntKind.bits, IntKind.signed]; omega
theorem u8v_of {a : Nat} (h : a < 256) : u8v (UInt8.ofNat a) = .int .u8 (a : Int) := by
  unfold u8v
  rw [UInt8.toNat_ofNat', Nat.mod_eq_of_lt (by omega)]
/-- One byte more, laid in a cell of its own. -/
theorem Grew.one {B : Nat} {v0 v v' : Value} {L : List UInt8} {m a : Nat} {wr w w' : World} (h : Grew B v0 L wr v w) (hm : m = L.length) (ha : a < 256) (hown : w'.ownsRow B 5 1 v' (m + 1) (L.map u8v ++ [.int .u8 (a : Int)])) (hg : (w.alloc (.cells #[.int .u8 (a : Int)] 5)).grownBy w' v.ownBlock) (hat : v'.ownBlock = v.ownBlock ∨ v'.ownBlock = some (w.alloc (.cells #[.int .u8 (a : Int)] 5)).heap.size) : Grew B v0 (L ++ [UInt8.ofNat a]) wr v' w' := by
  refine h.trans (Grew.app (news := [UInt8.ofNat a]) (Sv.alloc (Sv.refl _ _) _) ?_ hg hat)
  rw [hm, ← u8v_of ha] at hown
  exact hown
set_option maxRecDepth 100000 in
set_option maxHeartbeats 12800000 in
theorem blkW_c (w0 : World) (bl : List (List Nat)) (Ab : Option Addr) (n cb : Nat) (h : SlR w0 ks7 (.slice Ab n cb) bl) (hf : FitL bl) (l0 : List UInt8) (v : Value) (w : World) (hb : Below w0.heap.size w0 w) (ho : w.ownsRow w0.heap.size 5 1 v l0.length (l0.map u8v)) (hl : l0.length ≤ 1000000) (hn : n ≤ 100000) :
    Calls Try.prog 56 #[v, .slice Ab n cb] w fun e w' => ∃ v', e = .returned v' ∧ Grew w0.heap.size v (l0 ++ blksB bl) w v' w' := by
  obtain ⟨iB, hiB, hz0, hz1, hz2⟩ := info_parts infoByte
  have hlen : bl.length = n := by obtain ⟨_, _, e, _⟩ := h; injection e with _ e; exact e.symm
  have HLEN := Lib.hid hlen
  have H := Lib.hid h
  have HF := Lib.hid hf
  have HB0 := Lib.hid hb
  have HO0 := Lib.hid ho
  obtain ⟨B, hB⟩ : ∃ B, B = w0.heap.size := ⟨_, rfl⟩
  have HBE := Lib.hid hB
  have HG0 : Hid (Grew B v l0 w v w) := by rw [hB]; exact Grew.refl ho
  rw [← hB]
  have HBW : Hid (B ≤ w.heap.size) := by show _ ≤ _; rw [hB]; exact hb.size
  obtain ⟨A0, c0, rfl⟩ := own_slice ho
  clear hlen h hf hb ho hB
  go_enter Try.func56, Try.ntmps56
  go_upto_region 2 with fail
  go_loopg [0, 11] n (fun gg vv vi wx => ∃ i : Nat, gg = n - i ∧ i ≤ n ∧ vi = .int .i64 (i : Int) ∧ Grew B (.slice A0 l0.length c0) (l0 ++ blksB (bl.take i)) w vv wx)
  case atStart => exact ⟨0, by omega, by omega, rfl, by simpa [blksB] using HG0.out⟩
  case round =>
    obtain ⟨i, hgg, hi, rfl, hg⟩ := hrel
    have HG := Lib.hid hg
    have HGG := Lib.hid hgg
    obtain ⟨Av, cv, hv⟩ := own_slice hg.1
    subst hv
    have HBW1 : Hid (Below w0.heap.size w0 wr) := by
      have := HG.out.below (l0 := l0) (by rw [HBE.out]; exact HO0.out) HBW.out
      rw [HBE.out] at this
      exact HB0.out.trans this
    clear hg hgg
    obtain ⟨L, hL⟩ : ∃ L, L = l0 ++ blksB (bl.take i) := ⟨_, rfl⟩
    have HLE := Lib.hid hL
    have hLl : L.length ≤ 4000000 := by rw [hL, List.length_append, blksB_len, List.length_take]; omega
    rw [← hL] at HG ⊢
    have HOW : Hid (wr.ownsRow B 5 1 (.slice Av L.length cv) L.length (L.map u8v)) := HG.out.1
    obtain ⟨m, hm⟩ : ∃ m, m = L.length := ⟨_, rfl⟩
    have HM := Lib.hid hm
    rw [← hm] at hLl ⊢
    clear hL hm
    by_cases hin : i < n
    · have hini : (i : Int) < (n : Int) := by omega
      have hw1 : IntKind.i64.wrap ((i : Int) + 1) = ((i + 1 : Nat) : Int) := by rw [IntKind.wrap_i64]; omega
      obtain ⟨e, hei⟩ : ∃ e, bl[i]? = some e := ⟨bl[i]'(by have := HLEN.out; omega), List.getElem?_eq_getElem _⟩
      obtain ⟨hz, ga, oa, hA, hga, hc⟩ := SlR.cells H.out (by omega) (by decide)
      subst hA
      obtain ⟨hel, hcc⟩ := hc i e hei
      obtain ⟨a0, a1, a2, a3, a4, a5, a6, rr, he⟩ := of7 (ks := ks7) rfl hel
      have u0 : wr.cell? ⟨ga, oa + i * 7, none⟩ = some (.int .u32 (a0 : Int)) := (HBW1.out.cell (p := ⟨ga, oa + i * 7, none⟩) hga).trans (hcc 0 _ (by rw [he]; rfl))
      have u1 : wr.cell? ⟨ga, oa + i * 7 + 1, none⟩ = some (.int .u8 (a1 : Int)) := (HBW1.out.cell (p := ⟨ga, oa + i * 7 + 1, none⟩) hga).trans (hcc 1 _ (by rw [he]; rfl))
      have u2 : wr.cell? ⟨ga, oa + i * 7 + 2, none⟩ = some (.int .u32 (a2 : Int)) := (HBW1.out.cell (p := ⟨ga, oa + i * 7 + 2, none⟩) hga).trans (hcc 2 _ (by rw [he]; rfl))
      have u3 : wr.cell? ⟨ga, oa + i * 7 + 3, none⟩ = some (.int .u32 (a3 : Int)) := (HBW1.out.cell (p := ⟨ga, oa + i * 7 + 3, none⟩) hga).trans (hcc 3 _ (by rw [he]; rfl))
      have u4 : wr.cell? ⟨ga, oa + i * 7 + 4, none⟩ = some (.int .u32 (a4 : Int)) := (HBW1.out.cell (p := ⟨ga, oa + i * 7 + 4, none⟩) hga).trans (hcc 4 _ (by rw [he]; rfl))
      have u5 : wr.cell? ⟨ga, oa + i * 7 + 5, none⟩ = some (.int .u32 (a5 : Int)) := (HBW1.out.cell (p := ⟨ga, oa + i * 7 + 5, none⟩) hga).trans (hcc 5 _ (by rw [he]; rfl))
      have u6 : wr.cell? ⟨ga, oa + i * 7 + 6, none⟩ = some (.int .u32 (a6 : Int)) := (HBW1.out.cell (p := ⟨ga, oa + i * 7 + 6, none⟩) hga).trans (hcc 6 _ (by rw [he]; rfl))
      obtain ⟨hfx, hf1⟩ := HF.out e (List.mem_of_getElem? hei)
      have HA0 : Hid (a0 < 4294967296) := hfx _ (by rw [he]; simp)
      have HA1 : Hid (a1 < 256) := by show _ < _; rw [he] at hf1; exact hf1
      have HA2 : Hid (a2 < 4294967296) := hfx _ (by rw [he]; simp)
      have HA3 : Hid (∀ x ∈ [a3, a4, a5, a6], x < 4294967296) := by
        intro x hx
        refine hfx x ?_
        rw [he]
        simp only [List.mem_cons, List.not_mem_nil, or_false] at hx ⊢
        rcases hx with h | h | h | h <;> simp [h]
      have HTK : Hid (l0 ++ blksB (bl.take (i + 1)) = L ++ (beS a0 4 ++ [UInt8.ofNat a1] ++ beS a2 3 ++ fours [a3, a4, a5, a6])) := by
        show _ = _
        rw [takeN_snoc hei, blksB_snoc, ← List.append_assoc, HLE.out, he]
        rfl
      have HLT := Lib.hid hin
      clear hc hcc hei hin he hel hz hi hfx hf1
      go_upto_region 4 with fail
      obtain ⟨gx, hgx⟩ : ∃ gx, gx = wr.heap.size := ⟨_, rfl⟩
      obtain ⟨w1, hw1'⟩ : ∃ w1, w1 = wr.alloc (.cells #[.int .u32 (a0 : Int), .int .u8 (a1 : Int), .int .u32 (a2 : Int), .int .u32 (a3 : Int), .int .u32 (a4 : Int), .int .u32 (a5 : Int), .int .u32 (a6 : Int)] 81) := ⟨_, rfl⟩
      rw [← hw1', ← hgx]
      have HX1 : Hid (Blk w1 gx 81 #[.int .u32 (a0 : Int), .int .u8 (a1 : Int), .int .u32 (a2 : Int), .int .u32 (a3 : Int), .int .u32 (a4 : Int), .int .u32 (a5 : Int), .int .u32 (a6 : Int)]) := by show Blk _ _ _ _; rw [hw1']; exact Blk.newAt hgx _ _
      have HG1 : Hid (Grew B (.slice Av m cv) L wr (.slice Av m cv) w1) := by
        show Grew _ _ _ _ _ _
        rw [hw1', HM.out]
        exact ⟨HOW.out.alloc _, Sv.alloc (Sv.refl _ _) _, fun g e => .inl e⟩
      clear hw1' hgx u0 u1 u2 u3 u4 u5 u6
      have k0 : w1.cell? ⟨gx, 0, none⟩ = some (.int .u32 (a0 : Int)) := HX1.out.cell 0
      have z0 := wrap64 HA0.out
      have z2 := wrap64 HA2.out
      go_upto_region 5 with
       (go_at_call 38
        refine (put_c B a0 4 L _ w1 HG1.out.1 (Nat.le_trans HBW.out (Nat.le_trans HG.out.2.1.size HG1.out.2.1.size)) (by have := HM.out; omega) (by decide) (by have := HA0.out; omega)).mono ?_
        rintro e9 w2 ⟨v2, rfl, hg2⟩
        have HG2 : Hid (Grew B (.slice Av m cv) (L ++ beS a0 4) wr v2 w2) := HG1.out.trans hg2
        have HX2 := Lib.hid (hg2.2.1.blk HX1.out (fun e => own_blk_ne HG1.out.1 HX1.out (by decide) e))
        obtain ⟨A2, c2, hv2⟩ := own_slice hg2.1
        subst hv2
        obtain ⟨m2, hm2⟩ : ∃ m2, m2 = (L ++ beS a0 4).length := ⟨_, rfl⟩
        rw [← hm2] at HG2 ⊢
        have HM2 := Lib.hid hm2
        have hm2l : m2 ≤ 5000000 := by rw [hm2, List.length_append, beS_len]; have := HM.out; omega
        have HO2 : Hid (w2.ownsRow B 5 1 (.slice A2 m2 c2) m2 ((L ++ beS a0 4).map u8v)) := by
          have := HG2.out.1
          rw [← hm2] at this
          exact this
        have k1 : w2.cell? ⟨gx, 1, none⟩ = some (.int .u8 (a1 : Int)) := HX2.out.cell 1
        clear hg2 hm2 k0)
      go_upto_region 6 with
       (at_builtin
        refine wpList_append_any _ rfl (.tmp 20) (.tmp 23) _ rfl B 5 iB _ 1 1 Try.underlying22 hiB hz0 hz1 hz2 rfl (by omega) (.slice A2 m2 c2) m2 ((L ++ beS a0 4).map u8v) rfl (HO2.out.alloc _)
          (w2.alloc (.cells #[.int .u8 (a1 : Int)] 5)).heap.size (some ⟨w2.heap.size, 0, none⟩) 1 1 [.int .u8 (a1 : Int)] rfl (Reads.of_own (own_one w2 5 _)) (by simp [Value.oneCell']) (by simp only [maxLen]; omega) (by omega) (by have := HBW.out; have := HG.out.2.1.size; have := HG2.out.2.1.size; simp; omega) ?_
        intro v3 w3 hown3 hg3 hat3
        have HG3 : Hid (Grew B (.slice Av m cv) (L ++ beS a0 4 ++ [UInt8.ofNat a1]) wr v3 w3) := HG2.out.one HM2.out HA1.out hown3 hg3 hat3
        have HX3 : Hid (Blk w3 gx 81 #[.int .u32 (a0 : Int), .int .u8 (a1 : Int), .int .u32 (a2 : Int), .int .u32 (a3 : Int), .int .u32 (a4 : Int), .int .u32 (a5 : Int), .int .u32 (a6 : Int)]) := Blk.grown (Blk.alloc HX2.out _) hg3 (Ne.symm (own_blk_ne (HO2.out.alloc (.cells #[.int .u8 (a1 : Int)] 5)) (Blk.alloc HX2.out _) (by decide)))
        obtain ⟨A3, c3, hv3⟩ := own_slice HG3.out.1
        subst hv3
        obtain ⟨m3, hm3⟩ : ∃ m3, m3 = (L ++ beS a0 4 ++ [UInt8.ofNat a1]).length := ⟨_, rfl⟩
        rw [← hm3] at HG3 ⊢
        have HM3 : Hid (m3 = m2 + 1) := by show _ = _; rw [hm3, List.length_append, ← HM2.out]; rfl
        have HL3 : Hid ((L ++ beS a0 4 ++ [UInt8.ofNat a1]).length ≤ 100000000) := by show _ ≤ _; rw [← hm3, HM3.out]; omega
        clear hm3
        have k2 : w3.cell? ⟨gx, 2, none⟩ = some (.int .u32 (a2 : Int)) := HX3.out.cell 2
        clear hown3 hg3 hat3 k1)
      go_upto_region 7 with
       (go_at_call 38
        refine (put_c B a2 3 _ _ w3 HG3.out.1 (Nat.le_trans HBW.out (Nat.le_trans HG.out.2.1.size HG3.out.2.1.size)) HL3.out (by decide) (by have := HA2.out; omega)).mono ?_
        rintro e9 w4 ⟨v4, rfl, hg4⟩
        have HG4 : Hid (Grew B (.slice Av m cv) (L ++ beS a0 4 ++ [UInt8.ofNat a1] ++ beS a2 3) wr v4 w4) := HG3.out.trans hg4
        have HX4 := Lib.hid (hg4.2.1.blk HX3.out (fun e => own_blk_ne HG3.out.1 HX3.out (by decide) e))
        obtain ⟨A4, c4, hv4⟩ := own_slice hg4.1
        subst hv4
        obtain ⟨m4, hm4⟩ : ∃ m4, m4 = (L ++ beS a0 4 ++ [UInt8.ofNat a1] ++ beS a2 3).length := ⟨_, rfl⟩
        rw [← hm4] at HG4 ⊢
        have HM4 := Lib.hid hm4
        have k3 : w4.cell? ⟨gx, 3, none⟩ = some (.int .u32 (a3 : Int)) := HX4.out.cell 3
        have k4 : w4.cell? ⟨gx, 4, none⟩ = some (.int .u32 (a4 : Int)) := HX4.out.cell 4
        have k5 : w4.cell? ⟨gx, 5, none⟩ = some (.int .u32 (a5 : Int)) := HX4.out.cell 5
        have k6 : w4.cell? ⟨gx, 6, none⟩ = some (.int .u32 (a6 : Int)) := HX4.out.cell 6
        clear hg4 hm4 k2)
      go_upto_region 8 with fail
      clear k3 k4 k5 k6
      obtain ⟨gy, hgy⟩ : ∃ gy, gy = w4.heap.size := ⟨_, rfl⟩
      obtain ⟨w5, hw5⟩ : ∃ w5, w5 = w4.alloc (.cells #[.int .u32 (a3 : Int), .int .u32 (a4 : Int), .int .u32 (a5 : Int), .int .u32 (a6 : Int)] 33) := ⟨_, rfl⟩
      rw [← hw5, ← hgy]
      have HY5 : Hid (Blk w5 gy 33 #[.int .u32 (a3 : Int), .int .u32 (a4 : Int), .int .u32 (a5 : Int), .int .u32 (a6 : Int)]) := by show Blk _ _ _ _; rw [hw5]; exact Blk.newAt hgy _ _
      have HG5 : Hid (Grew B (.slice Av m cv) (L ++ beS a0 4 ++ [UInt8.ofNat a1] ++ beS a2 3) wr (.slice A4 m4 c4) w5) := by
        show Grew _ _ _ _ _ _
        rw [hw5]
        exact ⟨HG4.out.1.alloc _, HG4.out.2.1.alloc _, HG4.out.2.2⟩
      obtain ⟨L4, hL4⟩ : ∃ L4, L4 = L ++ beS a0 4 ++ [UInt8.ofNat a1] ++ beS a2 3 := ⟨_, rfl⟩
      rw [← hL4] at HG5
      have HL4 := Lib.hid hL4
      have HL4l : Hid (L4.length ≤ 6000000) := by show _ ≤ _; rw [hL4]; simp [beS_len]; have := HM.out; omega
      clear hw5 hgy HG4 HX4 HG3 HX3 HG2 HX2 HG1 HX1 HO2 hL4 z2
      obtain ⟨wo, rfl⟩ : ∃ wo, wo = wr := ⟨_, rfl⟩
      go_loopg [0, 40] 4 (fun gg vv vj wx => ∃ j : Nat, gg = 4 - j ∧ j ≤ 4 ∧ vj = .int .i64 (j : Int) ∧ Grew B (.slice Av m cv) (L4 ++ fours ([a3, a4, a5, a6].take j)) wo vv wx ∧ Blk wx gy 33 #[.int .u32 (a3 : Int), .int .u32 (a4 : Int), .int .u32 (a5 : Int), .int .u32 (a6 : Int)])
      case atStart => exact ⟨0, rfl, by omega, rfl, by simpa [fours] using HG5.out, HY5.out⟩
      case round =>
        obtain ⟨j, hgj, hj, rfl, hg, hy⟩ := hrel
        obtain ⟨Aj, cj, hvj⟩ := own_slice hg.1
        subst hvj
        have HGi := Lib.hid hg
        have HY := Lib.hid hy
        clear hg hy HG5 HY5
        obtain ⟨mj, hmj⟩ : ∃ mj, mj = (L4 ++ fours ([a3, a4, a5, a6].take j)).length := ⟨_, rfl⟩
        rw [← hmj] at HGi ⊢
        have HLJ : Hid ((L4 ++ fours ([a3, a4, a5, a6].take j)).length ≤ 100000000) := by
          show _ ≤ _
          have h1 := HL4l.out
          rw [List.length_append, fours_len, List.length_take]
          omega
        clear hmj
        by_cases hjn : j < 4
        · have hji : (j : Int) < 4 := by omega
          have hwj : IntKind.i64.wrap ((j : Int) + 1) = ((j + 1 : Nat) : Int) := by rw [IntKind.wrap_i64]; omega
          obtain ⟨x, hx⟩ : ∃ x, [a3, a4, a5, a6][j]? = some x := ⟨_, List.getElem?_eq_getElem (by simpa using hjn)⟩
          have cjx : wr.cell? ⟨gy, j, none⟩ = some (.int .u32 (x : Int)) := by
            rw [HY.out.cell j]
            show (([a3, a4, a5, a6].map fun x : Nat => Value.int .u32 (x : Int)).toArray)[j]? = _
            rw [List.getElem?_toArray, List.getElem?_map, hx]
            rfl
          have HXL : Hid (x < 4294967296) := HA3.out x (List.mem_of_getElem? hx)
          have zx := wrap64 HXL.out
          have HTJ := Lib.hid (takeN_snoc hx)
          have HJN := Lib.hid hjn
          clear hx hjn
          go_wp2_with
           (go_at_call 38
            refine (put_c B x 4 _ _ wr HGi.out.1 (Nat.le_trans HBW.out (Nat.le_trans HG.out.2.1.size HGi.out.2.1.size)) HLJ.out (by decide) (by have := HXL.out; omega)).mono ?_
            rintro e9 w9 ⟨v9, rfl, hg9⟩
            have HG9 : Hid (Grew B (.slice Av m cv) (L4 ++ fours ([a3, a4, a5, a6].take (j + 1))) wo v9 w9) := by
              show Grew _ _ _ _ _ _
              rw [HTJ.out, fours_snoc, ← List.append_assoc]
              exact HGi.out.trans hg9
            have HY9 := Lib.hid (hg9.2.1.blk HY.out (fun e => own_blk_ne HGi.out.1 HY.out (by decide) e))
            clear hg9)
          go_roundg (4 - (j + 1))
          case measure => have := HJN.out; omega
          case rel => have := HJN.out; exact ⟨j + 1, rfl, by omega, by first | rfl | go_num, HG9.out, HY9.out⟩
        · have hji : ¬ (j : Int) < 4 := by omega
          have hj4 : j = 4 := by omega
          subst hj4
          clear hjn hj
          go_wp2_with fail
          go_roundg (n - (i + 1))
          case measure => have := HLT.out; have := HGG.out; omega
          case rel =>
            have hlt := HLT.out
            refine ⟨i + 1, rfl, by omega, by first | rfl | go_num, ?_⟩
            rw [HTK.out]
            have hg := HG.out
            rw [← HM.out] at hg
            have := hg.trans HGi.out
            rw [HL4.out] at this
            simpa only [List.append_assoc, List.take] using this
    · have hini : ¬ (i : Int) < (n : Int) := by omega
      have hie : n = i := by omega
      subst hie
      have HT : Hid (bl.take n = bl) := List.take_of_length_le (by have := HLEN.out; omega)
      clear hin hi
      go_wp2_with fail
      go_ret
      have hg := HG.out
      rw [← HM.out, HLE.out, HT.out] at hg
      exact ⟨_, rfl, hg⟩
end Go.Proofs.Ytkfimncbfbbopaa
/- Append of a string's bytes behind a row of the call's own (law). Conditions: the row is the caller's own. -/
set_option linter.unusedVariables false
namespace Go.Proofs.Ytkfimncbfbbopaa
open Go.RowKit
section
variable {P : Program}
/-- A string's bytes as cells. -/
def strV (s : ByteArray) : List Value := s.data.toList.map u8v
theorem run_firstCells_string (w : World) (size : Nat) (s : ByteArray) : (Builtin.firstCells size s.size (.string s)).run P w = .ok (strV s).toArray w := by
  have hx : (Array.map (fun b : UInt8 => Value.int IntKind.u8 (b.toNat : Int)) s.data).extract 0 s.size = Array.map (fun b : UInt8 => Value.int IntKind.u8 (b.toNat : Int)) s.data := by
    have hs : s.size = (Array.map (fun b : UInt8 => Value.int IntKind.u8 (b.toNat : Int)) s.data).size := by rw [Array.size_map]; rfl
    rw [hs, Array.extract_size]
  have hy : Array.map (fun b : UInt8 => Value.int IntKind.u8 (b.toNat : Int)) s.data = (strV s).toArray := by
    unfold strV
    apply Array.ext'
    simp only [Array.toList_map]
    rfl
  simp [Builtin.firstCells]
  first
    | exact hy
    | (rw [hx]; exact hy)
theorem strV_len (s : ByteArray) : (strV s).length = s.size := by unfold strV; rw [List.length_map, Array.length_toList]; rfl
theorem run_append_room_s (w : World) (t u ty e : TypeId) (i : TypeInfo) (ht : P.underlying t = some (.slice e)) (hu : P.underlying u = some .string) (hi : P.info? e = some i) (h1 : i.size = 1)
    (g sLen sCap : Nat) (cur : Array Value) (hg : w.heap[g]? = some (.cells cur e (0, 0))) (s : ByteArray) (hroom : sLen + s.size ≤ sCap) (hfit : sLen * i.size + (strV s).length ≤ cur.size) :
    (Builtin.append_ #[t, u] ty #[.slice (some ⟨g, 0, none⟩) sLen sCap, .string s]).run P w =
      .ok (.slice (some ⟨g, 0, none⟩) (sLen + s.size) sCap) (w.setRow g (cur.toList.take (sLen * i.size) ++ strV s ++ cur.toList.drop (sLen * i.size + (strV s).length)).toArray) := by
  have hf := run_firstCells_string (P := P) w i.size s
  have hst := run_storeCells_at P g (sLen * i.size) e (strV s) 0 cur w hg (by simpa using hfit) (u8_one _)
  simp only [Nat.add_zero] at hst
  simp [Builtin.append_, run_underlying ht, run_underlying hu, sizeOf, typeInfo, hi, Builtin.lenOf, hroom, hf, Addr.add_lit, hst]
theorem run_append_grow_s (w : World) (t u ty e : TypeId) (i : TypeInfo) (z : Value) (ht : P.underlying t = some (.slice e)) (hu : P.underlying u = some .string) (hi : P.info? e = some i) (hz : i.zero = some z)
    (b : Addr) (sLen sCap : Nat) (olds : List Value) (hlo : olds.length = sLen * i.size) (holds : ∀ j v, olds[j]? = some v → w.cell? (b.add j) = some v) (s : ByteArray)
    (hg : sCap < sLen + s.size) (h63 : ((sLen + s.size : Nat) : Int) ≤ 9223372036854775807) (hfit : Builtin.nextslicecap (sLen + s.size) sCap * i.bytes ≤ 281474976710656) :
    (Builtin.append_ #[t, u] ty #[.slice (some b) sLen sCap, .string s]).run P w =
      .ok (.slice (some ⟨w.heap.size, 0, none⟩) (sLen + s.size) (grownCap w (sLen + s.size) sCap e))
        (w.drew.alloc (.cells (olds.toArray ++ (strV s).toArray ++ Builtin.zeroCells z.cells (grownCap w (sLen + s.size) sCap e - (sLen + s.size))) e)) := by
  have hn : ¬ (sLen + s.size ≤ sCap) := by omega
  have h63' : ¬ (9223372036854775807 < ((sLen : Int) + (s.size : Int))) := by omega
  have h48' : ¬ (281474976710656 < Builtin.nextslicecap (sLen + s.size) sCap * i.bytes) := by omega
  have hf := run_firstCells_string (P := P) w.drew i.size s
  have hfo := run_firstCells_some (P := P) w.drew i.size sLen b sLen sCap olds hlo (by simpa using holds)
  simp [Builtin.append_, run_underlying ht, run_underlying hu, sizeOf, typeInfo, zeroValue, hi, hz, Builtin.lenOf, hn, h63', h48', Question.forced, hf, hfo, newRow, grownCap]
  congr 2
  apply Array.ext'
  simp [List.append_assoc]
theorem run_append_str (w : World) (base : Nat) (t u ty e : TypeId) (i : TypeInfo) (z : Value) (ht : P.underlying t = some (.slice e)) (hu : P.underlying u = some .string) (hi : P.info? e = some i) (hz : i.zero = some z)
    (hsize : i.size = 1) (hby : i.bytes = 1) (hzs : z.cells.size = 1)
    (v : Value) (n : Nat) (xs : List Value) (hown : w.ownsRow base e 1 v n xs) (s : ByteArray) (h0 : 0 < s.size)
    (h63 : n + s.size ≤ maxLen) (hbytes : n + s.size ≤ 140737488355328) (hbase : base ≤ w.heap.size) :
    ∃ v' w', (Builtin.append_ #[t, u] ty #[v, .string s]).run P w = .ok v' w' ∧ w'.ownsRow base e 1 v' (n + s.size) (xs ++ strV s) ∧ w.grownBy w' v.ownBlock ∧
      (v'.ownBlock = v.ownBlock ∨ v'.ownBlock = some w.heap.size) := by
  have hl := strV_len s
  have hsmall : n + s.size ≤ 9223372036854775807 := by simp only [maxLen] at h63; omega
  have hlen : (xs ++ strV s).length = (n + s.size) * 1 := by rw [List.length_append, hown.1, hl, Nat.add_mul, Nat.mul_one]; omega
  have grown : ∀ (old : Nat), old < n + s.size → ∀ (row : Option Nat),
      (w.drew.alloc (.cells (xs.toArray ++ (strV s).toArray ++ Builtin.zeroCells z.cells (grownCap w (n + s.size) old e - (n + s.size))) e)).ownsRow base e 1
        (.slice (some ⟨w.heap.size, 0, none⟩) (n + s.size) (grownCap w (n + s.size) old e)) (n + s.size) (xs ++ strV s) ∧
      w.grownBy (w.drew.alloc (.cells (xs.toArray ++ (strV s).toArray ++ Builtin.zeroCells z.cells (grownCap w (n + s.size) old e - (n + s.size))) e)) row := by
    intro old ho row
    have hge := grownCap_ge w (n + s.size) old e
    have hcm : grownCap w (n + s.size) old e ≤ maxLen := grownCap_le_maxLen w (n + s.size) old e h63
    refine ⟨⟨hlen, .inr ⟨w.heap.size, _, _, rfl, hbase, heap_alloc_new w.drew _, hge, hcm, ?_, ?_⟩⟩, ⟨rfl, rfl, rfl, by simp, fun k hk _ => Below.heap_alloc w.drew _ k hk⟩⟩
    · simp only [Array.size_append, List.size_toArray, size_zeroCells, hzs, hown.1, hl]
      omega
    · simp only [Array.toList_append, List.append_assoc]
      rw [← List.append_assoc, ← hlen]
      exact List.take_left
  rcases hown.2 with ⟨rfl, rfl⟩ | ⟨g, cap, cur, rfl, hbg, hg, hnc, hcm, hcs, htake⟩
  · have hx : xs = [] := List.eq_nil_of_length_eq_zero (by simpa using hown.1)
    subst hx
    have hr := run_append_nil_string (P := P) (w := w) t u ty e i z ht hu hi hz s h0 (by omega) (by rw [hby]; omega)
    have hgr := grown 0 (by omega) (Value.ownBlock (.slice none 0 0))
    simp only [Nat.zero_add, List.nil_append, Array.empty_append] at hgr ⊢
    have hy : (s.data.map fun b => Value.int .u8 (b.toNat : Int)) = (strV s).toArray := by
      unfold strV
      apply Array.ext'
      simp only [Array.toList_map]
      rfl
    rw [hy] at hr
    exact ⟨_, _, hr, hgr.1, hgr.2, Or.inr rfl⟩
  · by_cases hroom : n + s.size ≤ cap
    · have hfit : n * i.size + (strV s).length ≤ cur.size := by rw [hl, hsize, hcs]; omega
      have hr := run_append_room_s (P := P) w t u ty e i ht hu hi hsize g n cap cur hg s hroom hfit
      rw [hsize] at hr
      refine ⟨_, _, hr, ⟨hlen, .inr ⟨g, cap, _, rfl, hbg, setRow_heap w g cur _ e _ hg, hroom, hcm, ?_, ?_⟩⟩, ⟨rfl, rfl, rfl, by simp, fun k _ hk => setRow_other w g k _ (fun e => hk (by simp [Value.ownBlock, e]))⟩, Or.inl rfl⟩
      · simp only [List.size_toArray, List.length_append, List.length_take, List.length_drop, Array.length_toList]
        rw [hsize] at hfit
        omega
      · rw [htake, ← hlen]
        exact List.take_left
    · have holds : ∀ j u, xs[j]? = some u → w.cell? ((⟨g, 0, none⟩ : Addr).add j) = some u := hown.cells (g := g) rfl
      have hr := run_append_grow_s (P := P) w t u ty e i z ht hu hi hz ⟨g, 0, none⟩ n cap xs (by rw [hsize]; exact hown.1) holds s (by omega) (by omega) (growslice_fits (by omega) (by rw [hby]; omega))
      have hgr := grown cap (by omega) (Value.ownBlock (.slice (some ⟨g, 0, none⟩) n cap))
      exact ⟨_, _, hr, hgr.1, hgr.2, Or.inr rfl⟩
theorem wp_append_str (w : World) {o : Oper} {a : Act} {K : Act → World → Prop} {Q : Exit → Act → World → Prop} (s : Operand) (x : Operand) (t u : TypeId)
    (ho : o.op = .call { callee := .builtin .append, args := #[s, x], argTypes := #[t, u] })
    (base : Nat) (e : TypeId) (i : TypeInfo) (z : Value) (ht : P.underlying t = some (.slice e)) (hu : P.underlying u = some .string) (hi : P.info? e = some i) (hz : i.zero = some z)
    (hsize : i.size = 1) (hby : i.bytes = 1) (hzs : z.cells.size = 1)
    (v : Value) (n : Nat) (xs : List Value) (hs : a.eval s = v) (hown : w.ownsRow base e 1 v n xs) (str : ByteArray) (hx : a.eval x = .string str) (h0 : 0 < str.size)
    (h63 : n + str.size ≤ maxLen) (hbytes : n + str.size ≤ 140737488355328) (hbase : base ≤ w.heap.size)
    (h : ∀ v' w', w'.ownsRow base e 1 v' (n + str.size) (xs ++ strV str) → w.grownBy w' v.ownBlock → (v'.ownBlock = v.ownBlock ∨ v'.ownBlock = some w.heap.size) → K (a.put o.dst v') w') : o.wp P a w K Q := by
  obtain ⟨v', w', hrun, h2, h3, h4⟩ := run_append_str (P := P) w base t u o.type e i z ht hu hi hz hsize hby hzs v n xs hown str h0 h63 hbytes hbase
  unfold Oper.wp execOp
  simp only [ho, resolve, invoke, builtin, Sem.run_bind, Sem.run_pure, Result.andThen_ok, List.map_toArray, List.map_cons, List.map_nil, hs, hx, hrun]
  exact h v' w' h2 h3 h4
theorem step_append_str (w : World) {ops : Array Oper} {o : Oper} {a : Act} {K : Act → World → Prop} {Q : Exit → Act → World → Prop} {E : Prop} (hgd : o.guard = none) (s : Operand) (x : Operand) (t u : TypeId)
    (ho : o.op = .call { callee := .builtin .append, args := #[s, x], argTypes := #[t, u] })
    (base : Nat) (e : TypeId) (i : TypeInfo) (z : Value) (ht : P.underlying t = some (.slice e)) (hu : P.underlying u = some .string) (hi : P.info? e = some i) (hz : i.zero = some z)
    (hsize : i.size = 1) (hby : i.bytes = 1) (hzs : z.cells.size = 1)
    (v : Value) (n : Nat) (xs : List Value) (hs : a.eval s = v) (hown : w.ownsRow base e 1 v n xs) (str : ByteArray) (hx : a.eval x = .string str) (h0 : 0 < str.size)
    (h63 : n + str.size ≤ maxLen) (hbytes : n + str.size ≤ 140737488355328) (hbase : base ≤ w.heap.size)
    (h : ∀ v' w', w'.ownsRow base e 1 v' (n + str.size) (xs ++ strV str) → w.grownBy w' v.ownBlock → (v'.ownBlock = v.ownBlock ∨ v'.ownBlock = some w.heap.size) → K (a.put o.dst v') w') :
    if Region.wanted o (yielded ops a.tmps) = true then Oper.wp P o a w K Q else E := by
  have hw : Region.wanted o (yielded ops a.tmps) = true := by simp [Region.wanted, hgd]
  rw [if_pos hw]
  exact wp_append_str w s x t u ho base e i z ht hu hi hz hsize hby hzs v n xs hs hown str hx h0 h63 hbytes hbase h
end
end Go.Proofs.Ytkfimncbfbbopaa
/- What a report is written as (plain); what told returns. Conditions: as each says. (Printed by gen8g.py.) -/
set_option linter.unusedVariables false
set_option linter.unusedSimpArgs false
namespace Go.Proofs.Ytkfimncbfbbopaa
open Go.RowKit
attribute [local go_sem ↓] Go.wp_at_zero Go.wp_at_succ

def pairB (e : List Nat) : List UInt8 := beS (e.getD 0 0) 2 ++ beS (e.getD 1 0) 2
def pairsB (l : List (List Nat)) : List UInt8 := l.flatMap pairB
def firB (e : List Nat) : List UInt8 := beS (e.getD 0 0) 4 ++ [UInt8.ofNat (e.getD 1 0), 0, 0, 0]
def firsB (l : List (List Nat)) : List UInt8 := l.flatMap firB
theorem pairsB_len : ∀ l : List (List Nat), (pairsB l).length = 4 * l.length
  | [] => rfl
  | e :: l => by
    show (pairB e ++ pairsB l).length = _
    rw [List.length_append, pairsB_len l, List.length_cons]; simp [pairB, beS_len]; omega
theorem firsB_len : ∀ l : List (List Nat), (firsB l).length = 8 * l.length
  | [] => rfl
  | e :: l => by
    show (firB e ++ firsB l).length = _
    rw [List.length_append, firsB_len l, List.length_cons]; simp [firB, beS_len]; omega
theorem pairsB_snoc (l : List (List Nat)) (e : List Nat) : pairsB (l ++ [e]) = pairsB l ++ pairB e := by simp [pairsB]
theorem firsB_snoc (l : List (List Nat)) (e : List Nat) : firsB (l ++ [e]) = firsB l ++ firB e := by simp [firsB]
/-- What stands behind a report's first four bytes. -/
def bodyS (r : Rep) : List UInt8 :=
  if r.kind = 7 then r.body
  else if r.kind = 1 then beS r.fr 4 ++ beS r.ntp 8 ++ fours [r.ts, r.pk, r.oc] ++ blksB r.blocks
  else if r.kind = 2 then beS r.fr 4 ++ blksB r.blocks
  else if r.kind = 3 then beS r.fr 4 ++ beS r.ab 4 ++ pairsB r.pairs
  else if r.kind = 4 then beS r.fr 4 ++ beS r.ab 4
  else if r.kind = 5 then beS r.fr 4 ++ beS r.ab 4 ++ firsB r.firs
  else beS r.fr 4 ++ beS r.ab 4 ++ [82, 69, 77, 66] ++ [UInt8.ofNat r.ssrcs.length] ++ beS (r.ex.toNat * 262144 + r.mt) 3 ++ fours (r.ssrcs.map fun e => e.getD 0 0)
def typS (r : Rep) : Int := if r.kind = 7 then r.ty else if r.kind = 1 then 200 else if r.kind = 2 then 201 else if r.kind = 3 then 205 else 206
def cntS (r : Rep) : Int := if r.kind = 7 then r.ct else if r.kind = 1 ∨ r.kind = 2 then r.blocks.length else if r.kind = 3 ∨ r.kind = 4 then 1 else if r.kind = 5 then 4 else 15
/-- What told returns. -/
def ToldR (r : Rep) (vd : Value) (w : World) (e : Ending) (w' : World) : Prop := ∃ v, e = .returned (.tuple #[v, .int .i64 (typS r), .int .i64 (cntS r)]) ∧ (ByteRow w' w.heap.size v (bodyS r) ∨ (v = vd ∧ bodyS r = r.body)) ∧ Below w.heap.size w w'
theorem Grew.start (w : World) : Grew w.heap.size (.slice none 0 0) [] w (.slice none 0 0) w := Grew.refl (World.ownsRow_nil _ _ _ _)
theorem Grew.belowN {B : Nat} {v' : Value} {l : List UInt8} {w w' : World} (h : Grew B (.slice none 0 0) l w v' w') : Below w.heap.size w w' := h.2.1.toBelow (fun k e => by cases e) (Nat.le_refl _)
theorem Grew.blkN {B : Nat} {v' : Value} {l : List UInt8} {w w' : World} {g : Nat} {t : TypeId} {cs : Array Value} (h : Grew B (.slice none 0 0) l w v' w') (hb : Blk w g t cs) : Blk w' g t cs := h.2.1.blk hb (fun e => by cases e)
theorem Grew.tv {B : Nat} {v v' : Value} {l : List UInt8} {w w' w0 : World} (h : Grew B v l w v' w') (hB : w0.heap.size ≤ B) : ByteRow w' w0.heap.size v' l := own_lower h.1 hB
theorem Grew.slv {B : Nat} {v v' : Value} {l : List UInt8} {w w' : World} (h : Grew B v l w v' w') : SlV w' v' l := SlV.own (base := B) h.1
end Go.Proofs.Ytkfimncbfbbopaa
