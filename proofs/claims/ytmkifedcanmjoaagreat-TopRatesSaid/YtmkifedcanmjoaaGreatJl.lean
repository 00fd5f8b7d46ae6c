/- Texts of this claim, one behind the other: QShelf8, QRate. Each says ahead of itself what it proves, and its conditions. -/
import Derived.Test.YtmkifedcanmjoaaGreatProg
import Derived.Test.YtmkifedcanmjoaaGreatJf
import Derived.Shelf.Strconv.Itoa0
import Derived.Lib.BitFns
/-
  DERIVED: THE SHELF's CONTRACTS AT THIS DUMP, IN PLAIN WORDS (tools/lay-plain.mjs out of 'TryShelf.lean', which tools/lay-shelf.mjs wrote): THE SAME DECLARATIONS UNDER THE SAME NAMES: 'import', 'namespace', 'open', 'def', 'theorem' AND NOTHING ELSE: no command of the shelf's: FOR A HAND-IN. Each laying: the table of numbers ('.._ren') and one theorem, a field a fact of the dump's own or the kernel's comparison; each contract: ONE APPLICATION.
-/
namespace Go.Proofs
open Go.Shelf
def Tryz.lays129_ren : Go.Shelf.Ren := ⟨fun | 129 => 125 | n => n, fun | 53 => 76 | 3 => 3 | 4 => 4 | 46 => 73 | 5 => 5 | 9 => 9 | n => n, fun | n => n⟩
theorem Tryz.lays129 : Go.Proofs.Lays.n129 Tryz.prog Tryz.lays129_ren := {
  mixed := by kernel_rfl
  f129 := Tryz.func125.trans (congrArg some (by kernel_rfl))
  t3 := Tryz.underlying3
  a3 := Tryz.isAgg3
  z3 := Tryz.sizeOf3
  v3 := Tryz.zeroValue3
  t4 := Tryz.underlying4
  a4 := Tryz.isAgg4
  z4 := Tryz.sizeOf4
  v4 := Tryz.zeroValue4
  t5 := Tryz.underlying5
  a5 := Tryz.isAgg5
  z5 := Tryz.sizeOf5
  v5 := Tryz.zeroValue5
  t9 := Tryz.underlying9
  a9 := Tryz.isAgg9
  z9 := Tryz.sizeOf9
  v9 := Tryz.zeroValue9
  t46 := Tryz.underlying73
  a46 := Tryz.isAgg73
  z46 := Tryz.sizeOf73
  v46 := Tryz.zeroValue73
  t53 := Tryz.underlying76
  a53 := Tryz.isAgg76
  z53 := Tryz.sizeOf76
  v53 := Tryz.zeroValue76 }
/-- bits.Len64: "Len64 returns the minimum number of bits required to represent x; the result is 0 for x == 0.": IT RETURNS 'Lib.bitLen x'; the world is as it was. ('h0', 'h1': x is a uint64.) (LAID: no walk: one application.) -/
theorem Tryz.bits_Len64 (x : Int) (w : World) (h0 : 0 ≤ x) (h1 : x ≤ 18446744073709551615) :
    Calls Tryz.prog 125 #[.int .u64 x] w fun e w' => e = .returned (.int .i64 (Lib.bitLen x.toNat)) ∧ w' = w := Any.bits_Len64 Tryz.lays129 x w h0 h1
end Go.Proofs
/- What Rate tells (contracts: the program's and the reference's). Conditions: none. -/
set_option linter.unusedVariables false
set_option linter.unusedSimpArgs false
namespace Go.Proofs.YtmkifedcanmjoaaGreat
open Go.RowKit
attribute [local go_sem ↓] Go.wp_at_zero Go.wp_at_succ

def topU : Nat := 18446744073709551615
/-- Bits a second. -/
def rateS (m : Nat) (ex : Int) : Nat := if m = 0 ∨ ex < 0 then m else if 63 < ex ∨ topU / 2 ^ ex.toNat < m then topU else m * 2 ^ ex.toNat
theorem bitLen_pos {x : Nat} (h0 : x ≠ 0) (h : x < 2 ^ 64) : 1 ≤ Lib.bitLen x := by rw [Lib.bitLen_half x h0 h]; omega
theorem bitLen_gt {x k : Nat} (hk : k ≤ 64) (hx : x < 2 ^ 64) : k < Lib.bitLen x ↔ 2 ^ k ≤ x := by
  constructor
  · intro h
    rcases Nat.lt_or_ge x (2 ^ k) with h1 | h1
    · have := Lib.bitLen_le x k hk h1; omega
    · exact h1
  · intro h
    rw [Lib.bitLen_shift k x h hx]
    have h1 : x / 2 ^ k ≠ 0 := by
      have := Nat.div_pos h (Nat.pow_pos (n := k) (by decide : 0 < 2))
      omega
    have := bitLen_pos h1 (Nat.lt_of_le_of_lt (Nat.div_le_self _ _) hx)
    omega
theorem top_div {n : Nat} (hn : n ≤ 63) (m : Nat) : topU / 2 ^ n < m ↔ 2 ^ (64 - n) ≤ m := by
  have h : topU / 2 ^ n = 2 ^ (64 - n) - 1 := by
    have : ∀ n : Fin 64, topU / 2 ^ n.val = 2 ^ (64 - n.val) - 1 := by decide +kernel
    exact this ⟨n, by omega⟩
  have hp : 0 < 2 ^ (64 - n) := Nat.pow_pos (by decide)
  rw [h]
  omega
theorem rate_over {m n : Nat} (hm : m ≠ 0) (hm2 : m < 4294967296) (hn : n ≤ 63) : 64 < Lib.bitLen m + n ↔ topU / 2 ^ n < m := by
  rw [top_div hn, ← bitLen_gt (by omega) (by omega)]
  omega
--WALK
set_option maxRecDepth 100000 in
set_option maxHeartbeats 6400000 in
theorem rate_c (k : Int) (fr ab ntp ts pk oc mt nb cb np cp nf cf ns cs nd cd : Nat) (ex ty ct : Int) (Ab Ap Af As Ad : Option Addr) (w : World) (hm : mt < 4294967296) (hx1 : -9223372036854775808 ≤ ex) (hx2 : ex ≤ 9223372036854775807) :
    Calls Tryz.prog 92 #[.agg #[.int .i64 k, .int .u32 (fr : Int), .int .u32 (ab : Int), .int .u64 (ntp : Int), .int .u32 (ts : Int), .int .u32 (pk : Int), .int .u32 (oc : Int), .slice Ab nb cb, .slice Ap np cp, .slice Af nf cf, .int .i64 ex, .int .u32 (mt : Int), .slice As ns cs, .int .i64 ty, .int .i64 ct, .slice Ad nd cd]] w fun e w' => e = .returned (.int .u64 (rateS mt ex : Int)) ∧ Below w.heap.size w w' := by
  obtain ⟨p, hp⟩ : ∃ p : Nat, (p : Int) = max ex 0 := ⟨(max ex 0).toNat, by omega⟩
  obtain ⟨n, hn⟩ : ∃ n : Nat, (n : Int) = min (p : Int) 64 := ⟨(min (p : Int) 64).toNat, by omega⟩
  have hp' : max ex 0 = (p : Int) := hp.symm
  have hn' : min (p : Int) 64 = (n : Int) := hn.symm
  have hn64 : n ≤ 64 := by omega
  have HNX : Hid ((ex < 0 → n = 0) ∧ (0 ≤ ex → ex ≤ 63 → (n : Int) = ex) ∧ (63 < ex → n = 64)) := ⟨by omega, by omega, by omega⟩
  clear hp hn
  obtain ⟨g1, hg1⟩ : ∃ g1, g1 = w.heap.size := ⟨_, rfl⟩
  obtain ⟨w1, hw1⟩ : ∃ w1, w1 = w.alloc (.cells #[.int .i64 k, .int .u32 (fr : Int), .int .u32 (ab : Int), .int .u64 (ntp : Int), .int .u32 (ts : Int), .int .u32 (pk : Int), .int .u32 (oc : Int), .slice Ab nb cb, .slice Ap np cp, .slice Af nf cf, .int .i64 ex, .int .u32 (mt : Int), .slice As ns cs, .int .i64 ty, .int .i64 ct, .slice Ad nd cd] 81) := ⟨_, rfl⟩
  have HG : Hid (Blk w1 g1 81 #[.int .i64 k, .int .u32 (fr : Int), .int .u32 (ab : Int), .int .u64 (ntp : Int), .int .u32 (ts : Int), .int .u32 (pk : Int), .int .u32 (oc : Int), .slice Ab nb cb, .slice Ap np cp, .slice Af nf cf, .int .i64 ex, .int .u32 (mt : Int), .slice As ns cs, .int .i64 ty, .int .i64 ct, .slice Ad nd cd]) := by show Blk _ _ _ _; rw [hw1]; exact Blk.newAt hg1 _ _
  have HB : Hid (Below w.heap.size w w1) := by show Below _ _ _; rw [hw1]; exact balloc (Below.refl _ _) _
  go_enter Tryz.func92, Tryz.ntmps92
  go_upto_region 1 with fail
  rw [← hw1, ← hg1]
  clear hw1 hg1
  have c10 : w1.cell? ⟨g1, 10, none⟩ = some (.int .i64 ex) := HG.out.cell 10
  have c11 : w1.cell? ⟨g1, 11, none⟩ = some (.int .u32 (mt : Int)) := HG.out.cell 11
  go_quiet (fail)
  clear c10 c11
  go_upto_region 2 with fail
  clear hp' hn'
  obtain ⟨w2, hw2⟩ : ∃ w2, w2 = World.drewN w1 nq := ⟨_, rfl⟩
  rw [← hw2]
  have HB2 : Hid (Below w.heap.size w w2) := by show Below _ _ _; rw [hw2]; exact below_drewN HB.out _
  clear hw2 HB HG
  by_cases h0 : mt = 0
  · subst h0
    go_wp2_with fail
    go_ret
    exact ⟨rfl, HB2.out⟩
  have q0 : ((mt : Int) == 0) = false := by rw [beq_eq_false_iff_ne]; omega
  obtain ⟨b, hb⟩ : ∃ b, b = Lib.bitLen mt := ⟨_, rfl⟩
  have hb32 : b ≤ 32 := by rw [hb]; exact Lib.bitLen_le mt 32 (by decide) (by omega)
  have hb1 : 1 ≤ b := by rw [hb]; exact bitLen_pos h0 (by omega)
  have HL : Hid (∀ wx : World, Calls Tryz.prog 125 #[.int .u64 (mt : Int)] wx fun e w' => e = .returned (.int .i64 (b : Int)) ∧ wx = w') := fun wx => (Tryz.bits_Len64 (mt : Int) wx (by omega) (by omega)).mono fun e w' ⟨h1, h2⟩ => ⟨by rw [h1, hb]; rfl, h2.symm⟩
  have HM0 := Lib.hid h0
  have HBE := Lib.hid hb
  have HM := Lib.hid hm
  clear hm hb h0
  by_cases ho : 64 < b + n
  · have hoi : (64 : Int) < (b : Int) + (n : Int) := by omega
    have HR : Hid (rateS mt ex = topU) := by
      show _ = _
      unfold rateS
      obtain ⟨a1, a2, a3⟩ := HNX.out
      rw [if_neg (by rintro (h | h); exact HM0.out h; have := a1 h; omega)]
      by_cases h63 : 63 < ex
      · rw [if_pos (.inl h63)]
      · have hx := a2 (by have : ¬ ex < 0 := fun h => by have := a1 h; omega
                          omega) (by omega)
        have hgt : topU / 2 ^ ex.toNat < mt := by
          rw [show ex.toNat = n by omega]
          exact (rate_over HM0.out HM.out (by omega)).1 (by rw [← HBE.out]; exact ho)
        rw [if_pos (.inr hgt)]
    clear ho
    go_wp2_with (first
      | (go_at_call 125
         refine (HL.out _).mono ?_
         rintro e0 _ ⟨rfl, rfl⟩))
    go_ret
    exact ⟨by rw [HR.out]; rfl, HB2.out⟩
  · have hoi : ¬ (64 : Int) < (b : Int) + (n : Int) := by omega
    have hn63 : n ≤ 63 := by omega
    have HR : Hid (rateS mt ex = mt * 2 ^ n ∧ mt * 2 ^ n < 2 ^ 64) := by
      obtain ⟨a1, a2, a3⟩ := HNX.out
      have hno : ¬ topU / 2 ^ n < mt := fun h => ho (by rw [HBE.out]; exact (rate_over HM0.out HM.out hn63).2 h)
      have hlt : mt * 2 ^ n < 2 ^ 64 := by
        have h1 : mt ≤ topU / 2 ^ n := by omega
        have h2 := Nat.mul_le_mul_right (2 ^ n) h1
        have h3 := Nat.div_mul_le_self topU (2 ^ n)
        unfold topU at h2 h3
        omega
      refine ⟨?_, hlt⟩
      unfold rateS
      by_cases hx0 : ex < 0
      · rw [if_pos (.inr hx0), a1 hx0]; omega
      · rw [if_neg (by rintro (h | h); exact HM0.out h; exact hx0 h)]
        have h63 : ¬ 63 < ex := fun h => by have := a3 h; omega
        have hx := a2 (by omega) (by omega)
        rw [show ex.toNat = n by omega, if_neg (by rintro (h | h); exact h63 h; exact hno h)]
    clear ho
    obtain ⟨Y, hY⟩ : ∃ Y, Y = mt * 2 ^ n := ⟨_, rfl⟩
    have HRY : Hid (rateS mt ex = Y) := by show _ = _; rw [hY]; exact HR.out.1
    have hYi : (mt : Int) * 2 ^ n = (Y : Int) := by rw [hY]; simp
    have HYL : Hid (Y < 2 ^ 64) := by show _ < _; rw [hY]; exact HR.out.2
    have HYE := Lib.hid hY
    clear hY
    have hYm : (Y : Int) % 18446744073709551616 = (Y : Int) := by have := HYL.out; omega
    have hYw : IntKind.u64.wrap (Y : Int) = (Y : Int) := by have := HYL.out; simp [IntKind.wrap, IntKind.bits, IntKind.signed]; omega
    go_wp2_with (first
      | (go_at_call 125
         refine (HL.out _).mono ?_
         rintro e0 _ ⟨rfl, rfl⟩))
    go_ret
    exact ⟨by rw [HRY.out]; rfl, HB2.out⟩
end Go.Proofs.YtmkifedcanmjoaaGreat
