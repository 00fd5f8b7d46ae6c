/- What the program's welcome returns (contract). Conditions: the note's bytes read; its numbers are those of a welcome. (ofInt_i64, i64_and_nat began as lines of the guide's copy page.) -/
import Derived.Test.YtmaemfjepdicfaaOf
import Derived.Laws.BitsAllLaws
import Derived.Laws.BitsLemmas
set_option linter.unusedVariables false
namespace Go.Proofs.Ytmaemfjepdicfaa
open Go.RowKit
attribute [local go_sem ↓] Go.wp_at_zero Go.wp_at_succ

theorem ofInt_i64 (a : Nat) (ha : a < 9223372036854775808) : (BitVec.ofInt 64 (a : Int)).toNat = a := by
  rw [BitVec.ofInt_natCast, BitVec.toNat_ofNat]; exact Nat.mod_eq_of_lt (by omega)
theorem i64_and_nat (a b : Nat) (ha : a < 9223372036854775808) (hb : b < 9223372036854775808) : bits .and .i64 (a : Int) (b : Int) = ((a &&& b : Nat) : Int) := by
  have hx : a &&& b < 2 ^ 63 := Nat.and_lt_two_pow _ (by omega)
  show IntKind.i64.wrap ((BitVec.ofInt 64 (a : Int) &&& BitVec.ofInt 64 (b : Int)).toNat : Int) = _
  rw [BitVec.toNat_and, ofInt_i64 a ha, ofInt_i64 b hb, IntKind.wrap_i64]
  omega
theorem bit_i64 (n k : Nat) (hn : n < 65536) : bits .and .i64 ((n : Int) / 2 ^ k) 1 = if n.testBit k then 1 else 0 := by
  have e : ((n : Int) / 2 ^ k) = ((n / 2 ^ k : Nat) : Int) := by simp
  have hle : n / 2 ^ k ≤ n := Nat.div_le_self _ _
  rw [e, show (1 : Int) = ((1 : Nat) : Int) from rfl, i64_and_nat _ _ (by omega) (by omega), Nat.and_one_is_mod, Nat.testBit_eq_decide_div_mod_eq]
  rcases Nat.mod_two_eq_zero_or_one (n / 2 ^ k) with h | h <;> simp [h]
theorem bit_on {n k : Nat} (hn : n < 65536) (h : n.testBit k = true) : bits .and .i64 ((n : Int) / 2 ^ k) 1 = 1 := by rw [bit_i64 n k hn, if_pos h]
theorem bit_off {n k : Nat} (hn : n < 65536) (h : n.testBit k = false) : bits .and .i64 ((n : Int) / 2 ^ k) 1 = 0 := by rw [bit_i64 n k hn, if_neg (by simp [h])]
theorem allAt_iff (n : Nat) : ∀ (l : List UInt8) (i : Nat), allAt n i l = true ↔ ∀ k (h : k < l.length), okAt n (i + k) l[k] = true
  | [], i => by simp [allAt]
  | a :: l, i => by
    rw [allAt, Bool.and_eq_true, allAt_iff n l (i + 1)]
    constructor
    · rintro ⟨h1, h2⟩ k hk
      cases k with
      | zero => exact h1
      | succ k => have := h2 k (by simpa using hk); simpa [Nat.add_assoc, Nat.add_comm 1] using this
    · intro h
      refine ⟨h 0 (by simp), fun k hk => ?_⟩
      have := h (k + 1) (by simpa using hk)
      simpa [Nat.add_assoc, Nat.add_comm 1] using this
theorem allAt_no {n k : Nat} {l : List UInt8} (hk : k < l.length) (h : okAt n k l[k] = false) : allAt n 0 l = false := by
  cases h0 : allAt n 0 l with
  | false => rfl
  | true => have := (allAt_iff n l 0).1 h0 k hk; rw [Nat.zero_add, h] at this; cases this
theorem allAt_next {n k : Nat} {l : List UInt8} (hk : k < l.length) (h0 : allAt n 0 (l.take k) = true) (h : okAt n k l[k] = true) : allAt n 0 (l.take (k + 1)) = true := by
  rw [List.take_succ_eq_append_getElem hk, allAt_snoc, h0]
  simp only [List.length_take, Nat.zero_add, Bool.true_and]
  rwa [Nat.min_eq_left (by omega)]

def noteV (d : NoteD) (A : Option Addr) (c : Nat) : Value := .agg #[.int .i64 d.kind, .int .i64 d.room, .int .i64 d.slot, .int .i64 d.epoch, .int .i64 d.n, .int .i64 d.m, .slice A d.bs.length c]

set_option maxHeartbeats 800000 in
theorem welcome_c (d : NoteD) (A : Option Addr) (c N S : Nat) (w : World) (hr : Reads w w.heap.size 1 A d.bs.length (d.bs.map u8v)) (hN : d.n = N) (hN2 : N < 256) (hS : d.slot = S) (hS2 : S < 8) (hl : d.bs.length ≤ 8) :
    Calls Try.prog 20 #[noteV d A c] w fun e w' => e = .returned (.bool (allAt N 0 d.bs && decide (d.epoch ≤ d.m) && N.testBit S)) ∧ Below w.heap.size w w' := by
  obtain ⟨kind, room, slot, epoch, n, m, bs⟩ := d
  simp only at hN hS hr hl ⊢
  subst hN hS
  have HR := Lib.hid hr
  clear hr
  unfold noteV
  obtain ⟨res, hres⟩ : ∃ res, res = (allAt N 0 bs && decide (epoch ≤ m) && N.testBit S) := ⟨_, rfl⟩
  rw [← hres]
  have HRES := Lib.hid hres
  clear hres
  go_enter Try.func20, Try.ntmps20
  go_wp2_with fail
  go_loopg [9] bs.length (fun gg i wr => ∃ k, k ≤ bs.length ∧ gg = bs.length - k ∧ i = .int .i64 k ∧ allAt N 0 (bs.take k) = true ∧ Below w.heap.size w wr ∧ w.heap.size < wr.heap.size ∧ (wr.cell? ⟨w.heap.size, 2, none⟩ = some (.int .i64 S) ∧ wr.cell? ⟨w.heap.size, 3, none⟩ = some (.int .i64 epoch) ∧ wr.cell? ⟨w.heap.size, 4, none⟩ = some (.int .i64 N) ∧ wr.cell? ⟨w.heap.size, 5, none⟩ = some (.int .i64 m)))
  case atStart => exact ⟨0, by omega, rfl, rfl, by simp [allAt], (Below.refl _ _).alloc (Nat.le_refl _) _, by simp, by simp⟩
  case round =>
    obtain ⟨k, hk, rfl, rfl, hall, hbel, hlt, hcells⟩ := hrel
    obtain ⟨hc2, hc3, hc4, hc5⟩ := hcells
    have HA := Lib.hid hall
    clear hall
    by_cases hkn : k < bs.length
    · obtain ⟨ad, rfl, hadl, hcell⟩ := (HR.out.below hbel).2 (by omega)
      obtain ⟨a, ha⟩ : ∃ a, a = bs[k] := ⟨_, rfl⟩
      have ck := hcell k (u8v a) (by simp [hkn, ha])
      have c00 := hcell 0 (u8v (bs[0]'(by omega))) (by rw [List.getElem?_map, List.getElem?_eq_getElem (by omega)]; rfl)
      obtain ⟨b, off, rfl⟩ := addr_plain c00
      rw [Go.WideShapes.add_plain] at ck
      have HK := Lib.hid ha
      clear c00 hcell ha
      unfold u8v at ck
      have hk8 : (k : Int) < 8 := by omega
      by_cases hb : N.testBit k = true
      · have hbit := bit_on (n := N) (k := k) (by omega) hb
        have HB := Lib.hid hb
        clear hb
        by_cases hu : a.toNat ≤ 63
        · have hui : (a.toNat : Int) ≤ 63 := by omega
          go_wp2
          go_roundg (bs.length - (k + 1))
          case measure => omega
          case rel => exact ⟨k + 1, by omega, rfl, by go_num, allAt_next hkn HA.out (by rw [← HK.out]; simp [okAt, HB.out, hu]), hbel, hlt, hc2, hc3, hc4, hc5⟩
        · have hui : ¬ (a.toNat : Int) ≤ 63 := by omega
          have HP : Hid (res = false) := by show _ = _; rw [HRES.out, allAt_no hkn (by rw [← HK.out]; simp [okAt, HB.out, hu])]; rfl
          go_wp2
          go_ret
          exact ⟨by rw [HP.out]; rfl, hbel⟩
      · have hb2 : N.testBit k = false := by simpa using hb
        have hbit := bit_off (n := N) (k := k) (by omega) hb2
        have HB := Lib.hid hb2
        clear hb hb2
        by_cases hu : a = 255
        · subst hu
          go_wp2
          go_roundg (bs.length - (k + 1))
          case measure => omega
          case rel => exact ⟨k + 1, by omega, rfl, by go_num, allAt_next hkn HA.out (by rw [← HK.out]; simp [okAt, HB.out]), hbel, hlt, hc2, hc3, hc4, hc5⟩
        · have hu2 : ((a.toNat : Int) != 255) = true := by
            rw [bne_iff_ne]; intro e; exact hu (UInt8.toNat_inj.1 (by show a.toNat = 255; omega))
          have HP : Hid (res = false) := by show _ = _; rw [HRES.out, allAt_no hkn (by rw [← HK.out]; simp [okAt, HB.out, hu])]; rfl
          clear hu
          go_wp2
          go_ret
          exact ⟨by rw [HP.out]; rfl, hbel⟩
    · have hkn' : k = bs.length := by omega
      have HALL : Hid (allAt N 0 bs = true) := by have := HA.out; rw [hkn', List.take_length] at this; exact this
      subst hkn'
      by_cases hem : epoch ≤ m
      · cases hb : N.testBit S with
        | true =>
          have hbit := bit_on (n := N) (k := S) (by omega) hb
          have HP : Hid (res = true) := by show _ = _; rw [HRES.out, HALL.out, hb]; simp [hem]
          have hS8 : (S : Int) < 8 := by omega
          clear hb
          go_wp2
          go_ret
          exact ⟨by rw [HP.out]; rfl, hbel⟩
        | false =>
          have hbit := bit_off (n := N) (k := S) (by omega) hb
          have HP : Hid (res = false) := by show _ = _; rw [HRES.out, hb]; simp
          have hS8 : (S : Int) < 8 := by omega
          clear hb
          go_wp2
          go_ret
          exact ⟨by rw [HP.out]; rfl, hbel⟩
      · have HP : Hid (res = false) := by show _ = _; rw [HRES.out]; simp [hem]
        go_wp2
        go_ret
        exact ⟨by rw [HP.out]; rfl, hbel⟩
end Go.Proofs.Ytmaemfjepdicfaa
