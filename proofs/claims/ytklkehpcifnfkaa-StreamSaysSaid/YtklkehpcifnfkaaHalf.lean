/- Eight bytes as a number; what half returns (contract). Conditions: the bytes read. -/
import Derived.Test.YtklkehpcifnfkaaBlock
import Derived.Laws.BitsAllLaws
import Derived.Lib.EndianBits
set_option linter.unusedVariables false
namespace Go.Proofs.Ytklkehpcifnfkaa
open Go.RowKit
attribute [local go_sem ↓] Go.wp_at_zero Go.wp_at_succ

def numS (l : List UInt8) : Nat := l.foldl (fun n b => n * 256 + b.toNat) 0
theorem numS_snoc (l : List UInt8) (b : UInt8) : numS (l ++ [b]) = numS l * 256 + b.toNat := by simp [numS]
theorem numS_take (l : List UInt8) (k : Nat) (h : k < l.length) : numS (l.take (k + 1)) = numS (l.take k) * 256 + (l.getD k 0).toNat := by
  rw [List.take_succ_eq_append_getElem h, numS_snoc, List.getD_eq_getElem?_getD, List.getElem?_eq_getElem h]
  rfl
theorem numS_lt (l : List UInt8) : ∀ k, k ≤ l.length → numS (l.take k) < 256 ^ k
  | 0, _ => by simp [numS]
  | k + 1, h => by
    have ih := numS_lt l k (by omega)
    rw [numS_take l k (by omega), Nat.pow_succ]
    have := UInt8.toNat_lt (l.getD k 0)
    omega
theorem or_low (x y : Nat) (hx : x < 72057594037927936) (hy : y < 256) : bits .or .u64 ((x : Int) * (256 : Int)) (y : Int) = ((x * 256 + y : Nat) : Int) := by
  have := bits_join .u64 64 (by decide) (fun n h0 h1 => by simp [IntKind.wrap, IntKind.bits, IntKind.signed]; omega) 8 ((x : Int) * 256) (y : Int) (by omega) (by omega) (by omega) (by omega) (by omega) (by omega)
  rw [this]
  omega

set_option maxHeartbeats 800000 in
theorem half_c (l : List UInt8) (A : Option Addr) (c : Nat) (w : World) (hr : Reads w w.heap.size 1 A l.length (l.map u8v)) (hl : l.length = 8) :
    Calls Try.prog 36 #[.slice A 8 c] w fun e w' => e = .returned (.int .u64 (numS l : Int)) ∧ w = w' := by
  obtain ⟨b, off, rfl, hbl, hcell⟩ := head_cells hr (by omega)
  have HC := Lib.hid hcell
  have HL := Lib.hid hl
  clear hr hcell hl
  go_enter Try.func36, Try.ntmps36
  go_wp2_with fail
  go_loopg [3, 8] 8 (fun gg v3 v8 wr => ∃ k : Nat, k ≤ 8 ∧ gg = 8 - k ∧ v8 = .int .i64 (k : Int) ∧ v3 = .int .u64 ((numS (l.take k) : Nat) : Int) ∧ wr = w)
  case atStart => exact ⟨0, by omega, rfl, rfl, rfl, rfl⟩
  case round =>
    obtain ⟨k, hk, rfl, rfl, rfl, rfl⟩ := hrel
    by_cases hk2 : k < 8
    · have hki : (k : Int) < 8 := by omega
      have cx := HC.out k (by rw [HL.out]; exact hk2)
      have hn := numS_take l k (by rw [HL.out]; exact hk2)
      have hlt : numS (l.take k) < 72057594037927936 := by
        have := numS_lt l k (by rw [HL.out]; exact hk)
        have h7 : 256 ^ k ≤ 256 ^ 7 := Nat.pow_le_pow_right (by decide) (by omega)
        have : (256 : Nat) ^ 7 = 72057594037927936 := by decide
        omega
      obtain ⟨x, hx⟩ : ∃ x, x = numS (l.take k) := ⟨_, rfl⟩
      obtain ⟨y, hy⟩ : ∃ y, y = (l.getD k 0).toNat := ⟨_, rfl⟩
      have hyl : y < 256 := by rw [hy]; exact UInt8.toNat_lt _
      rw [← hx, ← hy] at hn
      rw [← hx] at hlt ⊢
      rw [← hy] at cx
      have hor := or_low x y hlt hyl
      obtain ⟨z, hz⟩ : ∃ z, z = x * 256 + y := ⟨_, rfl⟩
      rw [← hz] at hor hn
      have HN := Lib.hid hn
      clear hx hy hz hn
      go_wp2_with fail
      go_roundg (8 - (k + 1))
      case measure => omega
      case rel => exact ⟨k + 1, by omega, rfl, by go_num, by rw [HN.out], rfl⟩
    · have hk3 : k = 8 := by omega
      subst hk3
      have hT : Hid (l.take 8 = l) := by show _ = _; rw [← HL.out, List.take_length]
      go_wp2
      go_ret
      exact ⟨by rw [hT.out]; rfl, rfl⟩
end Go.Proofs.Ytklkehpcifnfkaa
