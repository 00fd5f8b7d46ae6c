/- What the reference's U returns: its bytes and a number's bytes behind, the highest first (contract). Conditions: the bytes read; they are no more than fit. -/
import Derived.Test.YtlapgccfgkokcaaParts
set_option linter.unusedVariables false
namespace Go.Proofs.Ytlapgccfgkokcaa
open Go.RowKit
attribute [local go_sem ↓] Go.wp_at_zero Go.wp_at_succ

/-- The first k of a number's n bytes, the highest first. -/
def beTake (x n : Nat) : Nat → List UInt8
  | 0 => []
  | k + 1 => beTake x n k ++ [UInt8.ofNat (x / 2 ^ (8 * (n - 1 - k)))]
def beS (x n : Nat) : List UInt8 := beTake x n n
theorem beTake_len (x n : Nat) : ∀ k, (beTake x n k).length = k
  | 0 => rfl
  | k + 1 => by rw [beTake, List.length_append, beTake_len x n k]; rfl
theorem beS_len (x n : Nat) : (beS x n).length = n := beTake_len x n n
theorem beTake_next (x : Nat) {n k j : Nat} (h : j + 1 + k = n) : beTake x n (k + 1) = beTake x n k ++ [UInt8.ofNat (x / 2 ^ (8 * j))] := by
  rw [beTake, show n - 1 - k = j by omega]
set_option maxHeartbeats 1600000 in
theorem U_c (A : Option Addr) (c x n : Nat) (bs : List UInt8) (w : World) (hr : Reads w w.heap.size 1 A bs.length (bs.map u8v)) (hl : bs.length ≤ 140737488355000) (hn : n ≤ 8) (hx : x < 18446744073709551616) :
    Calls Try.prog 48 #[.slice A bs.length c, .int .u64 (x : Int), .int .i64 (n : Int)] w fun e w' => ∃ v, e = .returned v ∧ ByteRow w' w.heap.size v (bs ++ beS x n) ∧ Below w.heap.size w w' := by
  obtain ⟨iB, hiB, hz0, hz1, hz2⟩ := info_parts infoByte
  have HR := Lib.hid hr
  clear hr
  have hni : (n : Int) ≤ 8 := by omega
  go_enter Try.func48, Try.ntmps48
  go_wp2_with (first
    | (at_builtin
       refine wpList_append_any _ rfl (.tmp 9) (.tmp 10) _ rfl w.heap.size 5 iB _ 1 1 Try.underlying27 hiB hz0 hz1 hz2 rfl (by omega) (.slice (some ⟨w.heap.size, 0, none⟩) 0 0) 0 [] rfl (own_empty w _ _)
         (w.alloc (.cells #[] 5)).heap.size A bs.length c (bs.map u8v) rfl (HR.out.to_ (balloc (Below.refl _ _) _)) (u8_one bs) (by simp only [maxLen]; omega) (by omega) (by simp) ?_
       intro v1 w1 hown1 hg1 hat1
       rw [Nat.zero_add, List.nil_append] at hown1
       have HO1 := Lib.hid hown1
       have HB1 := Lib.hid (fresh_below hg1)
       clear hown1 hg1 hat1))
  go_loopg [7, 8] n (fun gg v i wr => ∃ j k, j + k = n ∧ j = gg ∧ i = .int .i64 ((j : Int) - 1) ∧ wr.ownsRow w.heap.size 5 1 v (bs.length + k) ((bs ++ beTake x n k).map u8v) ∧ Below w.heap.size w wr)
  case atStart => exact ⟨n, 0, rfl, rfl, rfl, by rw [beTake, List.append_nil]; exact HO1.out, HB1.out⟩
  case round =>
    obtain ⟨j, k, hjk, rfl, rfl, hown, hbel⟩ := hrel
    have HOWN := Lib.hid hown
    have HBEL := Lib.hid hbel
    have HJK := Lib.hid hjk
    clear hown hbel
    cases j with
    | zero =>
      have hk : k = n := by omega
      subst hk
      clear hjk
      go_wp2
      go_ret
      exact ⟨_, rfl, by unfold ByteRow; rw [List.length_append, beS_len]; exact HOWN.out, HBEL.out⟩
    | succ j =>
      rw [show (((j + 1 : Nat) : Int) - 1) = (j : Int) by omega]
      have hj8 : j < 8 := by omega
      have hj9 : (j : Int) < 8 := by omega
      have HV := Lib.hid (byte_at x (8 * j))
      have HT := Lib.hid (beTake_next x hjk)
      clear hjk
      have hkl : k < 8 := by have := HJK.out; omega
      go_wp2_with (first
        | (at_builtin
           refine wpList_append_any _ rfl (.tmp 18) (.tmp 25) _ rfl w.heap.size 5 iB _ 1 1 Try.underlying27 hiB hz0 hz1 hz2 rfl (by omega) u7 (bs.length + k) ((bs ++ beTake x n k).map u8v) rfl (HOWN.out.alloc _)
             (wr.alloc (.cells #[.int .u8 ((x : Int) / 2 ^ (8 * j) % 256)] 5)).heap.size (some ⟨wr.heap.size, 0, none⟩) 1 1 [.int .u8 ((x : Int) / 2 ^ (8 * j) % 256)] rfl (Reads.of_own (own_one wr 5 _)) (by simp [Value.oneCell']) (by simp only [maxLen]; omega) (by omega) (by have := HBEL.out.size; simp; omega) ?_
           intro v2 w2 hown2 hg2 hat2
           have HB2 := Lib.hid (own_grow_below (balloc HBEL.out _) (HOWN.out.alloc _) hg2)
           rw [HV.out, show ∀ l : List Value, ∀ u, l ++ [u8v u] = l ++ [u].map u8v from fun _ _ => rfl, ← List.map_append, List.append_assoc, ← HT.out] at hown2
           have HO2 := Lib.hid hown2
           clear hown2 hg2 hat2))
      go_roundg j
      case measure => omega
      case rel => exact ⟨j, k + 1, by have := HJK.out; omega, rfl, rfl, HO2.out, HB2.out⟩
theorem beTake_be8 (x : Nat) : beS x 8 = be8 x := by
  unfold beS be8
  simp only [beTake, List.nil_append, List.cons_append]
  rfl
/-- U, of a slice that reads, in eight bytes. -/
theorem U8_s {b : List UInt8} {A : Option Addr} {n c x : Nat} {w : World} (h : SlV w (.slice A n c) b) (hl : n ≤ 140737488355000) (hx : x < 18446744073709551616) :
    Calls Try.prog 48 #[.slice A n c, .int .u64 (x : Int), .int .i64 8] w fun e w' => ∃ v, e = .returned v ∧ ByteRow w' w.heap.size v (b ++ be8 x) ∧ Below w.heap.size w w' := by
  obtain ⟨A', c', e, hc, hr⟩ := h
  injection e with e1 e2 e3
  subst e1 e2 e3
  refine (U_c A c x 8 b w hr hl (by decide) hx).mono ?_
  rintro e w' ⟨v, h1, h2, h3⟩
  exact ⟨v, h1, by rw [← beTake_be8]; exact h2, h3⟩
end Go.Proofs.Ytlapgccfgkokcaa
