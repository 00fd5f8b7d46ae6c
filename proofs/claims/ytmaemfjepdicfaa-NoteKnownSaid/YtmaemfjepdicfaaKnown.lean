/- The walk of NoteKnown (it returns true). -/
import Derived.Test.YtmaemfjepdicfaaCuts
set_option linter.unusedVariables false
namespace Go.Proofs.Ytmaemfjepdicfaa
open Go.RowKit
attribute [local go_sem ↓] Go.wp_at_zero Go.wp_at_succ

theorem own_lit (w : World) (C : Array Value) (n : Nat) (hn : n = C.size) (hm : n ≤ 1000) : (w.alloc (.cells C 5)).ownsRow w.heap.size 5 1 (.slice (some ⟨w.heap.size, 0, none⟩) n n) n C.toList :=
  ⟨by simp [hn], .inr ⟨_, n, C, rfl, Nat.le_refl _, by show (w.heap.push _)[w.heap.size]? = _; simp, Nat.le_refl _, by simp only [maxLen]; omega, by omega, by rw [Nat.mul_one, hn, ← Array.length_toList, List.take_length]⟩⟩
theorem lit_reads (w : World) (C : Array Value) (xs : List UInt8) (n : Nat) (hC : C.toList = xs.map u8v) (hn : xs.length = n) (hm : n ≤ 1000) :
    Reads (w.alloc (.cells C 5)) (w.alloc (.cells C 5)).heap.size 1 (some ⟨w.heap.size, 0, none⟩) n (xs.map u8v) := by
  have hs : n = C.size := by rw [← hn, ← Array.length_toList, hC, List.length_map]
  rw [← hC]
  exact Reads.of_own (own_lit w C n hs hm)
theorem parse_k {xs : List UInt8} {n k : Nat} {Dn : NoteD} (hn : xs.length = n) (hD : noteS xs = Dn) (hk : errS xs = k) (A : Option Addr) (c : Nat) (w : World) (hr : Reads w w.heap.size 1 A n (xs.map u8v)) (hm : n ≤ 1000) (hc : n ≤ c) :
    Calls Try.prog 14 #[.slice A n c] w fun e w' => ∃ A' c', e = .returned (.tuple #[noteV Dn A' c', .int .i64 (k : Int)]) ∧ ByteRow w' w.heap.size (.slice A' Dn.bs.length c') Dn.bs ∧ Below w.heap.size w w' := by
  subst hn
  exact parse_D hD hk A c w hr (by omega) hc
theorem parse_bad {xs : List UInt8} {n k : Nat} (hn : xs.length = n) (hk : errS xs = k) (h0 : k ≠ 0) (A : Option Addr) (c : Nat) (w : World) (hr : Reads w w.heap.size 1 A n (xs.map u8v)) (hm : n ≤ 1000) (hc : n ≤ c) :
    Calls Try.prog 14 #[.slice A n c] w fun e w' => ∃ A' c', e = .returned (.tuple #[.agg #[.int .i64 0, .int .i64 0, .int .i64 0, .int .i64 0, .int .i64 0, .int .i64 0, .slice A' 0 c'], .int .i64 (k : Int)]) ∧ Below w.heap.size w w' := by
  refine (parse_k hn (err_zero hk h0) hk A c w hr hm hc).mono ?_
  rintro e w' ⟨A', c', rfl, _, hb⟩
  exact ⟨A', c', rfl, hb⟩
theorem good_k (xs : List UInt8) (n : Nat) (hn : xs.length = n) (k r s e nn m : Int) (g : Bool) (hg : good ⟨k, r, s, e, nn, m, xs⟩ = g) (A : Option Addr) (c : Nat) (w : World) (hr : Reads w w.heap.size 1 A n (xs.map u8v)) (hm : n ≤ 1000) :
    Calls Try.prog 11 #[.agg #[.int .i64 k, .int .i64 r, .int .i64 s, .int .i64 e, .int .i64 nn, .int .i64 m, .slice A n c]] w fun e w' => e = .returned (.bool g) ∧ Below w.heap.size w w' := by
  subst hn hg
  exact good_c ⟨k, r, s, e, nn, m, xs⟩ A c w hr (by show xs.length ≤ _; omega)

theorem own_set_ne {w : World} {C : Array Value} {n : Nat} {xs : List Value} (h : (w.alloc (.cells C 5)).ownsRow w.heap.size 5 1 (.slice (some ⟨w.heap.size, 0, none⟩) n n) n xs) {p : Addr} (hp : p.block < w.heap.size) (u : Value) :
    ((w.alloc (.cells C 5)).setCell p u).ownsRow w.heap.size 5 1 (.slice (some ⟨w.heap.size, 0, none⟩) n n) n xs := own_set_below h hp u
set_option maxRecDepth 100000 in
set_option maxHeartbeats 3200000 in
theorem known_walk (w : World) : Calls Try.prog 4 #[] w fun e w' => e = .returned (.bool true) ∧ Below w.heap.size w w' := by
  obtain ⟨iB, hiB, hz0, hz1, hz2⟩ := info_parts infoByte
  have HB0 := Lib.hid (Below.refl w.heap.size w)
  go_enter Try.func4, Try.ntmps4
  go_wp2_with fail
  refine (awake_c _).mono ?_
  rintro e0 w1 ⟨rfl, hb1⟩
  have HB1 := Lib.hid (bcall HB0.out hb1)
  clear hb1
  go_wp2_with fail
  have HR2 := Lib.hid (lit_reads w1 #[.int .u8 9, .int .u8 0, .int .u8 0, .int .u8 0, .int .u8 0, .int .u8 0, .int .u8 0, .int .u8 0, .int .u8 0, .int .u8 0, .int .u8 0] [9, 0, 0, 0, 0, 0, 0, 0, 0, 0, 0] 11 (by rfl) rfl (by decide))
  have HB2 := Lib.hid (balloc HB1.out (.cells #[.int .u8 9, .int .u8 0, .int .u8 0, .int .u8 0, .int .u8 0, .int .u8 0, .int .u8 0, .int .u8 0, .int .u8 0, .int .u8 0, .int .u8 0] 5))
  generalize (w1.alloc (Obj.cells #[.int .u8 9, .int .u8 0, .int .u8 0, .int .u8 0, .int .u8 0, .int .u8 0, .int .u8 0, .int .u8 0, .int .u8 0, .int .u8 0, .int .u8 0] 5)) = w2 at *
  refine (parse_bad (xs := [9, 0, 0, 0, 0, 0, 0, 0, 0, 0]) rfl (k := 3) (by decide +kernel) (by decide) (some ⟨w1.heap.size, 0, none⟩) 11 w2 (reads_take (r := 10) HR2.out rfl (by decide)) (by decide) (by decide)).mono ?_
  rintro e0 w3 ⟨A3, c3, rfl, hb3⟩
  have HB3 := Lib.hid (bcall HB2.out hb3)
  have HR3 := Lib.hid (HR2.out.to_ hb3)
  clear hb3
  go_upto_region 5 with (fail)
  have HB4 := Lib.hid (balloc HB3.out (.cells #[.int .i64 0, .int .i64 0, .int .i64 0, .int .i64 0, .int .i64 0, .int .i64 0, .slice A3 0 c3] 24))
  have HR4 := Lib.hid (HR3.out.to_ (balloc (Below.refl _ _) (.cells #[.int .i64 0, .int .i64 0, .int .i64 0, .int .i64 0, .int .i64 0, .int .i64 0, .slice A3 0 c3] 24)))
  generalize (w3.alloc (Obj.cells #[.int .i64 0, .int .i64 0, .int .i64 0, .int .i64 0, .int .i64 0, .int .i64 0, .slice A3 0 c3] 24)) = w4 at *
  go_wp2_with (first
    | (at_builtin
       refine wpList_append_any _ rfl (.tmp 30) (.tmp 31) _ rfl w4.heap.size 5 iB _ 1 1 Try.underlying22 hiB hz0 hz1 hz2 rfl (by omega) (.slice (some ⟨w4.heap.size, 0, none⟩) 0 0) 0 [] rfl (own_empty w4 5 1)
         (w4.alloc (.cells #[] 5)).heap.size (some ⟨w1.heap.size, 0, none⟩) 11 11 (([9, 0, 0, 0, 0, 0, 0, 0, 0, 0, 0] : List UInt8).map u8v) rfl (HR4.out.to_ (balloc (Below.refl _ _) _)) (u8_one _) (by decide) (by decide) (by simp) ?_
       intro v5 w5 hown5 hg5 hat5
       rw [Nat.zero_add, List.nil_append] at hown5
       obtain ⟨A5, c5, rfl⟩ := own_slice hown5
       have HB5' := Lib.hid (fresh_below hg5)
       have HB5 := Lib.hid (bcall HB4.out HB5'.out)
       have HO5 := Lib.hid (hown5.alloc (.cells #[.int .u8 1] 5))
       have HR5 := Lib.hid (lit_reads w5 #[.int .u8 1] [1] 1 (by rfl) rfl (by decide))
       have HB6' := Lib.hid (balloc HB5'.out (.cells #[.int .u8 1] 5))
       clear hown5 hg5 hat5)
    | (at_builtin
       refine wpList_append_any _ rfl (.tmp 32) (.tmp 33) _ rfl w4.heap.size 5 iB _ 1 1 Try.underlying22 hiB hz0 hz1 hz2 rfl (by omega) (.slice A5 11 c5) 11 (([9, 0, 0, 0, 0, 0, 0, 0, 0, 0, 0] : List UInt8).map u8v) rfl HO5.out
         (w5.alloc (.cells #[.int .u8 1] 5)).heap.size (some ⟨w5.heap.size, 0, none⟩) 1 1 (([1] : List UInt8).map u8v) rfl HR5.out (u8_one _) (by decide) (by decide) HB6'.out.size ?_
       intro v7 w7 hown7 hg7 hat7
       rw [← List.map_append] at hown7
       obtain ⟨A7, c7, rfl⟩ := own_slice hown7
       have HB7' := Lib.hid (own_grow_below HB6'.out HO5.out hg7)
       have HB7 := Lib.hid (bcall HB4.out HB7'.out)
       have HO7 := Lib.hid hown7
       clear hown7 hg7 hat7))
  refine (parse_bad (xs := [9, 0, 0, 0, 0, 0, 0, 0, 0, 0, 0, 1]) rfl (k := 2) (by decide +kernel) (by decide) A7 c7 w7 (Reads.of_own HO7.out) (by decide) (own_cap (bs := [9, 0, 0, 0, 0, 0, 0, 0, 0, 0, 0, 1]) HO7.out)).mono ?_
  rintro e0 w8 ⟨A8, c8, rfl, hb8⟩
  have HB8 := Lib.hid (bcall HB7.out hb8)
  clear hb8
  go_wp2_with fail
  have HB8n := Lib.hid (balloc (balloc HB8.out (.cells #[.int .i64 0, .int .i64 0, .int .i64 0, .int .i64 0, .int .i64 0, .int .i64 0, .slice A8 0 c8] 24)) (.cells #[.int .u8 7, .int .u8 0, .int .u8 1, .int .u8 0, .int .u8 0, .int .u8 0, .int .u8 0, .int .u8 0, .int .u8 0, .int .u8 0, .int .u8 201] 5))
  have hrl := lit_reads (w8.alloc (.cells #[.int .i64 0, .int .i64 0, .int .i64 0, .int .i64 0, .int .i64 0, .int .i64 0, .slice A8 0 c8] 24)) #[.int .u8 7, .int .u8 0, .int .u8 1, .int .u8 0, .int .u8 0, .int .u8 0, .int .u8 0, .int .u8 0, .int .u8 0, .int .u8 0, .int .u8 201] [7, 0, 1, 0, 0, 0, 0, 0, 0, 0, 201] 11 (by rfl) rfl (by decide)
  rw [World.size_alloc] at hrl
  refine (parse_bad (n := 11) (xs := [7, 0, 1, 0, 0, 0, 0, 0, 0, 0, 201]) rfl (k := 4) (by decide +kernel) (by decide) (some ⟨w8.heap.size + 1, 0, none⟩) 11 _ (by simpa only [World.size_alloc] using hrl) (by decide) (by decide)).mono ?_
  rintro e0 w9 ⟨A9, c9, rfl, hb9⟩
  have HB9 := Lib.hid (bcall HB8n.out hb9)
  clear hb9 hrl
  go_wp2_with fail
  have HB9n := Lib.hid (balloc (balloc HB9.out (.cells #[.int .i64 0, .int .i64 0, .int .i64 0, .int .i64 0, .int .i64 0, .int .i64 0, .slice A9 0 c9] 24)) (.cells #[.int .u8 7, .int .u8 0, .int .u8 1, .int .u8 0, .int .u8 0, .int .u8 0, .int .u8 0, .int .u8 0, .int .u8 0, .int .u8 0, .int .u8 1] 5))
  have hrl := lit_reads (w9.alloc (.cells #[.int .i64 0, .int .i64 0, .int .i64 0, .int .i64 0, .int .i64 0, .int .i64 0, .slice A9 0 c9] 24)) #[.int .u8 7, .int .u8 0, .int .u8 1, .int .u8 0, .int .u8 0, .int .u8 0, .int .u8 0, .int .u8 0, .int .u8 0, .int .u8 0, .int .u8 1] [7, 0, 1, 0, 0, 0, 0, 0, 0, 0, 1] 11 (by rfl) rfl (by decide)
  rw [World.size_alloc] at hrl
  refine (parse_bad (n := 11) (xs := [7, 0, 1, 0, 0, 0, 0, 0, 0, 0, 1]) rfl (k := 3) (by decide +kernel) (by decide) (some ⟨w9.heap.size + 1, 0, none⟩) 11 _ (by simpa only [World.size_alloc] using hrl) (by decide) (by decide)).mono ?_
  rintro e0 w10 ⟨A10, c10, rfl, hb10⟩
  have HB10 := Lib.hid (bcall HB9n.out hb10)
  clear hb10 hrl
  go_wp2_with fail
  have HB10n := Lib.hid (balloc (balloc HB10.out (.cells #[.int .i64 0, .int .i64 0, .int .i64 0, .int .i64 0, .int .i64 0, .int .i64 0, .slice A10 0 c10] 24)) (.cells #[.int .u8 9, .int .u8 1, .int .u8 0, .int .u8 0, .int .u8 0, .int .u8 0, .int .u8 0, .int .u8 0, .int .u8 0, .int .u8 0, .int .u8 0] 5))
  have hrl := lit_reads (w10.alloc (.cells #[.int .i64 0, .int .i64 0, .int .i64 0, .int .i64 0, .int .i64 0, .int .i64 0, .slice A10 0 c10] 24)) #[.int .u8 9, .int .u8 1, .int .u8 0, .int .u8 0, .int .u8 0, .int .u8 0, .int .u8 0, .int .u8 0, .int .u8 0, .int .u8 0, .int .u8 0] [9, 1, 0, 0, 0, 0, 0, 0, 0, 0, 0] 11 (by rfl) rfl (by decide)
  rw [World.size_alloc] at hrl
  refine (parse_bad (n := 11) (xs := [9, 1, 0, 0, 0, 0, 0, 0, 0, 0, 0]) rfl (k := 2) (by decide +kernel) (by decide) (some ⟨w10.heap.size + 1, 0, none⟩) 11 _ (by simpa only [World.size_alloc] using hrl) (by decide) (by decide)).mono ?_
  rintro e0 w11 ⟨A11, c11, rfl, hb11⟩
  have HB11 := Lib.hid (bcall HB10n.out hb11)
  clear hb11 hrl
  go_wp2_with fail
  have HB11n := Lib.hid (balloc (balloc HB11.out (.cells #[.int .i64 0, .int .i64 0, .int .i64 0, .int .i64 0, .int .i64 0, .int .i64 0, .slice A11 0 c11] 24)) (.cells #[.int .u8 10, .int .u8 0, .int .u8 0, .int .u8 0, .int .u8 0, .int .u8 0, .int .u8 0, .int .u8 0, .int .u8 0, .int .u8 0, .int .u8 0] 5))
  have hrl := lit_reads (w11.alloc (.cells #[.int .i64 0, .int .i64 0, .int .i64 0, .int .i64 0, .int .i64 0, .int .i64 0, .slice A11 0 c11] 24)) #[.int .u8 10, .int .u8 0, .int .u8 0, .int .u8 0, .int .u8 0, .int .u8 0, .int .u8 0, .int .u8 0, .int .u8 0, .int .u8 0, .int .u8 0] [10, 0, 0, 0, 0, 0, 0, 0, 0, 0, 0] 11 (by rfl) rfl (by decide)
  rw [World.size_alloc] at hrl
  refine (parse_bad (n := 11) (xs := [10, 0, 0, 0, 0, 0, 0, 0, 0, 0, 0]) rfl (k := 2) (by decide +kernel) (by decide) (some ⟨w11.heap.size + 1, 0, none⟩) 11 _ (by simpa only [World.size_alloc] using hrl) (by decide) (by decide)).mono ?_
  rintro e0 w12 ⟨A12, c12, rfl, hb12⟩
  have HB12 := Lib.hid (bcall HB11n.out hb12)
  clear hb12 hrl
  go_wp2_with fail
  have HB12n := Lib.hid (balloc (balloc HB12.out (.cells #[.int .i64 0, .int .i64 0, .int .i64 0, .int .i64 0, .int .i64 0, .int .i64 0, .slice A12 0 c12] 24)) (.cells #[.int .u8 7, .int .u8 0, .int .u8 1, .int .u8 0, .int .u8 2, .int .u8 0, .int .u8 31, .int .u8 0, .int .u8 0, .int .u8 0, .int .u8 1, .int .u8 9] 5))
  have hrl := lit_reads (w12.alloc (.cells #[.int .i64 0, .int .i64 0, .int .i64 0, .int .i64 0, .int .i64 0, .int .i64 0, .slice A12 0 c12] 24)) #[.int .u8 7, .int .u8 0, .int .u8 1, .int .u8 0, .int .u8 2, .int .u8 0, .int .u8 31, .int .u8 0, .int .u8 0, .int .u8 0, .int .u8 1, .int .u8 9] [7, 0, 1, 0, 2, 0, 31, 0, 0, 0, 1, 9] 12 (by rfl) rfl (by decide)
  rw [World.size_alloc] at hrl
  refine (parse_k (n := 12) (xs := [7, 0, 1, 0, 2, 0, 31, 0, 0, 0, 1, 9]) rfl (k := 0) (Dn := ⟨7, 0, 1, 2, 31, 0, [9]⟩) (by rfl) (by decide +kernel) (some ⟨w12.heap.size + 1, 0, none⟩) 12 _ (by simpa only [World.size_alloc] using hrl) (by decide) (by decide)).mono ?_
  rintro e0 w13 ⟨A13, c13, rfl, hv13, hb13⟩
  have HB13 := Lib.hid (bcall HB12n.out hb13)
  clear hb13 hrl hv13
  unfold noteV
  simp only [List.length_cons, List.length_nil]
  go_upto_region 12 with (fail)
  have hX14 := ((Blk.new w13 24 #[.int .i64 7, .int .i64 0, .int .i64 1, .int .i64 2, .int .i64 31, .int .i64 0, .slice A13 1 c13]).alloc (.cells #[.int .u8 5, .int .u8 6, .int .u8 255, .int .u8 255, .int .u8 255, .int .u8 255, .int .u8 255, .int .u8 255] 5)).alloc (.cells #[.int .i64 17, .int .i64 0, .int .i64 1, .int .i64 3, .int .i64 3, .int .i64 3, .slice (some ⟨w13.heap.size + 1, 0, none⟩) 8 8] 24)
  have hX16 := Blk.new ((w13.alloc (.cells #[.int .i64 7, .int .i64 0, .int .i64 1, .int .i64 2, .int .i64 31, .int .i64 0, .slice A13 1 c13] 24)).alloc (.cells #[.int .u8 5, .int .u8 6, .int .u8 255, .int .u8 255, .int .u8 255, .int .u8 255, .int .u8 255, .int .u8 255] 5)) 24 #[.int .i64 17, .int .i64 0, .int .i64 1, .int .i64 3, .int .i64 3, .int .i64 3, .slice (some ⟨w13.heap.size + 1, 0, none⟩) 8 8]
  have hR := (lit_reads (w13.alloc (.cells #[.int .i64 7, .int .i64 0, .int .i64 1, .int .i64 2, .int .i64 31, .int .i64 0, .slice A13 1 c13] 24)) #[.int .u8 5, .int .u8 6, .int .u8 255, .int .u8 255, .int .u8 255, .int .u8 255, .int .u8 255, .int .u8 255] [5, 6, 255, 255, 255, 255, 255, 255] 8 (by rfl) rfl (by decide)).to_ (balloc (Below.refl _ _) (.cells #[.int .i64 17, .int .i64 0, .int .i64 1, .int .i64 3, .int .i64 3, .int .i64 3, .slice (some ⟨w13.heap.size + 1, 0, none⟩) 8 8] 24))
  have hBB := balloc (balloc (balloc HB13.out (.cells #[.int .i64 7, .int .i64 0, .int .i64 1, .int .i64 2, .int .i64 31, .int .i64 0, .slice A13 1 c13] 24)) (.cells #[.int .u8 5, .int .u8 6, .int .u8 255, .int .u8 255, .int .u8 255, .int .u8 255, .int .u8 255, .int .u8 255] 5)) (.cells #[.int .i64 17, .int .i64 0, .int .i64 1, .int .i64 3, .int .i64 3, .int .i64 3, .slice (some ⟨w13.heap.size + 1, 0, none⟩) 8 8] 24)
  simp only [World.size_alloc] at hX16 hR
  rw [show w13.heap.size + 1 + 1 + 1 = (((w13.alloc (.cells #[.int .i64 7, .int .i64 0, .int .i64 1, .int .i64 2, .int .i64 31, .int .i64 0, .slice A13 1 c13] 24)).alloc (.cells #[.int .u8 5, .int .u8 6, .int .u8 255, .int .u8 255, .int .u8 255, .int .u8 255, .int .u8 255, .int .u8 255] 5)).alloc (.cells #[.int .i64 17, .int .i64 0, .int .i64 1, .int .i64 3, .int .i64 3, .int .i64 3, .slice (some ⟨w13.heap.size + 1, 0, none⟩) 8 8] 24)).heap.size by simp only [World.size_alloc]] at hR
  generalize (((w13.alloc (Obj.cells #[.int .i64 7, .int .i64 0, .int .i64 1, .int .i64 2, .int .i64 31, .int .i64 0, .slice A13 1 c13] 24)).alloc (.cells #[.int .u8 5, .int .u8 6, .int .u8 255, .int .u8 255, .int .u8 255, .int .u8 255, .int .u8 255, .int .u8 255] 5)).alloc (.cells #[.int .i64 17, .int .i64 0, .int .i64 1, .int .i64 3, .int .i64 3, .int .i64 3, .slice (some ⟨w13.heap.size + 1, 0, none⟩) 8 8] 24)) = W at *
  obtain ⟨g14, hg14⟩ : ∃ g14, w13.heap.size = g14 := ⟨_, rfl⟩
  rw [hg14] at hX14 hX16 hR
  rw [hg14]
  clear hg14
  have HX14 := Lib.hid hX14
  have HX16 := Lib.hid hX16
  have HR := Lib.hid hR
  have HBB := Lib.hid hBB
  clear hX14 hX16 hR hBB HR2 HB2 HR3 HB3 HB4 HR4 HB5' HB5 HO5 HR5 HB6' HB7' HB7 HO7
  go_cut [17, 18, 19] (fun p17 p18 p19 wx => ∃ a b c, p17 = .pointer (some ⟨a, 0, none⟩) ∧ p18 = .pointer (some ⟨b, 0, none⟩) ∧ p19 = .pointer (some ⟨c, 0, none⟩) ∧ a ≠ b ∧ a ≠ c ∧ b ≠ c ∧ W.heap.size ≤ a ∧ W.heap.size ≤ b ∧ W.heap.size ≤ c ∧ Blk wx a 24 #[.int .i64 17, .int .i64 0, .int .i64 1, .int .i64 3, .int .i64 3, .int .i64 3, .slice (some ⟨g14 + 1, 0, none⟩) 8 8] ∧ Blk wx b 24 #[.int .i64 17, .int .i64 0, .int .i64 1, .int .i64 3, .int .i64 3, .int .i64 3, .slice (some ⟨g14 + 1, 0, none⟩) 8 8] ∧ Blk wx c 24 #[.int .i64 17, .int .i64 0, .int .i64 1, .int .i64 3, .int .i64 3, .int .i64 3, .slice (some ⟨g14 + 1, 0, none⟩) 8 8] ∧ Below W.heap.size W wx)
  case first =>
    have c16 := HX16.out.cell7
    have K : Hid (∀ w', Below W.heap.size W w' → w'.cell? ⟨g14 + 1 + 1, 0, none⟩ = some (.int .i64 17) ∧ w'.cell? ⟨g14 + 1 + 1, 1, none⟩ = some (.int .i64 0) ∧ w'.cell? ⟨g14 + 1 + 1, 2, none⟩ = some (.int .i64 1) ∧ w'.cell? ⟨g14 + 1 + 1, 3, none⟩ = some (.int .i64 3) ∧ w'.cell? ⟨g14 + 1 + 1, 4, none⟩ = some (.int .i64 3) ∧ w'.cell? ⟨g14 + 1 + 1, 5, none⟩ = some (.int .i64 3) ∧ w'.cell? ⟨g14 + 1 + 1, 6, none⟩ = some (.slice (some ⟨g14 + 1, 0, none⟩) 8 8) ∧ Below W.heap.size W w') := fun w' hb => by
      obtain ⟨h0, h1, h2, h3, h4, h5, h6⟩ := (HX16.out.below hb).cell7
      exact ⟨h0, h1, h2, h3, h4, h5, h6, hb⟩
    have kW := Below.refl W.heap.size W
    go_region_held3 (fun w' => w'.cell? ⟨g14 + 1 + 1, 0, none⟩ = some (.int .i64 17) ∧ w'.cell? ⟨g14 + 1 + 1, 1, none⟩ = some (.int .i64 0) ∧ w'.cell? ⟨g14 + 1 + 1, 2, none⟩ = some (.int .i64 1) ∧ w'.cell? ⟨g14 + 1 + 1, 3, none⟩ = some (.int .i64 3) ∧ w'.cell? ⟨g14 + 1 + 1, 4, none⟩ = some (.int .i64 3) ∧ w'.cell? ⟨g14 + 1 + 1, 5, none⟩ = some (.int .i64 3) ∧ w'.cell? ⟨g14 + 1 + 1, 6, none⟩ = some (.slice (some ⟨g14 + 1, 0, none⟩) 8 8) ∧ Below W.heap.size W w')
      (exact K.out _ (by repeat (first | with_reducible assumption | with_reducible refine bdrew ?_ | with_reducible refine below_drewN ?_ _ | with_reducible refine balloc ?_ _ | with_reducible refine bset ?_ (by first | exact Nat.le_refl _ | (simp; done) | (simp; omega)) _)))
      (first | fail)
    all_goals
      go_wp2_with fail
      go_meet
      have hA : Blk ((((W.alloc (.cells #[.int .i64 17, .int .i64 0, .int .i64 1, .int .i64 3, .int .i64 3, .int .i64 3, .slice (some ⟨g14 + 1, 0, none⟩) 8 8] 24)).alloc (.cells #[.int .i64 17, .int .i64 0, .int .i64 1, .int .i64 3, .int .i64 3, .int .i64 3, .slice (some ⟨g14 + 1, 0, none⟩) 8 8] 24)).alloc (.cells #[.int .i64 17, .int .i64 0, .int .i64 1, .int .i64 3, .int .i64 3, .int .i64 3, .slice (some ⟨g14 + 1, 0, none⟩) 8 8] 24)).drew) W.heap.size 24 #[.int .i64 17, .int .i64 0, .int .i64 1, .int .i64 3, .int .i64 3, .int .i64 3, .slice (some ⟨g14 + 1, 0, none⟩) 8 8] := (((Blk.new W 24 #[.int .i64 17, .int .i64 0, .int .i64 1, .int .i64 3, .int .i64 3, .int .i64 3, .slice (some ⟨g14 + 1, 0, none⟩) 8 8]).alloc _).alloc _)
      have hB : Blk ((((W.alloc (.cells #[.int .i64 17, .int .i64 0, .int .i64 1, .int .i64 3, .int .i64 3, .int .i64 3, .slice (some ⟨g14 + 1, 0, none⟩) 8 8] 24)).alloc (.cells #[.int .i64 17, .int .i64 0, .int .i64 1, .int .i64 3, .int .i64 3, .int .i64 3, .slice (some ⟨g14 + 1, 0, none⟩) 8 8] 24)).alloc (.cells #[.int .i64 17, .int .i64 0, .int .i64 1, .int .i64 3, .int .i64 3, .int .i64 3, .slice (some ⟨g14 + 1, 0, none⟩) 8 8] 24)).drew) (W.heap.size + 1) 24 #[.int .i64 17, .int .i64 0, .int .i64 1, .int .i64 3, .int .i64 3, .int .i64 3, .slice (some ⟨g14 + 1, 0, none⟩) 8 8] := by
        have := ((Blk.new (W.alloc (.cells #[.int .i64 17, .int .i64 0, .int .i64 1, .int .i64 3, .int .i64 3, .int .i64 3, .slice (some ⟨g14 + 1, 0, none⟩) 8 8] 24)) 24 #[.int .i64 17, .int .i64 0, .int .i64 1, .int .i64 3, .int .i64 3, .int .i64 3, .slice (some ⟨g14 + 1, 0, none⟩) 8 8]).alloc (.cells #[.int .i64 17, .int .i64 0, .int .i64 1, .int .i64 3, .int .i64 3, .int .i64 3, .slice (some ⟨g14 + 1, 0, none⟩) 8 8] 24))
        simp only [World.size_alloc] at this
        exact this
      have hC : Blk ((((W.alloc (.cells #[.int .i64 17, .int .i64 0, .int .i64 1, .int .i64 3, .int .i64 3, .int .i64 3, .slice (some ⟨g14 + 1, 0, none⟩) 8 8] 24)).alloc (.cells #[.int .i64 17, .int .i64 0, .int .i64 1, .int .i64 3, .int .i64 3, .int .i64 3, .slice (some ⟨g14 + 1, 0, none⟩) 8 8] 24)).alloc (.cells #[.int .i64 17, .int .i64 0, .int .i64 1, .int .i64 3, .int .i64 3, .int .i64 3, .slice (some ⟨g14 + 1, 0, none⟩) 8 8] 24)).drew) (W.heap.size + 1 + 1) 24 #[.int .i64 17, .int .i64 0, .int .i64 1, .int .i64 3, .int .i64 3, .int .i64 3, .slice (some ⟨g14 + 1, 0, none⟩) 8 8] := by
        have := (Blk.new ((W.alloc (.cells #[.int .i64 17, .int .i64 0, .int .i64 1, .int .i64 3, .int .i64 3, .int .i64 3, .slice (some ⟨g14 + 1, 0, none⟩) 8 8] 24)).alloc (.cells #[.int .i64 17, .int .i64 0, .int .i64 1, .int .i64 3, .int .i64 3, .int .i64 3, .slice (some ⟨g14 + 1, 0, none⟩) 8 8] 24)) 24 #[.int .i64 17, .int .i64 0, .int .i64 1, .int .i64 3, .int .i64 3, .int .i64 3, .slice (some ⟨g14 + 1, 0, none⟩) 8 8])
        simp only [World.size_alloc] at this
        exact this
      have hD := bdrew (balloc (balloc (balloc kW (.cells #[.int .i64 17, .int .i64 0, .int .i64 1, .int .i64 3, .int .i64 3, .int .i64 3, .slice (some ⟨g14 + 1, 0, none⟩) 8 8] 24)) (.cells #[.int .i64 17, .int .i64 0, .int .i64 1, .int .i64 3, .int .i64 3, .int .i64 3, .slice (some ⟨g14 + 1, 0, none⟩) 8 8] 24)) (.cells #[.int .i64 17, .int .i64 0, .int .i64 1, .int .i64 3, .int .i64 3, .int .i64 3, .slice (some ⟨g14 + 1, 0, none⟩) 8 8] 24))
      refine ⟨_, _, _, rfl, rfl, rfl, by omega, by omega, by omega, by omega, by omega, by omega, ?_, ?_, ?_, hD⟩ <;> first | exact hA | exact hB | exact hC
  case rest =>
    obtain ⟨a, b, c, rfl, rfl, rfl, hab, hac, hbc, hWa, hWb, hWc, ha, hb, hc, hbw⟩ := hcut
    have h14 := HX14.out.below hbw
    have h16 := HX16.out.below hbw
    have hl14 := HX14.out.lt
    have hl16 := HX16.out.lt
    have hr := HR.out.to_ hbw
    have hba := hab.symm
    have hca := hac.symm
    have hcb := hbc.symm
    have n1 : g14 ≠ a := by omega
    have n2 : g14 ≠ b := by omega
    have n3 : g14 ≠ c := by omega
    have n4 : g14 + 1 + 1 ≠ a := by omega
    have n5 : g14 + 1 + 1 ≠ b := by omega
    have n6 : g14 + 1 + 1 ≠ c := by omega
    have n7 : a ≠ g14 := by omega
    have n8 : b ≠ g14 := by omega
    have n9 : c ≠ g14 := by omega
    have hb0 := bcall HBB.out hbw
    -- the two stores
    have ha1 := ha.set_ 5 (.int .i64 2)
    have hb1 := hb.far (p := ⟨a, 5, none⟩) hba (.int .i64 2)
    have hc1 := hc.far (p := ⟨a, 5, none⟩) hca (.int .i64 2)
    have h141 := h14.far (p := ⟨a, 5, none⟩) n1 (.int .i64 2)
    have h161 := h16.far (p := ⟨a, 5, none⟩) n4 (.int .i64 2)
    have ha2 := ha1.far (p := ⟨b, 4, none⟩) hab (.int .i64 1)
    have hb2 := hb1.set_ 4 (.int .i64 1)
    have hc2 := hc1.far (p := ⟨b, 4, none⟩) hcb (.int .i64 1)
    have h142 := h141.far (p := ⟨b, 4, none⟩) n2 (.int .i64 1)
    have h162 := h161.far (p := ⟨b, 4, none⟩) n5 (.int .i64 1)
    simp only [List.setIfInBounds_toArray, List.set_cons_zero, List.set_cons_succ] at ha2 hb2
    have hr2 : Reads ((wc.setCell ⟨a, 5, none⟩ (.int .i64 2)).setCell ⟨b, 4, none⟩ (.int .i64 1)) W.heap.size 1 (some ⟨g14 + 1, 0, none⟩) 8 (([5, 6, 255, 255, 255, 255, 255, 255] : List UInt8).map u8v) := ((HR.out.below hbw).setCell hWa _).setCell hWb _
    have hbb2 := bset (p := ⟨b, 4, none⟩) (bset (p := ⟨a, 5, none⟩) hb0 (by have := HBB.out.size; show w.heap.size ≤ a; omega) (.int .i64 2)) (by have := HBB.out.size; show w.heap.size ≤ b; omega) (.int .i64 1)
    have ca := ha.cell7
    have fa := ha.free7
    have cb := hb.cell7
    have fb := hb.free7
    have HA2 := Lib.hid ha2
    have HB2 := Lib.hid hb2
    have HC2 := Lib.hid hc2
    have H142 := Lib.hid h142
    have H162 := Lib.hid h162
    have HR2 := Lib.hid hr2
    have HBB2 := Lib.hid hbb2
    clear ha hb hc ha1 hb1 hc1 h141 h161 ha2 hb2 hc2 h142 h162 hr2 hbb2 hr h14 h16 hb0
    go_upto_region 15 with (fail)
    generalize ((wc.setCell ⟨a, 5, none⟩ (.int .i64 2)).setCell ⟨b, 4, none⟩ (.int .i64 1)) = W5 at *
    clear ca fa cb fb
    have cc := HC2.out.cell7
    have fc := HC2.out.free7
    have lc := HC2.out.lt
    go_upto_region 16 with (fail)
    have a6 := (HA2.out.far (p := ⟨c, 6, none⟩) hac (.slice (some ⟨W5.heap.size, 0, none⟩) 8 8)).alloc (.cells #[.int .u8 5, .int .u8 64, .int .u8 255, .int .u8 255, .int .u8 255, .int .u8 255, .int .u8 255, .int .u8 255] 5)
    have b6 := (HB2.out.far (p := ⟨c, 6, none⟩) hbc (.slice (some ⟨W5.heap.size, 0, none⟩) 8 8)).alloc (.cells #[.int .u8 5, .int .u8 64, .int .u8 255, .int .u8 255, .int .u8 255, .int .u8 255, .int .u8 255, .int .u8 255] 5)
    have c6 := (HC2.out.set_ 6 (.slice (some ⟨W5.heap.size, 0, none⟩) 8 8)).alloc (.cells #[.int .u8 5, .int .u8 64, .int .u8 255, .int .u8 255, .int .u8 255, .int .u8 255, .int .u8 255, .int .u8 255] 5)
    have d6 := (H142.out.far (p := ⟨c, 6, none⟩) n3 (.slice (some ⟨W5.heap.size, 0, none⟩) 8 8)).alloc (.cells #[.int .u8 5, .int .u8 64, .int .u8 255, .int .u8 255, .int .u8 255, .int .u8 255, .int .u8 255, .int .u8 255] 5)
    have e6 := (H162.out.far (p := ⟨c, 6, none⟩) n6 (.slice (some ⟨W5.heap.size, 0, none⟩) 8 8)).alloc (.cells #[.int .u8 5, .int .u8 64, .int .u8 255, .int .u8 255, .int .u8 255, .int .u8 255, .int .u8 255, .int .u8 255] 5)
    simp only [List.setIfInBounds_toArray, List.set_cons_zero, List.set_cons_succ] at c6
    have hsz5 : (W5.setCell ⟨c, 6, none⟩ (.slice (some ⟨W5.heap.size, 0, none⟩) 8 8)).heap.size = W5.heap.size := by simp [World.setCell]
    have rw6 : Reads ((W5.setCell ⟨c, 6, none⟩ (.slice (some ⟨W5.heap.size, 0, none⟩) 8 8)).alloc (.cells #[.int .u8 5, .int .u8 64, .int .u8 255, .int .u8 255, .int .u8 255, .int .u8 255, .int .u8 255, .int .u8 255] 5)) W.heap.size 1 (some ⟨g14 + 1, 0, none⟩) 8 (([5, 6, 255, 255, 255, 255, 255, 255] : List UInt8).map u8v) := (HR2.out.setCell hWc _).alloc (by rw [hsz5]; omega) _
    have rz6 := lit_reads (W5.setCell ⟨c, 6, none⟩ (.slice (some ⟨W5.heap.size, 0, none⟩) 8 8)) #[.int .u8 5, .int .u8 64, .int .u8 255, .int .u8 255, .int .u8 255, .int .u8 255, .int .u8 255, .int .u8 255] [5, 64, 255, 255, 255, 255, 255, 255] 8 (by rfl) rfl (by decide)
    rw [hsz5] at rz6
    have hb6 := balloc (bset (p := ⟨c, 6, none⟩) HBB2.out (by have := HBB.out.size; show w.heap.size ≤ c; omega) (.slice (some ⟨W5.heap.size, 0, none⟩) 8 8)) (.cells #[.int .u8 5, .int .u8 64, .int .u8 255, .int .u8 255, .int .u8 255, .int .u8 255, .int .u8 255, .int .u8 255] 5)
    generalize ((W5.setCell ⟨c, 6, none⟩ (.slice (some ⟨W5.heap.size, 0, none⟩) 8 8)).alloc (Obj.cells #[.int .u8 5, .int .u8 64, .int .u8 255, .int .u8 255, .int .u8 255, .int .u8 255, .int .u8 255, .int .u8 255] 5)) = W6 at *
    obtain ⟨gz, hgz⟩ : ∃ gz, W5.heap.size = gz := ⟨_, rfl⟩
    have hW6 : W.heap.size ≤ W6.heap.size := by have := a6.lt; omega
    rw [hgz] at c6 rz6
    have RW6 := Lib.hid (rw6.more hW6)
    have RZ6 := Lib.hid rz6
    have RN6 : Hid (Reads W6 W6.heap.size 1 none 0 (([] : List UInt8).map u8v)) := Reads.none_
    have HA6 := Lib.hid a6
    have HB6 := Lib.hid b6
    have HC6 := Lib.hid c6
    have HD6 := Lib.hid d6
    have HE6 := Lib.hid e6
    have HK6 := Lib.hid hb6
    clear cc fc lc HA2 HB2 HC2 H142 H162 HR2 HBB2 a6 b6 c6 d6 e6 rw6 rz6 hb6 hgz hWa hWb hWc hl14 hl16
    have q14 := HD6.out.cell7
    have q16 := HE6.out.cell7
    clear n1 n2 n3 n4 n5 n6 n7 n8 n9 hab hac hbc hba hca hcb
    go_wp2_with fail
    refine (good_k [5, 6, 255, 255, 255, 255, 255, 255] 8 rfl (17) (0) (1) (3) (3) (3) true (by decide +kernel) (some ⟨g14 + 1, 0, none⟩) 8 W6 RW6.out (by decide)).mono ?_
    rintro e0 W7 ⟨rfl, hb⟩
    have HA7 := Lib.hid (HA6.out.below hb)
    have HB7 := Lib.hid (HB6.out.below hb)
    have HC7 := Lib.hid (HC6.out.below hb)
    have RW7 := Lib.hid (RW6.out.to_ hb)
    have RZ7 := Lib.hid (RZ6.out.to_ hb)
    have RN7 := Lib.hid (RN6.out.to_ hb)
    have HK7 := Lib.hid (bcall HK6.out hb)
    clear q14 q16
    have q := HA7.out.cell7
    clear hb HA6 HB6 HC6 RW6 RZ6 RN6 HK6
    go_wp2_with fail
    refine (good_k [5, 6, 255, 255, 255, 255, 255, 255] 8 rfl (17) (0) (1) (3) (3) (2) false (by decide +kernel) (some ⟨g14 + 1, 0, none⟩) 8 W7 RW7.out (by decide)).mono ?_
    rintro e0 W8 ⟨rfl, hb⟩
    have HA8 := Lib.hid (HA7.out.below hb)
    have HB8 := Lib.hid (HB7.out.below hb)
    have HC8 := Lib.hid (HC7.out.below hb)
    have RW8 := Lib.hid (RW7.out.to_ hb)
    have RZ8 := Lib.hid (RZ7.out.to_ hb)
    have RN8 := Lib.hid (RN7.out.to_ hb)
    have HK8 := Lib.hid (bcall HK7.out hb)
    try clear q
    have q := HB8.out.cell7
    clear hb HA7 HB7 HC7 RW7 RZ7 RN7 HK7
    go_wp2_with fail
    refine (good_k [5, 6, 255, 255, 255, 255, 255, 255] 8 rfl (17) (0) (1) (3) (1) (3) false (by decide +kernel) (some ⟨g14 + 1, 0, none⟩) 8 W8 RW8.out (by decide)).mono ?_
    rintro e0 W9 ⟨rfl, hb⟩
    have HA9 := Lib.hid (HA8.out.below hb)
    have HB9 := Lib.hid (HB8.out.below hb)
    have HC9 := Lib.hid (HC8.out.below hb)
    have RW9 := Lib.hid (RW8.out.to_ hb)
    have RZ9 := Lib.hid (RZ8.out.to_ hb)
    have RN9 := Lib.hid (RN8.out.to_ hb)
    have HK9 := Lib.hid (bcall HK8.out hb)
    try clear q
    have q := HC9.out.cell7
    clear hb HA8 HB8 HC8 RW8 RZ8 RN8 HK8
    go_wp2_with fail
    refine (good_k [5, 64, 255, 255, 255, 255, 255, 255] 8 rfl (17) (0) (1) (3) (3) (3) false (by decide +kernel) (some ⟨gz, 0, none⟩) 8 W9 RZ9.out (by decide)).mono ?_
    rintro e0 W10 ⟨rfl, hb⟩
    have HA10 := Lib.hid (HA9.out.below hb)
    have HB10 := Lib.hid (HB9.out.below hb)
    have HC10 := Lib.hid (HC9.out.below hb)
    have RW10 := Lib.hid (RW9.out.to_ hb)
    have RZ10 := Lib.hid (RZ9.out.to_ hb)
    have RN10 := Lib.hid (RN9.out.to_ hb)
    have HK10 := Lib.hid (bcall HK9.out hb)
    try clear q
    clear hb HA9 HB9 HC9 RW9 RZ9 RN9 HK9
    go_wp2_with fail
    refine (good_k [] 0 rfl (20) (0) (1) (0) (2) (0) false (by decide +kernel) none 0 W10 RN10.out (by decide)).mono ?_
    rintro e0 W11 ⟨rfl, hb⟩
    have HA11 := Lib.hid (HA10.out.below hb)
    have HB11 := Lib.hid (HB10.out.below hb)
    have HC11 := Lib.hid (HC10.out.below hb)
    have RW11 := Lib.hid (RW10.out.to_ hb)
    have RZ11 := Lib.hid (RZ10.out.to_ hb)
    have RN11 := Lib.hid (RN10.out.to_ hb)
    have HK11 := Lib.hid (bcall HK10.out hb)
    try clear q
    clear hb HA10 HB10 HC10 RW10 RZ10 RN10 HK10
    go_wp2_with fail
    refine (good_k [] 0 rfl (20) (0) (1) (0) (5) (0) true (by decide +kernel) none 0 W11 RN11.out (by decide)).mono ?_
    rintro e0 W12 ⟨rfl, hb⟩
    have HA12 := Lib.hid (HA11.out.below hb)
    have HB12 := Lib.hid (HB11.out.below hb)
    have HC12 := Lib.hid (HC11.out.below hb)
    have RW12 := Lib.hid (RW11.out.to_ hb)
    have RZ12 := Lib.hid (RZ11.out.to_ hb)
    have RN12 := Lib.hid (RN11.out.to_ hb)
    have HK12 := Lib.hid (bcall HK11.out hb)
    try clear q
    clear hb HA11 HB11 HC11 RW11 RZ11 RN11 HK11
    go_wp2_with fail
    refine (good_k [] 0 rfl (18) (0) (0) (0) (14) (0) false (by decide +kernel) none 0 W12 RN12.out (by decide)).mono ?_
    rintro e0 W13 ⟨rfl, hb⟩
    have HA13 := Lib.hid (HA12.out.below hb)
    have HB13 := Lib.hid (HB12.out.below hb)
    have HC13 := Lib.hid (HC12.out.below hb)
    have RW13 := Lib.hid (RW12.out.to_ hb)
    have RZ13 := Lib.hid (RZ12.out.to_ hb)
    have RN13 := Lib.hid (RN12.out.to_ hb)
    have HK13 := Lib.hid (bcall HK12.out hb)
    try clear q
    clear hb HA12 HB12 HC12 RW12 RZ12 RN12 HK12
    go_wp2_with fail
    refine (good_k [] 0 rfl (0) (0) (0) (0) (0) (0) false (by decide +kernel) none 0 W13 RN13.out (by decide)).mono ?_
    rintro e0 W14 ⟨rfl, hb⟩
    have HA14 := Lib.hid (HA13.out.below hb)
    have HB14 := Lib.hid (HB13.out.below hb)
    have HC14 := Lib.hid (HC13.out.below hb)
    have RW14 := Lib.hid (RW13.out.to_ hb)
    have RZ14 := Lib.hid (RZ13.out.to_ hb)
    have RN14 := Lib.hid (RN13.out.to_ hb)
    have HK14 := Lib.hid (bcall HK13.out hb)
    try clear q
    clear hb HA13 HB13 HC13 RW13 RZ13 RN13 HK13
    go_wp2
    go_ret
    exact ⟨rfl, HK14.out⟩
end Go.Proofs.Ytmaemfjepdicfaa
