/- What ratchet.next, After do (contracts). Conditions: the base lies in memory. -/
import Derived.Test.YtlapgccfgkokcaaShort
set_option linter.unusedVariables false
set_option linter.unusedSimpArgs false
namespace Go.Proofs.Ytlapgccfgkokcaa
open Go.RowKit
attribute [local go_sem ↓] Go.wp_at_zero Go.wp_at_succ

def label18 : List UInt8 := [83, 70, 114, 97, 109, 101, 32, 49, 46, 48, 32, 82, 97, 116, 99, 104, 101, 116]
def nextS (b : List UInt8) : List UInt8 := expandS (hmacS [] b) label18 32
def iterS (b : List UInt8) : Nat → List UInt8
  | 0 => b
  | i + 1 => nextS (iterS b i)
theorem nextS_len (b : List UInt8) : (nextS b).length = 32 := expandS_len _ _ _
theorem iterS_add (b : List UInt8) (i : Nat) : ∀ k, iterS (iterS b i) k = iterS b (i + k)
  | 0 => rfl
  | k + 1 => by rw [iterS, iterS_add b i k]; rfl
theorem iterS_len (b : List UInt8) (hb : b.length ≤ 140737488355328) : ∀ i, (iterS b i).length ≤ 140737488355328
  | 0 => hb
  | i + 1 => by rw [iterS, nextS_len]; decide
theorem within_t (z : Int) (w : World) (h0 : 0 ≤ z) (h1 : z ≤ 31) : Calls Try.prog 53 #[.int .i64 z] w fun e w' => e = .returned (.bool true) ∧ w = w' := by
  go_enter Try.func53, Try.ntmps53
  go_wp2_with fail
  go_ret
  exact ⟨rfl, rfl⟩
theorem within_f (z : Int) (w : World) (h : z < 0 ∨ 31 < z) : Calls Try.prog 53 #[.int .i64 z] w fun e w' => e = .returned (.bool false) ∧ w = w' := by
  rcases h with h | h
  · have h0 : ¬ 0 ≤ z := by omega
    go_enter Try.func53, Try.ntmps53
    go_wp2_with fail
    go_ret
    exact ⟨rfl, rfl⟩
  · have h0 : 0 ≤ z := by omega
    have h1 : ¬ z ≤ 31 := by omega
    go_enter Try.func53, Try.ntmps53
    go_wp2_with fail
    go_ret
    exact ⟨rfl, rfl⟩
set_option maxHeartbeats 800000 in
theorem clone_s (b : List UInt8) (A : Option Addr) (n c : Nat) (w : World) (h : SlV w (.slice A n c) b) (hl : n ≤ 140737488355328) :
    Calls Try.prog 54 #[.slice A n c] w fun e w' => ∃ A' c', e = .returned (.slice A' n c') ∧ SlV w' (.slice A' n c') b ∧ Below w.heap.size w w' := by
  obtain ⟨iB, hiB, hz0, hz1, hz2⟩ := info_parts infoByte
  obtain ⟨A1, c1, e, hc, hr⟩ := h
  injection e with e1 e2 e3
  subst e1 e2 e3
  cases A with
  | none =>
    have hb : b = [] := by
      rcases Nat.eq_zero_or_pos b.length with h0 | h0
      · exact List.eq_nil_of_length_eq_zero h0
      · obtain ⟨_, e, _⟩ := hr.2 h0
        cases e
    subst hb
    have hq := fun (wx : World) (n c : Nat) => Lib.run_eql_slice_nil (P := Try.prog) wx 27 5 none n c 0 0 Try.underlying27
    clear hr
    go_enter Try.func54, Try.ntmps54
    go_wp2
    go_ret
    exact ⟨none, 0, rfl, SlV.nil _, Below.refl _ _⟩
  | some ad =>
    have hq := fun (wx : World) (n c : Nat) => Lib.run_eql_slice_nil (P := Try.prog) wx 27 5 (some ad) n c 0 0 Try.underlying27
    have HR := Lib.hid hr
    clear hr
    go_enter Try.func54, Try.ntmps54
    go_wp2_with
     (at_builtin
      refine wpList_append_any _ rfl (.tmp 5) (.tmp 6) _ rfl w.heap.size 5 iB _ 1 1 Try.underlying27 hiB hz0 hz1 hz2 rfl (by omega) (.slice (some ⟨w.heap.size, 0, none⟩) 0 0) 0 [] rfl (own_empty w _ _)
        (w.alloc (.cells #[] 5)).heap.size (some ad) b.length c (b.map u8v) rfl (HR.out.to_ (balloc (Below.refl _ _) _)) (u8_one b) (by simp only [maxLen]; omega) (by omega) (by simp) ?_
      intro v1 w1 hown1 hg1 hat1
      rw [Nat.zero_add, List.nil_append] at hown1
      obtain ⟨A1, c1, rfl⟩ := own_slice hown1
      have HO1 := Lib.hid hown1
      have HB1 := Lib.hid (fresh_below hg1)
      clear hown1 hg1 hat1)
    go_ret
    exact ⟨A1, c1, rfl, SlV.own (show ByteRow w1 w.heap.size _ b from HO1.out), HB1.out⟩
set_option maxRecDepth 100000 in
set_option maxHeartbeats 3200000 in
theorem next_c (b : List UInt8) (A : Option Addr) (n c : Nat) (w : World) (h : SlV w (.slice A n c) b) :
    Calls Try.prog 55 #[.slice A n c] w fun e w' => ∃ A' c', e = .returned (.slice A' 32 c') ∧ SlV w' (.slice A' 32 c') (nextS b) ∧ Below w.heap.size w w' := by
  have kc := fun (w : World) (C : Array Value) (n c : Nat) => Lib.run_convert_bytes_const (P := Try.prog) w 27 5 C n c Try.underlying27 Try.underlying5
  have H := Lib.hid h
  obtain ⟨O, hO⟩ : ∃ O, O = hmacS [] b := ⟨_, rfl⟩
  have hOl : O.length = 32 := by rw [hO]; exact hmacS_len _ _
  have HX : Hid (nextS b = expandS O label18 32) := by show _ = _; rw [hO]; rfl
  have hxt := extract_c [] b none A 0 n 0 c w (SlV.nil _) h
  rw [← hO] at hxt
  have HXT := Lib.hid hxt
  have HOL := Lib.hid hOl
  have HJ := Lib.hid (infoO hOl)
  clear hO hOl h hxt
  go_enter Try.func55, Try.ntmps55
  go_upto_region 2 with (first
    | (go_at_call 37
       refine HXT.out.mono ?_
       rintro e0 w2 ⟨rfl, hb2⟩
       have HU2 : Hid (UB (w2.alloc (.cells (z32.map u8v).toArray 24)) w2.heap.size 24 z32) := Blk.new _ _ _
       have HTH : Hid ((w2.alloc (.cells (z32.map u8v).toArray 24)).there w2.heap.size 0 (O.map u8v).toArray.size) := there32 HU2.out rfl HOL.out
       have HB2 := Lib.hid hb2
       clear hb2)
    | ((with_reducible show wpList _ _ _ (⟨none, .store 24 (.tmp 3) (.tmp 7), _, _, _, _⟩ :: _) _ _); refine wpList_store_mid rfl 24 (.tmp 3) (.tmp 7) rfl w2.heap.size 0 (O.map u8v).toArray rfl rfl HTH.out HJ.out (bytes_one _) ?_))
  obtain ⟨w3, hw3⟩ : ∃ w3, w3 = (w2.alloc (.cells (z32.map u8v).toArray 24)).setCells w2.heap.size 0 (O.map u8v) := ⟨_, rfl⟩
  change Code.wp _ _ _ _ ((w2.alloc (.cells (z32.map u8v).toArray 24)).setCells w2.heap.size 0 (O.map u8v))
  have HU3 : Hid (UB w3 w2.heap.size 24 O) := by show UB _ _ _ _; rw [hw3]; exact blk_setAll HU2.out (by rw [List.length_map, HOL.out]; rfl)
  have HB3 : Hid (Below w.heap.size w w3) := by show Below _ _ _; rw [hw3]; exact below_setCells (balloc HB2.out _) HB2.out.size _ _
  rw [← hw3]
  clear hw3 HU2 HTH HJ HXT HB2
  go_wp2_with
   (first
    | (go_at_call 36
       refine (expand_c O label18 _ _ _ _ _ _ 32 _ ((SlV.arr HU3.out HOL.out).below (balloc (Below.refl _ _) _)) (SlV.lit w3 _ _ 18 _ rfl rfl) (by decide)).mono ?_
       rintro e0 w4 ⟨A4, c4, rfl, hs4, hb4⟩
       have HB4 : Hid (Below w.heap.size w w4) := bcall (balloc HB3.out _) hb4
       have HS4 : Hid (SlV w4 (.slice A4 32 c4) (nextS b)) := by show SlV _ _ _; rw [HX.out]; exact hs4
       clear hb4 hs4))
  go_ret
  exact ⟨A4, c4, rfl, HS4.out, HB4.out⟩
set_option maxRecDepth 100000 in
set_option maxHeartbeats 3200000 in
theorem after_c (b : List UInt8) (A : Option Addr) (n c k : Nat) (w : World) (h : SlV w (.slice A n c) b) (hl : n ≤ 140737488355328) (hk : k ≤ 31) :
    Calls Try.prog 42 #[.slice A n c, .int .i64 (k : Int)] w fun e w' => ∃ A' n' c', e = .returned (.tuple #[.slice A' n' c', .int .i64 0]) ∧ SlV w' (.slice A' n' c') (iterS b k) ∧ Below w.heap.size w w' := by
  have HW := Lib.hid (within_t (k : Int) w (by omega) (by omega))
  have HC := Lib.hid (clone_s b A n c w h hl)
  clear h
  go_enter Try.func42, Try.ntmps42
  go_upto_region 5 with (first
    | (go_at_call 53
       refine HW.out.mono ?_
       rintro e0 wx ⟨rfl, rfl⟩)
    | (go_at_call 54
       refine HC.out.mono ?_
       rintro e0 w1 ⟨A1, c1, rfl, hs1, hb1⟩
       have HS1 := Lib.hid hs1
       have HB1 := Lib.hid hb1
       clear hs1 hb1))
  go_loopg [6, 13] k (fun gg v6 v13 wx => ∃ i A' n' c', i ≤ k ∧ gg = k - i ∧ v6 = .slice A' n' c' ∧ v13 = .int .i64 ((i : Nat) : Int) ∧ SlV wx (.slice A' n' c') (iterS b i) ∧ Below w.heap.size w wx)
  case atStart => exact ⟨0, A1, n, c1, Nat.zero_le _, rfl, rfl, rfl, HS1.out, HB1.out⟩
  case round =>
    obtain ⟨i, A', n', c', hi, rfl, rfl, rfl, hs, hb⟩ := hrel
    clear HS1 HB1
    have HS := Lib.hid hs
    have HB := Lib.hid hb
    clear hs hb
    by_cases hik : i < k
    · have hii : (i : Int) < (k : Int) := by omega
      go_wp2_with (first
        | (go_at_call 55
           refine (next_c (iterS b i) A' n' c' wr HS.out).mono ?_
           rintro e0 w2 ⟨A2, c2, rfl, hs2, hb2⟩
           have HS2 := Lib.hid hs2
           have HB2 := Lib.hid (bcall HB.out hb2)
           clear hs2 hb2))
      go_roundg (k - (i + 1))
      case measure => omega
      case rel => exact ⟨i + 1, A2, 32, c2, by omega, rfl, rfl, by go_num, HS2.out, HB2.out⟩
    · have hik2 : i = k := by omega
      subst hik2
      go_wp2_with fail
      go_ret2
      exact ⟨A', n', c', rfl, HS.out, HB.out⟩
theorem after_bad (A : Option Addr) (n c : Nat) (z : Int) (w : World) (hz : z < 0 ∨ 31 < z) :
    Calls Try.prog 42 #[.slice A n c, .int .i64 z] w fun e w' => e = .returned (.tuple #[.slice none 0 0, .int .i64 1]) ∧ w = w' := by
  have HW := Lib.hid (within_f z w hz)
  clear hz
  go_enter Try.func42, Try.ntmps42
  go_wp2_with (first
    | (go_at_call 53
       refine HW.out.mono ?_
       rintro e0 wx ⟨rfl, rfl⟩))
  go_ret2
  exact ⟨rfl, rfl⟩
end Go.Proofs.Ytlapgccfgkokcaa
