/- What the reference's After does (contract). Conditions: the base lies in memory; it is no more than fits. -/
import Derived.Test.YtlapgccfgkokcaaRefExp
set_option linter.unusedVariables false
set_option linter.unusedSimpArgs false
namespace Go.Proofs.Ytlapgccfgkokcaa
open Go.RowKit
attribute [local go_sem ↓] Go.wp_at_zero Go.wp_at_succ

set_option maxRecDepth 100000 in
set_option maxHeartbeats 3200000 in
theorem rafter_c (b : List UInt8) (A : Option Addr) (n c k : Nat) (w : World) (h : SlV w (.slice A n c) b) (hl : n ≤ 140737488353000) (hk : k ≤ 31) :
    Calls Try.prog 43 #[.slice A n c, .int .i64 (k : Int)] w fun e w' => ∃ A' n' c', e = .returned (.tuple #[.slice A' n' c', .int .i64 0]) ∧ SlV w' (.slice A' n' c') (iterS b k) ∧ Below w.heap.size w w' := by
  have kc := fun (w : World) (C : Array Value) (n c : Nat) => Lib.run_convert_bytes_const (P := Try.prog) w 27 5 C n c Try.underlying27 Try.underlying5
  obtain ⟨i5, hi5, hz0, hz1, hz2⟩ := info_parts infoByte
  have H0 := Lib.hid h
  have HN := Lib.hid h.num
  clear h
  have hg1 : ¬ (k : Int) < 0 := by omega
  have hg2 : ¬ (31 : Int) < (k : Int) := by omega
  have hg3 : decide ((31 : Int) < (k : Int)) = false := by simp; omega
  have HRD : Hid (Reads (w.alloc (.cells #[] 5)) (w.alloc (.cells #[] 5)).heap.size 1 A n (b.map u8v)) := (H0.out.below (balloc (Below.refl _ _) _)).rd
  go_enter Try.func43, Try.ntmps43
  go_upto_region 5 with
   (at_builtin
    refine wpList_append_any _ rfl (.tmp 15) (.tmp 16) _ rfl w.heap.size 5 i5 _ 1 1 Try.underlying27 hi5 hz0 hz1 hz2 rfl (by omega) (.slice (some ⟨w.heap.size, 0, none⟩) 0 0) 0 [] rfl (own_empty w _ _)
      _ A n c (b.map u8v) rfl HRD.out (u8_one b) (by simp only [maxLen]; omega) (by omega) (by simp) ?_
    intro v1 w1 hown1 hg1 hv1
    rw [Nat.zero_add, List.nil_append] at hown1
    obtain ⟨A1, c1, rfl⟩ := own_slice hown1
    have HS1 : Hid (SlV w1 (.slice A1 n c1) b) := SlV.own (base := w.heap.size) (by unfold ByteRow; rw [← HN.out]; exact hown1)
    have HB1 : Hid (Below w.heap.size w w1) := fresh_below hg1
    clear hown1 hg1 hv1)
  clear hg1 hg2 hg3
  go_loopg [6, 7] k (fun gg v6 v7 wx => ∃ i A' n' c', i ≤ k ∧ gg = k - i ∧ n' ≤ 140737488353000 ∧ v6 = .slice A' n' c' ∧ v7 = .int .i64 ((i : Nat) : Int) ∧ SlV wx (.slice A' n' c') (iterS b i) ∧ Below w.heap.size w wx)
  case atStart => exact ⟨0, A1, n, c1, Nat.zero_le _, rfl, hl, rfl, rfl, HS1.out, HB1.out⟩
  case round =>
    obtain ⟨i, A', n', c', hi, rfl, hn', rfl, rfl, hs, hb⟩ := hrel
    clear HS1 HB1
    have HS := Lib.hid hs
    have HB := Lib.hid hb
    clear hs hb
    by_cases hik : i < k
    · have hii : (i : Int) < (k : Int) := by omega
      obtain ⟨O, hO⟩ : ∃ O, O = hmacS [] (iterS b i) := ⟨_, rfl⟩
      have hOl : O.length = 32 := by rw [hO]; exact hmacS_len _ _
      have HX : Hid (iterS b (i + 1) = expandS O label18 32) := by show _ = _; rw [hO]; rfl
      have hxt := rextract_c [] (iterS b i) none A' 0 n' 0 c' wr (SlV.nil _) HS.out (by decide) (by omega)
      rw [← hO] at hxt
      have HXT := Lib.hid hxt
      have HOL := Lib.hid hOl
      have HJ := Lib.hid (infoO hOl)
      clear hO hOl hxt
      go_upto_region 8 with (first
        | (go_at_call 38
           refine HXT.out.mono ?_
           rintro e0 w2 ⟨rfl, hb2⟩
           have HU2 : Hid (UB (w2.alloc (.cells (z32.map u8v).toArray 24)) w2.heap.size 24 z32) := Blk.new _ _ _
           have HTH : Hid ((w2.alloc (.cells (z32.map u8v).toArray 24)).there w2.heap.size 0 (O.map u8v).toArray.size) := there32 HU2.out rfl HOL.out
           have HB2 : Hid (Below w.heap.size w w2) := bcall HB.out hb2
           clear hb2)
        | ((with_reducible show wpList _ _ _ (⟨none, .store 24 (.tmp 8) (.tmp 24), _, _, _, _⟩ :: _) _ _); refine wpList_store_mid rfl 24 (.tmp 8) (.tmp 24) rfl w2.heap.size 0 (O.map u8v).toArray rfl rfl HTH.out HJ.out (bytes_one _) ?_))
      obtain ⟨w3, hw3⟩ : ∃ w3, w3 = (w2.alloc (.cells (z32.map u8v).toArray 24)).setCells w2.heap.size 0 (O.map u8v) := ⟨_, rfl⟩
      change Code.wp _ _ _ _ ((w2.alloc (.cells (z32.map u8v).toArray 24)).setCells w2.heap.size 0 (O.map u8v))
      have HU3 : Hid (UB w3 w2.heap.size 24 O) := by show UB _ _ _ _; rw [hw3]; exact blk_setAll HU2.out (by rw [List.length_map, HOL.out]; rfl)
      have HB3 : Hid (Below w.heap.size w w3) := by show Below _ _ _; rw [hw3]; exact below_setCells (balloc HB2.out _) HB2.out.size _ _
      rw [← hw3]
      clear hw3 HU2 HTH HJ HXT HB2
      go_wp2_with (first
        | (go_at_call 39
           refine (rexpand_c O label18 _ _ _ _ _ _ 32 _ ((SlV.arr HU3.out HOL.out).below (balloc (Below.refl _ _) _)) (SlV.lit w3 _ _ 18 _ rfl rfl) (by decide) (by decide) (by decide)).mono ?_
           rintro e0 w4 ⟨A4, c4, rfl, hs4, hb4⟩
           have HB4 : Hid (Below w.heap.size w w4) := bcall (balloc HB3.out _) hb4
           have HS4 : Hid (SlV w4 (.slice A4 32 c4) (iterS b (i + 1))) := by show SlV _ _ _; rw [HX.out]; exact hs4
           clear hb4 hs4))
      go_roundg (k - (i + 1))
      case measure => omega
      case rel => exact ⟨i + 1, A4, 32, c4, by omega, rfl, by decide, rfl, by go_num, HS4.out, HB4.out⟩
    · have hik2 : i = k := by omega
      subst hik2
      go_wp2_with fail
      go_ret2
      exact ⟨A', n', c', rfl, HS.out, HB.out⟩
theorem rafter_bad (A : Option Addr) (n c : Nat) (z : Int) (w : World) (hz : z < 0 ∨ 31 < z) :
    Calls Try.prog 43 #[.slice A n c, .int .i64 z] w fun e w' => e = .returned (.tuple #[.slice none 0 0, .int .i64 1]) ∧ w = w' := by
  rcases hz with hz | hz
  · go_enter Try.func43, Try.ntmps43
    go_wp2_with fail
    go_ret2
    exact ⟨rfl, rfl⟩
  · have h2 : ¬ z < 0 := by omega
    go_enter Try.func43, Try.ntmps43
    go_wp2_with fail
    go_ret2
    exact ⟨rfl, rfl⟩
end Go.Proofs.Ytlapgccfgkokcaa
