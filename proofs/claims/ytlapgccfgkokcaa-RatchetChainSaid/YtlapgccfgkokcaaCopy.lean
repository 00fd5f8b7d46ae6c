/- What the program's Copy does (contract). Conditions: a stream. -/
import Derived.Test.YtlapgccfgkokcaaBlk
set_option linter.unusedVariables false
set_option linter.unusedSimpArgs false
namespace Go.Proofs.Ytlapgccfgkokcaa
open Go.RowKit
attribute [local go_sem ↓] Go.wp_at_zero Go.wp_at_succ

def zStr : List Value := z8.map u32v ++ [.slice none 0 0, .int .u64 0, .pointer none]
theorem info87 : (Try.prog.info? 87).map (·.size) = some 11 := by kernel_rfl
/-- The cells of a stream. -/
def strL (H : List UInt32) (v : Value) (n gc : Nat) : List Value := H.map u32v ++ [v, .int .u64 (n : Int), .pointer (some ⟨gc, 0, none⟩)]
theorem strL_len {H : List UInt32} (hH : H.length = 8) (v : Value) (n gc : Nat) : (strL H v n gc).length = 11 := by rw [strL, List.length_append, List.length_map, hH]; rfl
theorem strL_one (H : List UInt32) (A : Option Addr) (r c n gc : Nat) : (strL H (.slice A r c) n gc).toArray.all (·.oneCell') = true := by
  refine all_oneCell_toArray fun u hu => ?_
  rw [strL, List.mem_append] at hu
  rcases hu with hu | hu
  · exact u32_one _ u hu
  · simp only [List.mem_cons, List.not_mem_nil, or_false] at hu
    rcases hu with rfl | rfl | rfl <;> rfl
set_option maxRecDepth 100000 in
set_option maxHeartbeats 1600000 in
theorem copy_c (m : List UInt8) (v : Value) (B gs gc : Nat) (w : World) (hs : StrV w B gs gc v m) :
    Calls Try.prog 28 #[.pointer (some ⟨gs, 0, none⟩)] w fun e w' => e = .returned (.pointer (some ⟨w.heap.size, 0, none⟩)) ∧ (∃ v', StrV w' w.heap.size w.heap.size gc v' m) ∧ Below w.heap.size w w' := by
  have h8 := hS_len m (m.length / 64)
  obtain ⟨A0, c0, rfl⟩ := own_slice hs.2.1
  obtain ⟨r, hr⟩ : ∃ r, r = m.length % 64 := ⟨_, rfl⟩
  obtain ⟨H, hH⟩ : ∃ H, H = hS m (m.length / 64) := ⟨_, rfl⟩
  obtain ⟨N, hN⟩ : ∃ N, N = m.length % 18446744073709551616 := ⟨_, rfl⟩
  obtain ⟨R, hR⟩ : ∃ R, R = m.drop (64 * (m.length / 64)) := ⟨_, rfl⟩
  have hs1 : Blk w gs 87 (strL H (.slice A0 r c0) N gc).toArray := by rw [hH, hr, hN]; exact hs.1
  have hrow : w.ownsRow B 5 1 (.slice A0 r c0) r (R.map u8v) := by rw [hr, hR]; exact hs.2.1
  have hci := hs.2.2
  have hr64 : r < 64 := by omega
  rw [← hH] at h8
  obtain ⟨L, hL⟩ : ∃ L, L = strL H (.slice A0 r c0) N gc := ⟨_, rfl⟩
  have hLl : L.length = 11 := by rw [hL]; exact strL_len h8 _ _ _
  have HONE : Hid (L.toArray.all (·.oneCell') = true) := by show _ = _; rw [hL]; exact strL_one _ _ _ _ _ _
  rw [← hL] at hs1
  have HS := Lib.hid hs
  have HL := Lib.hid hL
  have HR := Lib.hid hr
  have HH := Lib.hid hH
  have HN := Lib.hid hN
  have HRE := Lib.hid hR
  have H8 := Lib.hid h8
  have HROW := Lib.hid hrow
  have HCI := Lib.hid hci
  have HS1 := Lib.hid hs1
  have HRG := Lib.hid (blk_range hs1)
  have HI : Hid ((Try.prog.info? 87).map (·.size) = some L.length) := by show _ = _; rw [hLl]; exact info87
  have HJ : Hid ((Try.prog.info? 87).map (·.size) = some L.toArray.size) := by show _ = _; rw [List.size_toArray, hLl]; exact info87
  have HZ : Hid (Blk (w.alloc (.cells zStr.toArray 87)) w.heap.size 87 zStr.toArray) := by show Blk _ _ _ _; exact Blk.new w _ _
  have HTH : Hid ((w.alloc (.cells zStr.toArray 87)).there w.heap.size 0 L.toArray.size) := by show World.there _ _ _ L.toArray.size; rw [show L.toArray.size = 11 by rw [List.size_toArray, hLl]]; exact blk_there HZ.out rfl
  have HLL := Lib.hid hLl
  clear hs hL hr hH hN hR h8 hrow hci hs1 hLl
  go_enter Try.func28, Try.ntmps28
  go_upto_region 2 with (first
    | ((with_reducible show wpList _ _ _ (⟨some 6, .load 87 (.tmp 5), _, _, _, _⟩ :: _) _ _); refine wpList_load_mid rfl 87 (.tmp 5) rfl gs 0 rfl L _ HRG.out Try.underlying87 rfl HI.out ?_)
    | ((with_reducible show wpList _ _ _ (⟨none, .store 87 (.tmp 3) (.tmp 6), _, _, _, _⟩ :: _) _ _); refine wpList_store_mid rfl 87 (.tmp 3) (.tmp 6) rfl w.heap.size 0 L.toArray rfl rfl HTH.out HJ.out HONE.out ?_))
  obtain ⟨w1, hw1⟩ : ∃ w1, w1 = (w.alloc (.cells zStr.toArray 87)).setCells w.heap.size 0 L := ⟨_, rfl⟩
  change Code.wp _ _ _ _ ((w.alloc (.cells zStr.toArray 87)).setCells w.heap.size 0 L)
  rw [← hw1]
  have hbel : Below w.heap.size w w1 := by rw [hw1]; exact below_setCells (balloc (Below.refl _ _) _) (Nat.le_refl _) _ _
  have hnew : Blk w1 w.heap.size 87 L.toArray := by rw [hw1]; exact blk_setAll HZ.out (by rw [HLL.out]; rfl)
  have hsb1 : SB w1 w.heap.size H (.slice A0 r c0) N gc := by unfold SB; rw [show (H.map u32v ++ [Value.slice A0 r c0, .int .u64 (N : Int), .pointer (some ⟨gc, 0, none⟩)]) = L from HL.out.symm]; exact hnew
  have hold : SB w1 gs H (.slice A0 r c0) N gc := by
    have := HS1.out.below hbel
    rw [HL.out] at this
    exact this
  have hbuf : w1.cell? ⟨gs, 8, none⟩ = some (.slice A0 r c0) := hold.buf H8.out
  have hrow1 := own_below HROW.out hbel
  have HRD : Hid (Reads w1 w1.heap.size 1 A0 r (R.map u8v)) := Reads.of_own hrow1
  have HB1 := Lib.hid hbel
  have HSB1 := Lib.hid hsb1
  have HBS : Hid (w.heap.size ≤ w1.heap.size) := hbel.size
  have HG : Hid (w.heap.size < w1.heap.size) := hsb1.lt
  have HCI1 : Hid (CI w1 gc) := HCI.out.below hbel
  obtain ⟨i5, hi5, hz0, hz1, hz2⟩ := info_parts infoByte
  clear hw1 hbel hnew hsb1 hold hrow1
  clear HS HL HROW HCI HS1 HRG HI HJ HZ HTH HONE HLL
  go_upto_region 3 with
   (at_builtin
    refine wpList_append_any _ rfl (.const (.slice none 0 0)) (.tmp 10) _ rfl w1.heap.size 5 i5 _ 1 1 Try.underlying27 hi5 hz0 hz1 hz2 rfl (by omega) (.slice none 0 0) 0 [] rfl (World.ownsRow_nil _ _ _ _)
      w1.heap.size A0 r c0 (R.map u8v) rfl HRD.out (u8_one _) (by simp only [maxLen]; omega) (by omega) (Nat.le_refl _) ?_
    intro v5 w5 hown5 hg5 hv5
    rw [Nat.zero_add, List.nil_append] at hown5
    obtain ⟨A5, c5, rfl⟩ := own_slice hown5
    have HO5 := Lib.hid hown5
    have HB5 : Hid (Below w1.heap.size w1 w5) := ⟨hg5.os, hg5.tape, hg5.output, hg5.size, fun k hk => hg5.block k hk (by simp [Value.ownBlock])⟩
    have HSB5 : Hid (SB w5 w.heap.size H (.slice A0 r c0) N gc) := HSB1.out.below HB5.out
    have hcl := HSB5.out.buf H8.out
    have hfz := HSB5.out.free 8
    clear hown5 hg5 hv5)
  go_wp2_with fail
  go_ret
  have hne : (Value.slice A5 r c5).ownBlock ≠ some w.heap.size := own_blk_ne HO5.out HSB5.out (by decide)
  have hB5 : Below w.heap.size w w5 := bcall HB1.out HB5.out
  refine ⟨rfl, ⟨.slice A5 r c5, ?_, ?_, ?_⟩, bset hB5 (Nat.le_refl _) _⟩
  · rw [← HH.out, ← HN.out]
    exact HSB5.out.setBuf H8.out _
  · rw [← HR.out, ← HRE.out]
    exact own_set (own_lower HO5.out (Nat.le_of_lt HG.out)) hne 8 _
  · refine (HCI1.out.below HB5.out).same (Below.heap_setCell _ _ _ _ ?_)
    show gc ≠ w.heap.size
    obtain ⟨cs, hcs⟩ := (HCI1.out.below HB5.out).blk
    rintro rfl
    have h1 : w5.heap[w.heap.size]? = _ := HSB5.out
    have h2 : w5.heap[w.heap.size]? = _ := hcs
    rw [h1] at h2
    injection h2 with h2
    injection h2 with _ h3
    exact absurd h3 (by decide)
end Go.Proofs.Ytlapgccfgkokcaa
