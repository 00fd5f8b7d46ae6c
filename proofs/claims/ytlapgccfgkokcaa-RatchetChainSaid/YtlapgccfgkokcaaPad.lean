/- What tag.pad does (contract). Conditions: the key lies in memory, at most 64 bytes. -/
import Derived.Test.YtlapgccfgkokcaaParts
import Derived.Laws.CopyOwn
import Derived.Laws.MakeOwn
set_option linter.unusedVariables false
set_option linter.unusedSimpArgs false
namespace Go.Proofs.Ytlapgccfgkokcaa
open Go.RowKit
attribute [local go_sem ↓] Go.wp_at_zero Go.wp_at_succ

def padK (key : List UInt8) (x : UInt8) : List UInt8 := (List.range 64).map fun i => key.getD i 0 ^^^ x
theorem padK_len (key : List UInt8) (x : UInt8) : (padK key x).length = 64 := by simp [padK]
theorem SlV.blk {w : World} {g n : Nat} {l : List UInt8} (h : UB w g 5 l) (hl : n = l.length) : SlV w (.slice (some ⟨g, 0, none⟩) n n) l := by
  subst hl
  refine ⟨_, _, rfl, Nat.le_refl _, by simp, fun hp => ⟨_, rfl, h.lt, fun j u hu => ?_⟩⟩
  rw [Go.WideShapes.add_plain, Nat.zero_add, Blk.cell h, List.getElem?_toArray]
  exact hu
theorem splice_map (L cs : List UInt8) (o : Nat) : splice (L.map u8v) o (cs.map u8v) = (splice L o cs).map u8v := by simp [splice]
theorem splice_key (key : List UInt8) (h : key.length ≤ 64) : splice (List.replicate 64 (0 : UInt8)) 0 key = (List.range 64).map fun i => key.getD i 0 := by
  refine List.ext_getElem? fun i => ?_
  simp only [splice, List.take_zero, List.nil_append, Nat.zero_add]
  by_cases h1 : i < key.length
  · rw [List.getElem?_append_left h1, List.getElem?_map, List.getElem?_range (by omega), List.getElem?_eq_getElem h1]
    show _ = some (key.getD i 0)
    rw [List.getD_eq_getElem?_getD, List.getElem?_eq_getElem h1]
    rfl
  · rw [List.getElem?_append_right (by omega)]
    by_cases h2 : i < 64
    · rw [List.getElem?_map, List.getElem?_range h2]
      show _ = some (key.getD i 0)
      rw [List.getD_eq_getElem?_getD, List.getElem?_eq_none (show key.length ≤ i by omega), List.getElem?_drop, List.getElem?_replicate, if_pos (by omega)]
      rfl
    · rw [List.getElem?_drop, List.getElem?_replicate, if_neg (by omega), List.getElem?_eq_none (by simp; omega)]
def zerosB (n : Nat) : List UInt8 := List.replicate n 0
theorem made_zeros (i : Nat) : madeCells #[.int .u8 0] i = ((zerosB i).map u8v).toArray := by
  apply Array.ext'
  simp [madeCells, zerosB, u8v, Nat.mod_one, List.map_const']
theorem run_make_bytes (i : Nat) (hi : i ≤ 1000) (w : World) : (Instr.makeSlice 27 (.int .i64 (i : Int)) (.int .i64 (i : Int))).run Try.prog w = .ok (.slice (some ⟨w.heap.size, 0, none⟩) i i) (w.alloc (.cells ((zerosB i).map u8v).toArray 5)) := by
  obtain ⟨iB, hiB, hz0, hz1, hz2⟩ := info_parts infoByte
  have := run_make w 27 5 iB _ Try.underlying27 hiB hz0 .i64 .i64 (i : Int) (i : Int) (by omega) (by omega) (by rw [hz2]; omega) (by omega)
  rw [hz1] at this
  simp only [Int.toNat_natCast, Nat.mul_one] at this
  rw [← made_zeros]
  exact this
theorem size5 : (Try.prog.info? 5).map (·.size) = some 1 := by kernel_rfl
set_option maxRecDepth 100000 in
set_option maxHeartbeats 1600000 in
theorem pad_c (key : List UInt8) (x : UInt8) (A : Option Addr) (n c : Nat) (w : World) (h : SlV w (.slice A n c) key) (hk : key.length ≤ 64) :
    Calls Try.prog 52 #[.slice A n c, .int .u8 (x.toNat : Int)] w fun e w' => e = .returned (.slice (some ⟨w.heap.size, 0, none⟩) 64 64) ∧ UB w' w.heap.size 5 (padK key x) ∧ Below w.heap.size w w' := by
  have HS := Lib.hid h
  obtain ⟨hn, hrd⟩ : n = key.length ∧ Reads w w.heap.size 1 A key.length (key.map u8v) := by
    obtain ⟨A', c', e, hc, hr⟩ := h
    injection e with e1 e2 e3
    subst e1
    exact ⟨e2, hr⟩
  have HN := Lib.hid hn
  have HKL := Lib.hid hk
  have HRD := Lib.hid hrd
  clear hn hrd h hk
  have hmk : ∀ wx : World, (Instr.makeSlice 27 (.int .i64 64) (.int .i64 64)).run Try.prog wx = .ok (.slice (some ⟨wx.heap.size, 0, none⟩) 64 64) (wx.alloc (.cells ((zerosB 64).map u8v).toArray 5)) := fun wx => run_make_bytes 64 (by decide) wx
  go_enter Try.func52, Try.ntmps52
  go_upto_region 2 with fail
  obtain ⟨w1, hw1⟩ : ∃ w1, w1 = w.alloc (.cells ((zerosB 64).map u8v).toArray 5) := ⟨_, rfl⟩
  rw [← hw1]
  have HU1 : Hid (UB w1 w.heap.size 5 (zerosB 64)) := by show UB _ _ _ _; rw [hw1]; exact Blk.new _ _ _
  have HB1 : Hid (Below w.heap.size w w1) := by show Below _ _ _; rw [hw1]; exact balloc (Below.refl _ _) _
  have HPOS : Hid (0 < (key.map u8v).length → (some ⟨w.heap.size, 0, none⟩ : Option Addr) = some ⟨w.heap.size, 0, none⟩ ∧ ∃ ad, A = some ad ∧ ∀ j v, (key.map u8v)[j]? = some v → w1.cell? (ad.add j) = some v) := fun hp => by
    rw [List.length_map] at hp
    obtain ⟨ad, e, hb, hc⟩ := HRD.out.2 hp
    exact ⟨rfl, ad, e, fun j v hv => by
      have := hc j v hv
      exact (HB1.out.cell (by rw [block_of_add]; exact hb)).trans this⟩
  clear hw1 hmk
  go_upto_region 3 with (first
    | (refine wpList_copy_splice rfl (.tmp 8) (.tmp 9) 27 27 rfl 5 Try.underlying27 size5 (some ⟨w.heap.size, 0, none⟩) A 64 64 n c rfl rfl w.heap.size 0 ((zerosB 64).map u8v) 5 HU1.out (key.map u8v) (by rw [List.length_map, HN.out]; exact (Nat.min_eq_left HKL.out).symm) HPOS.out (by rw [List.length_map, List.length_map, Nat.zero_add]; exact HKL.out) (u8_one key) w.heap.size w HB1.out (Nat.le_refl _) ?_
       intro w2 hg2 hb2
       have HU2 := Lib.hid (show UB w2 w.heap.size 5 ((List.range 64).map fun i => key.getD i 0) by have := hg2.out; rw [splice_map, zerosB, splice_key _ HKL.out] at this; exact this)
       have HB2 := Lib.hid hb2
       clear hg2 hb2))
  obtain ⟨K, hK⟩ : ∃ K : Nat → UInt8, K = fun i => key.getD i 0 := ⟨_, rfl⟩
  obtain ⟨F, hF⟩ : ∃ F : Nat → UInt8, F = fun i => key.getD i 0 ^^^ x := ⟨_, rfl⟩
  have HK := Lib.hid hK
  have HF := Lib.hid hF
  have HU3 : Hid (UB w2 w.heap.size 5 (upL 64 0 F K)) := by show UB _ _ _ _; rw [upL_zero, hK]; exact HU2.out
  clear hK hF HU2 HPOS HB1 HU1
  go_upto_region 4 with fail
  go_loopg [13] 64 (fun gg v13 wx => ∃ i : Nat, i ≤ 64 ∧ gg = 64 - i ∧ v13 = .int .i64 (i : Int) ∧ UB wx w.heap.size 5 (upL 64 i F K) ∧ Below w.heap.size w wx)
  case atStart => exact ⟨0, by omega, rfl, rfl, HU3.out, HB2.out⟩
  case round =>
    obtain ⟨i, hi, rfl, rfl, hu, hb⟩ := hrel
    clear HU3 HB2
    by_cases hi2 : i < 64
    · have hii : (i : Int) < 64 := by omega
      have c1 := hu.cell i (by rw [upL_len]; exact hi2)
      have f1 := hu.free i
      rw [upL_getD _ _ _ _ _ hi2, if_neg (by omega)] at c1
      obtain ⟨k, hk⟩ : ∃ k, k = K i := ⟨_, rfl⟩
      rw [← hk] at c1
      obtain ⟨y, hy⟩ : ∃ y, y = k ^^^ x := ⟨_, rfl⟩
      have hx := U8.xor k x
      rw [← hy] at hx
      have hFi : F i = y := by rw [HF.out, hy, hk, HK.out]
      have HFI := Lib.hid hFi
      have HU := Lib.hid hu
      have HB := Lib.hid hb
      clear hu hb hk hy hFi
      go_wp2_with fail
      go_roundg (64 - (i + 1))
      case measure => omega
      case rel =>
        refine ⟨i + 1, by omega, rfl, by go_num, ?_, bset HB.out (Nat.le_refl _) _⟩
        rw [← upL_set F K hi2, HFI.out]
        exact HU.out.set i y
    · have hi3 : i = 64 := by omega
      subst hi3
      have HU : Hid (UB wr w.heap.size 5 (padK key x)) := by show UB _ _ _ _; rw [padK, ← HF.out, ← upL_full 64 F K]; exact hu
      have HB := Lib.hid hb
      clear hu hb
      go_wp2_with fail
      go_ret
      exact ⟨rfl, HU.out, HB.out⟩
end Go.Proofs.Ytlapgccfgkokcaa
