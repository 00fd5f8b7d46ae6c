/- What the laws' awake answers, and the closed law RingKnown. Conditions: none. -/
import Derived.Test.YtodcmnjimjjahaaKeys
import Derived.Lib.SlBytesConst
set_option linter.unusedVariables false
namespace Go.Proofs.Ytodcmnjimjjahaa
open Go.RowKit
attribute [local go_sem ↓] Go.wp_at_zero Go.wp_at_succ

theorem BytesV.lit (B : Nat) (w : World) (cs : Array Value) (fr : Nat × Nat) (bs : List UInt8) (hcs : cs.toList = bs.map u8v) : BytesV 5 B (w.alloc (.cells cs 5 fr)) (.slice (some ⟨w.heap.size, 0, none⟩) bs.length bs.length) bs := by
  refine ⟨_, _, rfl, Nat.le_refl _, ⟨by simp, fun hn => ⟨_, rfl, by simp, fun j u hu => ?_⟩⟩, fun _ ad e => ?_⟩
  · rw [Go.WideShapes.add_plain, Nat.zero_add, World.cell?_alloc_mark, ← Array.getElem?_toList, hcs]; exact hu
  · injection e with e
    subst e
    refine .inr ⟨cs, fr, ?_⟩
    show (w.heap.push _)[w.heap.size]? = _
    simp
theorem Fr.far {T : TypeId → Bool} {w w' : World} (h : Fr w.heap.size T w w') : Below w.heap.size w w' := h.below (Nat.le_refl _)
set_option maxHeartbeats 1600000 in
theorem awake_c (w : World) : Calls Try.prog 8 #[] w fun e w' => e = .returned (.bool true) ∧ Below w.heap.size w w' := by
  have kc := fun (w : World) (C : Array Value) (n c : Nat) => Lib.run_convert_bytes_const (P := Try.prog) w 27 5 C n c Try.underlying27 Try.underlying5
  go_enter Try.func8, Try.ntmps8
  go_wp2_with fail
  refine (new_c w).mono ?_
  rintro e0 w1 ⟨rfl, hw1⟩
  have hr1 : RingK w1 w.heap.size w.heap.size [] := by rw [hw1]; exact RingK.new w _ (Nat.le_refl _)
  have hf1 : Fr w.heap.size rt w w1 := by rw [hw1]; exact (Fr.refl _ _ _).alloc _
  have HR1 := Lib.hid hr1
  have HF1 := Lib.hid hf1
  clear hw1 hr1 hf1
  go_wp2_with fail
  have hr2 := HR1.out.alloc (.cells #[.int .u8 120] 5 (1, 2))
  have hf2 := HF1.out.alloc (.cells #[.int .u8 120] 5 (1, 2))
  have hv2 := BytesV.lit w.heap.size w1 #[.int .u8 120] (1, 2) [120] rfl
  refine (addK_c (s := 5) hr2 hv2 (by decide) (by decide) (by decide)).mono ?_
  rintro e0 w2 ⟨rfl, hr3, hf3⟩
  have HR3 := Lib.hid hr3
  have HF3 := Lib.hid (hf2.trans hf3)
  clear hr2 hf2 hv2 hr3 hf3
  go_wp2_with fail
  refine (getK_hit (bs := [120]) HR3.out (by decide) (by decide) (by decide)).mono ?_
  rintro e0 w3 ⟨A, c, rfl, ho, hv, hb⟩
  have hs : (convert 27 9 (.slice A 1 c)).run Try.prog w3 = .ok (.string ⟨#[120]⟩) w3 := str_of hv
  have HR4 := Lib.hid (HR3.out.below hb)
  have HF4 := Lib.hid (HF3.out.call hb)
  clear ho hv hb
  go_wp2_with fail
  refine (lenK_c HR4.out).mono ?_
  rintro e0 w4 ⟨rfl, rfl⟩
  go_wp2
  go_ret
  exact ⟨rfl, HF4.out.far⟩

def ksN (k : Nat) : List Key := (List.range k).map fun j => (j, [UInt8.ofNat j])
def ksA : List Key := addK (ksN 64) (0, [97, 103, 97, 105, 110])
def ksB : List Key := addK ksA (64, [])
theorem ksN_step : ∀ k, k < 64 → addK (ksN k) (k, [UInt8.ofNat k]) = ksN (k + 1) := by decide +kernel
theorem ksN_len (k : Nat) : (ksN k).length = k := by simp [ksN]
theorem ksA_len : ksA.length = 64 := by decide +kernel
theorem ksB_len : ksB.length = 64 := by decide +kernel
theorem ksA_0 : getK ksA 0 = some [97, 103, 97, 105, 110] := by decide +kernel
theorem ksB_1 : getK ksB 1 = none := by decide +kernel
theorem ksB_64 : getK ksB 64 = some [] := by decide +kernel
theorem ksB_2 : getK ksB 2 = some [2] := by decide +kernel
theorem ksN_0 : ksN 0 = [] := rfl
theorem ksA_def : addK (ksN 64) (0, [97, 103, 97, 105, 110]) = ksA := rfl
theorem ksB_def : addK ksA (64, []) = ksB := rfl
attribute [irreducible] ksN ksA ksB
set_option maxHeartbeats 400000 in
theorem known_walk (w : World) : Calls Try.prog 3 #[] w fun e w' => e = .returned (.bool true) ∧ Below w.heap.size w w' := by
  have kc := fun (w : World) (C : Array Value) (n c : Nat) => Lib.run_convert_bytes_const (P := Try.prog) w 27 5 C n c Try.underlying27 Try.underlying5
  go_enter Try.func3, Try.ntmps3
  go_wp2_with fail
  refine (new_c w).mono ?_
  rintro e0 w1 ⟨rfl, hw1⟩
  have hr1 : RingK w1 w.heap.size w.heap.size [] := by rw [hw1]; exact RingK.new w _ (Nat.le_refl _)
  have hf1 : Fr w.heap.size rt w w1 := by rw [hw1]; exact (Fr.refl _ _ _).alloc _
  clear hw1
  go_wp2_with fail
  refine (awake_c w1).mono ?_
  rintro e0 w2 ⟨rfl, hb2⟩
  replace hr1 := hr1.below hb2
  replace hf1 := hf1.call hb2
  have HR1 := Lib.hid hr1
  have HF1 := Lib.hid hf1
  clear hr1 hf1 hb2
  go_wp2_with fail
  go_loopg [2] 64 (fun gg i wr => ∃ k, k ≤ 64 ∧ gg = 64 - k ∧ i = .int .i64 k ∧ RingK wr w.heap.size w.heap.size (ksN k) ∧ Fr w.heap.size rt w wr)
  case atStart => exact ⟨0, by omega, rfl, rfl, by rw [ksN_0]; exact HR1.out, HF1.out⟩
  case round =>
    obtain ⟨k, hk, rfl, rfl, hrk, hfk⟩ := hrel
    have HRK := Lib.hid hrk
    have HFK := Lib.hid hfk
    clear hrk hfk
    by_cases hkn : k < 64
    · have hw16 : IntKind.u16.wrap (k : Int) = (k : Int) := by rw [IntKind.wrap_u16]; omega
      have hw8 : IntKind.u8.wrap (k : Int) = (k : Int) := by rw [IntKind.wrap_u8]; omega
      go_wp2_with fail
      have hra := HRK.out.alloc (.cells #[.int .u8 (k : Int)] 5)
      have hva := BytesV.blk (B := w.heap.size) (bs := [UInt8.ofNat k]) (Blk.new wr 5 #[.int .u8 (k : Int)]) (by show [Value.int .u8 (k : Int)] = [u8v (UInt8.ofNat k)]; simp [u8v]; omega)
      refine (addK_c (s := k) hra hva (by simp) (by omega) (by rw [ksN_len]; omega)).mono ?_
      rintro e0 w3 ⟨rfl, hr3, hf3⟩
      rw [ksN_step k hkn] at hr3
      have HR3 := Lib.hid hr3
      have HF3 := Lib.hid ((HFK.out.alloc _).trans hf3)
      clear hra hva hr3 hf3
      go_wp2
      go_roundg (64 - (k + 1))
      case measure => omega
      case rel => exact ⟨k + 1, by omega, rfl, by go_num, HR3.out, HF3.out⟩
    · obtain rfl : k = 64 := by omega
      go_wp2_with fail
      have hra := HRK.out.alloc (.cells #[.int .u8 97, .int .u8 103, .int .u8 97, .int .u8 105, .int .u8 110] 5 (5, 6))
      have hva := BytesV.lit w.heap.size wr #[.int .u8 97, .int .u8 103, .int .u8 97, .int .u8 105, .int .u8 110] (5, 6) [97, 103, 97, 105, 110] rfl
      refine (addK_c (s := 0) hra hva (by simp) (by omega) (by rw [ksN_len]; omega)).mono ?_
      rintro e0 w3 ⟨rfl, hr3, hf3⟩
      rw [ksA_def] at hr3
      have HR3 := Lib.hid hr3
      have HF3 := Lib.hid ((HFK.out.alloc _).trans hf3)
      clear hra hva hr3 hf3
      go_wp2_with fail
      refine (getK_hit HR3.out (by rw [ksA_len]; omega) (by simp) ksA_0).mono ?_
      rintro e0 w4 ⟨A, c, rfl, ho, hv, hb⟩
      have HR4 := Lib.hid (HR3.out.below hb)
      have HF4 := Lib.hid (HF3.out.call hb)
      have HV4 := Lib.hid hv
      clear ho hv hb
      go_wp2_with fail
      refine (lenK_c HR4.out).mono ?_
      rintro e0 w5 ⟨rfl, rfl⟩
      rw [ksA_len]
      go_wp2_with fail
      refine (addK_c (s := 64) HR4.out (BytesV.nil 5 w.heap.size _) (by simp) (by omega) (by rw [ksA_len]; omega)).mono ?_
      rintro e0 w6 ⟨rfl, hr6, hf6⟩
      rw [ksB_def] at hr6
      have HR6 := Lib.hid hr6
      have HF6 := Lib.hid (HF4.out.trans hf6)
      have HV6 := Lib.hid (HV4.out.fr hf6 rfl)
      clear hr6 hf6
      go_wp2_with fail
      refine (getK_miss HR6.out (by rw [ksB_len]; omega) ksB_1).mono ?_
      rintro e0 w7 ⟨rfl, hb⟩
      have HR7 := Lib.hid (HR6.out.below hb)
      have HF7 := Lib.hid (HF6.out.call hb)
      have HV7 := Lib.hid (HV6.out.below hb)
      clear hb
      go_wp2_with fail
      refine (getK_hit HR7.out (by rw [ksB_len]; omega) (by simp) ksB_64).mono ?_
      rintro e0 w8 ⟨A8, c8, rfl, ho8, hv8, hb⟩
      have HR8 := Lib.hid (HR7.out.below hb)
      have HF8 := Lib.hid (HF7.out.call hb)
      have HV8 := Lib.hid (HV7.out.below hb)
      clear hb ho8 hv8
      go_wp2_with fail
      refine (getK_hit HR8.out (by rw [ksB_len]; omega) (by simp) ksB_2).mono ?_
      rintro e0 w9 ⟨A9, c9, rfl, ho9, hv9, hb⟩
      have HR9 := Lib.hid (HR8.out.below hb)
      have HF9 := Lib.hid (HF8.out.call hb)
      have hs : (convert 27 9 (.slice A 5 c)).run Try.prog w9 = .ok (.string ⟨#[97, 103, 97, 105, 110]⟩) w9 := str_of (HV8.out.below hb)
      clear hb ho9 hv9
      go_wp2_with fail
      refine (lenK_c HR9.out).mono ?_
      rintro e0 w10 ⟨rfl, rfl⟩
      rw [ksB_len]
      go_wp2
      go_ret
      exact ⟨rfl, HF9.out.far⟩
end Go.Proofs.Ytodcmnjimjjahaa
