/- The walk of StreamTwice (it returns true). -/
import Derived.Test.YtklkehpcifnfkaaAwake5
import Derived.Test.YtklkehpcifnfkaaApartW
import Derived.Test.YtklkehpcifnfkaaStr
import Derived.Deep.QuietTactic
import Derived.BigQuiet
set_option linter.unusedVariables false
set_option linter.unusedSimpArgs false
namespace Go.Proofs.Ytklkehpcifnfkaa
open Go.RowKit
attribute [local go_sem ↓] Go.wp_at_zero Go.wp_at_succ

theorem crypt_n (W first b : List UInt8) (g a n : Nat) (A : Option Addr) (c : Nat) (w : World) (hk : KeyP w g W) (hf : first.length = 16) (ha : a ≤ 1099511627776) (hr : Reads w w.heap.size 1 A n (b.map u8v)) (hn : b.length = n) (hb : n ≤ 1000) :
    Calls Try.prog 23 #[.pointer (some ⟨g, 0, none⟩), .agg (first.map u8v).toArray, .int .i64 (a : Int), .slice A n c] w fun e w' =>
      e = .returned (.tuple #[.slice (some ⟨w.heap.size + 1, 0, none⟩) n n, .int .i64 0]) ∧ BB w' (w.heap.size + 1) 5 (cryptS W first a b) ∧ Below w.heap.size w w' := by
  subst hn
  exact crypt_c W first b g a A c w hk hf ha hr hb
theorem same_n {A1 A2 : Option Addr} {c1 c2 n m : Nat} {w : World} {b1 b2 : List UInt8} (h1 : Reads w w.heap.size 1 A1 n (b1.map u8v)) (h2 : Reads w w.heap.size 1 A2 m (b2.map u8v)) (hn : b1.length = n) (hm : b2.length = m) :
    Calls Try.prog 26 #[.slice A1 n c1, .slice A2 m c2] w fun e w' => e = .returned (.bool (b1 == b2)) ∧ w = w' := by
  subst hn hm
  exact same_c h1 h2
theorem cryptS_getD (W first : List UInt8) (a : Nat) (b : List UInt8) (i : Nat) (hi : i < b.length) : (cryptS W first a b).getD i 0 = cryptF W first a b i := by
  simp [cryptS, List.getD_eq_getElem?_getD, hi]
theorem cryptS_twice (W first : List UInt8) (a : Nat) (b : List UInt8) : cryptS W first a (cryptS W first a b) = b := by
  refine List.ext_getElem? fun i => ?_
  by_cases hi : i < b.length
  · have e : cryptF W first a (cryptS W first a b) i = b.getD i 0 := by
      rw [cryptF, cryptS_getD _ _ _ _ _ hi, cryptF, UInt8.xor_assoc]
      simp
    show ((List.range _).map _)[i]? = _
    rw [cryptS_len, List.getElem?_map, List.getElem?_range hi, List.getElem?_eq_getElem hi]
    simp only [Option.map_some, e, List.getD_eq_getElem?_getD, List.getElem?_eq_getElem hi, Option.getD_some]
  · rw [List.getElem?_eq_none (by rw [cryptS_len, cryptS_len]; omega), List.getElem?_eq_none (by omega)]
theorem zerosB_getD (n i : Nat) : (zerosB n).getD i 0 = 0 := by
  rw [zerosB, List.getD_eq_getElem?_getD]
  by_cases h : i < n <;> simp [List.getElem?_replicate, h]
theorem cryptS_zero (W first : List UInt8) (a : Nat) (b : List UInt8) (i : Nat) (hi : i < b.length) :
    (cryptS W first a b).getD i 0 = b.getD i 0 ^^^ (cryptS W first a (zerosB b.length)).getD i 0 := by
  rw [cryptS_getD _ _ _ _ _ hi, cryptS_getD _ _ _ _ _ (by rw [zerosB_len]; exact hi), cryptF, cryptF, zerosB_getD, UInt8.zero_xor]
set_option maxRecDepth 100000 in
set_option maxHeartbeats 3200000 in
theorem twice_walk (kb first plain : List UInt8) (a c : Nat) (A : Option Addr) (w : World) (hkb : kb.length = 32) (hf : first.length = 16) (ha : a ≤ 4294967295) (hr : Reads w w.heap.size 1 A plain.length (plain.map u8v)) :
    Calls Try.prog 10 #[.agg (kb.map u8v).toArray, .agg (first.map u8v).toArray, .int .u32 (a : Int), .slice A plain.length c] w fun e w' => e = .returned (.bool true) ∧ Below w.heap.size w w' := by
  obtain ⟨n, hn⟩ : ∃ n, n = plain.length := ⟨_, rfl⟩
  have HKB := Lib.hid hkb
  have HF := Lib.hid hf
  have HR : Hid (Reads w w.heap.size 1 A n (plain.map u8v)) := by show Reads _ _ _ _ _ _; rw [hn]; exact hr
  have HN := Lib.hid hn
  have hai : (a : Int) ≤ 4294967295 := by omega
  have hai0 : (0 : Int) ≤ (a : Int) := Int.natCast_nonneg a
  rw [← hn]
  clear hkb hf ha hr hn
  go_enter Try.func10, Try.ntmps10
  go_upto_region 1 with (fail)
  have h0 := (BB.new w 37 kb).alloc (.cells (first.map u8v).toArray 23)
  have h1 := BB.new (w.alloc (.cells (kb.map u8v).toArray 37)) 23 first
  simp only [World.size_alloc] at h1
  have HB0 := Lib.hid (balloc (balloc (Below.refl w.heap.size w) (.cells (kb.map u8v).toArray 37)) (.cells (first.map u8v).toArray 23))
  have H0 := Lib.hid h0
  have H1 := Lib.hid h1
  clear h0 h1
  generalize ((w.alloc (Obj.cells (kb.map u8v).toArray 37)).alloc (.cells (first.map u8v).toArray 23)) = w0 at *
  go_wp2_with fail
  have hkey := key_c kb (some ⟨w.heap.size, 0, none⟩) 32 w0 (by rw [HKB.out]; decide) (by rw [HKB.out]; exact H0.out.reads HKB.out) (by rw [HKB.out]; decide)
  rw [HKB.out] at hkey
  refine hkey.mono ?_
  rintro e0 w1 ⟨rfl, hk, hb1⟩
  obtain ⟨g, hg⟩ : ∃ g, g = w0.heap.size := ⟨_, rfl⟩
  obtain ⟨W, hW⟩ : ∃ W, W = keyS kb := ⟨_, rfl⟩
  rw [← hg, ← hW] at hk
  rw [← hg]
  have HK1 := Lib.hid hk
  have HB1 := Lib.hid (bcall HB0.out hb1)
  have HF1 := Lib.hid (H1.out.below hb1)
  clear hkey hk hb1 hg hW
  go_wp2_with fail
  refine (awake5_c _).mono ?_
  rintro e0 w2 ⟨rfl, hb2⟩
  have HK2 := Lib.hid (HK1.out.below hb2)
  have HB2 := Lib.hid (bcall HB1.out hb2)
  have HF2 := Lib.hid (HF1.out.below hb2)
  clear hb2
  by_cases hbig : 1000 < n
  · have hbi : (1000 : Int) < (n : Int) := by omega
    go_wp2
    go_ret
    exact ⟨rfl, HB2.out⟩
  have hni : (n : Int) ≤ 1000 := by omega
  have hnn : n ≤ 1000 := by omega
  clear hbig
  have HR2 := Lib.hid (HR.out.to_ HB2.out)
  have HRG2 := Lib.hid (HF2.out.range)
  have HI : Hid ((Try.prog.info? 23).map (·.size) = some (first.map u8v).length) := by show _ = _; rw [List.length_map, HF.out]; exact info23
  obtain ⟨X, hX⟩ : ∃ X, X = cryptS W first a plain := ⟨_, rfl⟩
  obtain ⟨Z, hZ⟩ : ∃ Z, Z = cryptS W first a (zerosB n) := ⟨_, rfl⟩
  have HXL : Hid (X.length = n) := by show _ = _; rw [hX, cryptS_len]; exact HN.out.symm
  have HZL : Hid (Z.length = n) := by show _ = _; rw [hZ, cryptS_len, zerosB_len]
  have HXY : Hid (cryptS W first a X = plain) := by show _ = _; rw [hX]; exact cryptS_twice _ _ _ _
  have HXZ : Hid (∀ i, i < n → X.getD i 0 = plain.getD i 0 ^^^ Z.getD i 0) := by
    show ∀ i, _ → _
    intro i hi
    rw [hX, hZ, HN.out]
    exact cryptS_zero _ _ _ _ _ (by rw [← HN.out]; exact hi)
  have HX := Lib.hid hX
  have HZ := Lib.hid hZ
  clear hX hZ
  go_upto_region 7 with (first
    | (refine wpList_load_mid rfl 23 (.tmp 5) rfl (w.heap.size + 1) 0 rfl (first.map u8v) _ HRG2.out Try.underlying23 rfl HI.out ?_)
    | (go_at_call 23
       refine (crypt_n W first plain g a n A c w2 HK2.out HF.out (by omega) HR2.out HN.out.symm hnn).mono ?_
       rintro e0 w3 ⟨rfl, ho3, hb3⟩
       rw [← HX.out] at ho3
       have HO3 := Lib.hid ho3
       have HB3 := Lib.hid (bcall HB2.out hb3)
       have HK3 := Lib.hid (HK2.out.below hb3)
       have HF3 := Lib.hid (HF2.out.below hb3)
       have HR3 := Lib.hid (HR2.out.to_ hb3)
       have HRG3 := Lib.hid (HF3.out.range)
       obtain ⟨gx, hgx⟩ : ∃ gx, gx = w2.heap.size + 1 := ⟨_, rfl⟩
       rw [← hgx] at HO3 ⊢
       clear ho3 hb3 hgx))
  go_upto_region 8 with (first
    | (refine wpList_load_mid rfl 23 (.tmp 5) rfl (w.heap.size + 1) 0 rfl (first.map u8v) _ HRG3.out Try.underlying23 rfl HI.out ?_)
    | (go_at_call 23
       refine (crypt_n W first X g a n (some ⟨gx, 0, none⟩) n w3 HK3.out HF.out (by omega) (HO3.out.reads HXL.out) HXL.out hnn).mono ?_
       rintro e0 w4 ⟨rfl, ho4, hb4⟩
       rw [HXY.out] at ho4
       have HY4 := Lib.hid ho4
       have HO4 := Lib.hid (HO3.out.below hb4)
       have HB4 := Lib.hid (bcall HB3.out hb4)
       have HK4 := Lib.hid (HK3.out.below hb4)
       have HF4 := Lib.hid (HF3.out.below hb4)
       have HR4 := Lib.hid (HR3.out.to_ hb4)
       have HRG4 := Lib.hid (HF4.out.range)
       obtain ⟨gy, hgy⟩ : ∃ gy, gy = w3.heap.size + 1 := ⟨_, rfl⟩
       rw [← hgy] at HY4 ⊢
       clear ho4 hb4 hgy))
  have hmk : ∀ wx : World, (Instr.makeSlice 22 (.int .i64 n) (.int .i64 n)).run Try.prog wx = .ok (.slice (some ⟨wx.heap.size, 0, none⟩) n n) (wx.alloc (.cells ((zerosB n).map u8v).toArray 5)) := fun wx => run_make_bytes n hnn wx
  have hu := Try.underlying23
  have hi := HI.out
  have K : Hid (∀ w', Below w4.heap.size w4 w' → w'.rangeAt (w.heap.size + 1) 0 (first.map u8v) ∧ Below w4.heap.size w4 w') := fun w' hb => ⟨(HF4.out.below hb).range, hb⟩
  have k0 := Below.refl w4.heap.size w4
  have hwa := wrap64 a (by omega)
  go_region_held3 (fun w' => w'.rangeAt (w.heap.size + 1) 0 (first.map u8v) ∧ Below w4.heap.size w4 w')
    (first | exact K.out _ (by assumption) | exact K.out _ (by repeat (first | assumption | refine bdrew ?_ | refine balloc ?_ _)))
    (first
      | (go_at_call 23
         have kz := (BB.new w4 5 (zerosB n)).drew
         have kb := bdrew (balloc (Below.refl w4.heap.size w4) (.cells ((zerosB n).map u8v).toArray 5))
         refine (crypt_n W first (zerosB n) g a n (some ⟨w4.heap.size, 0, none⟩) n _ (HK4.out.below kb) HF.out (by omega) (kz.reads (zerosB_len n)) (zerosB_len n) hnn).mono ?_
         rintro e0 w5 ⟨rfl, ho5, hb5⟩
         have kW := bcall kb hb5))
  rw [← HZ.out] at ho5
  obtain ⟨gz, hgz⟩ : ∃ gz, gz = (w4.alloc (Obj.cells (List.map u8v (zerosB n)).toArray 5)).heap.size + 1 := ⟨_, rfl⟩
  have HZ5 : Hid (BB w5 gz 5 Z) := by show BB _ _ _ _; rw [hgz]; exact ho5
  rw [show w4.heap.size + 1 + 1 = gz from by rw [hgz, World.size_alloc]]
  have HX5 := Lib.hid (HO4.out.below kW)
  have HY5 := Lib.hid (HY4.out.below kW)
  have HR5 := Lib.hid (HR4.out.to_ kW)
  have HB5 := Lib.hid (bcall HB4.out kW)
  clear hgz ho5 hb5 kW kz kb k0 hwa hmk hu hi
  go_upto_region 12 with (fail)
  go_loopg [16] n (fun gg v16 wr => ∃ i m : Nat, i ≤ n ∧ gg = n - i ∧ v16 = .int .i64 (i : Int) ∧ wr = w5.drewN m)
  case atStart => exact ⟨0, 0, by omega, rfl, rfl, rfl⟩
  case round =>
    obtain ⟨i, m, hi, rfl, rfl, rfl⟩ := hrel
    by_cases hi2 : i < n
    · have hii : (i : Int) < (n : Int) := by omega
      obtain ⟨bb, off, rfl, hbb, hcell⟩ := head_cells (bs := plain) (by rw [← HN.out]; exact HR5.out) (by rw [← HN.out]; omega)
      have cb := hcell i (by rw [← HN.out]; exact hi2)
      have cx := HX5.out.cell i (by rw [HXL.out]; exact hi2)
      have cz := HZ5.out.cell i (by rw [HZL.out]; exact hi2)
      rw [HXZ.out i hi2] at cx
      obtain ⟨p, hp⟩ : ∃ p, p = plain.getD i 0 := ⟨_, rfl⟩
      obtain ⟨z, hz⟩ : ∃ z, z = Z.getD i 0 := ⟨_, rfl⟩
      rw [← hp] at cb cx
      rw [← hz] at cz cx
      have hxor := U8.xor p z
      obtain ⟨y, hy⟩ : ∃ y, y = p ^^^ z := ⟨_, rfl⟩
      rw [← hy] at hxor cx
      have hcb : (w5.drewN m).cell? ⟨bb, off + i, none⟩ = some (.int .u8 (p.toNat : Int)) := cb
      have hcx : (w5.drewN m).cell? ⟨gx, i, none⟩ = some (.int .u8 (y.toNat : Int)) := cx
      have hcz : (w5.drewN m).cell? ⟨gz, i, none⟩ = some (.int .u8 (z.toNat : Int)) := cz
      clear hcell hp hz hy
      go_wp2_with fail
      go_quiet (fail)
      go_wp2_with fail
      go_roundg (n - (i + 1))
      case measure => omega
      case rel => exact ⟨i + 1, _, by omega, rfl, by go_num, rfl⟩
    · have hi3 : i = n := by omega
      subst hi3
      go_wp2_with fail
      have hrx : Reads (w5.drewN m) (w5.drewN m).heap.size 1 (some ⟨gy, 0, none⟩) i (plain.map u8v) := (HY5.out.reads HN.out.symm).drewN m
      have hrp : Reads (w5.drewN m) (w5.drewN m).heap.size 1 A i (plain.map u8v) := HR5.out.drewN m
      refine (same_n hrx hrp HN.out.symm HN.out.symm).mono ?_
      rintro e0 w6 ⟨rfl, rfl⟩
      go_wp2
      go_ret
      exact ⟨rfl, below_drewN HB5.out m⟩
end Go.Proofs.Ytklkehpcifnfkaa
