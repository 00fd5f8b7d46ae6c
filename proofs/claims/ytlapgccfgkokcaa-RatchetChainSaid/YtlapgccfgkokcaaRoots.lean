/- What the program's root returns for each of the first 64 primes (contract). -/
import Derived.Test.YtlapgccfgkokcaaRoot
set_option linter.unusedVariables false
namespace Go.Proofs.Ytlapgccfgkokcaa
open Go.RowKit
attribute [local go_sem ↓] Go.wp_at_zero Go.wp_at_succ

def cL : List Nat := [5411319704, 6194414737, 7344290767, 8215976869, 9551921755, 10098905585, 11043570340, 11460697813, 12214315672, 13195500289, 13492127166, 14311783875, 14809980276, 15046980094, 15499789991, 16133124468, 16720292289, 16907126662, 17444216262, 17784676812, 17950125167, 18429019306, 18734950876, 19175934170, 19734090066, 20001703533, 20132865992, 20390182855, 20516441075, 20764397895, 21588763473, 21813078375, 22141143685, 22248366392, 22769593852, 22871018771, 23170020180, 23461497531, 23651862830, 23931792517, 24205322401, 24295138891, 24734567280, 24820601251, 24990902297, 25075189284, 25569408389, 26045227120, 26200031510, 26276752392, 26428864332, 26653801653, 26727943347, 27092625994, 27306805839, 27517677555, 27725365998, 27793908591, 27997534228, 28131656200, 28198240250, 28526537963, 28973835255, 29099129074]
theorem cL_all : ((List.range 64).all fun i => belowB (cL.getD i 0) (primesL.getD i 0) && !belowB (cL.getD i 0 + 1) (primesL.getD i 0) && UInt32.ofNat (cL.getD i 0) == kL.getD i 0 && decide (primesL.getD i 0 ≤ 311)) = true := by decide +kernel
theorem cL_at (i : Nat) (hi : i < 64) : belowB (cL.getD i 0) (primesL.getD i 0) = true ∧ belowB (cL.getD i 0 + 1) (primesL.getD i 0) = false ∧ UInt32.ofNat (cL.getD i 0) = kL.getD i 0 ∧ primesL.getD i 0 ≤ 311 := by
  have := List.all_eq_true.1 cL_all i (List.mem_range.2 hi)
  simp only [Bool.and_eq_true, Bool.not_eq_true', beq_iff_eq, decide_eq_true_eq] at this
  exact ⟨this.1.1.1, this.1.1.2, this.1.2, this.2⟩
theorem cube_mono {a b : Nat} (h : a ≤ b) : a * a * a ≤ b * b * b := Nat.mul_le_mul (Nat.mul_le_mul h h) h
theorem below_mono {x y p : Nat} (h : x ≤ y) (hy : belowB y p = true) : belowB x p = true := by
  simp only [belowB, decide_eq_true_eq] at hy ⊢
  exact Nat.le_trans (cube_mono h) hy
theorem below_bd {x p : Nat} (hp : p ≤ 311) (h : belowB x p = true) : x < 34359738368 := by
  rcases Nat.lt_or_ge x 34359738368 with h1 | h1
  · exact h1
  · have := cube_mono h1
    simp only [belowB, decide_eq_true_eq] at h
    omega
theorem below_uniq {x c p : Nat} (h1 : belowB c p = true) (h2 : belowB (c + 1) p = false) (h3 : belowB x p = true) (h4 : belowB (x + 1) p = false) : x = c := by
  rcases Nat.lt_trichotomy x c with h | h | h
  · rw [below_mono (show x + 1 ≤ c by omega) h1] at h4; cases h4
  · exact h
  · rw [below_mono (show c + 1 ≤ x by omega) h3] at h2; cases h2
set_option maxHeartbeats 800000 in
theorem Cbrt_c (x t0 t1 t2 t3 : Nat) (w : World) (hok : okX x = true) (h : cbrN x = some [t0, t1, t2, t3]) (b0 : t0 < 18446744073709551616) (b1 : t1 < 18446744073709551616) (b2 : t2 < 18446744073709551616) :
    Calls Try.prog 66 #[.float .f64 x] w fun e w' => e = .returned (.float .f64 t3) ∧ w = w' := by
  have HC := Lib.hid (cbrt_c x t0 t1 t2 t3 w hok h b0 b1 b2)
  clear hok h b0 b1 b2
  go_enter Try.func66, Try.ntmps66
  go_wp2_with (go_at_call 73; refine HC.out.mono ?_; rintro e0 w' ⟨rfl, rfl⟩)
  go_ret
  exact ⟨rfl, rfl⟩
set_option maxRecDepth 100000 in
set_option maxHeartbeats 1600000 in
theorem root_c (p c x0 : Nat) (w : World) (hs : startN p = some x0) (hp : p ≤ 311) (h1 : belowB c p = true) (h2 : belowB (c + 1) p = false) :
    Calls Try.prog 62 #[.int .u64 (p : Int)] w fun e w' => e = .returned (.int .u32 ((UInt32.ofNat c).toNat : Int)) ∧ w = w' := by
  unfold startN at hs
  split at hs
  case isFalse => cases hs
  case isTrue hok =>
  obtain ⟨X, hX⟩ : ∃ X, X = FloatKind.f64.nearest (p : Int) := ⟨_, rfl⟩
  rw [← hX] at hs hok
  obtain ⟨l, hl, hs⟩ := Option.bind_eq_some_iff.1 hs
  split at hs
  case h_2 => cases hs
  rename_i t0 t1 t2 t3
  split at hs
  case isFalse => cases hs
  rename_i hb
  obtain ⟨z, hz, hs⟩ := Option.bind_eq_some_iff.1 hs
  obtain ⟨n, hn, hs⟩ := Option.bind_eq_some_iff.1 hs
  split at hs
  case isFalse => cases hs
  rename_i hn2
  injection hs with hs
  have hmul := fl (op := .mul) hz (by simp)
  have hC := Lib.hid (Cbrt_c X t0 t1 t2 t3 w hok hl hb.1 hb.2.1 hb.2.2)
  have hcv : ∀ w, (convert 68 101 (.int .u64 (p : Int))).run Try.prog w = .ok (.float .f64 X) w := fun w => by
    rw [hX]
    simp [convert, run_underlying Try.underlying68, run_underlying Try.underlying101, Conv.intToFloat]
  have hcv2 : ∀ w, (convert 101 68 (.float .f64 z)).run Try.prog w = .ok (.int .u64 (x0 : Int)) w := fun w => by
    have e : n = (x0 : Int) := by omega
    simp [convert, run_underlying Try.underlying68, run_underlying Try.underlying101, Conv.floatToInt, hn, e, IntKind.min, IntKind.max, IntKind.signed, IntKind.bits]
    omega
  have hx0 : x0 ≤ 4398046511000 := by omega
  have HS : ∀ q : Nat, startN q = startN q := fun _ => rfl
  have hst : (p : Int) ≤ 311 := by omega
  have HB1 := Lib.hid h1
  have HB2 := Lib.hid h2
  have HP := Lib.hid hp
  have HBW := Lib.hid (fun (x : Nat) (hx : x < 4398046511104) (wx : World) => below_c x p wx hx (by omega))
  have WU : Hid (∀ a : Nat, a < 18446744073709551616 → IntKind.u64.wrap (a : Int) = (a : Int)) := fun a ha => by
    simp [IntKind.wrap, IntKind.bits, IntKind.signed]; omega
  clear hs hok hl hb hz hn hn2 hX h1 h2 HS hp
  go_enter Try.func62, Try.ntmps62
  go_wp2_with (go_at_call 66; refine hC.out.mono ?_; rintro e0 w' ⟨rfl, rfl⟩)
  go_loopg [3] x0 (fun gg v3 wr => ∃ x : Nat, x ≤ 4398046511000 ∧ x = gg ∧ v3 = .int .u64 (x : Int) ∧ w = wr)
  case atStart => exact ⟨x0, hx0, rfl, rfl, rfl⟩
  case round =>
    obtain ⟨x, hx, rfl, rfl, rfl⟩ := hrel
    have hbc := HBW.out x (by omega) w
    obtain ⟨bl, hbl⟩ : ∃ b, b = belowB x p := ⟨_, rfl⟩
    rw [← hbl] at hbc
    have HBC := Lib.hid hbc
    have HBL := Lib.hid hbl
    clear hbc hbl
    cases bl with
    | false =>
      have hx1 : 1 ≤ x := by
        rcases Nat.eq_zero_or_pos x with h | h
        · have := HBL.out
          rw [h] at this
          exact absurd this.symm (by simp [belowB])
        · exact h
      obtain ⟨y, hy⟩ : ∃ y, y = x - 1 := ⟨_, rfl⟩
      have hsub : (x : Int) - 1 = (y : Int) := by omega
      have hw := WU.out y (by omega)
      have hyl : y < x := by omega
      have hyx : y ≤ 4398046511000 := by omega
      clear hy
      go_wp2_with (go_at_call 67; refine HBC.out.mono ?_; rintro e0 w' ⟨rfl, rfl⟩)
      go_roundg y
      case measure => omega
      case rel => exact ⟨y, hyx, rfl, rfl, rfl⟩
    | true =>
      have HX : Hid (belowB x p = true) := HBL.out.symm
      have hgb := below_bd HP.out HX.out
      obtain ⟨K, hK⟩ : ∃ K, K = 34359738368 := ⟨_, rfl⟩
      have HK := Lib.hid hK
      go_wp2_with (go_at_call 67; refine HBC.out.mono ?_; rintro e0 w' ⟨rfl, rfl⟩)
      go_loopg [3] (34359738368 - x) (fun g2 v3 wr => ∃ u : Nat, u < 34359738368 ∧ g2 = 34359738368 - u ∧ v3 = .int .u64 (u : Int) ∧ belowB u p = true ∧ w = wr)
      case atStart => exact ⟨x, hgb, rfl, rfl, HX.out, rfl⟩
      case round =>
        obtain ⟨u, hx, rfl, rfl, hbx, rfl⟩ := hrel
        have HBX := Lib.hid hbx
        clear hbx
        obtain ⟨y, hy⟩ : ∃ y, y = u + 1 := ⟨_, rfl⟩
        have hadd : (u : Int) + 1 = (y : Int) := by omega
        have hw := WU.out y (by omega)
        have hbc := HBW.out y (by omega) w
        obtain ⟨bl, hbl⟩ : ∃ b, b = belowB y p := ⟨_, rfl⟩
        rw [← hbl] at hbc
        have HBC := Lib.hid hbc
        have HBL := Lib.hid hbl
        have HY := Lib.hid hy
        clear hbc hbl hy
        cases bl with
        | true =>
          have hyb := below_bd HP.out HBL.out.symm
          have hxy : u < y := by have := HY.out; omega
          go_wp2_with (go_at_call 67; refine HBC.out.mono ?_; rintro e0 w' ⟨rfl, rfl⟩)
          go_roundg (34359738368 - y)
          case measure => omega
          case rel => exact ⟨y, hyb, rfl, rfl, HBL.out.symm, rfl⟩
        | false =>
          have hxc : u = c := below_uniq HB1.out HB2.out HBX.out (by rw [← HY.out]; exact HBL.out.symm)
          have HXC := Lib.hid hxc
          clear hxc
          have hcw : IntKind.u32.wrap (u : Int) = ((UInt32.ofNat u).toNat : Int) := by
            rw [W.wrap, UInt32.toNat_ofNat']
            rfl
          obtain ⟨Z, hZ⟩ : ∃ Z, Z = UInt32.ofNat u := ⟨_, rfl⟩
          rw [← hZ] at hcw
          have HZ := Lib.hid hZ
          clear hZ
          go_wp2_with (go_at_call 67; refine HBC.out.mono ?_; rintro e0 w' ⟨rfl, rfl⟩)
          go_ret
          exact ⟨ret_int (by rw [← HXC.out, ← HZ.out]), rfl⟩
end Go.Proofs.Ytlapgccfgkokcaa
