/- What the reference's Box and with return (contracts). Conditions: none. -/
import Derived.Test.YtklkehpcifnfkaaBlock
set_option linter.unusedVariables false
namespace Go.Proofs.Ytklkehpcifnfkaa
open Go.RowKit
attribute [local go_sem ↓] Go.wp_at_zero Go.wp_at_succ

def rtabK : Nat → List UInt8
  | 0 => (List.replicate 256 0).set 0 99
  | k + 1 => (rtabK k).set (pw (k + 1)).toNat (boxS (qw (k + 1)))
theorem rtabK_len : ∀ k, (rtabK k).length = 256
  | 0 => by rw [rtabK, List.length_set, List.length_replicate]
  | k + 1 => by rw [rtabK, List.length_set, rtabK_len k]
theorem rtabK_all : rtabK 255 = sbL := by decide +kernel
def zero256 : List UInt8 := List.replicate 256 0
theorem zero256_len : zero256.length = 256 := by rw [zero256, List.length_replicate]
theorem zero28 : Try.zeroCells28 = ((zero256.map u8v).toArray) := by kernel_rfl
theorem r0 : Try.zeroCells28.setIfInBounds 0 (.int .u8 99) = ((rtabK 0).map u8v).toArray := by
  rw [zero28, List.setIfInBounds_toArray, rtabK, List.map_set]
  rfl
theorem info28 : (Try.prog.info? 28).map (·.size) = some 256 := by kernel_rfl

set_option maxRecDepth 100000 in
set_option maxHeartbeats 1600000 in
theorem rbox_c (w : World) : Calls Try.prog 30 #[] w fun e w' => e = .returned (.agg (sbL.map u8v).toArray) ∧ Below w.heap.size w w' := by
  have hz1 : BB ((w.alloc (.cells Try.zeroCells28 28)).alloc (.cells Try.zeroCells28 28)) w.heap.size 28 zero256 := by
    rw [zero28]; exact BB.alloc (BB.new w 28 _) _
  have hz2 : BB ((w.alloc (.cells Try.zeroCells28 28)).alloc (.cells Try.zeroCells28 28)) (w.heap.size + 1) 28 zero256 := by
    rw [zero28]
    have := BB.new (w.alloc (.cells (zero256.map u8v).toArray 28)) 28 zero256
    rw [World.size_alloc] at this
    exact this
  have c0 := hz2.cell 0 (by rw [zero256_len]; decide)
  have f0 := hz2.free 0
  have HZ1 := Lib.hid hz1
  have HZ2 := Lib.hid hz2
  have HB := Lib.hid (balloc (balloc (Below.refl w.heap.size w) (.cells Try.zeroCells28 28)) (.cells Try.zeroCells28 28))
  clear hz1 hz2
  go_enter Try.func30, Try.ntmps30
  go_wp2_with fail
  go_loopg [2, 3, 4] 255 (fun gg v2 v3 v4 wr => ∃ k : Nat, k ≤ 255 ∧ gg = 255 - k ∧ v4 = .int .i64 (k : Int) ∧ v2 = .int .u8 ((pw k).toNat : Int) ∧ v3 = .int .u8 ((qw k).toNat : Int) ∧ BB wr w.heap.size 28 zero256 ∧ BB wr (w.heap.size + 1) 28 (rtabK k) ∧ Below w.heap.size w wr)
  case atStart =>
    refine ⟨0, by omega, rfl, rfl, rfl, rfl, ?_, ?_, balloc (balloc (Below.refl w.heap.size w) _) _⟩
    · rw [zero28]; exact BB.alloc (BB.new w 28 _) _
    · rw [r0]
      have := BB.new (w.alloc (.cells Try.zeroCells28 28)) 28 (rtabK 0)
      rw [World.size_alloc] at this
      exact this
  case round =>
    obtain ⟨k, hk, rfl, rfl, rfl, rfl, hby, hbx, hbel⟩ := hrel
    have HBX := Lib.hid hbx
    have HBY := Lib.hid hby
    have HBEL := Lib.hid hbel
    by_cases hk2 : k < 255
    · have hki : (k : Int) < 255 := by omega
      obtain ⟨p, hp⟩ : ∃ p, p = pw (k + 1) := ⟨_, rfl⟩
      obtain ⟨q, hq⟩ : ∃ q, q = qw (k + 1) := ⟨_, rfl⟩
      have kp : ∀ wx, Calls Try.prog 19 #[.int .u8 ((pw k).toNat : Int), .int .u8 3] wx fun e w' => e = .returned (.int .u8 (p.toNat : Int)) ∧ wx = w' := fun wx => by rw [hp]; exact rtimes_c (pw k) 3 wx
      have kq : ∀ wx, Calls Try.prog 19 #[.int .u8 ((qw k).toNat : Int), .int .u8 246] wx fun e w' => e = .returned (.int .u8 (q.toNat : Int)) ∧ wx = w' := fun wx => by rw [hq]; exact rtimes_c (qw k) 246 wx
      obtain ⟨r1, h1⟩ : ∃ r, r = rl q 1 := ⟨_, rfl⟩
      obtain ⟨r2, h2⟩ : ∃ r, r = rl q 2 := ⟨_, rfl⟩
      obtain ⟨r3, h3⟩ : ∃ r, r = rl q 3 := ⟨_, rfl⟩
      obtain ⟨r4, h4⟩ : ∃ r, r = rl q 4 := ⟨_, rfl⟩
      have k1 := fun wx => left_1 q wx
      have k2 := fun wx => left_2 q wx
      have k3 := fun wx => left_3 q wx
      have k4 := fun wx => left_4 q wx
      rw [← h1] at k1
      rw [← h2] at k2
      rw [← h3] at k3
      rw [← h4] at k4
      obtain ⟨x1, g1⟩ : ∃ r, r = q ^^^ r1 := ⟨_, rfl⟩
      obtain ⟨x2, g2⟩ : ∃ r, r = x1 ^^^ r2 := ⟨_, rfl⟩
      obtain ⟨x3, g3⟩ : ∃ r, r = x2 ^^^ r3 := ⟨_, rfl⟩
      obtain ⟨x4, g4⟩ : ∃ r, r = x3 ^^^ r4 := ⟨_, rfl⟩
      obtain ⟨x5, g5⟩ : ∃ r, r = x4 ^^^ 99 := ⟨_, rfl⟩
      have e1 := U8.xor q r1
      have e2 := U8.xor x1 r2
      have e3 := U8.xor x2 r3
      have e4 := U8.xor x3 r4
      have e5 := U8.xor x4 99
      rw [← g1] at e1
      rw [← g2] at e2
      rw [← g3] at e3
      rw [← g4] at e4
      rw [← g5, show ((99 : UInt8).toNat : Int) = 99 from rfl] at e5
      have HN : Hid ((rtabK k).set p.toNat x5 = rtabK (k + 1)) := by show _ = _; rw [rtabK, ← hp, ← hq, g5, g4, g3, g2, g1, h1, h2, h3, h4]; rfl
      have hpl : p.toNat < 256 := UInt8.toNat_lt p
      have hpi : (p.toNat : Int) < 256 := by omega
      have cx := hbx.cell p.toNat (by rw [rtabK_len]; exact hpl)
      have fx := hbx.free p.toNat
      have KP := Lib.hid kp
      have KQ := Lib.hid kq
      have K1 := Lib.hid k1
      have K2 := Lib.hid k2
      have K3 := Lib.hid k3
      have K4 := Lib.hid k4
      have HP := Lib.hid hp
      have HQ := Lib.hid hq
      clear hbx hby hbel hp hq kp kq k1 k2 k3 k4 h1 h2 h3 h4 g1 g2 g3 g4 g5
      go_wp2_with fail
      refine (KP.out _).mono ?_
      rintro e0 w2 ⟨rfl, rfl⟩
      go_wp2_with fail
      refine (KQ.out _).mono ?_
      rintro e0 w2 ⟨rfl, rfl⟩
      go_wp2_with fail
      refine (K1.out _).mono ?_
      rintro e0 w2 ⟨rfl, rfl⟩
      go_wp2_with fail
      refine (K2.out _).mono ?_
      rintro e0 w2 ⟨rfl, rfl⟩
      go_wp2_with fail
      refine (K3.out _).mono ?_
      rintro e0 w2 ⟨rfl, rfl⟩
      go_wp2_with fail
      refine (K4.out _).mono ?_
      rintro e0 w2 ⟨rfl, rfl⟩
      go_wp2_with fail
      go_roundg (255 - (k + 1))
      case measure => omega
      case rel =>
        refine ⟨k + 1, by omega, rfl, by go_num, by rw [HP.out], by rw [HQ.out], BB.far HBY.out (by show w.heap.size ≠ w.heap.size + 1; omega) _, ?_, bset (p := ⟨w.heap.size + 1, p.toNat, none⟩) HBEL.out (Nat.le_succ _) _⟩
        rw [← HN.out]
        exact BB.set HBX.out _ _
    · have hk3 : k = 255 := by omega
      subst hk3
      have hbx2 : BB wr (w.heap.size + 1) 28 sbL := by rw [← rtabK_all]; exact hbx
      have HRG := Lib.hid (hbx2.range)
      have HI : Hid ((Try.prog.info? 28).map (·.size) = some (sbL.map u8v).length) := by show _ = _; rw [List.length_map, sbL_len]; exact info28
      have hsz : (sbL.map u8v).toArray.size = 256 := by rw [List.size_toArray, List.length_map, sbL_len]
      have HJ : Hid ((Try.prog.info? 28).map (·.size) = some (sbL.map u8v).toArray.size) := by show _ = _; rw [hsz]; exact info28
      have HTH : Hid (wr.there w.heap.size 0 (sbL.map u8v).toArray.size) := by show World.there _ _ _ _; rw [hsz]; exact there16 hby zero256_len
      have HBEL := Lib.hid hbel
      clear hbx hby hbel hbx2 hsz
      go_wp2_with (first
        | (refine wpList_load_mid rfl 28 (.tmp 1) rfl (w.heap.size + 1) 0 rfl (sbL.map u8v) _ HRG.out Try.underlying28 rfl HI.out ?_)
        | (refine wpList_store_mid rfl 28 (.tmp 0) (.tmp 30) rfl w.heap.size 0 (sbL.map u8v).toArray rfl rfl HTH.out HJ.out (bytes_one _) ?_))
      have hload := run_loadVar_mid (P := Try.prog) (wr.setCells w.heap.size 0 (sbL.map u8v)) w.heap.size 0 28 (sbL.map u8v) _ (World.rangeAt_setCells_same _ _ _ _ (by have := HTH.out; rwa [List.size_toArray] at this)) Try.underlying28 rfl HI.out
      refine bodyPost_ret (results_one rfl _ _ w.heap.size _ rfl hload) rfl ⟨rfl, ?_⟩
      exact below_setCells HBEL.out (Nat.le_refl _) _ _
end Go.Proofs.Ytklkehpcifnfkaa
