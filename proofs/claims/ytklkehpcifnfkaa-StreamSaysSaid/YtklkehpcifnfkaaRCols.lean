/- What the reference's with and columns return (contracts). Conditions: none. -/
import Derived.Test.YtklkehpcifnfkaaRBox
import Derived.Test.YtklkehpcifnfkaaField
set_option linter.unusedVariables false
namespace Go.Proofs.Ytklkehpcifnfkaa
open Go.RowKit
attribute [local go_sem ↓] Go.wp_at_zero Go.wp_at_succ

def withS (a b : List UInt8) : List UInt8 := (List.range 16).map fun i => a.getD i 0 ^^^ b.getD i 0
theorem withS_len (a b : List UInt8) : (withS a b).length = 16 := by simp [withS]
theorem col_idx {c j k i : Nat} (hc : c % 4 = 0) (hj : j < 4) (hk : k = c + j) : k - k % 4 + (k + i) % 4 = c + (j + i) % 4 := by omega
theorem times_two (a : UInt8) : times a 2 = tw a := all1 (p := fun a => times a 2 = tw a) (by decide +kernel) a
theorem times_three (a : UInt8) : times a 3 = tw a ^^^ a := all1 (p := fun a => times a 3 = tw a ^^^ a) (by decide +kernel) a

set_option maxRecDepth 100000 in
set_option maxHeartbeats 1600000 in
theorem with_c (x b : List UInt8) (w : World) (hx : x.length = 16) (hb : b.length = 16) :
    Calls Try.prog 34 #[.agg (x.map u8v).toArray, .agg (b.map u8v).toArray] w fun e w' => e = .returned (.agg ((withS x b).map u8v).toArray) ∧ Below w.heap.size w w' := by
  have HX := Lib.hid hx
  have HBL := Lib.hid hb
  obtain ⟨f, hf⟩ : ∃ f : Nat → UInt8, f = fun i => x.getD i 0 ^^^ b.getD i 0 := ⟨_, rfl⟩
  have HF := Lib.hid hf
  have HR : Hid (withS x b = (List.range 16).map f) := by show _ = _; rw [hf]; rfl
  clear hx hb hf
  go_enter Try.func34, Try.ntmps34
  go_wp2_with fail
  rw [← z16]
  go_loopg [5] 16 (fun gg v8 wr => ∃ k : Nat, k ≤ 16 ∧ gg = 16 - k ∧ v8 = .int .i64 (k : Int) ∧ BB wr w.heap.size 23 (upTo 16 k f (fun i => x.getD i 0)) ∧ BB wr (w.heap.size + 1) 23 b ∧ BB wr (w.heap.size + 1 + 1) 23 zero16 ∧ Below w.heap.size w wr)
  case atStart =>
    have h1 := (BB.new (w.alloc (.cells (x.map u8v).toArray 23)) 23 b).alloc (.cells (zero16.map u8v).toArray 23)
    have h2 := BB.new ((w.alloc (.cells (x.map u8v).toArray 23)).alloc (.cells (b.map u8v).toArray 23)) 23 zero16
    simp only [World.size_alloc] at h1 h2
    refine ⟨0, by omega, rfl, rfl, ?_, h1, h2, balloc (balloc (balloc (Below.refl _ _) _) _) _⟩
    rw [upTo_zero, list16 HX.out]
    exact BB.alloc (BB.alloc (BB.new w 23 x) _) _
  case round =>
    obtain ⟨k, hk, rfl, rfl, hbx, hbb, hby, hbel⟩ := hrel
    have HBX := Lib.hid hbx
    have HBB := Lib.hid hbb
    have HBY := Lib.hid hby
    have HBEL := Lib.hid hbel
    by_cases hk2 : k < 16
    · have hki : (k : Int) < 16 := by omega
      have cx := hbx.cell k (by rw [upTo_len]; exact hk2)
      rw [upTo_getD _ _ hk2, if_neg (by omega)] at cx
      have cb := hbb.cell k (by rw [HBL.out]; exact hk2)
      have fx := hbx.free k
      obtain ⟨a, ha⟩ : ∃ a, a = x.getD k 0 := ⟨_, rfl⟩
      obtain ⟨q, hq⟩ : ∃ q, q = b.getD k 0 := ⟨_, rfl⟩
      rw [← ha] at cx
      rw [← hq] at cb
      have hxor := U8.xor a q
      obtain ⟨y, hy⟩ : ∃ y, y = a ^^^ q := ⟨_, rfl⟩
      have hfk : f k = y := by rw [HF.out, hy, ha, hq]
      rw [← hy] at hxor
      have HY := Lib.hid hfk
      clear hbx hbb hby hbel ha hq hy hfk
      go_upto_region 4 with (fail)
      go_still_tail 9, (by kernel_rfl)
      change wpList _ _ _ _ _ wr.drew
      go_wp2_with fail
      go_roundg (16 - (k + 1))
      case measure => omega
      case rel =>
        refine ⟨k + 1, by omega, rfl, by go_num, ?_, ?_, ?_, ?_⟩
        · rw [← upTo_set f _ hk2, HY.out]
          exact BB.set HBX.out k y
        · exact BB.far HBB.out (by show w.heap.size + 1 ≠ w.heap.size; omega) _
        · exact BB.far HBY.out (by show w.heap.size + 1 + 1 ≠ w.heap.size; omega) _
        · exact bdrew (bset (p := ⟨w.heap.size, k, none⟩) HBEL.out (Nat.le_refl _) _)
    · have hk3 : k = 16 := by omega
      subst hk3
      have HX2 : Hid (BB wr (w.heap.size) 23 (withS x b)) := by show BB _ _ _ _; rw [HR.out, ← upTo_full 16 f (fun i => x.getD i 0)]; exact HBX.out
      have hrg := HX2.out.range
      have hinf : (Try.prog.info? 23).map (·.size) = some ((withS x b).map u8v).length := by rw [List.length_map, withS_len]; exact info23
      have HI := Lib.hid hinf
      have HRG := Lib.hid hrg
      have hth := there16 HBY.out zero16_len
      have HTH := Lib.hid hth
      have hsz : ((withS x b).map u8v).toArray.size = 16 := by rw [List.size_toArray, List.length_map, withS_len]
      have hi2 : (Try.prog.info? 23).map (·.size) = some ((withS x b).map u8v).toArray.size := by rw [hsz]; exact info23
      have HI2 := Lib.hid hi2
      have hth2 : wr.there (w.heap.size + 1 + 1) 0 ((withS x b).map u8v).toArray.size := by rw [hsz]; exact HTH.out
      have HTH2 := Lib.hid hth2
      clear hrg hinf hth hi2 hth2 hsz
      go_wp2_with (first
        | (refine wpList_load_mid rfl 23 (.tmp 2) rfl (w.heap.size) 0 rfl ((withS x b).map u8v) _ HRG.out Try.underlying23 rfl HI.out ?_)
        | (refine wpList_store_mid rfl 23 (.tmp 4) (.tmp 19) rfl (w.heap.size + 1 + 1) 0 ((withS x b).map u8v).toArray rfl rfl HTH2.out HI2.out (bytes_one _) ?_))
      have hload := run_loadVar_mid (P := Try.prog) (wr.setCells (w.heap.size + 1 + 1) 0 ((withS x b).map u8v)) (w.heap.size + 1 + 1) 0 23 ((withS x b).map u8v) _ (World.rangeAt_setCells_same _ _ _ _ (by have := HTH2.out; rwa [List.size_toArray] at this)) Try.underlying23 rfl HI.out
      refine bodyPost_ret (results_one rfl _ _ (w.heap.size + 1 + 1) _ rfl hload) rfl ⟨rfl, ?_⟩
      exact below_setCells HBEL.out (by omega) _ _

set_option maxRecDepth 100000 in
set_option maxHeartbeats 1600000 in
theorem columns_c (x : List UInt8) (w : World) (hx : x.length = 16) :
    Calls Try.prog 35 #[.agg (x.map u8v).toArray] w fun e w' => e = .returned (.agg ((mixS x).map u8v).toArray) ∧ Below w.heap.size w w' := by
  have HX := Lib.hid hx
  obtain ⟨f, hf⟩ : ∃ f : Nat → UInt8, f = mixF x := ⟨_, rfl⟩
  have HF := Lib.hid hf
  have HR : Hid (mixS x = (List.range 16).map f) := by show _ = _; rw [hf]; rfl
  clear hx hf
  go_enter Try.func35, Try.ntmps35
  go_wp2_with fail
  rw [← z16]
  go_loopg [4] 4 (fun gg v4 wr => ∃ q : Nat, q ≤ 4 ∧ gg = 4 - q ∧ v4 = .int .i64 ((4 * q : Nat) : Int) ∧ BB wr (w.heap.size + 1 + 1) 23 (upTo 16 (4 * q) f (fun _ => 0)) ∧ BB wr w.heap.size 23 x ∧ BB wr (w.heap.size + 1) 23 zero16 ∧ Below w.heap.size w wr)
  case atStart =>
    have h1 := BB.new (w.alloc (.cells (x.map u8v).toArray 23)) 23 zero16
    have h2 := BB.new ((w.alloc (.cells (x.map u8v).toArray 23)).alloc (.cells (zero16.map u8v).toArray 23)) 23 zero16
    simp only [World.size_alloc] at h1 h2
    refine ⟨0, by omega, rfl, rfl, ?_, BB.alloc (BB.alloc (BB.new w 23 x) _) _, h1.alloc _, balloc (balloc (balloc (Below.refl _ _) _) _) _⟩
    rw [upTo_zero]
    exact h2
  case round =>
    obtain ⟨q, hq, rfl, rfl, hbz, hbx, hby, hbel⟩ := hrel
    by_cases hq2 : q < 4
    · obtain ⟨c, hc⟩ : ∃ c, c = 4 * q := ⟨_, rfl⟩
      rw [← hc] at hbz ⊢
      have hci : (c : Int) < 16 := by omega
      have HBZ0 := Lib.hid hbz
      have HBX0 := Lib.hid hbx
      have HBY0 := Lib.hid hby
      have HBEL0 := Lib.hid hbel
      have HC := Lib.hid hc
      clear hbz hbx hby hbel hc
      go_wp2_with fail
      go_loopg [5] 4 (fun gg v5 wx => ∃ j : Nat, j ≤ 4 ∧ gg = 4 - j ∧ v5 = .int .i64 (j : Int) ∧ BB wx (w.heap.size + 1 + 1) 23 (upTo 16 (c + j) f (fun _ => 0)) ∧ BB wx w.heap.size 23 x ∧ BB wx (w.heap.size + 1) 23 zero16 ∧ Below w.heap.size w wx)
      case atStart => exact ⟨0, by omega, rfl, rfl, HBZ0.out, HBX0.out, HBY0.out, HBEL0.out⟩
      case round =>
        obtain ⟨j, hj, rfl, rfl, hbz, hbx, hby, hbel⟩ := hrel
        have HBZ := Lib.hid hbz
        have HBX := Lib.hid hbx
        have HBY := Lib.hid hby
        have HBEL := Lib.hid hbel
        by_cases hj2 : j < 4
        · have hji : (j : Int) < 4 := by omega
          have hcb : c ≤ 12 := by have := HC.out; omega
          have hc4 : c % 4 = 0 := by have := HC.out; omega
          obtain ⟨k, hkd⟩ : ∃ k, k = c + j := ⟨_, rfl⟩
          have hk2 : k < 16 := by omega
          have hki : (k : Int) < 16 := by omega
          have hsk : (c : Int) + (j : Int) = (k : Int) := by omega
          have hwk := wrap64 k (by omega)
          rw [← hkd] at hbz
          obtain ⟨k1, hk1⟩ : ∃ k1, k1 = j + 1 := ⟨_, rfl⟩
          obtain ⟨j1, hjj1⟩ : ∃ j1, j1 = k1 % 4 := ⟨_, rfl⟩
          rw [hk1] at hjj1
          obtain ⟨p1, hp1⟩ : ∃ p1, p1 = c + j1 := ⟨_, rfl⟩
          have hs1 : (j : Int) + 1 = (k1 : Int) := by omega
          have hwk1 := wrap64 k1 (by omega)
          have hrem1 : (k1 : Int).tmod 4 = (j1 : Int) := by rw [hjj1, hk1]; rfl
          have hsp1 : (c : Int) + (j1 : Int) = (p1 : Int) := by omega
          have hpl1 : p1 < 16 := by omega
          have hwp1 := wrap64 p1 (by omega)
          have hpi1 : (p1 : Int) < 16 := by omega
          have cx1 := hbx.cell p1 (by rw [HX.out]; exact hpl1)
          obtain ⟨a1, ha1⟩ : ∃ a1, a1 = x.getD p1 0 := ⟨_, rfl⟩
          rw [← ha1] at cx1
          clear hk1
          obtain ⟨k2, hk2⟩ : ∃ k2, k2 = j + 2 := ⟨_, rfl⟩
          obtain ⟨j2, hjj2⟩ : ∃ j2, j2 = k2 % 4 := ⟨_, rfl⟩
          rw [hk2] at hjj2
          obtain ⟨p2, hp2⟩ : ∃ p2, p2 = c + j2 := ⟨_, rfl⟩
          have hs2 : (j : Int) + 2 = (k2 : Int) := by omega
          have hwk2 := wrap64 k2 (by omega)
          have hrem2 : (k2 : Int).tmod 4 = (j2 : Int) := by rw [hjj2, hk2]; rfl
          have hsp2 : (c : Int) + (j2 : Int) = (p2 : Int) := by omega
          have hpl2 : p2 < 16 := by omega
          have hwp2 := wrap64 p2 (by omega)
          have hpi2 : (p2 : Int) < 16 := by omega
          have cx2 := hbx.cell p2 (by rw [HX.out]; exact hpl2)
          obtain ⟨a2, ha2⟩ : ∃ a2, a2 = x.getD p2 0 := ⟨_, rfl⟩
          rw [← ha2] at cx2
          clear hk2
          obtain ⟨k3, hk3⟩ : ∃ k3, k3 = j + 3 := ⟨_, rfl⟩
          obtain ⟨j3, hjj3⟩ : ∃ j3, j3 = k3 % 4 := ⟨_, rfl⟩
          rw [hk3] at hjj3
          obtain ⟨p3, hp3⟩ : ∃ p3, p3 = c + j3 := ⟨_, rfl⟩
          have hs3 : (j : Int) + 3 = (k3 : Int) := by omega
          have hwk3 := wrap64 k3 (by omega)
          have hrem3 : (k3 : Int).tmod 4 = (j3 : Int) := by rw [hjj3, hk3]; rfl
          have hsp3 : (c : Int) + (j3 : Int) = (p3 : Int) := by omega
          have hpl3 : p3 < 16 := by omega
          have hwp3 := wrap64 p3 (by omega)
          have hpi3 : (p3 : Int) < 16 := by omega
          have cx3 := hbx.cell p3 (by rw [HX.out]; exact hpl3)
          obtain ⟨a3, ha3⟩ : ∃ a3, a3 = x.getD p3 0 := ⟨_, rfl⟩
          rw [← ha3] at cx3
          clear hk3
          have cx := hbx.cell k (by rw [HX.out]; exact hk2)
          obtain ⟨a, ha⟩ : ∃ a, a = x.getD k 0 := ⟨_, rfl⟩
          rw [← ha] at cx
          have hfk : f k = tw a ^^^ (tw a1 ^^^ a1) ^^^ a2 ^^^ a3 := by
            rw [HF.out, mixF, col_idx hc4 hj2 hkd, col_idx hc4 hj2 hkd, col_idx hc4 hj2 hkd, ← hjj1, ← hjj2, ← hjj3, ← hp1, ← hp2, ← hp3, ← ha, ← ha1, ← ha2, ← ha3, ← UInt8.xor_assoc (tw a)]
          obtain ⟨ta, hta⟩ : ∃ t, t = tw a := ⟨_, rfl⟩
          obtain ⟨tb, htb⟩ : ∃ t, t = tw a1 ^^^ a1 := ⟨_, rfl⟩
          obtain ⟨y1, hy1⟩ : ∃ t, t = ta ^^^ tb := ⟨_, rfl⟩
          obtain ⟨y2, hy2⟩ : ∃ t, t = y1 ^^^ a2 := ⟨_, rfl⟩
          obtain ⟨y, hy⟩ : ∃ t, t = y2 ^^^ a3 := ⟨_, rfl⟩
          rw [← hta, ← htb, ← hy1, ← hy2, ← hy] at hfk
          have hx1 := U8.xor ta tb
          have hx2 := U8.xor y1 a2
          have hx3 := U8.xor y2 a3
          rw [← hy1] at hx1
          rw [← hy2] at hx2
          rw [← hy] at hx3
          have htwa : ∀ wx, Calls Try.prog 19 #[.int .u8 (a.toNat : Int), .int .u8 2] wx fun e w' => e = .returned (.int .u8 (ta.toNat : Int)) ∧ wx = w' := fun wx => by rw [hta, ← times_two]; exact rtimes_c a 2 wx
          have htwb : ∀ wx, Calls Try.prog 19 #[.int .u8 (a1.toNat : Int), .int .u8 3] wx fun e w' => e = .returned (.int .u8 (tb.toNat : Int)) ∧ wx = w' := fun wx => by rw [htb, ← times_three]; exact rtimes_c a1 3 wx
          have HTA := Lib.hid htwa
          have HTB := Lib.hid htwb
          have cz := hbz.cell k (by rw [upTo_len]; exact hk2)
          have fz := hbz.free k
          have HY := Lib.hid hfk
          have HKD := Lib.hid hkd
          clear hbz hbx hby hbel hjj1 hjj2 hjj3 hp1 hp2 hp3 ha ha1 ha2 ha3 hy hy1 hy2 hfk htwa htwb hta htb hkd hc4
          go_upto_region 8 with (fail)
          go_region_held3 (fun w' => w'.cell? ⟨w.heap.size, k, none⟩ = some (.int .u8 (a.toNat : Int)) ∧ w'.cell? ⟨w.heap.size, p1, none⟩ = some (.int .u8 (a1.toNat : Int)) ∧ w'.cell? ⟨w.heap.size, p2, none⟩ = some (.int .u8 (a2.toNat : Int)) ∧ w'.cell? ⟨w.heap.size, p3, none⟩ = some (.int .u8 (a3.toNat : Int)))
            (first
              | exact ⟨cx, cx1, cx2, cx3⟩
              | exact ⟨(World.cell?_setCell_other wr ⟨w.heap.size + 1 + 1, k, none⟩ ⟨w.heap.size, k, none⟩ _ (by intro h; have := congrArg Addr.block h; simp at this; omega)).trans cx, (World.cell?_setCell_other wr ⟨w.heap.size + 1 + 1, k, none⟩ ⟨w.heap.size, p1, none⟩ _ (by intro h; have := congrArg Addr.block h; simp at this; omega)).trans cx1, (World.cell?_setCell_other wr ⟨w.heap.size + 1 + 1, k, none⟩ ⟨w.heap.size, p2, none⟩ _ (by intro h; have := congrArg Addr.block h; simp at this; omega)).trans cx2, (World.cell?_setCell_other wr ⟨w.heap.size + 1 + 1, k, none⟩ ⟨w.heap.size, p3, none⟩ _ (by intro h; have := congrArg Addr.block h; simp at this; omega)).trans cx3⟩)
            (first
              | (go_at_call_of 19 (Value.int .u8 2); refine (HTA.out _).mono ?_; rintro e0 w1 ⟨rfl, rfl⟩)
              | (go_at_call_of 19 (Value.int .u8 3); refine (HTB.out _).mono ?_; rintro e0 w1 ⟨rfl, rfl⟩))
          go_wp2_with fail
          go_roundg (4 - (j + 1))
          case measure => omega
          case rel =>
            refine ⟨j + 1, by omega, rfl, by go_num, ?_, ?_, ?_, ?_⟩
            · rw [show c + (j + 1) = k + 1 by have := HKD.out; omega, ← upTo_set f _ hk2, HY.out, HKD.out]
              rw [← HKD.out]
              exact BB.set (by rw [HKD.out]; exact HBZ.out) k y
            · exact BB.far HBX.out (by show w.heap.size ≠ w.heap.size + 1 + 1; omega) _
            · exact BB.far HBY.out (by show w.heap.size + 1 ≠ w.heap.size + 1 + 1; omega) _
            · exact bdrew (bset (p := ⟨w.heap.size + 1 + 1, k, none⟩) HBEL.out (by show w.heap.size ≤ w.heap.size + 1 + 1; omega) _)
        · have hj3 : j = 4 := by omega
          subst hj3
          clear hbz hbx hby hbel
          go_wp2_with fail
          go_roundg (4 - (q + 1))
          case measure => omega
          case rel => exact ⟨q + 1, by omega, rfl, by rw [show 4 * (q + 1) = c + 4 by have := HC.out; omega]; go_num, by rw [show 4 * (q + 1) = c + 4 by have := HC.out; omega]; exact HBZ.out, HBX.out, HBY.out, HBEL.out⟩
    · have hq3 : q = 4 := by omega
      subst hq3
      have hk : 16 ≤ 16 := Nat.le_refl _
      obtain ⟨k, hk3⟩ : ∃ k, k = 16 := ⟨_, rfl⟩
      have HBZ := Lib.hid hbz
      have HBX := Lib.hid hbx
      have HBY := Lib.hid hby
      have HBEL := Lib.hid hbel
      clear hbz hbx hby hbel


      have HX2 : Hid (BB wr (w.heap.size + 1 + 1) 23 (mixS x)) := by show BB _ _ _ _; rw [HR.out, ← upTo_full 16 f (fun _ => 0)]; exact HBZ.out
      have hrg := HX2.out.range
      have hinf : (Try.prog.info? 23).map (·.size) = some ((mixS x).map u8v).length := by rw [List.length_map, mixS_len]; exact info23
      have HI := Lib.hid hinf
      have HRG := Lib.hid hrg
      have hth := there16 HBY.out zero16_len
      have HTH := Lib.hid hth
      have hsz : ((mixS x).map u8v).toArray.size = 16 := by rw [List.size_toArray, List.length_map, mixS_len]
      have hi2 : (Try.prog.info? 23).map (·.size) = some ((mixS x).map u8v).toArray.size := by rw [hsz]; exact info23
      have HI2 := Lib.hid hi2
      have hth2 : wr.there (w.heap.size + 1) 0 ((mixS x).map u8v).toArray.size := by rw [hsz]; exact HTH.out
      have HTH2 := Lib.hid hth2
      clear hrg hinf hth hi2 hth2 hsz
      go_wp2_with (first
        | (refine wpList_load_mid rfl 23 (.tmp 3) rfl (w.heap.size + 1 + 1) 0 rfl ((mixS x).map u8v) _ HRG.out Try.underlying23 rfl HI.out ?_)
        | (refine wpList_store_mid rfl 23 (.tmp 2) (.tmp 49) rfl (w.heap.size + 1) 0 ((mixS x).map u8v).toArray rfl rfl HTH2.out HI2.out (bytes_one _) ?_))
      have hload := run_loadVar_mid (P := Try.prog) (wr.setCells (w.heap.size + 1) 0 ((mixS x).map u8v)) (w.heap.size + 1) 0 23 ((mixS x).map u8v) _ (World.rangeAt_setCells_same _ _ _ _ (by have := HTH2.out; rwa [List.size_toArray] at this)) Try.underlying23 rfl HI.out
      refine bodyPost_ret (results_one rfl _ _ (w.heap.size + 1) _ rfl hload) rfl ⟨rfl, ?_⟩
      exact below_setCells HBEL.out (Nat.le_succ _) _ _

end Go.Proofs.Ytklkehpcifnfkaa
