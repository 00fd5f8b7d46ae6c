/- What the key's add, moved, mixed return (contracts). Conditions: the key lies in memory. -/
import Derived.Test.YtklkehpcifnfkaaSpec
import Derived.StillTailTactics
import Derived.Deep.QuietTactic
import Derived.BigQuiet
set_option linter.unusedVariables false
namespace Go.Proofs.Ytklkehpcifnfkaa
open Go.RowKit
attribute [local go_sem ↓] Go.wp_at_zero Go.wp_at_succ

def zero16 : List UInt8 := List.replicate 16 0
theorem z16 : (zero16.map u8v).toArray = #[.int .u8 0, .int .u8 0, .int .u8 0, .int .u8 0, .int .u8 0, .int .u8 0, .int .u8 0, .int .u8 0, .int .u8 0, .int .u8 0, .int .u8 0, .int .u8 0, .int .u8 0, .int .u8 0, .int .u8 0, .int .u8 0] := by rfl
theorem zero16_len : zero16.length = 16 := rfl
theorem info23 : (Try.prog.info? 23).map (·.size) = some 16 := by kernel_rfl
theorem list16 {x : List UInt8} (hx : x.length = 16) : (List.range 16).map (fun i => x.getD i 0) = x := by rw [← hx]; exact list_range x
theorem wrap64 (n : Nat) (h : n < 9223372036854775808) : IntKind.i64.wrap (n : Int) = (n : Int) := by
  simp [IntKind.wrap, IntKind.bits, IntKind.signed]
  omega
theorem there16 {w : World} {g : Nat} {t : TypeId} {l : List UInt8} {n : Nat} (h : BB w g t l) (hn : l.length = n) : w.there g 0 n := fun j hj => by
  rw [Nat.zero_add]
  exact ⟨by rw [h.cell j (by omega)]; rfl, h.free j⟩
theorem bytes_one (l : List UInt8) : ((l.map u8v).toArray).all (·.oneCell') = true := all_oneCell_toArray (u8_one l)
theorem below_setCells {w W : World} (h : Below w.heap.size w W) {g : Nat} (hg : w.heap.size ≤ g) : ∀ (vs : List Value) (o : Nat), Below w.heap.size w (W.setCells g o vs)
  | [], _ => h
  | v :: vs, o => below_setCells (bset h hg v) hg vs (o + 1)
set_option maxRecDepth 100000 in
set_option maxHeartbeats 1600000 in
theorem add_c (x W : List UInt8) (B g n r : Nat) (w : World) (hx : x.length = 16) (hk : KeyIs w B g W n) (hr : 16 * r + 16 ≤ W.length) (hW : W.length ≤ 1000) :
    Calls Try.prog 31 #[.pointer (some ⟨g, 0, none⟩), .agg (x.map u8v).toArray, .int .i64 (r : Int)] w fun e w' => e = .returned (.agg ((addR x W r).map u8v).toArray) ∧ Below w.heap.size w w' := by
  have hWn : W.length = 4 * n := by obtain ⟨_, _, _, h, _⟩ := hk; exact h
  obtain ⟨gw, c, hgw1, hgw2, hsl, hcw⟩ := hk.cells (by omega)
  have hgl : g < w.heap.size := by obtain ⟨_, _, _, _, h, _⟩ := hk; exact h.lt
  have HCW := Lib.hid hcw
  have HSL := Lib.hid hsl
  have HX := Lib.hid hx
  have hn : n ≤ 250 := by omega
  have hrn : 4 * r + 4 ≤ n := by omega
  obtain ⟨f, hf⟩ : ∃ f : Nat → UInt8, f = fun i => x.getD i 0 ^^^ W.getD (16 * r + i) 0 := ⟨_, rfl⟩
  have HF := Lib.hid hf
  have HR : Hid (addR x W r = (List.range 16).map f) := by show _ = _; rw [hf]; rfl
  obtain ⟨r4, hr4⟩ : ∃ r4, r4 = 4 * r := ⟨_, rfl⟩
  have hw4 : IntKind.i64.wrap (4 * (r : Int)) = (r4 : Int) := by rw [hr4, show (4 * (r : Int)) = ((4 * r : Nat) : Int) by omega]; exact wrap64 _ (by omega)
  have HR4 := Lib.hid hr4
  have HN := Lib.hid hWn
  clear hk hx hf hcw hsl hr hW hWn hr4
  go_enter Try.func31, Try.ntmps31
  go_wp2_with fail
  rw [← z16]
  go_loopg [8] 16 (fun gg v8 wr => ∃ k : Nat, k ≤ 16 ∧ gg = 16 - k ∧ v8 = .int .i64 (k : Int) ∧ BB wr w.heap.size 23 (upTo 16 k f (fun i => x.getD i 0)) ∧ BB wr (w.heap.size + 1) 23 zero16 ∧ Below w.heap.size w wr)
  case atStart =>
    refine ⟨0, by omega, rfl, rfl, ?_, ?_, balloc (balloc (Below.refl _ _) _) _⟩
    · rw [upTo_zero, list16 HX.out]
      exact BB.alloc (BB.new w 23 x) _
    · have := BB.new (w.alloc (.cells (x.map u8v).toArray 23)) 23 zero16
      rw [World.size_alloc] at this
      exact this
  case round =>
    obtain ⟨k, hk, rfl, rfl, hbx, hby, hbel⟩ := hrel
    have HBX := Lib.hid hbx
    have HBY := Lib.hid hby
    have HBEL := Lib.hid hbel
    by_cases hk2 : k < 16
    · have hki : (k : Int) < 16 := by omega
      obtain ⟨q, hq⟩ : ∃ q, q = k / 4 := ⟨_, rfl⟩
      obtain ⟨m, hm⟩ : ∃ m, m = k % 4 := ⟨_, rfl⟩
      obtain ⟨i4, hi4⟩ : ∃ i4, i4 = r4 + q := ⟨_, rfl⟩
      have hquo : (k : Int).tdiv 4 = (q : Int) := by rw [hq]; rfl
      have hrem : (k : Int).tmod 4 = (m : Int) := by rw [hm]; rfl
      have hwq := wrap64 q (by omega)
      have hws : IntKind.i64.wrap ((r4 : Int) + (q : Int)) = (i4 : Int) := by rw [hi4, show ((r4 : Int) + (q : Int)) = ((r4 + q : Nat) : Int) by omega]; exact wrap64 _ (by have := HR4.out; omega)
      have h4n : i4 < n := by have := HR4.out; omega
      have h4i : (i4 : Int) < (n : Int) := by omega
      have hml : m < 4 := by omega
      have hmi : (m : Int) < 4 := by omega
      have e16 : i4 * 4 + m = 16 * r + k := by have := HR4.out; omega
      have hcl : 16 * r + k < W.length := by have := HR4.out; have := HN.out; omega
      have cw : wr.cell? ⟨gw, i4 * 4 + m, none⟩ = some (.int .u8 ((W.getD (16 * r + k) 0).toNat : Int)) := by
        rw [e16, hbel.cell (p := ⟨gw, 16 * r + k, none⟩) hgw2]
        exact HCW.out _ hcl
      have cs : wr.cell? ⟨g, 259, none⟩ = some (.slice (some ⟨gw, 0, none⟩) n c) := (hbel.cell (p := ⟨g, 259, none⟩) hgl).trans HSL.out
      have cx := hbx.cell k (by rw [upTo_len]; exact hk2)
      rw [upTo_getD _ _ hk2, if_neg (by omega)] at cx
      have fx := hbx.free k
      obtain ⟨a, ha⟩ : ∃ a, a = x.getD k 0 := ⟨_, rfl⟩
      obtain ⟨b, hb⟩ : ∃ b, b = W.getD (16 * r + k) 0 := ⟨_, rfl⟩
      rw [← ha] at cx
      rw [← hb] at cw
      have hxor := U8.xor a b
      have hfk : f k = a ^^^ b := by rw [HF.out, ha, hb]
      obtain ⟨y, hy⟩ : ∃ y, y = a ^^^ b := ⟨_, rfl⟩
      rw [← hy] at hxor hfk
      have HY := Lib.hid hfk
      clear hbx hby hbel hq hm hi4 e16 hcl ha hb hy hfk
      go_wp2_with fail
      go_still_tail 19, (by kernel_rfl)
      change wpList _ _ _ _ _ wr.drew
      go_wp2_with fail
      go_roundg (16 - (k + 1))
      case measure => omega
      case rel =>
        refine ⟨k + 1, by omega, rfl, by go_num, ?_, ?_, ?_⟩
        · rw [← upTo_set f _ hk2, HY.out]
          exact BB.set HBX.out k y
        · exact BB.far HBY.out (by show w.heap.size + 1 ≠ w.heap.size; omega) _
        · exact bdrew (bset (p := ⟨w.heap.size, k, none⟩) HBEL.out (Nat.le_refl _) _)
    · have hk3 : k = 16 := by omega
      subst hk3
      have HX2 : Hid (BB wr (w.heap.size) 23 (addR x W r)) := by show BB _ _ _ _; rw [HR.out, ← upTo_full 16 f (fun i => x.getD i 0)]; exact HBX.out
      have hrg := HX2.out.range
      have hinf : (Try.prog.info? 23).map (·.size) = some ((addR x W r).map u8v).length := by rw [List.length_map, addR_len]; exact info23
      have HI := Lib.hid hinf
      have HRG := Lib.hid hrg
      have hth := there16 HBY.out zero16_len
      have HTH := Lib.hid hth
      have hsz : ((addR x W r).map u8v).toArray.size = 16 := by rw [List.size_toArray, List.length_map, addR_len]
      have hi2 : (Try.prog.info? 23).map (·.size) = some ((addR x W r).map u8v).toArray.size := by rw [hsz]; exact info23
      have HI2 := Lib.hid hi2
      have hth2 : wr.there (w.heap.size + 1) 0 ((addR x W r).map u8v).toArray.size := by rw [hsz]; exact HTH.out
      have HTH2 := Lib.hid hth2
      clear hrg hinf hth hi2 hth2 hsz
      go_wp2_with (first
        | (refine wpList_load_mid rfl 23 (.tmp 4) rfl (w.heap.size) 0 rfl ((addR x W r).map u8v) _ HRG.out Try.underlying23 rfl HI.out ?_)
        | (refine wpList_store_mid rfl 23 (.tmp 6) (.tmp 31) rfl (w.heap.size + 1) 0 ((addR x W r).map u8v).toArray rfl rfl HTH2.out HI2.out (bytes_one _) ?_))
      have hload := run_loadVar_mid (P := Try.prog) (wr.setCells (w.heap.size + 1) 0 ((addR x W r).map u8v)) (w.heap.size + 1) 0 23 ((addR x W r).map u8v) _ (World.rangeAt_setCells_same _ _ _ _ (by have := HTH2.out; rwa [List.size_toArray] at this)) Try.underlying23 rfl HI.out
      refine bodyPost_ret (results_one rfl _ _ (w.heap.size + 1) _ rfl hload) rfl ⟨rfl, ?_⟩
      exact below_setCells HBEL.out (Nat.le_succ _) _ _

set_option maxRecDepth 100000 in
set_option maxHeartbeats 1600000 in
theorem moved_c (x W : List UInt8) (B g n : Nat) (w : World) (hx : x.length = 16) (hk : KeyIs w B g W n) :
    Calls Try.prog 32 #[.pointer (some ⟨g, 0, none⟩), .agg (x.map u8v).toArray] w fun e w' => e = .returned (.agg ((movS x).map u8v).toArray) ∧ Below w.heap.size w w' := by
  obtain ⟨Aw, cw, _, _, htab, _⟩ := hk
  have hgl : g < w.heap.size := htab.lt
  have HTAB := Lib.hid htab
  have HX := Lib.hid hx
  obtain ⟨f, hf⟩ : ∃ f : Nat → UInt8, f = fun i => sb (x.getD (sgm i) 0) := ⟨_, rfl⟩
  have HF := Lib.hid hf
  have HR : Hid (movS x = (List.range 16).map f) := by show _ = _; rw [hf]; rfl
  clear hx hf htab
  go_enter Try.func32, Try.ntmps32
  go_wp2_with fail
  rw [← z16]
  refine (made_done g 73 _ _ _ _ _ ((HTAB.out.alloc _).alloc _)).mono ?_
  rintro e0 w1 ⟨rfl, hw1⟩
  have hbx0 : BB w1 w.heap.size 23 x := by rw [hw1]; exact BB.alloc (BB.alloc (BB.new w 23 x) _) _
  have hby0 : BB w1 (w.heap.size + 1) 23 zero16 := by
    have := BB.new (w.alloc (.cells (x.map u8v).toArray 23)) 23 zero16
    rw [World.size_alloc] at this
    rw [hw1]
    exact BB.alloc this _
  have hb0 : Below w.heap.size w w1 := by rw [hw1]; exact balloc (balloc (balloc (Below.refl _ _) _) _) _
  have hs1 : w1.heap.size = w.heap.size + 3 := by rw [hw1]; simp only [World.size_alloc]
  have ht1 : Tab w1 g 73 (.int .u32 1) (.int .i32 0) (.int .u32 0) sbL [.slice Aw n cw] := by rw [hw1]; exact Tab.alloc (Tab.alloc (Tab.alloc HTAB.out _) _) _
  have HBX0 := Lib.hid hbx0
  have HBY0 := Lib.hid hby0
  have HB0 := Lib.hid hb0
  have HT1 := Lib.hid ht1
  have HS1 := Lib.hid hs1
  clear hbx0 hby0 hb0 ht1 hw1 hs1
  go_wp2_with fail
  rw [← z16]
  go_loopg [12] 16 (fun gg v8 wr => ∃ k : Nat, k ≤ 16 ∧ gg = 16 - k ∧ v8 = .int .i64 (k : Int) ∧ BB wr w1.heap.size 23 (upTo 16 k f (fun _ => 0)) ∧ BB wr w.heap.size 23 x ∧ BB wr (w.heap.size + 1) 23 zero16 ∧ Below w.heap.size w wr ∧ Tab wr g 73 (.int .u32 1) (.int .i32 0) (.int .u32 0) sbL [.slice Aw n cw])
  case atStart =>
    refine ⟨0, by omega, rfl, rfl, ?_, HBX0.out.alloc _, HBY0.out.alloc _, balloc HB0.out _, HT1.out.alloc _⟩
    rw [upTo_zero]
    exact BB.new w1 23 zero16
  case round =>
    obtain ⟨k, hk, rfl, rfl, hbz, hbx, hby, hbel, ht⟩ := hrel
    have HBZ := Lib.hid hbz
    have HBX := Lib.hid hbx
    have HBY := Lib.hid hby
    have HBEL := Lib.hid hbel
    have HT := Lib.hid ht
    by_cases hk2 : k < 16
    · have hki : (k : Int) < 16 := by omega
      obtain ⟨m, hm⟩ : ∃ m, m = k % 4 := ⟨_, rfl⟩
      obtain ⟨m4, hm4⟩ : ∃ m4, m4 = 4 * m := ⟨_, rfl⟩
      obtain ⟨s4, hs4⟩ : ∃ s4, s4 = k + m4 := ⟨_, rfl⟩
      obtain ⟨q, hq⟩ : ∃ q, q = sgm k := ⟨_, rfl⟩
      have hrem : (k : Int).tmod 4 = (m : Int) := by rw [hm]; rfl
      have hw4 : IntKind.i64.wrap (4 * (m : Int)) = (m4 : Int) := by rw [hm4, show (4 * (m : Int)) = ((4 * m : Nat) : Int) by omega]; exact wrap64 _ (by omega)
      have hws : IntKind.i64.wrap ((k : Int) + (m4 : Int)) = (s4 : Int) := by rw [hs4, show ((k : Int) + (m4 : Int)) = ((k + m4 : Nat) : Int) by omega]; exact wrap64 _ (by omega)
      have hrem2 : (s4 : Int).tmod 16 = (q : Int) := by rw [hq, sgm, ← hm, ← hm4, ← hs4]; rfl
      have hql : q < 16 := by rw [hq]; exact Nat.mod_lt _ (by decide)
      have hqi : (q : Int) < 16 := by omega
      have cx := hbx.cell q (by rw [HX.out]; exact hql)
      obtain ⟨a, ha⟩ : ∃ a, a = x.getD q 0 := ⟨_, rfl⟩
      rw [← ha] at cx
      have hal : a.toNat < 256 := UInt8.toNat_lt a
      have hai : (a.toNat : Int) < 256 := by omega
      have ct := ht.cell a.toNat (by rw [sbL_len]; exact hal)
      obtain ⟨y, hy⟩ : ∃ y, y = sbL.getD a.toNat 0 := ⟨_, rfl⟩
      rw [← hy] at ct
      have hfk : f k = y := by rw [HF.out, hy, ha, hq]; rfl
      have cz := hbz.cell k (by rw [upTo_len]; exact hk2)
      have fz := hbz.free k
      have HY := Lib.hid hfk
      clear hbz hbx hby hbel ht hm hm4 hs4 hq ha hy hfk
      go_upto_region 6 with (fail)
      go_still_tail 14, (by kernel_rfl)
      change wpList _ _ _ _ _ wr.drew
      go_wp2_with fail
      go_roundg (16 - (k + 1))
      case measure => omega
      case rel =>
        refine ⟨k + 1, by omega, rfl, by go_num, ?_, ?_, ?_, ?_, ?_⟩
        · rw [← upTo_set f _ hk2, HY.out]
          exact BB.set HBZ.out k y
        · exact BB.far HBX.out (by have := HS1.out; show w.heap.size ≠ w1.heap.size; omega) _
        · exact BB.far HBY.out (by have := HS1.out; show w.heap.size + 1 ≠ w1.heap.size; omega) _
        · exact bdrew (bset (p := ⟨w1.heap.size, k, none⟩) HBEL.out (by have := HS1.out; show w.heap.size ≤ w1.heap.size; omega) _)
        · exact Tab.far HT.out (by have := HS1.out; show g ≠ w1.heap.size; omega) _
    · have hk3 : k = 16 := by omega
      subst hk3
      have HX2 : Hid (BB wr (w1.heap.size) 23 (movS x)) := by show BB _ _ _ _; rw [HR.out, ← upTo_full 16 f (fun _ => 0)]; exact HBZ.out
      have hrg := HX2.out.range
      have hinf : (Try.prog.info? 23).map (·.size) = some ((movS x).map u8v).length := by rw [List.length_map, movS_len]; exact info23
      have HI := Lib.hid hinf
      have HRG := Lib.hid hrg
      have hth := there16 HBY.out zero16_len
      have HTH := Lib.hid hth
      have hsz : ((movS x).map u8v).toArray.size = 16 := by rw [List.size_toArray, List.length_map, movS_len]
      have hi2 : (Try.prog.info? 23).map (·.size) = some ((movS x).map u8v).toArray.size := by rw [hsz]; exact info23
      have HI2 := Lib.hid hi2
      have hth2 : wr.there (w.heap.size + 1) 0 ((movS x).map u8v).toArray.size := by rw [hsz]; exact HTH.out
      have HTH2 := Lib.hid hth2
      clear hrg hinf hth hi2 hth2 hsz
      go_wp2_with (first
        | (refine wpList_load_mid rfl 23 (.tmp 6) rfl (w1.heap.size) 0 rfl ((movS x).map u8v) _ HRG.out Try.underlying23 rfl HI.out ?_)
        | (refine wpList_store_mid rfl 23 (.tmp 4) (.tmp 30) rfl (w.heap.size + 1) 0 ((movS x).map u8v).toArray rfl rfl HTH2.out HI2.out (bytes_one _) ?_))
      have hload := run_loadVar_mid (P := Try.prog) (wr.setCells (w.heap.size + 1) 0 ((movS x).map u8v)) (w.heap.size + 1) 0 23 ((movS x).map u8v) _ (World.rangeAt_setCells_same _ _ _ _ (by have := HTH2.out; rwa [List.size_toArray] at this)) Try.underlying23 rfl HI.out
      refine bodyPost_ret (results_one rfl _ _ (w.heap.size + 1) _ rfl hload) rfl ⟨rfl, ?_⟩
      exact below_setCells HBEL.out (Nat.le_succ _) _ _

set_option maxRecDepth 100000 in
set_option maxHeartbeats 1600000 in
theorem mixed_c (x : List UInt8) (w : World) (hx : x.length = 16) :
    Calls Try.prog 33 #[.agg (x.map u8v).toArray] w fun e w' => e = .returned (.agg ((mixS x).map u8v).toArray) ∧ Below w.heap.size w w' := by
  have HX := Lib.hid hx
  obtain ⟨f, hf⟩ : ∃ f : Nat → UInt8, f = mixF x := ⟨_, rfl⟩
  have HF := Lib.hid hf
  have HR : Hid (mixS x = (List.range 16).map f) := by show _ = _; rw [hf]; rfl
  clear hx hf
  go_enter Try.func33, Try.ntmps33
  go_wp2_with fail
  rw [← z16]
  go_loopg [8] 16 (fun gg v8 wr => ∃ k : Nat, k ≤ 16 ∧ gg = 16 - k ∧ v8 = .int .i64 (k : Int) ∧ BB wr (w.heap.size + 1 + 1) 23 (upTo 16 k f (fun _ => 0)) ∧ BB wr w.heap.size 23 x ∧ BB wr (w.heap.size + 1) 23 zero16 ∧ Below w.heap.size w wr)
  case atStart =>
    have h1 := BB.new (w.alloc (.cells (x.map u8v).toArray 23)) 23 zero16
    have h2 := BB.new ((w.alloc (.cells (x.map u8v).toArray 23)).alloc (.cells (zero16.map u8v).toArray 23)) 23 zero16
    simp only [World.size_alloc] at h1 h2
    refine ⟨0, by omega, rfl, rfl, ?_, BB.alloc (BB.alloc (BB.new w 23 x) _) _, h1.alloc _, balloc (balloc (balloc (Below.refl _ _) _) _) _⟩
    rw [upTo_zero]
    exact h2
  case round =>
    obtain ⟨k, hk, rfl, rfl, hbz, hbx, hby, hbel⟩ := hrel
    have HBZ := Lib.hid hbz
    have HBX := Lib.hid hbx
    have HBY := Lib.hid hby
    have HBEL := Lib.hid hbel
    by_cases hk2 : k < 16
    · have hki : (k : Int) < 16 := by omega
      obtain ⟨m, hm⟩ : ∃ m, m = k % 4 := ⟨_, rfl⟩
      obtain ⟨c, hc⟩ : ∃ c, c = k - m := ⟨_, rfl⟩
      have hrem : (k : Int).tmod 4 = (m : Int) := by rw [hm]; rfl
      have hsub : (k : Int) - (m : Int) = (c : Int) := by omega
      have hwc := wrap64 c (by omega)
      obtain ⟨k1, hk1⟩ : ∃ k1, k1 = k + 1 := ⟨_, rfl⟩
      obtain ⟨j1, hj1⟩ : ∃ j1, j1 = k1 % 4 := ⟨_, rfl⟩
      rw [hk1] at hj1
      obtain ⟨p1, hp1⟩ : ∃ p1, p1 = c + j1 := ⟨_, rfl⟩
      have hs1 : (k : Int) + 1 = (k1 : Int) := by omega
      have hwk1 := wrap64 k1 (by omega)
      have hrem1 : (k1 : Int).tmod 4 = (j1 : Int) := by rw [hj1, hk1]; rfl
      have hsp1 : (c : Int) + (j1 : Int) = (p1 : Int) := by omega
      have hpl1 : p1 < 16 := by omega
      have hwp1 := wrap64 p1 (by omega)
      have hpi1 : (p1 : Int) < 16 := by omega
      have cx1 := hbx.cell p1 (by rw [HX.out]; exact hpl1)
      obtain ⟨a1, ha1⟩ : ∃ a1, a1 = x.getD p1 0 := ⟨_, rfl⟩
      rw [← ha1] at cx1
      clear hk1
      obtain ⟨k2, hk2⟩ : ∃ k2, k2 = k + 2 := ⟨_, rfl⟩
      obtain ⟨j2, hj2⟩ : ∃ j2, j2 = k2 % 4 := ⟨_, rfl⟩
      rw [hk2] at hj2
      obtain ⟨p2, hp2⟩ : ∃ p2, p2 = c + j2 := ⟨_, rfl⟩
      have hs2 : (k : Int) + 2 = (k2 : Int) := by omega
      have hwk2 := wrap64 k2 (by omega)
      have hrem2 : (k2 : Int).tmod 4 = (j2 : Int) := by rw [hj2, hk2]; rfl
      have hsp2 : (c : Int) + (j2 : Int) = (p2 : Int) := by omega
      have hpl2 : p2 < 16 := by omega
      have hwp2 := wrap64 p2 (by omega)
      have hpi2 : (p2 : Int) < 16 := by omega
      have cx2 := hbx.cell p2 (by rw [HX.out]; exact hpl2)
      obtain ⟨a2, ha2⟩ : ∃ a2, a2 = x.getD p2 0 := ⟨_, rfl⟩
      rw [← ha2] at cx2
      clear hk2
      obtain ⟨k3, hk3⟩ : ∃ k3, k3 = k + 3 := ⟨_, rfl⟩
      obtain ⟨j3, hj3⟩ : ∃ j3, j3 = k3 % 4 := ⟨_, rfl⟩
      rw [hk3] at hj3
      obtain ⟨p3, hp3⟩ : ∃ p3, p3 = c + j3 := ⟨_, rfl⟩
      have hs3 : (k : Int) + 3 = (k3 : Int) := by omega
      have hwk3 := wrap64 k3 (by omega)
      have hrem3 : (k3 : Int).tmod 4 = (j3 : Int) := by rw [hj3, hk3]; rfl
      have hsp3 : (c : Int) + (j3 : Int) = (p3 : Int) := by omega
      have hpl3 : p3 < 16 := by omega
      have hwp3 := wrap64 p3 (by omega)
      have hpi3 : (p3 : Int) < 16 := by omega
      have cx3 := hbx.cell p3 (by rw [HX.out]; exact hpl3)
      obtain ⟨a3, ha3⟩ : ∃ a3, a3 = x.getD p3 0 := ⟨_, rfl⟩
      rw [← ha3] at cx3
      clear hk3
      have cx := hbx.cell k (by rw [HX.out]; exact hk2)
      obtain ⟨a, ha⟩ : ∃ a, a = x.getD k 0 := ⟨_, rfl⟩
      rw [← ha] at cx
      have hfk : f k = tw a ^^^ tw a1 ^^^ a1 ^^^ a2 ^^^ a3 := by rw [HF.out, mixF, ← hm, ← hc, ← hj1, ← hj2, ← hj3, ← hp1, ← hp2, ← hp3, ← ha, ← ha1, ← ha2, ← ha3]
      obtain ⟨ta, hta⟩ : ∃ t, t = tw a := ⟨_, rfl⟩
      obtain ⟨tb, htb⟩ : ∃ t, t = tw a1 := ⟨_, rfl⟩
      obtain ⟨y1, hy1⟩ : ∃ t, t = ta ^^^ tb := ⟨_, rfl⟩
      obtain ⟨y2, hy2⟩ : ∃ t, t = y1 ^^^ a1 := ⟨_, rfl⟩
      obtain ⟨y3, hy3⟩ : ∃ t, t = y2 ^^^ a2 := ⟨_, rfl⟩
      obtain ⟨y, hy⟩ : ∃ t, t = y3 ^^^ a3 := ⟨_, rfl⟩
      rw [← hta, ← htb, ← hy1, ← hy2, ← hy3, ← hy] at hfk
      have hx1 := U8.xor ta tb
      have hx2 := U8.xor y1 a1
      have hx3 := U8.xor y2 a2
      have hx4 := U8.xor y3 a3
      rw [← hy1] at hx1
      rw [← hy2] at hx2
      rw [← hy3] at hx3
      rw [← hy] at hx4
      have htwa : ∀ wx, Calls Try.prog 29 #[.int .u8 (a.toNat : Int)] wx fun e w' => e = .returned (.int .u8 (ta.toNat : Int)) ∧ wx = w' := fun wx => by rw [hta]; exact twice_c a wx
      have htwb : ∀ wx, Calls Try.prog 29 #[.int .u8 (a1.toNat : Int)] wx fun e w' => e = .returned (.int .u8 (tb.toNat : Int)) ∧ wx = w' := fun wx => by rw [htb]; exact twice_c a1 wx
      have HTA := Lib.hid htwa
      have HTB := Lib.hid htwb
      have cz := hbz.cell k (by rw [upTo_len]; exact hk2)
      have fz := hbz.free k
      have HY := Lib.hid hfk
      clear hbz hbx hby hbel hm hc hj1 hj2 hj3 hp1 hp2 hp3 ha ha1 ha2 ha3 hy hy1 hy2 hy3 hfk htwa htwb hta htb
      go_upto_region 6 with (fail)
      go_quiet (fail)
      go_upto_region 7 with (fail)
      go_region_held3 (fun w' => w'.cell? ⟨w.heap.size, p2, none⟩ = some (.int .u8 (a2.toNat : Int)) ∧ w'.cell? ⟨w.heap.size, p3, none⟩ = some (.int .u8 (a3.toNat : Int)))
        (first
          | exact ⟨cx2, cx3⟩
          | exact ⟨(World.cell?_setCell_other wr ⟨w.heap.size + 1 + 1, k, none⟩ ⟨w.heap.size, p2, none⟩ _ (by intro h; have := congrArg Addr.block h; simp at this; omega)).trans cx2, (World.cell?_setCell_other wr ⟨w.heap.size + 1 + 1, k, none⟩ ⟨w.heap.size, p3, none⟩ _ (by intro h; have := congrArg Addr.block h; simp at this; omega)).trans cx3⟩)
        (first
          | (go_at_call_of 29 (Value.int .u8 (a.toNat : Int)); refine (HTA.out _).mono ?_; rintro e0 w1 ⟨rfl, rfl⟩)
          | (go_at_call_of 29 (Value.int .u8 (a1.toNat : Int)); refine (HTB.out _).mono ?_; rintro e0 w1 ⟨rfl, rfl⟩))
      go_wp2_with fail
      go_roundg (16 - (k + 1))
      case measure => omega
      case rel =>
        refine ⟨k + 1, by omega, rfl, by go_num, ?_, ?_, ?_, ?_⟩
        · rw [← upTo_set f _ hk2, HY.out]
          exact BB.set HBZ.out k y
        · exact BB.far HBX.out (by show w.heap.size ≠ w.heap.size + 1 + 1; omega) _
        · exact BB.far HBY.out (by show w.heap.size + 1 ≠ w.heap.size + 1 + 1; omega) _
        · exact bset (p := ⟨w.heap.size + 1 + 1, k, none⟩) (below_drewN HBEL.out _) (by show w.heap.size ≤ w.heap.size + 1 + 1; omega) _
    · have hk3 : k = 16 := by omega
      subst hk3
      have HX2 : Hid (BB wr (w.heap.size + 1 + 1) 23 (mixS x)) := by show BB _ _ _ _; rw [HR.out, ← upTo_full 16 f (fun _ => 0)]; exact HBZ.out
      have hrg := HX2.out.range
      have hinf : (Try.prog.info? 23).map (·.size) = some ((mixS x).map u8v).length := by rw [List.length_map, mixS_len]; exact info23
      have HI := Lib.hid hinf
      have HRG := Lib.hid hrg
      have hth := there16 HBY.out zero16_len
      have HTH := Lib.hid hth
      have hsz : ((mixS x).map u8v).toArray.size = 16 := by rw [List.size_toArray, List.length_map, mixS_len]
      have hi2 : (Try.prog.info? 23).map (·.size) = some ((mixS x).map u8v).toArray.size := by rw [hsz]; exact info23
      have HI2 := Lib.hid hi2
      have hth2 : wr.there (w.heap.size + 1) 0 ((mixS x).map u8v).toArray.size := by rw [hsz]; exact HTH.out
      have HTH2 := Lib.hid hth2
      clear hrg hinf hth hi2 hth2 hsz
      go_wp2_with (first
        | (refine wpList_load_mid rfl 23 (.tmp 3) rfl (w.heap.size + 1 + 1) 0 rfl ((mixS x).map u8v) _ HRG.out Try.underlying23 rfl HI.out ?_)
        | (refine wpList_store_mid rfl 23 (.tmp 2) (.tmp 51) rfl (w.heap.size + 1) 0 ((mixS x).map u8v).toArray rfl rfl HTH2.out HI2.out (bytes_one _) ?_))
      have hload := run_loadVar_mid (P := Try.prog) (wr.setCells (w.heap.size + 1) 0 ((mixS x).map u8v)) (w.heap.size + 1) 0 23 ((mixS x).map u8v) _ (World.rangeAt_setCells_same _ _ _ _ (by have := HTH2.out; rwa [List.size_toArray] at this)) Try.underlying23 rfl HI.out
      refine bodyPost_ret (results_one rfl _ _ (w.heap.size + 1) _ rfl hload) rfl ⟨rfl, ?_⟩
      exact below_setCells HBEL.out (Nat.le_succ _) _ _

end Go.Proofs.Ytklkehpcifnfkaa
