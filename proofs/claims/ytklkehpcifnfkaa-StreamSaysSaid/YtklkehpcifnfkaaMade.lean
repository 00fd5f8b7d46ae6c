/- The table filled (contract). Conditions: the table is all noughts. -/
import Derived.Test.YtklkehpcifnfkaaOnce
set_option linter.unusedVariables false
namespace Go.Proofs.Ytklkehpcifnfkaa
open Go.RowKit
attribute [local go_sem ↓] Go.wp_at_zero Go.wp_at_succ

def tabK : Nat → List UInt8
  | 0 => List.replicate 256 0
  | k + 1 => (tabK k).set (pw k).toNat (boxS (pw ((255 - k) % 255)))
theorem tabK_len : ∀ k, (tabK k).length = 256
  | 0 => by rw [tabK, List.length_replicate]
  | k + 1 => by rw [tabK, List.length_set, tabK_len k]
theorem tabK_all : (tabK 255).set 0 (boxS 0) = sbL := by decide +kernel
theorem zero83 : Try.zeroCells83 = (((List.replicate 255 (0 : UInt8)).map u8v).toArray) := by kernel_rfl
theorem pow_start : List.replicate 255 (0 : UInt8) = upTo 255 0 pw (fun _ => 0) := by decide +kernel
def pwL : List UInt8 := (List.range 255).map pw
theorem pwL_len : pwL.length = 255 := by simp [pwL]
theorem pwL_at {k : Nat} (hk : k < 255) : pwL.getD k 0 = pw k := by simp [pwL, List.getD_eq_getElem?_getD, hk]

theorem Tab.belowB {w w' : World} {g B : Nat} {t : TypeId} {d s z : Value} {l : List UInt8} {suf : List Value} (h : Tab w g t d s z l suf) (hb : Below B w w') (hg : g < B) : Tab w' g t d s z l suf := Blk.belowB h hb hg
theorem info83 : (Try.prog.info? 83).map (·.size) = some 255 := by kernel_rfl
set_option maxRecDepth 100000 in
set_option maxHeartbeats 1600000 in
theorem fill_c (g p : Nat) (t : TypeId) (d s z : Value) (suf : List Value) (w : World) (hp : w.cell? ⟨p, 0, none⟩ = some (.pointer (some ⟨g, 0, none⟩))) (hpl : p < w.heap.size) (hpg : p ≠ g) (ht : Tab w g t d s z (List.replicate 256 0) suf) :
    Calls Try.prog 38 #[.pointer (some ⟨p, 0, none⟩)] w fun e w' => e = .returned (.tuple #[]) ∧ Tab w' g t d s z sbL suf ∧ But g w w' := by
  have HT := Lib.hid ht
  have HP := Lib.hid hp
  have HPL := Lib.hid hpl
  have HPG := Lib.hid hpg
  have hgl := ht.lt
  have HGL := Lib.hid hgl
  clear ht hp hpl hpg hgl
  go_enter Try.func38, Try.ntmps38
  go_wp2_with fail
  go_loopg [2, 6] 255 (fun gg v2 v6 wr => ∃ k : Nat, k ≤ 255 ∧ gg = 255 - k ∧ v6 = .int .i64 (k : Int) ∧ v2 = .int .u8 ((pw k).toNat : Int) ∧ BB wr w.heap.size 83 (upTo 255 k pw (fun _ => 0)) ∧ Below w.heap.size w wr)
  case atStart =>
    refine ⟨0, by omega, rfl, rfl, rfl, ?_, balloc (Below.refl _ _) _⟩
    rw [zero83, ← pow_start]
    exact BB.new w 83 _
  case round =>
    obtain ⟨k, hk, rfl, rfl, rfl, hbb, hbel⟩ := hrel
    have HB := Lib.hid hbb
    have HBEL := Lib.hid hbel
    by_cases hk2 : k < 255
    · have hki : (k : Int) < 255 := by omega
      have hc := hbb.cell k (by rw [upTo_len]; exact hk2)
      have hz := hbb.free k
      clear hbb hbel
      obtain ⟨y, hy⟩ : ∃ y, y = pw k := ⟨_, rfl⟩
      rw [← hy]
      have HY := Lib.hid hy
      clear hy
      go_wp2_with (go_at_call 18; refine (times_c y 3 _).mono ?_; rintro e0 w1 ⟨rfl, rfl⟩)
      go_roundg (255 - (k + 1))
      case measure => omega
      case rel =>
        refine ⟨k + 1, by omega, rfl, by go_num, by rw [HY.out]; rfl, ?_, bset HBEL.out (Nat.le_refl _) _⟩
        rw [← upTo_set pw _ hk2, ← HY.out]
        exact HB.out.set k y
    · have hk3 : k = 255 := by omega
      subst hk3
      have hrange : BB wr w.heap.size 83 pwL := by have := HB.out; rw [upTo_full] at this; exact this
      have hcut := hrange.range
      have HR := Lib.hid hrange
      clear hbb hbel
      have hT := HT.out.below HBEL.out
      have hinf : (Try.prog.info? 83).map (·.size) = some (pwL.map u8v).length := by rw [List.length_map, pwL_len]; exact info83
      have HI := Lib.hid hinf
      have HC := Lib.hid hcut
      clear hinf hcut
      go_wp2_with (first
        | (refine wpList_load_mid rfl 83 (.tmp 1) rfl w.heap.size 0 rfl (pwL.map u8v) _ HC.out Try.underlying83 rfl HI.out ?_))
      go_loopg [16] 255 (fun gg v16 wx => ∃ k : Nat, k ≤ 255 ∧ gg = 255 - k ∧ v16 = .int .i64 (k : Int) ∧ BB wx w.heap.size 83 pwL ∧ Tab wx g t d s z (tabK k) suf ∧ But g w wx)
      case atStart => exact ⟨0, by omega, rfl, rfl, HR.out, HT.out.belowB HBEL.out HGL.out, But.of_below HBEL.out⟩
      case round =>
        obtain ⟨k, hk, rfl, rfl, hbb, htab, hbut⟩ := hrel
        have HBB := Lib.hid hbb
        have HTAB := Lib.hid htab
        have HBUT := Lib.hid hbut
        have hgne : w.heap.size ≠ g := by have := HGL.out; omega
        have hpgs : g ≠ p := by have := HPG.out; omega
        have hgs : g ≠ w.heap.size := by have := HGL.out; omega
        have hpne : p ≠ w.heap.size := by have := HPL.out; omega
        have cp : wr.cell? ⟨p, 0, none⟩ = some (.pointer (some ⟨g, 0, none⟩)) := (hbut.cell (p := ⟨p, 0, none⟩) HPL.out HPG.out).trans HP.out
        by_cases hk2 : k < 255
        · have hki : (k : Int) < 255 := by omega
          obtain ⟨hx0, hx1⟩ := pair_all k hk2
          obtain ⟨m, hm⟩ : ∃ m, m = (255 - k) % 255 := ⟨_, rfl⟩
          have hml : m < 255 := by rw [hm]; exact Nat.mod_lt _ (by decide)
          obtain ⟨j, hj⟩ : ∃ j, j = 255 - k := ⟨_, rfl⟩
          have hwr : IntKind.i64.wrap ((255 : Int) - (k : Int)) = (j : Int) := by
            rw [hj]
            simp [IntKind.wrap, IntKind.bits, IntKind.signed]
            omega
          have hrem : (j : Int).tmod 255 = (m : Int) := by rw [hm, hj]; rfl
          have hmi : (m : Int) < 255 := by omega
          have HM := Lib.hid hm
          obtain ⟨x, hx⟩ : ∃ x, x = pw k := ⟨_, rfl⟩
          obtain ⟨q, hq⟩ : ∃ q, q = pw m := ⟨_, rfl⟩
          have hidx := fun wx => run_index_row wx 83 255 pwL k Try.underlying83 hk2 pwL_len x (by rw [hx]; exact pwL_at hk2)
          have cm : wr.cell? ⟨w.heap.size, m, none⟩ = some (.int .u8 (q.toNat : Int)) := by rw [hq, ← pwL_at hml]; exact hbb.cell m (by rw [pwL_len]; exact hml)
          have hxl : x.toNat < 256 := UInt8.toNat_lt x
          have hxi : (x.toNat : Int) < 256 := by omega
          have cx := htab.cell x.toNat (by rw [tabK_len]; exact hxl)
          have fx := htab.free (3 + x.toNat)
          have HN : Hid ((tabK k).set x.toNat (boxS q) = tabK (k + 1)) := by show _ = _; rw [tabK, hx, hq, hm]
          have hbox := fun wx => box_c q wx
          obtain ⟨r, hr⟩ : ∃ r, r = boxS q := ⟨_, rfl⟩
          rw [← hr] at hbox HN
          have HBOX := Lib.hid hbox
          have HX := Lib.hid hx
          clear hj hbb htab hbut hx hq hm hx0 hx1 hr hbox
          go_upto_region 11 with (fail)
          have S0 : Hid (∀ w', (∃ n, w' = wr.drewN n) → w'.cell? ⟨p, 0, none⟩ = some (.pointer (some ⟨g, 0, none⟩)) ∧ w'.cell? ⟨w.heap.size, m, none⟩ = some (.int .u8 (q.toNat : Int))) := fun w' ⟨n, hn⟩ => by subst hn; exact ⟨cp, cm⟩
          go_region_held3 (fun w' => w'.cell? ⟨p, 0, none⟩ = some (.pointer (some ⟨g, 0, none⟩)) ∧ w'.cell? ⟨w.heap.size, m, none⟩ = some (.int .u8 (q.toNat : Int)))
            (first | exact ⟨cp, cm⟩ | exact ⟨(World.cell?_setCell_other wr ⟨g, 3 + x.toNat, none⟩ ⟨p, 0, none⟩ _ (by intro h; have := congrArg Addr.block h; simp at this; omega)).trans cp, (World.cell?_setCell_other wr ⟨g, 3 + x.toNat, none⟩ ⟨w.heap.size, m, none⟩ _ (by intro h; have := congrArg Addr.block h; simp at this; omega)).trans cm⟩)
            (first
              | (go_at_call 39; refine (HBOX.out _).mono ?_; rintro e0 w1 ⟨rfl, rfl⟩))
          go_wp2_with fail
          go_roundg (255 - (k + 1))
          case measure => omega
          case rel => exact ⟨k + 1, by omega, rfl, by go_num, BB.far HBB.out hgne _, by rw [← HN.out]; exact Tab.set HTAB.out _ (by rw [tabK_len]; exact hxl) _, But.drew (But.set HBUT.out _ _)⟩
        · have hk3 : k = 255 := by omega
          subst hk3
          have hbox := fun wx => box_c 0 wx
          obtain ⟨r, hr⟩ : ∃ r, r = boxS 0 := ⟨_, rfl⟩
          have HN : Hid ((tabK 255).set 0 r = sbL) := by show _ = _; rw [hr]; exact tabK_all
          rw [← hr] at hbox
          have HBOX := Lib.hid hbox
          have cx := htab.cell 0 (by rw [tabK_len]; decide)
          have fx := htab.free 3
          clear hbb htab hbut hr hbox
          go_upto_region 13 with (fail)
          go_region_held3 (fun w' => w'.cell? ⟨p, 0, none⟩ = some (.pointer (some ⟨g, 0, none⟩)))
            (first | exact cp | exact (World.cell?_setCell_other wr ⟨g, 3, none⟩ ⟨p, 0, none⟩ _ (by intro h; have := congrArg Addr.block h; simp at this; omega)).trans cp)
            (first
              | (go_at_call 39; refine (HBOX.out _).mono ?_; rintro e0 w1 ⟨rfl, rfl⟩))
          go_wp2_with fail
          go_end0
          exact ⟨rfl, by rw [← HN.out]; exact Tab.set HTAB.out 0 (by rw [tabK_len]; decide) r, But.drew (But.set HBUT.out _ _)⟩
end Go.Proofs.Ytklkehpcifnfkaa
