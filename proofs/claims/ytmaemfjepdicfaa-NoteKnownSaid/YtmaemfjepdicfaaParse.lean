/- What the program's Parse returns (contract). Conditions: the bytes read. -/
import Derived.Test.YtmaemfjepdicfaaTwo
set_option linter.unusedVariables false
namespace Go.Proofs.Ytmaemfjepdicfaa
open Go.RowKit
attribute [local go_sem ↓] Go.wp_at_zero Go.wp_at_succ

def ParseRet (bs : List UInt8) (w : World) (e : Ending) (w' : World) : Prop :=
  ∃ A c, e = .returned (.tuple #[noteV (noteS bs) A c, .int .i64 (errS bs)]) ∧ ByteRow w' w.heap.size (.slice A (noteS bs).bs.length c) (noteS bs).bs ∧ Below w.heap.size w w'
theorem ParseRet.no {bs : List UInt8} {w w' : World} {k : Nat} (hk : errS bs = k) (h0 : k ≠ 0) (hb : Below w.heap.size w w') :
    ParseRet bs w (.returned (.tuple #[.agg #[.int .i64 0, .int .i64 0, .int .i64 0, .int .i64 0, .int .i64 0, .int .i64 0, .slice none 0 0], .int .i64 k])) w' := by
  have e : noteS bs = NoteD.zero := by unfold noteS; rw [if_neg (by omega)]
  refine ⟨none, 0, ?_⟩
  rw [e, hk]
  exact ⟨rfl, World.ownsRow_nil _ _ _ _, hb⟩

theorem ParseRet.yes {bs : List UInt8} {w w' : World} {A : Option Addr} {c : Nat} (he : errS bs = 0) (hv : w'.ownsRow w.heap.size 5 1 (.slice A (bs.drop 11).length c) (bs.drop 11).length ((bs.drop 11).map u8v)) (hb : Below w.heap.size w w') :
    ParseRet bs w (.returned (.tuple #[noteV (headS bs) A c, .int .i64 0])) w' := by
  have e : noteS bs = headS bs := by unfold noteS; rw [if_pos he]
  refine ⟨A, c, ?_⟩
  rw [e, he]
  exact ⟨rfl, hv, hb⟩
theorem own_set_below {w : World} {B e n : Nat} {v : Value} {xs : List Value} {p : Addr} (h : w.ownsRow B e 1 v n xs) (hp : p.block < B) (u : Value) : (w.setCell p u).ownsRow B e 1 v n xs := by
  rcases h with ⟨h1, h⟩
  refine ⟨h1, ?_⟩
  rcases h with h | ⟨g, cap, cur, e1, e2, e3, e4⟩
  · exact .inl h
  · refine .inr ⟨g, cap, cur, e1, e2, ?_, e4⟩
    exact (Below.heap_setCell w p u g (by omega)).trans e3
theorem own_set7 {w : World} {B e n g : Nat} {v x0 x1 x2 x3 x4 x5 x6 : Value} {xs : List Value} (h : w.ownsRow B e 1 v n xs) (hp : g < B) :
    (((((((w.setCell ⟨g, 0, none⟩ x0).setCell ⟨g, 1, none⟩ x1).setCell ⟨g, 2, none⟩ x2).setCell ⟨g, 3, none⟩ x3).setCell ⟨g, 4, none⟩ x4).setCell ⟨g, 5, none⟩ x5).setCell ⟨g, 6, none⟩ x6).ownsRow B e 1 v n xs :=
  own_set_below (own_set_below (own_set_below (own_set_below (own_set_below (own_set_below (own_set_below h hp x0) hp x1) hp x2) hp x3) hp x4) hp x5) hp x6
theorem head_cells {w : World} {B : Nat} {A : Option Addr} {bs : List UInt8} (hr : Reads w B 1 A bs.length (bs.map u8v)) (hi : 2 < bs.length) :
    ∃ b off, A = some ⟨b, off, none⟩ ∧ b < B ∧ ∀ i, i < bs.length → w.cell? ⟨b, off + i, none⟩ = some (.int .u8 ((bs.getD i 0).toNat : Int)) := by
  obtain ⟨ad, rfl, hadl, hcell⟩ := hr.2 (by omega)
  have c00 := hcell 0 (u8v (bs[0]'(by omega))) (by rw [List.getElem?_map, List.getElem?_eq_getElem (by omega)]; rfl)
  obtain ⟨b, off, rfl⟩ := addr_plain c00
  refine ⟨b, off, rfl, hadl, fun i hi => ?_⟩
  have := hcell i (u8v (bs.getD i 0)) (by rw [List.getElem?_map, List.getElem?_eq_getElem (by omega), List.getD_eq_getElem?_getD, List.getElem?_eq_getElem (by omega)]; rfl)
  rwa [Go.WideShapes.add_plain] at this

theorem Blk.set7 {w : World} {g : Nat} {t : TypeId} {z0 z1 z2 z3 z4 z5 z6 x0 x1 x2 x3 x4 x5 x6 : Value} (h : Blk w g t #[z0, z1, z2, z3, z4, z5, z6]) :
    Blk (((((((w.setCell ⟨g, 0, none⟩ x0).setCell ⟨g, 1, none⟩ x1).setCell ⟨g, 2, none⟩ x2).setCell ⟨g, 3, none⟩ x3).setCell ⟨g, 4, none⟩ x4).setCell ⟨g, 5, none⟩ x5).setCell ⟨g, 6, none⟩ x6) g t #[x0, x1, x2, x3, x4, x5, x6] :=
  by
  have := ((((((h.set_ 0 x0).set_ 1 x1).set_ 2 x2).set_ 3 x3).set_ 4 x4).set_ 5 x5).set_ 6 x6
  simp only [List.setIfInBounds_toArray, List.set_cons_zero, List.set_cons_succ] at this
  exact this
theorem Blk.cell7 {w : World} {g : Nat} {t : TypeId} {x0 x1 x2 x3 x4 x5 x6 : Value} (h : Blk w g t #[x0, x1, x2, x3, x4, x5, x6]) :
    w.cell? ⟨g, 0, none⟩ = some x0 ∧ w.cell? ⟨g, 1, none⟩ = some x1 ∧ w.cell? ⟨g, 2, none⟩ = some x2 ∧ w.cell? ⟨g, 3, none⟩ = some x3 ∧ w.cell? ⟨g, 4, none⟩ = some x4 ∧ w.cell? ⟨g, 5, none⟩ = some x5 ∧ w.cell? ⟨g, 6, none⟩ = some x6 :=
  ⟨h.cell 0, h.cell 1, h.cell 2, h.cell 3, h.cell 4, h.cell 5, h.cell 6⟩
theorem Blk.free7 {w : World} {g : Nat} {t : TypeId} {x0 x1 x2 x3 x4 x5 x6 : Value} (h : Blk w g t #[x0, x1, x2, x3, x4, x5, x6]) :
    w.frozen? ⟨g, 0, none⟩ = false ∧ w.frozen? ⟨g, 1, none⟩ = false ∧ w.frozen? ⟨g, 2, none⟩ = false ∧ w.frozen? ⟨g, 3, none⟩ = false ∧ w.frozen? ⟨g, 4, none⟩ = false ∧ w.frozen? ⟨g, 5, none⟩ = false ∧ w.frozen? ⟨g, 6, none⟩ = false :=
  ⟨h.frozen 0, h.frozen 1, h.frozen 2, h.frozen 3, h.frozen 4, h.frozen 5, h.frozen 6⟩
theorem bset7 {w W : World} {g : Nat} {x0 x1 x2 x3 x4 x5 x6 : Value} (h : Below w.heap.size w W) (hg : w.heap.size ≤ g := by first | exact Nat.le_refl _ | exact Nat.le_succ _) :
    Below w.heap.size w (((((((W.setCell ⟨g, 0, none⟩ x0).setCell ⟨g, 1, none⟩ x1).setCell ⟨g, 2, none⟩ x2).setCell ⟨g, 3, none⟩ x3).setCell ⟨g, 4, none⟩ x4).setCell ⟨g, 5, none⟩ x5).setCell ⟨g, 6, none⟩ x6) :=
  bset (bset (bset (bset (bset (bset (bset h hg _) hg _) hg _) hg _) hg _) hg _) hg _
set_option maxHeartbeats 1600000 in
theorem parse_cn (bs : List UInt8) (A : Option Addr) (n c : Nat) (hn : bs.length = n) (w : World) (hr : Reads w w.heap.size 1 A n (bs.map u8v)) (hlen : n ≤ 9223372036854775807) (hcap : n ≤ c) :
    Calls Try.prog 14 #[.slice A n c] w (ParseRet bs w) := by
  have HN := Lib.hid hn
  obtain ⟨Q, hQ⟩ : ∃ Q, Q = ParseRet bs w := ⟨_, rfl⟩
  rw [← hQ]
  have HQ := Lib.hid hQ
  clear hQ
  have HR := Lib.hid hr
  have hb00 := balloc (balloc (Below.refl w.heap.size w) (.cells #[.slice A n c] 22)) (.cells #[.int .i64 0, .int .i64 0, .int .i64 0, .int .i64 0, .int .i64 0, .int .i64 0, .slice none 0 0] 24)
  by_cases h11 : n < 11
  · have hi : (n : Int) < 11 := by omega
    have HE : Hid (errS bs = 3) := by show _ = _; unfold errS; rw [if_pos (by omega)]
    have HB := Lib.hid hb00
    clear hb00 hr hn
    go_enter Try.func14, Try.ntmps14
    go_wp2
    have hc := (Blk.new (w.alloc (.cells #[.slice A n c] 22)) 24 #[.int .i64 0, .int .i64 0, .int .i64 0, .int .i64 0, .int .i64 0, .int .i64 0, .slice none 0 0])
    refine bodyPost_ret (v := .tuple #[.agg #[.int .i64 0, .int .i64 0, .int .i64 0, .int .i64 0, .int .i64 0, .int .i64 0, .slice none 0 0], .int .i64 3]) (by simp [results, Try.results14, go_sem]) rfl ?_
    rw [HQ.out]
    exact ParseRet.no HE.out (by decide) HB.out
  · have hi : ¬ (n : Int) < 11 := by omega
    obtain ⟨b, off, rfl, hbl, hcell⟩ := head_cells (by rw [hn]; exact hr) (by omega)
    clear hr
    go_enter Try.func14, Try.ntmps14
    go_wp2_with fail
    have hr2 := HR.out.to_ hb00
    have bb := (Blk.new w 22 #[.slice (some ⟨b, off, none⟩) n c]).alloc (.cells #[.int .i64 0, .int .i64 0, .int .i64 0, .int .i64 0, .int .i64 0, .int .i64 0, .slice none 0 0] 24)
    have br := Blk.new (w.alloc (.cells #[.slice (some ⟨b, off, none⟩) n c] 22)) 24 #[.int .i64 0, .int .i64 0, .int .i64 0, .int .i64 0, .int .i64 0, .int .i64 0, .slice none 0 0]
    rw [World.size_alloc] at br
    generalize ((w.alloc (Obj.cells #[.slice (some ⟨b, off, none⟩) n c] 22)).alloc (.cells #[.int .i64 0, .int .i64 0, .int .i64 0, .int .i64 0, .int .i64 0, .int .i64 0, .slice none 0 0] 24)) = W at *
    have c0 : w.cell? ⟨b, off, none⟩ = _ := hcell 0 (by omega)
    have c1 := hcell 1 (by omega)
    have c2 := hcell 2 (by omega)
    obtain ⟨x0, hx0⟩ : ∃ x, x = (bs.getD 0 0).toNat := ⟨_, rfl⟩
    obtain ⟨x1, hx1⟩ : ∃ x, x = (bs.getD 1 0).toNat := ⟨_, rfl⟩
    obtain ⟨x2, hx2⟩ : ∃ x, x = (bs.getD 2 0).toNat := ⟨_, rfl⟩
    rw [← hx0] at c0
    rw [← hx1] at c1
    rw [← hx2] at c2
    have kW := Below.refl W.heap.size W
    have b0 : x0 < 256 := by rw [hx0]; exact UInt8.toNat_lt _
    have b1 : x1 < 256 := by rw [hx1]; exact UInt8.toNat_lt _
    have b2 : x2 < 256 := by rw [hx2]; exact UInt8.toNat_lt _
    have HX0 := Lib.hid hx0
    have HX1 := Lib.hid hx1
    have HX2 := Lib.hid hx2
    have hAc : ∀ (k : Nat) (p : Addr), ((W.drewN k).alloc (.cells #[.int .i64 0, .int .i64 0, .int .i64 0, .int .i64 0, .int .i64 0, .int .i64 0, .slice none 0 0] 24)).cell? p = (W.alloc (.cells #[.int .i64 0, .int .i64 0, .int .i64 0, .int .i64 0, .int .i64 0, .int .i64 0, .slice none 0 0] 24)).cell? p := fun _ _ => rfl
    have hAf : ∀ (k : Nat) (p : Addr), ((W.drewN k).alloc (.cells #[.int .i64 0, .int .i64 0, .int .i64 0, .int .i64 0, .int .i64 0, .int .i64 0, .slice none 0 0] 24)).frozen? p = (W.alloc (.cells #[.int .i64 0, .int .i64 0, .int .i64 0, .int .i64 0, .int .i64 0, .int .i64 0, .slice none 0 0] 24)).frozen? p := fun _ _ => rfl
    have keep : ∀ w', Below W.heap.size W w' → w'.cell? ⟨w.heap.size, 0, none⟩ = some (.slice (some ⟨b, off, none⟩) n c) ∧ w'.cell? ⟨b, off, none⟩ = some (.int .u8 (x0 : Int)) ∧ w'.cell? ⟨b, off + 1, none⟩ = some (.int .u8 (x1 : Int)) ∧ w'.cell? ⟨b, off + 2, none⟩ = some (.int .u8 (x2 : Int)) ∧ Below W.heap.size W w' := by
      intro w' hb
      refine ⟨(bb.below hb).cell 0, ?_, ?_, ?_, hb⟩
      · exact (hb.cell (p := ⟨b, off, none⟩) (Nat.lt_of_lt_of_le hbl hb00.size)).trans ((hb00.cell (p := ⟨b, off, none⟩) hbl).trans c0)
      · exact (hb.cell (p := ⟨b, off + 1, none⟩) (Nat.lt_of_lt_of_le hbl hb00.size)).trans ((hb00.cell (p := ⟨b, off + 1, none⟩) hbl).trans c1)
      · exact (hb.cell (p := ⟨b, off + 2, none⟩) (Nat.lt_of_lt_of_le hbl hb00.size)).trans ((hb00.cell (p := ⟨b, off + 2, none⟩) hbl).trans c2)
    have two : ∀ i, i + 1 < n → ∀ w', Below W.heap.size W w' → Calls Try.prog 25 #[.int .i64 (i : Int), .pointer (some ⟨w.heap.size, 0, none⟩)] w' fun e w'' => e = .returned (.int .i64 (twoS bs i)) ∧ ∃ m, w'' = w'.drewN m := by
      intro i hi w' hb
      have := ctwo_c bs (some ⟨b, off, none⟩) c i w' w.heap.size (by rw [hn]; exact (bb.below hb).cell 0) (by rw [hn]; exact hr2.to_ hb) (by omega) (by omega)
      exact this
    have W0 : Hid (IntKind.i64.wrap (x0 : Int) = (x0 : Int)) := by show IntKind.i64.wrap (x0 : Int) = _; simp [IntKind.wrap, IntKind.bits, IntKind.signed]; omega
    have W1 : Hid (IntKind.i64.wrap (x1 : Int) = (x1 : Int)) := by show IntKind.i64.wrap (x1 : Int) = _; simp [IntKind.wrap, IntKind.bits, IntKind.signed]; omega
    have W2 : Hid (IntKind.i64.wrap (x2 : Int) = (x2 : Int)) := by show IntKind.i64.wrap (x2 : Int) = _; simp [IntKind.wrap, IntKind.bits, IntKind.signed]; omega
    have T3 := Lib.hid (two 3 (by omega))
    have T5 := Lib.hid (two 5 (by omega))
    have two9 := Lib.hid (two 9 (by omega))
    have T7 := Lib.hid (two 7 (by omega))
    have K := Lib.hid keep
    have HC := Lib.hid hcell
    have HBB := Lib.hid bb
    have HBR := Lib.hid br
    have HR2 := Lib.hid hr2
    have HB0 := Lib.hid hb00
    have l1 : (1 : Int) < (n : Int) := by omega
    have l2 : (2 : Int) < (n : Int) := by omega
    have l0 : 0 < n := by omega
    clear hx0 hx1 hx2 hn keep c0 c1 c2 hcell bb br hr2 hb00 two
    go_upto_region 4 with (fail)
    go_cut [5] (fun p5 wx => p5 = .pointer (some ⟨W.heap.size, 0, none⟩) ∧ Blk wx W.heap.size 24 #[.int .i64 (x0 : Int), .int .i64 (x1 : Int), .int .i64 (x2 : Int), .int .i64 (twoS bs 3), .int .i64 (twoS bs 5), .int .i64 (twoS bs 7), .slice none 0 0] ∧ Below W.heap.size W wx)
    case first =>
      go_region_held3 (fun w' => w'.cell? ⟨w.heap.size, 0, none⟩ = some (.slice (some ⟨b, off, none⟩) n c) ∧ w'.cell? ⟨b, off, none⟩ = some (.int .u8 (x0 : Int)) ∧ w'.cell? ⟨b, off + 1, none⟩ = some (.int .u8 (x1 : Int)) ∧ w'.cell? ⟨b, off + 2, none⟩ = some (.int .u8 (x2 : Int)) ∧ Below W.heap.size W w')
        (exact K.out _ (by repeat (first | with_reducible assumption | with_reducible refine bdrew ?_ | with_reducible refine below_drewN ?_ _ | with_reducible refine balloc ?_ _ | with_reducible refine bset ?_ (Nat.le_refl _) _)))
        (first
          | (go_at_call_of 25 (Value.int .i64 3); refine (T3.out _ (by repeat (first | with_reducible assumption | with_reducible refine bdrew ?_ | with_reducible refine below_drewN ?_ _ | with_reducible refine balloc ?_ _))).mono ?_; rintro e0 w' ⟨rfl, m, rfl⟩)
          | (go_at_call_of 25 (Value.int .i64 5); refine (T5.out _ (by repeat (first | with_reducible assumption | with_reducible refine bdrew ?_ | with_reducible refine below_drewN ?_ _ | with_reducible refine balloc ?_ _))).mono ?_; rintro e0 w' ⟨rfl, m, rfl⟩)
          | (go_at_call_of 25 (Value.int .i64 7); refine (T7.out _ (by repeat (first | with_reducible assumption | with_reducible refine bdrew ?_ | with_reducible refine below_drewN ?_ _ | with_reducible refine balloc ?_ _))).mono ?_; rintro e0 w' ⟨rfl, m, rfl⟩))
      all_goals
        go_wp2_with fail
        go_meet
        rw [W0.out, W1.out, W2.out]
        refine ⟨rfl, Blk.set7 (z0 := .int .i64 0) (z1 := .int .i64 0) (z2 := .int .i64 0) (z3 := .int .i64 0) (z4 := .int .i64 0) (z5 := .int .i64 0) (z6 := .slice none 0 0) ?_, ?_⟩
        · first | exact Blk.new W _ _ | exact Blk.new (W.drewN _) _ _
        · repeat (first | with_reducible assumption | with_reducible refine bdrew ?_ | with_reducible refine below_drewN ?_ _ | with_reducible refine balloc ?_ _ | with_reducible refine bset ?_ (Nat.le_refl _) _)
    case rest =>
      obtain ⟨rfl, bx, hbw⟩ := hcut
      have hb1 := bcall HB0.out hbw
      have cb := (HBB.out.below hbw).cell 0
      have T9 := Lib.hid (fun w' (h : Below wc.heap.size wc w') => two9.out w' (bcall hbw h))
      have l11 : (11 : Int) ≤ (n : Int) := by omega
      have lnc : (n : Int) ≤ (c : Int) := by omega
      have hbw0 := Lib.hid hbw
      have hsz0 := Lib.hid HBR.out.lt
      have HBX := Lib.hid bx
      have HB1 := Lib.hid hb1
      have HBR1 := Lib.hid (HBR.out.below hbw)
      have HRD := Lib.hid (HR2.out.to_ hbw)
      clear HBB HBR HB0 HR2 K T3 T5 T7 two9 bx hb1 hbw hAc hAf W0 W1 W2
      go_wp2_with fail
      go_cut [6, 7] (fun v6 v7 wx => v6 = .int .i64 (twoS bs 9) ∧ ∃ Ar cr, v7 = .slice Ar (n - 11) cr ∧ Reads wc wc.heap.size 1 Ar (n - 11) ((bs.map u8v).drop 11) ∧ (∃ k, wx = wc.drewN k) ∧ (Ar = none → n = 11))
      case first =>
        by_cases hc11 : c = 11
        · subst hc11
          obtain rfl : n = 11 := by omega
          go_quiet ((go_at_call 25; exact Calls.quiet_of (T9.out _ (below_drewN (Below.refl _ _) _))))
          go_wp2_with fail
          go_meet
          exact ⟨rfl, _, _, rfl, by have := HRD.out.cut (k := 11) (cap := 11) (by omega) hcap; rw [if_pos rfl] at this; simpa using this, ⟨_, rfl⟩, fun h => by cases h⟩
        · have hcc : ¬ ((c : Int) = 11) := by omega
          go_quiet ((go_at_call 25; exact Calls.quiet_of (T9.out _ (below_drewN (Below.refl _ _) _))))
          go_wp2_with fail
          go_meet
          exact ⟨rfl, _, _, rfl, by have := HRD.out.cut (k := 11) (cap := c) (by omega) hcap; rw [if_neg hc11] at this; simpa [Go.WideShapes.add_plain] using this, ⟨_, rfl⟩, fun h => by cases h⟩
      case rest =>
        obtain ⟨rfl, Ar, cr, rfl, hrr, ⟨kk, rfl⟩, har⟩ := hcut
        obtain ⟨t, ht⟩ : ∃ t, t = twoS bs 9 := ⟨_, rfl⟩
        have ht0 : 0 ≤ t := by rw [ht]; unfold twoS; omega
        have HT := Lib.hid ht
        rw [← ht]
        have hbr := HBR1.out.drewN kk
        have q := hbr.cell7
        have f := hbr.free7
        have HBR2 := Lib.hid hbr
        clear ht hbr cb T9
        have HRR := Lib.hid hrr
        have HAR := Lib.hid har
        have e11 : ((n - 11 : Nat) : Int) = (n : Int) - 11 := by omega
        clear hrr har HRD
        have HB3 := Lib.hid (below_drewN HB1.out kk)
        by_cases h1 : 200 < t
        · have HP : Hid (errS bs = 4) := by show _ = _; have e := HT.out; have e2 := HN.out; unfold errS; rw [← e, e2, if_neg h11, if_pos h1]
          clear HRR
          go_wp2
          refine bodyPost_ret (v := .tuple #[.agg #[.int .i64 0, .int .i64 0, .int .i64 0, .int .i64 0, .int .i64 0, .int .i64 0, .slice none 0 0], .int .i64 4]) (by simp [results, Try.results14, go_sem, q]) rfl ?_
          rw [HQ.out]
          exact ParseRet.no HP.out (by decide) (bset7 HB3.out)
        · by_cases h2 : (n : Int) - 11 < t
          · have HP : Hid (errS bs = 3) := by show _ = _; have e := HT.out; have e2 := HN.out; unfold errS; rw [← e, e2, if_neg h11, if_neg h1, if_pos h2]
            clear HRR
            go_wp2
            refine bodyPost_ret (v := .tuple #[.agg #[.int .i64 0, .int .i64 0, .int .i64 0, .int .i64 0, .int .i64 0, .int .i64 0, .slice none 0 0], .int .i64 3]) (by simp [results, Try.results14, go_sem, q]) rfl ?_
            rw [HQ.out]
            exact ParseRet.no HP.out (by decide) (bset7 HB3.out)
          · by_cases h3 : t < (n : Int) - 11
            · have HP : Hid (errS bs = 2) := by show _ = _; have e := HT.out; have e2 := HN.out; unfold errS; rw [← e, e2, if_neg h11, if_neg h1, if_neg h2, if_pos h3]
              clear HRR
              go_wp2
              refine bodyPost_ret (v := .tuple #[.agg #[.int .i64 0, .int .i64 0, .int .i64 0, .int .i64 0, .int .i64 0, .int .i64 0, .slice none 0 0], .int .i64 2]) (by simp [results, Try.results14, go_sem, q]) rfl ?_
              rw [HQ.out]
              exact ParseRet.no HP.out (by decide) (bset7 HB3.out)
            · have hlen' : (bs.drop 11).length = n - 11 := by rw [List.length_drop, HN.out]
              have hcl := clone_c Ar cr (bs.drop 11) (wc.drewN kk) (by rw [hlen', List.map_drop]; exact HRR.out) (by omega) (fun h => List.eq_nil_of_length_eq_zero (by have := HAR.out h; omega))
              rw [hlen'] at hcl
              have HP : ∀ k, Hid ((if good (headS bs) then 0 else 2) = k → errS bs = k) := by intro k e1; have e := HT.out; have e2 := HN.out; unfold errS; rw [← e, e2, if_neg h11, if_neg h1, if_neg h2, if_neg h3]; exact e1
              have HLEN := Lib.hid hlen'
              have HCL := Lib.hid hcl
              clear hlen' hcl HRR q f
              go_wp2_with fail
              refine HCL.out.mono ?_
              rintro e0 w5 ⟨A5, c5, rfl, hv5, hb5⟩
              have bx5 := (HBX.out.drewN kk).below hb5
              have br5 := HBR2.out.below hb5
              have qx := bx5.cell7
              have fx := bx5.free7
              have hb6 := bcall HB3.out hb5
              have hlt2 := hsz0.out
              have hlt3 := hbw0.out.size
              have hne : w.heap.size + 1 ≠ W.heap.size := by omega
              have bx6 := bx5.set_ 6 (.slice A5 (n - 11) c5)
              simp only [List.setIfInBounds_toArray, List.set_cons_zero, List.set_cons_succ] at bx6
              have br6 := br5.far (p := ⟨W.heap.size, 6, none⟩) hne (.slice A5 (n - 11) c5)
              have hb6 := bset (p := ⟨W.heap.size, 6, none⟩) (bcall HB3.out hb5) (show w.heap.size ≤ W.heap.size by omega) (.slice A5 (n - 11) c5)
              have hown5 : w5.ownsRow wc.heap.size 5 1 (.slice A5 (n - 11) c5) (n - 11) (((bs.drop 11)).map u8v) := by have := hv5; unfold ByteRow at this; rw [HLEN.out] at this; exact this
              have hown6 : (w5.setCell ⟨W.heap.size, 6, none⟩ (.slice A5 (n - 11) c5)).ownsRow wc.heap.size 5 1 (.slice A5 (n - 11) c5) (n - 11) (((bs.drop 11)).map u8v) := own_set_below hown5 (show W.heap.size < wc.heap.size from HBX.out.lt) _
              have hg := good_c (headS bs) A5 c5 (w5.setCell ⟨W.heap.size, 6, none⟩ (.slice A5 (n - 11) c5)) (by rw [show (headS bs).bs = bs.drop 11 from rfl, HLEN.out]; exact Reads.of_own hown6) (by rw [show (headS bs).bs = bs.drop 11 from rfl, HLEN.out]; omega)
              have HV : Hid (noteV (headS bs) A5 c5 = .agg #[.int .i64 (x0 : Int), .int .i64 (x1 : Int), .int .i64 (x2 : Int), .int .i64 (twoS bs 3), .int .i64 (twoS bs 5), .int .i64 (twoS bs 7), .slice A5 (n - 11) c5]) := by show _ = _; unfold noteV headS; simp only [HLEN.out, HX0.out, HX1.out, HX2.out]
              rw [HV.out] at hg
              obtain ⟨g, hgg⟩ : ∃ g, g = good (headS bs) := ⟨_, rfl⟩
              rw [← hgg] at hg HP
              have HG := Lib.hid hg
              have HGG := Lib.hid hgg
              have HO6 := Lib.hid hown6
              have HBX6 := Lib.hid bx6
              have HBR6 := Lib.hid br6
              have HB6 := Lib.hid hb6
              have HB5 := Lib.hid hb5
              have HP2 := Lib.hid HP
              clear hg hgg hown6 hown5 hv5 bx6 br6 hb6 bx5 br5 hb5 hlt2 hlt3 HP
              go_wp2_with fail
              refine HG.out.mono ?_
              rintro e0 w7 ⟨rfl, hb7⟩
              have bx7 := HBX6.out.below hb7
              have br7 := HBR6.out.below hb7
              have q7 := bx7.cell7
              have r7 := br7.cell7
              have z7 := br7.free7
              have HO7 := Lib.hid (own_below HO6.out hb7)
              have HB7 := Lib.hid (bcall HB6.out hb7)
              clear bx7 br7 hb7 qx fx
              cases g with
              | false =>
                clear q7
                go_wp2
                refine bodyPost_ret (v := .tuple #[.agg #[.int .i64 0, .int .i64 0, .int .i64 0, .int .i64 0, .int .i64 0, .int .i64 0, .slice none 0 0], .int .i64 2]) (by simp [results, Try.results14, go_sem, r7]) rfl ?_
                rw [HQ.out]
                exact ParseRet.no ((HP2.out 2).out rfl) (by decide) (bset7 HB7.out)
              | true =>
                go_wp2
                refine bodyPost_ret (v := .tuple #[.agg #[.int .i64 (x0 : Int), .int .i64 (x1 : Int), .int .i64 (x2 : Int), .int .i64 (twoS bs 3), .int .i64 (twoS bs 5), .int .i64 (twoS bs 7), .slice A5 (n - 11) c5], .int .i64 0]) (by simp [results, Try.results14, go_sem, r7]) rfl ?_
                rw [HQ.out, ← HV.out]
                exact ParseRet.yes ((HP2.out 0).out rfl) (own_lower (own_set7 (by rw [HLEN.out]; exact HO7.out) (by have := hsz0.out; have := hbw0.out.size; omega)) HB1.out.size) (bset7 HB7.out)
theorem parse_c (bs : List UInt8) (A : Option Addr) (c : Nat) (w : World) (hr : Reads w w.heap.size 1 A bs.length (bs.map u8v)) (hlen : bs.length ≤ 140737488355328) (hcap : bs.length ≤ c) :
    Calls Try.prog 14 #[.slice A bs.length c] w (ParseRet bs w) := parse_cn bs A bs.length c rfl w hr (by omega) hcap
end Go.Proofs.Ytmaemfjepdicfaa
