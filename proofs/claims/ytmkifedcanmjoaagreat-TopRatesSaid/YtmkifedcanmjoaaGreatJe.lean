/- Texts of this claim, one behind the other: QKind, QRep, Clone, QReport. Each says ahead of itself what it proves, and its conditions. -/
import Derived.Test.YtmkifedcanmjoaaGreatJa
import Derived.Test.YtmkifedcanmjoaaGreatJd
import Derived.Test.YtmkifedcanmjoaaGreatJb
import Derived.StillTailTactics
import Derived.Deep.MidRow
import Derived.Deep.CutBlock
/- What kind and Is do (contracts). Conditions: the bytes lie in memory. -/
set_option linter.unusedVariables false
set_option linter.unusedSimpArgs false
namespace Go.Proofs.YtmkifedcanmjoaaGreat
open Go.RowKit
attribute [local go_sem ↓] Go.wp_at_zero Go.wp_at_succ

def lettersL : List UInt8 := [82, 69, 77, 66]
def rembB (b : List UInt8) : Bool := decide (12 ≤ b.length) && ((b.drop 8).take 4 == lettersL)
def kindS (t c : Int) (b : List UInt8) : Int :=
  if t = 200 then 1 else if t = 201 then 2 else if t = 205 ∧ c = 1 then 3 else if t = 206 ∧ c = 1 then 4 else if t = 206 ∧ c = 4 then 5 else if t = 206 ∧ c = 15 ∧ rembB b = true then 6 else 7
def isB (b : List UInt8) : Bool := decide (2 ≤ b.length) && decide (192 ≤ (b.getD 1 0).toNat) && decide ((b.getD 1 0).toNat ≤ 223)
theorem beq_no {t k : Int} (h : ¬ t = k) : (t == k) = false := by simpa using h
set_option maxRecDepth 100000 in
set_option maxHeartbeats 6400000 in
theorem kind_c (t c : Int) (b : List UInt8) (A : Option Addr) (n cap : Nat) (w : World) (h : SlV w (.slice A n cap) b) :
    Calls Tryz.prog 76 #[.int .i64 t, .int .i64 c, .slice A n cap] w fun e w' => e = .returned (.int .i64 (kindS t c b)) ∧ w = w' := by
  have HN := Lib.hid h.num
  have H := Lib.hid h
  clear h
  by_cases h1 : t = 200
  · subst h1
    go_enter Tryz.func76, Tryz.ntmps76
    go_wp2
    go_ret
    exact ⟨rfl, rfl⟩
  by_cases h2 : t = 201
  · subst h2
    go_enter Tryz.func76, Tryz.ntmps76
    go_wp2
    go_ret
    exact ⟨rfl, rfl⟩
  by_cases h5 : t = 205
  · subst h5
    by_cases hc : c = 1
    · subst hc
      go_enter Tryz.func76, Tryz.ntmps76
      go_wp2
      go_ret
      exact ⟨rfl, rfl⟩
    · have q1 := beq_no hc
      have HX : Hid (kindS 205 c b = 7) := by show _ = _; simp [kindS, hc]
      clear hc h1 h2
      go_enter Tryz.func76, Tryz.ntmps76
      go_wp2
      go_ret
      exact ⟨by rw [HX.out]; rfl, rfl⟩
  by_cases h6 : t = 206
  · subst h6
    by_cases hc1 : c = 1
    · subst hc1
      go_enter Tryz.func76, Tryz.ntmps76
      go_wp2
      go_ret
      exact ⟨rfl, rfl⟩
    by_cases hc4 : c = 4
    · subst hc4
      go_enter Tryz.func76, Tryz.ntmps76
      go_wp2
      go_ret
      exact ⟨rfl, rfl⟩
    by_cases hc15 : c = 15
    · subst hc15
      by_cases hl : 12 ≤ n
      · have hli : (12 : Int) ≤ (n : Int) := by omega
        have hcap : n ≤ cap := by obtain ⟨_, _, e, hc, _⟩ := H.out; injection e with e1 e2 e3; omega
        have hcut : ∀ wx : World, (Instr.slice 28 (.slice A n cap) (some (.int .i64 8)) (some (.int .i64 12)) none).run Tryz.prog wx = .ok (.slice (cutA A cap 8) 4 (cap - 8)) wx := fun wx => cut_mid wx A n cap 8 12 4 (by decide) (by omega) rfl
        have hmid : SlB w w.heap.size (.slice (cutA A cap 8) 4 (cap - 8)) ((b.drop 8).take 4) := SlB.mid (k := 8) (d := 4) H.out (by omega)
        obtain ⟨m, hm⟩ : ∃ m, m = (b.drop 8).take 4 := ⟨_, rfl⟩
        rw [← hm] at hmid
        have hml : m.length = 4 := (hmid.num).symm
        have hst : (convert 28 9 (.slice (cutA A cap 8) 4 (cap - 8))).run Tryz.prog w = .ok (.string ⟨m.toArray⟩) w := by
          have := str_of (c := cap - 8) (hml ▸ hmid.rd)
          rw [hml] at this
          exact this
        obtain ⟨S, hS⟩ : ∃ S : ByteArray, S = ⟨m.toArray⟩ := ⟨_, rfl⟩
        rw [← hS] at hst
        by_cases hR : m = lettersL
        · have hSe : S = ⟨#[82, 69, 77, 66]⟩ := by rw [hS, hR]; rfl
          have HX : Hid (kindS 206 15 b = 6) := by
            show _ = _
            have hb : rembB b = true := by rw [rembB, ← hm, hR]; simp; have := HN.out; omega
            simp [kindS, hb]
          subst hSe
          clear hS hR hm hml hmid hc1 hc4 h1 h2 h5
          go_enter Tryz.func76, Tryz.ntmps76
          go_wp2
          go_ret
          exact ⟨by rw [HX.out]; rfl, rfl⟩
        · have q2 : (S.toList == [82, 69, 77, 66]) = false := by
            rw [beq_eq_false_iff_ne, hS]
            intro e
            exact hR (by rw [ByteArray.toList_eq] at e; exact e)
          have HX : Hid (kindS 206 15 b = 7) := by
            show _ = _
            have hb : rembB b = false := by rw [rembB, ← hm]; simp [hR]
            simp [kindS, hb]
          clear hS hR hm hml hmid hc1 hc4 h1 h2 h5
          go_enter Tryz.func76, Tryz.ntmps76
          go_wp2
          go_ret
          exact ⟨by rw [HX.out]; rfl, rfl⟩
      · have hli : ¬ (12 : Int) ≤ (n : Int) := by omega
        have HX : Hid (kindS 206 15 b = 7) := by
          show _ = _
          have hb : rembB b = false := by rw [rembB]; simp; intro h; have := HN.out; omega
          simp [kindS, hb]
        clear hc1 hc4 h1 h2 h5
        go_enter Tryz.func76, Tryz.ntmps76
        go_wp2
        go_ret
        exact ⟨by rw [HX.out]; rfl, rfl⟩
    · have q1 := beq_no hc1
      have q4 := beq_no hc4
      have q15 := beq_no hc15
      have HX : Hid (kindS 206 c b = 7) := by show _ = _; simp [kindS, hc1, hc4, hc15]
      clear hc1 hc4 hc15 h1 h2 h5
      go_enter Tryz.func76, Tryz.ntmps76
      go_wp2
      go_ret
      exact ⟨by rw [HX.out]; rfl, rfl⟩
  have q1 := beq_no h1
  have q2 := beq_no h2
  have q5 := beq_no h5
  have q6 := beq_no h6
  have HX : Hid (kindS t c b = 7) := by show _ = _; simp [kindS, h1, h2, h5, h6]
  clear h1 h2 h5 h6
  go_enter Tryz.func76, Tryz.ntmps76
  go_wp2
  go_ret
  exact ⟨by rw [HX.out]; rfl, rfl⟩
set_option maxHeartbeats 1600000 in
theorem is_c (b : List UInt8) (A : Option Addr) (n cap : Nat) (w : World) (h : SlV w (.slice A n cap) b) :
    Calls Tryz.prog 46 #[.slice A n cap] w fun e w' => e = .returned (.bool (isB b)) ∧ w = w' := by
  have hn := h.num
  by_cases hl : 2 ≤ n
  · have hli : (2 : Int) ≤ (n : Int) := by omega
    obtain ⟨g, o, rfl, hg, hc⟩ := head_cells (hn ▸ h.rd) (by omega)
    have c1 := hc 1 (by omega)
    obtain ⟨y, hy⟩ : ∃ y, y = b.getD 1 0 := ⟨_, rfl⟩
    rw [← hy] at c1
    have hyl := U8.lt y
    have HX : Hid (isB b = (decide (192 ≤ y.toNat) && decide (y.toNat ≤ 223))) := by show _ = _; rw [isB, ← hy, decide_eq_true (show 2 ≤ b.length by omega)]; simp
    clear h hn hc hy
    by_cases h1 : 192 ≤ y.toNat
    · have h1i : (192 : Int) ≤ (y.toNat : Int) := by omega
      by_cases h2 : y.toNat ≤ 223
      · have h2i : (y.toNat : Int) ≤ 223 := by omega
        have HX2 : Hid (isB b = true) := by show _ = _; rw [HX.out]; simp [h1, h2]
        go_enter Tryz.func46, Tryz.ntmps46
        go_wp2
        go_ret
        exact ⟨by rw [HX2.out]; rfl, rfl⟩
      · have h2i : ¬ (y.toNat : Int) ≤ 223 := by omega
        have h2j : decide ((y.toNat : Int) ≤ 223) = false := by simp; omega
        have HX2 : Hid (isB b = false) := by show _ = _; rw [HX.out]; simp [h2]
        go_enter Tryz.func46, Tryz.ntmps46
        go_wp2
        go_ret
        exact ⟨by rw [HX2.out]; rfl, rfl⟩
    · have h1i : ¬ (192 : Int) ≤ (y.toNat : Int) := by omega
      have h1j : decide ((192 : Int) ≤ (y.toNat : Int)) = false := by simp; omega
      have HX2 : Hid (isB b = false) := by show _ = _; rw [HX.out]; simp [h1]
      go_enter Tryz.func46, Tryz.ntmps46
      go_wp2
      go_ret
      exact ⟨by rw [HX2.out]; rfl, rfl⟩
  · have hli : ¬ (2 : Int) ≤ (n : Int) := by omega
    have hlj : decide ((2 : Int) ≤ (n : Int)) = false := by simp; omega
    have HX2 : Hid (isB b = false) := by show _ = _; rw [isB]; simp; intro h; omega
    clear h hn
    go_enter Tryz.func46, Tryz.ntmps46
    go_wp2
    go_ret
    exact ⟨by rw [HX2.out]; rfl, rfl⟩
end Go.Proofs.YtmkifedcanmjoaaGreat
/- Reports in memory, and what a report is read as (plain). Conditions: as each says. -/
set_option linter.unusedVariables false
namespace Go.Proofs.YtmkifedcanmjoaaGreat
open Go.RowKit

structure Rep where
  kind : Int
  fr : Nat
  ab : Nat
  ntp : Nat
  ts : Nat
  pk : Nat
  oc : Nat
  blocks : List (List Nat)
  pairs : List (List Nat)
  firs : List (List Nat)
  ex : Int
  mt : Nat
  ssrcs : List (List Nat)
  ty : Int
  ct : Int
  body : List UInt8
def rep0 : Rep := ⟨0, 0, 0, 0, 0, 0, 0, [], [], [], 0, 0, [], 0, 0, []⟩
/-- v is a slice of rows of numbers. -/
def SlR (w : World) (ks : List IntKind) (v : Value) (l : List (List Nat)) : Prop := ∃ A c, v = .slice A l.length c ∧ l.length ≤ c ∧ Reads w w.heap.size ks.length A l.length (rowC ks l)
/-- The cells of a report that reads as r. -/
def RepV (w : World) (cs : Array Value) (r : Rep) : Prop := ∃ vb vp vf vs vd, cs = repA r.kind r.fr r.ab r.ntp r.ts r.pk r.oc vb vp vf r.ex r.mt vs r.ty r.ct vd ∧
  SlR w ks7 vb r.blocks ∧ SlR w ksP vp r.pairs ∧ SlR w ksF vf r.firs ∧ SlR w ksS vs r.ssrcs ∧ SlV w vd r.body
section
variable {w w' : World} {ks : List IntKind} {v : Value} {l : List (List Nat)}
theorem SlR.nil (w : World) (ks : List IntKind) : SlR w ks nilV [] := ⟨none, 0, rfl, Nat.le_refl _, by simp [rowC], fun h => absurd h (by simp)⟩
theorem SlR.below (h : SlR w ks v l) (hb : Below w.heap.size w w') : SlR w' ks v l := by
  obtain ⟨A, c, e, hc, hr⟩ := h
  exact ⟨A, c, e, hc, (hr.below hb).more hb.size⟩
theorem SlR.own {base n : Nat} {e : TypeId} (h : w.ownsRow base e ks.length v n (rowC ks l)) (hn : n = l.length) : SlR w ks v l := by
  subst hn
  obtain ⟨A, c, rfl⟩ := own_slice h
  exact ⟨A, c, rfl, own_bound h, Reads.of_own h⟩
theorem RepV.below {cs : Array Value} {r : Rep} (h : RepV w cs r) (hb : Below w.heap.size w w') : RepV w' cs r := by
  obtain ⟨vb, vp, vf, vs, vd, e, h1, h2, h3, h4, h5⟩ := h
  exact ⟨vb, vp, vf, vs, vd, e, h1.below hb, h2.below hb, h3.below hb, h4.below hb, h5.below hb⟩
end
theorem blk_there0 {w : World} {g : Nat} {t : TypeId} {l : List Value} {n : Nat} (h : Blk w g t l.toArray) (hn : l.length = n) : w.there g 0 n := fun j hj => by
  rw [Nat.zero_add]
  exact ⟨by rw [Blk.cell h, List.getElem?_toArray, List.getElem?_eq_getElem (by omega)]; rfl, Blk.frozen h j⟩
theorem bytes_one (l : List UInt8) : (l.map u8v).toArray.all (·.oneCell') = true := all_oneCell_toArray (u8_one l)
/-- Two results, the first of which lives in a variable. -/
theorem results_ct {P : Program} {fn : Func} {t s : Tmp} {ty : TypeId} (h : fn.results = #[.cell t ty, .tmp s]) (tmps : Array Value) (w : World) (b : Nat) (v u : Value) (ht : tmps.getD t undef = .pointer (some ⟨b, 0, none⟩)) (hs : tmps.getD s undef = u)
    (hl : (loadVar ty ⟨b, 0, none⟩).run P w = .ok v w) : (results fn tmps).run P w = .ok (.tuple #[v, u]) w := by
  have ha : (asAddr (tmps.getD t undef)).run P w = .ok ⟨b, 0, none⟩ w := by rw [ht]; rfl
  simp [results, h]
  rw [Array.getD_eq_getD_getElem?] at ha hs
  rw [ha]
  simp only [Result.andThen_ok, hs]
  rw [hl]
  rfl
theorem infoRep : (Tryz.prog.info? 81).map (·.size) = some 16 := by kernel_rfl
theorem Blk.farAll {g g' : Nat} {t : TypeId} {cs : Array Value} (hg : g ≠ g') : ∀ (vs : List Value) (o : Nat) (w : World), Blk w g t cs → Blk (w.setCells g' o vs) g t cs
  | [], _, _, h => h
  | v :: vs, o, w, h => Blk.farAll hg vs (o + 1) _ (Blk.far h (p := ⟨g', o, none⟩) hg v)
theorem own_setAll {g : Nat} {base e size n : Nat} {v : Value} {xs : List Value} (hne : v.ownBlock ≠ some g) : ∀ (vs : List Value) (o : Nat) (w : World), w.ownsRow base e size v n xs → (w.setCells g o vs).ownsRow base e size v n xs
  | [], _, _, h => h
  | u :: vs, o, w, h => own_setAll hne vs (o + 1) _ (own_set h hne o u)
/-- The cells of a report that reads as r, its slices rows of the call's own. -/
def RepO (w : World) (B : Nat) (cs : Array Value) (r : Rep) : Prop := ∃ vb vp vf vs vd, cs = repA r.kind r.fr r.ab r.ntp r.ts r.pk r.oc vb vp vf r.ex r.mt vs r.ty r.ct vd ∧
  w.ownsRow B 147 7 vb r.blocks.length (rowC ks7 r.blocks) ∧ w.ownsRow B 196 2 vp r.pairs.length (rowC ksP r.pairs) ∧ w.ownsRow B 148 2 vf r.firs.length (rowC ksF r.firs) ∧ w.ownsRow B 32 1 vs r.ssrcs.length (rowC ksS r.ssrcs) ∧ ByteRow w B vd r.body
section
variable {w w' : World} {B : Nat} {cs : Array Value} {r : Rep}
theorem RepO.toV (h : RepO w B cs r) : RepV w cs r := by
  obtain ⟨vb, vp, vf, vs, vd, e, h1, h2, h3, h4, h5⟩ := h
  exact ⟨vb, vp, vf, vs, vd, e, SlR.own (ks := ks7) h1 rfl, SlR.own (ks := ksP) h2 rfl, SlR.own (ks := ksF) h3 rfl, SlR.own (ks := ksS) h4 rfl, SlV.own h5⟩
/-- What leaves all rows of other types than report, reader, alone. -/
theorem RepO.keep (h : RepO w B cs r) (hk : ∀ (e : TypeId) (size n : Nat) (v : Value) (xs : List Value), (e = 147 ∨ e = 196 ∨ e = 148 ∨ e = 32 ∨ e = 5) → w.ownsRow B e size v n xs → w'.ownsRow B e size v n xs) : RepO w' B cs r := by
  obtain ⟨vb, vp, vf, vs, vd, e, h1, h2, h3, h4, h5⟩ := h
  exact ⟨vb, vp, vf, vs, vd, e, hk _ _ _ _ _ (.inl rfl) h1, hk _ _ _ _ _ (.inr (.inl rfl)) h2, hk _ _ _ _ _ (.inr (.inr (.inl rfl))) h3, hk _ _ _ _ _ (.inr (.inr (.inr (.inl rfl)))) h4, hk _ _ _ _ _ (.inr (.inr (.inr (.inr rfl)))) h5⟩
theorem RepO.one (h : RepO w B cs r) : cs.all (·.oneCell') = true := by
  obtain ⟨vb, vp, vf, vs, vd, e, h1, h2, h3, h4, h5⟩ := h
  obtain ⟨_, _, rfl⟩ := own_slice h1
  obtain ⟨_, _, rfl⟩ := own_slice h2
  obtain ⟨_, _, rfl⟩ := own_slice h3
  obtain ⟨_, _, rfl⟩ := own_slice h4
  obtain ⟨_, _, rfl⟩ := own_slice h5
  rw [e]
  simp [repA, Value.oneCell']
theorem RepO.below (h : RepO w B cs r) (hb : Below w.heap.size w w') : RepO w' B cs r := h.keep fun _ _ _ _ _ _ ho => own_below ho hb
theorem RepO.lower {B' : Nat} (h : RepO w B cs r) (hB : B' ≤ B) : RepO w B' cs r := by
  obtain ⟨vb, vp, vf, vs, vd, e, h1, h2, h3, h4, h5⟩ := h
  exact ⟨vb, vp, vf, vs, vd, e, own_lower h1 hB, own_lower h2 hB, own_lower h3 hB, own_lower h4 hB, own_lower h5 hB⟩
theorem RepO.setAll {g : Nat} {cs0 : Array Value} (h : RepO w B cs r) (hg : Blk w g 81 cs0) (l : List Value) : RepO (w.setCells g 0 l) B cs r :=
  h.keep fun e _ _ _ _ he ho => own_setAll (own_blk_ne ho hg (by rcases he with rfl | rfl | rfl | rfl | rfl <;> decide)) _ _ _ ho
theorem RepO.set {g : Nat} {cs0 : Array Value} (h : RepO w B cs r) (hg : Blk w g 81 cs0) (i : Nat) (u : Value) : RepO (w.setCell ⟨g, i, none⟩ u) B cs r :=
  h.keep fun e _ _ _ _ he ho => own_set ho (own_blk_ne ho hg (by rcases he with rfl | rfl | rfl | rfl | rfl <;> decide)) _ _
end
theorem repA_size (k : Int) (fr ab ntp ts pk oc : Nat) (vb vp vf : Value) (ex : Int) (mt : Nat) (vs : Value) (ty ct : Int) (vd : Value) : (repA k fr ab ntp ts pk oc vb vp vf ex mt vs ty ct vd).size = 16 := rfl
/-- What a report of a type and a count is read as, and whether it is one. -/
def reportS (t c : Nat) (b : List UInt8) : Rep × Bool :=
  let k := kindS t c b
  let a := numS 4 (b, false)
  if k = 7 then ({ rep0 with kind := 7, ty := t, ct := c, body := b }, true)
  else if k = 1 then
    let n := numS 8 a.2
    let x := numS 4 n.2
    let y := numS 4 x.2
    let z := numS 4 y.2
    let l := blksS c z.2
    ({ rep0 with kind := 1, fr := a.1, ntp := n.1, ts := x.1, pk := y.1, oc := z.1, blocks := l.1 }, !l.2.2 && l.2.1.isEmpty)
  else if k = 2 then
    let l := blksS c a.2
    ({ rep0 with kind := 2, fr := a.1, blocks := l.1 }, !l.2.2 && l.2.1.isEmpty)
  else if k = 3 then
    let m := numS 4 a.2
    let l := doS pairS (a.2.1.length + 1) m.2
    ({ rep0 with kind := 3, fr := a.1, ab := m.1, pairs := l.1 }, !l.2.2 && l.2.1.isEmpty)
  else if k = 4 then
    let m := numS 4 a.2
    ({ rep0 with kind := 4, fr := a.1, ab := m.1 }, !m.2.2 && m.2.1.isEmpty)
  else if k = 5 then
    let m := numS 4 a.2
    let l := doS firS (a.2.1.length + 1) m.2
    ({ rep0 with kind := 5, fr := a.1, ab := m.1, firs := l.1 }, !l.2.2 && l.2.1.isEmpty)
  else
    let m := numS 4 a.2
    let l := rembS m.2
    ({ rep0 with kind := 6, fr := a.1, ab := m.1, ex := l.1.1, mt := l.1.2, ssrcs := l.2.1 }, !l.2.2.2 && l.2.2.1.isEmpty)
end Go.Proofs.YtmkifedcanmjoaaGreat
/- What bytes.Clone does (contract). Conditions: the bytes lie in memory. -/
set_option linter.unusedVariables false
set_option linter.unusedSimpArgs false
namespace Go.Proofs.YtmkifedcanmjoaaGreat
open Go.RowKit
attribute [local go_sem ↓] Go.wp_at_zero Go.wp_at_succ

set_option maxHeartbeats 800000 in
theorem clone_o (b : List UInt8) (A : Option Addr) (n c : Nat) (w : World) (h : SlV w (.slice A n c) b) (hl : n ≤ 140737488355328) :
    Calls Tryz.prog 78 #[.slice A n c] w fun e w' => ∃ A' c', e = .returned (.slice A' n c') ∧ ByteRow w' w.heap.size (.slice A' n c') b ∧ Below w.heap.size w w' := by
  obtain ⟨iB, hiB, hz0, hz1, hz2⟩ := info_parts infoByte
  obtain ⟨A1, c1, e, hc, hr⟩ := h
  injection e with e1 e2 e3
  subst e1 e2 e3
  cases A with
  | none =>
    have hb : b = [] := by
      rcases Nat.eq_zero_or_pos b.length with h0 | h0
      · exact List.eq_nil_of_length_eq_zero h0
      · obtain ⟨_, e, _⟩ := hr.2 h0
        cases e
    subst hb
    have hq := fun (wx : World) (n c : Nat) => Lib.run_eql_slice_nil (P := Tryz.prog) wx 28 5 none n c 0 0 Tryz.underlying28
    clear hr
    go_enter Tryz.func78, Tryz.ntmps78
    go_wp2
    go_ret
    exact ⟨none, 0, rfl, World.ownsRow_nil _ _ _ _, Below.refl _ _⟩
  | some ad =>
    have hq := fun (wx : World) (n c : Nat) => Lib.run_eql_slice_nil (P := Tryz.prog) wx 28 5 (some ad) n c 0 0 Tryz.underlying28
    have HR := Lib.hid hr
    clear hr
    go_enter Tryz.func78, Tryz.ntmps78
    go_wp2_with
     (at_builtin
      refine wpList_append_any _ rfl (.tmp 5) (.tmp 6) _ rfl w.heap.size 5 iB _ 1 1 Tryz.underlying28 hiB hz0 hz1 hz2 rfl (by omega) (.slice (some ⟨w.heap.size, 0, none⟩) 0 0) 0 [] rfl (own_empty w _ _)
        (w.alloc (.cells #[] 5)).heap.size (some ad) b.length c (b.map u8v) rfl (HR.out.to_ (balloc (Below.refl _ _) _)) (u8_one b) (by simp only [maxLen]; omega) (by omega) (by simp) ?_
      intro v1 w1 hown1 hg1 hat1
      rw [Nat.zero_add, List.nil_append] at hown1
      obtain ⟨A1, c1, rfl⟩ := own_slice hown1
      have HO1 := Lib.hid hown1
      have HB1 := Lib.hid (fresh_below hg1)
      clear hown1 hg1 hat1)
    go_ret
    exact ⟨A1, c1, rfl, HO1.out, HB1.out⟩
end Go.Proofs.YtmkifedcanmjoaaGreat
/- What report does (contract). Conditions: the bytes lie in memory. -/
set_option linter.unusedVariables false
set_option linter.unusedSimpArgs false
namespace Go.Proofs.YtmkifedcanmjoaaGreat
open Go.RowKit
attribute [local go_sem ↓] Go.wp_at_zero Go.wp_at_succ

theorem kindS_rng (t c : Int) (b : List UInt8) : 1 ≤ kindS t c b ∧ kindS t c b ≤ 7 := by
  unfold kindS
  split <;> (try split) <;> (try split) <;> (try split) <;> (try split) <;> (try split) <;> omega
set_option maxRecDepth 100000 in
set_option maxHeartbeats 12800000 in
theorem report_c (t c : Nat) (b : List UInt8) (A : Option Addr) (n cap : Nat) (w : World) (h : SlV w (.slice A n cap) b) (hn : n ≤ 1200) (hc : c ≤ 31) (ht : t ≤ 255) (hk46 : kindS t c b = 4 ∨ kindS t c b = 6) :
    Calls Tryz.prog 47 #[.int .i64 (t : Int), .int .i64 (c : Int), .slice A n cap] w fun e w' => ∃ cs, e = .returned (.tuple #[.agg cs, .bool (reportS t c b).2]) ∧ RepO w' w.heap.size cs (reportS t c b).1 ∧ Below w.heap.size w w' := by
  have HN := Lib.hid h.num
  have H := Lib.hid h
  obtain ⟨K, hK⟩ : ∃ K, K = kindS t c b := ⟨_, rfl⟩
  have hK7 : K = 4 ∨ K = 6 := by rw [hK]; exact hk46
  clear hk46
  have HK := Lib.hid hK
  clear h hK
  go_enter Tryz.func47, Tryz.ntmps47
  go_upto_region 3 with (first
    | (go_at_call 76
       refine (kind_c t c b A n cap _ (H.out.below (balloc (Below.refl _ _) _))).mono ?_
       rintro e0 w1 ⟨he, rfl⟩
       rw [← HK.out] at he
       subst he))
  obtain ⟨w1, hw1⟩ : ∃ w1, w1 = ((w.alloc (.cells (repA 0 0 0 0 0 0 0 nilV nilV nilV 0 0 nilV 0 0 nilV) 81)).alloc (.cells (repA K 0 0 0 0 0 0 nilV nilV nilV 0 0 nilV 0 0 nilV) 81)).alloc (.cells #[.slice A n cap, .bool false] 199) := ⟨_, rfl⟩
  change Code.wp _ _ _ _ (((w.alloc (.cells (repA 0 0 0 0 0 0 0 nilV nilV nilV 0 0 nilV 0 0 nilV) 81)).alloc (.cells (repA K 0 0 0 0 0 0 nilV nilV nilV 0 0 nilV 0 0 nilV) 81)).alloc (.cells #[.slice A n cap, .bool false] 199))
  obtain ⟨gr, hgr⟩ : ∃ gr, gr = w.heap.size := ⟨_, rfl⟩
  obtain ⟨gx, hgx⟩ : ∃ gx, gx = w.heap.size + 1 := ⟨_, rfl⟩
  obtain ⟨g, hg⟩ : ∃ g, g = w.heap.size + 1 + 1 := ⟨_, rfl⟩
  have HZ1 : Hid (Blk w1 gr 81 (repA 0 0 0 0 0 0 0 nilV nilV nilV 0 0 nilV 0 0 nilV)) := by show Blk _ _ _ _; rw [hw1]; exact ((Blk.newAt hgr _ _).alloc _).alloc _
  have HX1 : Hid (Blk w1 gx 81 (repA K 0 0 0 0 0 0 nilV nilV nilV 0 0 nilV 0 0 nilV)) := by show Blk _ _ _ _; rw [hw1]; exact (Blk.newAt (by simp; exact hgx) _ _).alloc _
  have HB1 : Hid (Below w.heap.size w w1) := by show Below _ _ _; rw [hw1]; exact balloc (balloc (balloc (Below.refl _ _) _) _) _
  have HR1 : Hid (RdSt w1 w.heap.size g (b, false)) := by
    refine ⟨by omega, by show b.length ≤ _; have := HN.out; omega, A, cap, ?_, ?_⟩
    · show Blk _ _ _ #[.slice A b.length cap, .bool false]
      rw [← HN.out, hw1]
      exact Blk.newAt (by simp; exact hg) _ _
    · show SlB _ _ (.slice A b.length cap) b
      rw [← HN.out]
      exact SlB.belowB (H.out.toB (Nat.le_refl _)) HB1.out
  have HLT : Hid (w.heap.size ≤ gr ∧ gr < gx ∧ gx < g) := ⟨by omega, by omega, by omega⟩
  rw [← hw1, ← hgr]
  rw [hgr, ← hg, ← hgx, ← hgr]
  clear hw1 hgr hgx hg
  have hk7 : ¬ K = 7 := by omega
  have k0 : w1.cell? ⟨gx, 0, none⟩ = some (.int .i64 K) := HX1.out.cell 0
  have q7 := beq_no hk7
  go_upto_region 6 with fail
  clear k0 q7
  obtain ⟨fr, sF, eF, bF⟩ := numS_x 4 (b, false) (by decide)
  have HEF := Lib.hid eF
  clear eF bF
  go_upto_region 7 with (first
    | (go_at_call 79
       refine (word_z HR1.out HEF.out).mono ?_
       rintro e0 w2 ⟨rfl, hr2, hs2⟩
       have hx2 := hs2.blk HX1.out (fun e => by have := HLT.out; omega)
       have k1 : w2.cell? ⟨gx, 1, none⟩ = some (.int .u32 0) := hx2.cell 1
       have f1 := hx2.frozen 1
       have HZ2 := Lib.hid (hs2.blk HZ1.out (fun e => by have := HLT.out; omega))
       have HR2 := Lib.hid hr2
       have HS2 := Lib.hid hs2
       have HX2 := Lib.hid hx2
       clear hr2 hs2 hx2))
  clear k1 f1
  obtain ⟨w3, hw3⟩ : ∃ w3, w3 = w2.setCell ⟨gx, 1, none⟩ (.int .u32 (fr : Int)) := ⟨_, rfl⟩
  rw [← hw3]
  have HX3 : Hid (Blk w3 gx 81 (repA K fr 0 0 0 0 0 nilV nilV nilV 0 0 nilV 0 0 nilV)) := by show Blk _ _ _ _; rw [hw3]; exact HX2.out.set_ 1 _
  have HZ3 : Hid (Blk w3 gr 81 (repA 0 0 0 0 0 0 0 nilV nilV nilV 0 0 nilV 0 0 nilV)) := by show Blk _ _ _ _; rw [hw3]; exact HZ2.out.far (p := ⟨gx, 1, none⟩) (by have := HLT.out; show gr ≠ gx; omega) _
  have HR3 : Hid (RdSt w3 w.heap.size g sF) := by show RdSt _ _ _ _; rw [hw3]; exact HR2.out.far (p := ⟨gx, 1, none⟩) (by have := HLT.out; show _ ≤ gx; omega) (by have := HLT.out; show gx ≠ g; omega) _
  have HB3 : Hid (Below w.heap.size w w3) := by
    show Below _ _ _
    rw [hw3]
    exact bset (HB1.out.trans (HS2.out.toBelow (fun k hk => by have := HLT.out; omega) HB1.out.size)) (p := ⟨gx, 1, none⟩) (by have := HLT.out; show _ ≤ gx; omega) _
  clear hw3 HX2 HZ2 HR2 HS2 HX1 HZ1 HR1 HB1
  have k0 : w3.cell? ⟨gx, 0, none⟩ = some (.int .i64 K) := HX3.out.cell 0
  go_upto_block 0 with fail
  clear k0
  go_cut [] (fun wx => ∃ cs r s', Blk wx gx 81 cs ∧ RepO wx w.heap.size cs r ∧ RdSt wx w.heap.size g s' ∧ Blk wx gr 81 (repA 0 0 0 0 0 0 0 nilV nilV nilV 0 0 nilV 0 0 nilV) ∧ Below w.heap.size w wx ∧ reportS t c b = (r, !s'.2 && s'.1.isEmpty))
  case first =>
    have hsl : sF.1.length ≤ 1200 := by
      have h1 : sF.1.length ≤ b.length := by have := numS_len 4 (b, false); rw [HEF.out] at this; exact this
      have := HN.out
      omega
    have HSL := Lib.hid hsl
    clear hsl
    have HNE : Hid (g ≠ gx) := by have := HLT.out; show _ ≠ _; omega
    have HWG : Hid (w.heap.size ≤ gx ∧ w.heap.size ≤ g) := by have := HLT.out; exact ⟨by omega, by omega⟩
    rcases (show K = 4 ∨ K = 6 by omega) with rfl | rfl
    · go_wp2_with (first
        | (go_at_call 82
           refine (about4_c w.heap.size g gx fr sF w3 HR3.out HX3.out HWG.out.1 HNE.out).mono ?_
           rintro e0 w4 ⟨rfl, hh4, hr4, hs4⟩
           have HH4 := Lib.hid hh4
           have HR4 := Lib.hid hr4
           have HS4 := Lib.hid hs4
           clear hh4 hr4 hs4))
      go_meet
      have hb4 : Below w.heap.size w w4 := HB3.out.trans (HS4.out.toBelow (fun k hk => by have := HWG.out; omega) HB3.out.size)
      have hz4 := HS4.out.blk HZ3.out (fun e => by have := HLT.out; omega)
      have hrs : reportS t c b = reportS t c b := rfl
      refine ⟨_, { rep0 with kind := 4, fr := fr, ab := (numS 4 sF).1 }, _, HH4.out, ⟨nilV, nilV, nilV, nilV, nilV, rfl, World.ownsRow_nil _ _ _ _, World.ownsRow_nil _ _ _ _, World.ownsRow_nil _ _ _ _, World.ownsRow_nil _ _ _ _, World.ownsRow_nil _ _ _ _⟩, HR4.out, hz4, hb4, ?_⟩
      rw [reportS, ← HK.out, HEF.out]
      rfl
    · go_wp2_with (first
        | (go_at_call 82
           refine (about6_c w.heap.size g gx fr sF w3 HR3.out HX3.out HWG.out.1 HNE.out).mono ?_
           rintro e0 w4 ⟨rfl, hh4, hr4, hs4⟩
           have HH4 := Lib.hid hh4
           have HR4 := Lib.hid hr4
           have HS4 := Lib.hid hs4
           clear hh4 hr4 hs4))
      go_meet
      have hb4 : Below w.heap.size w w4 := HB3.out.trans (HS4.out.toBelow (fun k hk => by have := HWG.out; omega) HB3.out.size)
      have hz4 := HS4.out.blk HZ3.out (fun e => by have := HLT.out; omega)
      have hrs : reportS t c b = reportS t c b := rfl
      obtain ⟨v, hv, ho⟩ := HH4.out
      refine ⟨_, { rep0 with kind := 6, fr := fr, ab := (numS 4 sF).1, ex := ((rembS (numS 4 sF).2).1.1 : Int), mt := (rembS (numS 4 sF).2).1.2, ssrcs := (rembS (numS 4 sF).2).2.1 }, _, hv, ⟨nilV, nilV, nilV, v, nilV, rfl, World.ownsRow_nil _ _ _ _, World.ownsRow_nil _ _ _ _, World.ownsRow_nil _ _ _ _, own_lower ho HB3.out.size, World.ownsRow_nil _ _ _ _⟩, HR4.out, hz4, hb4, ?_⟩
      rw [reportS, ← HK.out, HEF.out]
      rfl
  case rest =>
    obtain ⟨cs, r, s', hx, hro, hr, hz, hb, hrs⟩ := hcut
    obtain ⟨R, hR⟩ : ∃ R, R = cs.toList := ⟨_, rfl⟩
    have hRa : R.toArray = cs := by rw [hR]
    have hsz : R.length = 16 := by
      obtain ⟨_, _, _, _, _, e, _⟩ := hro
      rw [hR, e]
      rfl
    have HONE : Hid (R.toArray.all (·.oneCell') = true) := by show _ = _; rw [hRa]; exact hro.one
    rw [← hRa] at hx hro
    obtain ⟨b', bad⟩ := s'
    obtain ⟨hq1, hq2, Aq, cq, hq3, hq4⟩ := hr
    have kb : wc.cell? ⟨g, 1, none⟩ = some (.bool bad) := hq3.cell 1
    obtain ⟨q, hq⟩ : ∃ q, q = b'.length := ⟨_, rfl⟩
    have kg : wc.cell? ⟨g, 0, none⟩ = some (.slice Aq q cq) := by have := hq3.cell 0; rw [hq]; exact this
    have HQ := Lib.hid hq
    have HBG : Hid (Blk wc g 199 #[.slice Aq q cq, .bool bad]) := by show Blk _ _ _ _; rw [hq]; exact hq3
    have HX := Lib.hid hx
    have HRO := Lib.hid hro
    have HZ := Lib.hid hz
    have HB := Lib.hid hb
    have HRS := Lib.hid hrs
    clear hq hx hro hz hb hrs hq1 hq2 hq3 hq4 hR hRa
    have HI : Hid ((Tryz.prog.info? 81).map (·.size) = some R.length) := by show _ = _; rw [hsz]; exact infoRep
    have HJ : Hid ((Tryz.prog.info? 81).map (·.size) = some R.toArray.size) := by show _ = _; rw [List.size_toArray, hsz]; exact infoRep
    have HRG : Hid (wc.rangeAt gx 0 R) := blk_range HX.out
    have HTH : Hid (wc.there gr 0 R.toArray.size) := by show World.there _ _ _ R.toArray.size; rw [List.size_toArray, hsz]; exact blk_there0 (l := (repA 0 0 0 0 0 0 0 nilV nilV nilV 0 0 nilV 0 0 nilV).toList) HZ.out rfl
    have HSZ := Lib.hid hsz
    clear hsz
    go_upto_region 15 with fail
    have HSS : Hid (((World.setCells (World.drew wc) gr 0 R).cell? ⟨g, 0, none⟩ = some (.slice Aq q cq) ∧ (World.setCells (World.drew wc) gr 0 R).cell? ⟨g, 1, none⟩ = some (.bool bad)) ∧ (World.setCells (World.drew wc) gr 0 R).rangeAt gx 0 R) := by
      have h1 : Blk (World.setCells (World.drew wc) gr 0 R) g _ _ := Blk.farAll (by have := HLT.out; omega) _ _ _ (show Blk (World.drew wc) _ _ _ from HBG.out)
      have h2 : Blk (World.setCells (World.drew wc) gr 0 R) gx _ _ := Blk.farAll (by have := HLT.out; omega) _ _ _ (show Blk (World.drew wc) _ _ _ from HX.out)
      exact ⟨⟨h1.cell 0, h1.cell 1⟩, blk_range h2⟩
    have hst : Blk (World.setCells (World.drew wc) gr 0 R) gr 81 R.toArray := blk_setAll (l := (repA 0 0 0 0 0 0 0 nilV nilV nilV 0 0 nilV 0 0 nilV).toList) (show Blk (World.drew wc) _ _ _ from HZ.out) (by rw [HSZ.out]; rfl)
    have HLOAD := Lib.hid (run_loadVar_mid (P := Tryz.prog) (World.setCells (World.drew wc) gr 0 R) gr 0 81 R _ (blk_range hst) Tryz.underlying81 rfl HI.out)
    have HBF : Hid (Below w.heap.size w (World.setCells (World.drew wc) gr 0 R)) := below_setCells (bdrew HB.out) (by have := HLT.out; omega) _ _
    have HROF : Hid (RepO (World.setCells (World.drew wc) gr 0 R) w.heap.size R.toArray r) := RepO.setAll (show RepO (World.drew wc) _ _ _ from HRO.out.below (bdrew (Below.refl _ _))) (show Blk (World.drew wc) _ _ _ from HZ.out) R
    have HKG := Lib.hid kg
    have HKB := Lib.hid kb
    clear hst kg kb
    cases bad with
    | true =>
      refine wp_region_held_drew (S := (fun w' => (w'.cell? ⟨g, 0, none⟩ = some (.slice Aq q cq) ∧ w'.cell? ⟨g, 1, none⟩ = some (.bool true)) ∧ w'.rangeAt gx 0 R)) (by kernel_rfl) (⟨⟨HKG.out, HKB.out⟩, HRG.out⟩) (fun hHeld => ?_)
      refine wpAnyH_takeAt (i := 0) (v := (.agg R.toArray)) rfl (by kernel_rfl) (by kernel_rfl) (by kernel_rfl) (fun _ _ _ h => h) rfl (yieldsIf_load_mid (by rfl) 81 _ rfl gx 0 rfl R _ (fun w' hS => hS.2) Tryz.underlying81 rfl HI.out) hHeld ?_
      simp only [List.set_cons_zero, List.set_cons_succ]
      refine wpAnyH_takeAt (i := 1) (v := (.pointer (some ⟨g, 0, none⟩))) rfl (by kernel_rfl) (by kernel_rfl) (by kernel_rfl) (fun _ _ _ h => h) rfl (Or.inl ⟨by rfl, fun w' hS => ?_⟩) hHeld ?_
      · go_simp
      simp only [List.set_cons_zero, List.set_cons_succ]
      refine wpAnyH_takeAt (i := 2) (v := (.pointer (some ⟨g, 0, none⟩))) rfl (by kernel_rfl) (by kernel_rfl) (by kernel_rfl) (fun _ _ _ h => h) rfl (Or.inl ⟨by rfl, fun w' hS => ?_⟩) hHeld ?_
      · go_simp
      simp only [List.set_cons_zero, List.set_cons_succ]
      refine wpAnyH_takeAt (i := 3) (v := (.pointer (some ⟨g, 1, none⟩))) rfl (by kernel_rfl) (by kernel_rfl) (by kernel_rfl) (fun _ _ _ h => h) rfl (Or.inl ⟨by rfl, fun w' hS => ?_⟩) hHeld ?_
      · go_simp
      simp only [List.set_cons_zero, List.set_cons_succ]
      refine wpAnyH_takeAt (i := 4) (v := (.bool true)) rfl (by kernel_rfl) (by kernel_rfl) (by kernel_rfl) (fun _ _ _ h => h) rfl (Or.inl ⟨by rfl, fun w' hS => ?_⟩) hHeld ?_
      · have hc := hS.1.2
        go_simp
      simp only [List.set_cons_zero, List.set_cons_succ]
      refine wpAnyH_takeAt (i := 5) (v := (.bool false)) rfl (by kernel_rfl) (by kernel_rfl) (by kernel_rfl) (fun _ _ _ h => h) rfl (Or.inl ⟨by rfl, fun w' hS => ?_⟩) hHeld ?_
      · go_simp
      simp only [List.set_cons_zero, List.set_cons_succ]
      refine wpAnyH_takeAt (i := 6) (v := (.bool false)) rfl (by kernel_rfl) (by kernel_rfl) (by kernel_rfl) (fun _ _ _ h => h) rfl (Or.inl ⟨by rfl, fun w' hS => ?_⟩) hHeld ?_
      · go_simp
      simp only [List.set_cons_zero, List.set_cons_succ]
      refine wpAnyH_takeAt (i := 7) (v := undef) rfl (by kernel_rfl) (by kernel_rfl) (by kernel_rfl) (fun _ _ _ h => h) rfl (Or.inr ⟨by rfl, rfl⟩) hHeld ?_
      simp only [List.set_cons_zero, List.set_cons_succ]
      refine wpAnyH_takeAt (i := 8) (v := undef) rfl (by kernel_rfl) (by kernel_rfl) (by kernel_rfl) (fun _ _ _ h => h) rfl (Or.inr ⟨by rfl, rfl⟩) hHeld ?_
      simp only [List.set_cons_zero, List.set_cons_succ]
      refine wpAnyH_takeAt (i := 9) (v := undef) rfl (by kernel_rfl) (by kernel_rfl) (by kernel_rfl) (fun _ _ _ h => h) rfl (Or.inr ⟨by rfl, rfl⟩) hHeld ?_
      simp only [List.set_cons_zero, List.set_cons_succ]
      refine wpAnyH_takeAt (i := 10) (v := undef) rfl (by kernel_rfl) (by kernel_rfl) (by kernel_rfl) (fun _ _ _ h => h) rfl (Or.inr ⟨by rfl, rfl⟩) hHeld ?_
      simp only [List.set_cons_zero, List.set_cons_succ]
      refine wpAnyH_takeAt (i := 11) (v := undef) rfl (by kernel_rfl) (by kernel_rfl) (by kernel_rfl) (fun _ _ _ h => h) rfl (Or.inr ⟨by rfl, rfl⟩) hHeld ?_
      simp only [List.set_cons_zero, List.set_cons_succ]
      refine wpAnyH_takeAt (i := 12) (v := undef) rfl (by kernel_rfl) (by kernel_rfl) (by kernel_rfl) (fun _ _ _ h => h) rfl (Or.inr ⟨by rfl, rfl⟩) hHeld ?_
      simp only [List.set_cons_zero, List.set_cons_succ]
      refine wpAnyH_takeAt (i := 13) (v := (.bool false)) rfl (by kernel_rfl) (by kernel_rfl) (by kernel_rfl) (fun _ _ _ h => h) rfl (Or.inl ⟨by rfl, fun w' hS => ?_⟩) hHeld ?_
      · go_simp
      simp only [List.set_cons_zero, List.set_cons_succ]
      refine wpAnyH_ready (rs := [14]) (by kernel_rfl) (by simp) (AllReadyH.cons rfl (fun K' hK => ?_) AllReadyH.nil)
      rw [if_pos (by rfl)]
      refine wp_store_mid 81 (.tmp 6) (.tmp 60) (by rfl) gr 0 R.toArray (by rfl) (by rfl) (show World.there (World.drew wc) _ _ _ from HTH.out) HJ.out HONE.out ?_
      refine hK.out _ _ HSS.out (fun hHeld' => ?_)
      clear hK hHeld
      have hHeld := hHeld'
      clear hHeld'
      refine wpAnyH_putNone rfl ?_
      refine wpAnyH_takeAt (i := 15) (v := (.bool false)) rfl (by kernel_rfl) (by kernel_rfl) (by kernel_rfl) (fun _ _ _ h => h) rfl (Or.inl ⟨by rfl, fun w' hS => ?_⟩) hHeld ?_
      · go_simp
      simp only [List.set_cons_zero, List.set_cons_succ]
      refine wpAnyH_done (by kernel_rfl) ?_ _
      go_wp2_with fail
      refine bodyPost_ret (results_ct rfl _ _ gr _ _ rfl rfl HLOAD.out) rfl ⟨R.toArray, by rw [HRS.out]; simp, ?_, HBF.out⟩
      rw [HRS.out]
      exact HROF.out
    | false =>
      by_cases hq0 : q = 0
      · have HQE : Hid (b' = []) := List.eq_nil_of_length_eq_zero (by rw [← HQ.out]; exact hq0)
        subst hq0
        refine wp_region_held_drew (S := (fun w' => (w'.cell? ⟨g, 0, none⟩ = some (.slice Aq 0 cq) ∧ w'.cell? ⟨g, 1, none⟩ = some (.bool false)) ∧ w'.rangeAt gx 0 R)) (by kernel_rfl) (⟨⟨HKG.out, HKB.out⟩, HRG.out⟩) (fun hHeld => ?_)
        refine wpAnyH_takeAt (i := 0) (v := (.agg R.toArray)) rfl (by kernel_rfl) (by kernel_rfl) (by kernel_rfl) (fun _ _ _ h => h) rfl (yieldsIf_load_mid (by rfl) 81 _ rfl gx 0 rfl R _ (fun w' hS => hS.2) Tryz.underlying81 rfl HI.out) hHeld ?_
        simp only [List.set_cons_zero, List.set_cons_succ]
        refine wpAnyH_takeAt (i := 1) (v := (.pointer (some ⟨g, 0, none⟩))) rfl (by kernel_rfl) (by kernel_rfl) (by kernel_rfl) (fun _ _ _ h => h) rfl (Or.inl ⟨by rfl, fun w' hS => ?_⟩) hHeld ?_
        · go_simp
        simp only [List.set_cons_zero, List.set_cons_succ]
        refine wpAnyH_takeAt (i := 2) (v := (.pointer (some ⟨g, 0, none⟩))) rfl (by kernel_rfl) (by kernel_rfl) (by kernel_rfl) (fun _ _ _ h => h) rfl (Or.inl ⟨by rfl, fun w' hS => ?_⟩) hHeld ?_
        · go_simp
        simp only [List.set_cons_zero, List.set_cons_succ]
        refine wpAnyH_takeAt (i := 3) (v := (.pointer (some ⟨g, 1, none⟩))) rfl (by kernel_rfl) (by kernel_rfl) (by kernel_rfl) (fun _ _ _ h => h) rfl (Or.inl ⟨by rfl, fun w' hS => ?_⟩) hHeld ?_
        · go_simp
        simp only [List.set_cons_zero, List.set_cons_succ]
        refine wpAnyH_takeAt (i := 4) (v := (.bool false)) rfl (by kernel_rfl) (by kernel_rfl) (by kernel_rfl) (fun _ _ _ h => h) rfl (Or.inl ⟨by rfl, fun w' hS => ?_⟩) hHeld ?_
        · have hc := hS.1.2
          go_simp
        simp only [List.set_cons_zero, List.set_cons_succ]
        refine wpAnyH_takeAt (i := 5) (v := (.bool true)) rfl (by kernel_rfl) (by kernel_rfl) (by kernel_rfl) (fun _ _ _ h => h) rfl (Or.inl ⟨by rfl, fun w' hS => ?_⟩) hHeld ?_
        · go_simp
        simp only [List.set_cons_zero, List.set_cons_succ]
        refine wpAnyH_takeAt (i := 6) (v := (.bool true)) rfl (by kernel_rfl) (by kernel_rfl) (by kernel_rfl) (fun _ _ _ h => h) rfl (Or.inl ⟨by rfl, fun w' hS => ?_⟩) hHeld ?_
        · go_simp
        simp only [List.set_cons_zero, List.set_cons_succ]
        refine wpAnyH_takeAt (i := 7) (v := (.pointer (some ⟨g, 0, none⟩))) rfl (by kernel_rfl) (by kernel_rfl) (by kernel_rfl) (fun _ _ _ h => h) rfl (Or.inl ⟨by rfl, fun w' hS => ?_⟩) hHeld ?_
        · go_simp
        simp only [List.set_cons_zero, List.set_cons_succ]
        refine wpAnyH_takeAt (i := 8) (v := (.pointer (some ⟨g, 0, none⟩))) rfl (by kernel_rfl) (by kernel_rfl) (by kernel_rfl) (fun _ _ _ h => h) rfl (Or.inl ⟨by rfl, fun w' hS => ?_⟩) hHeld ?_
        · go_simp
        simp only [List.set_cons_zero, List.set_cons_succ]
        refine wpAnyH_takeAt (i := 9) (v := (.pointer (some ⟨g, 0, none⟩))) rfl (by kernel_rfl) (by kernel_rfl) (by kernel_rfl) (fun _ _ _ h => h) rfl (Or.inl ⟨by rfl, fun w' hS => ?_⟩) hHeld ?_
        · go_simp
        simp only [List.set_cons_zero, List.set_cons_succ]
        refine wpAnyH_takeAt (i := 10) (v := (.slice Aq 0 cq)) rfl (by kernel_rfl) (by kernel_rfl) (by kernel_rfl) (fun _ _ _ h => h) rfl (Or.inl ⟨by rfl, fun w' hS => ?_⟩) hHeld ?_
        · have hc := hS.1.1
          go_simp
        simp only [List.set_cons_zero, List.set_cons_succ]
        refine wpAnyH_takeAt (i := 11) (v := (.int .i64 0)) rfl (by kernel_rfl) (by kernel_rfl) (by kernel_rfl) (fun _ _ _ h => h) rfl (Or.inl ⟨by rfl, fun w' hS => ?_⟩) hHeld ?_
        · go_simp
        simp only [List.set_cons_zero, List.set_cons_succ]
        refine wpAnyH_takeAt (i := 12) (v := (.bool true)) rfl (by kernel_rfl) (by kernel_rfl) (by kernel_rfl) (fun _ _ _ h => h) rfl (Or.inl ⟨by rfl, fun w' hS => ?_⟩) hHeld ?_
        · go_simp
        simp only [List.set_cons_zero, List.set_cons_succ]
        refine wpAnyH_takeAt (i := 13) (v := (.bool true)) rfl (by kernel_rfl) (by kernel_rfl) (by kernel_rfl) (fun _ _ _ h => h) rfl (Or.inl ⟨by rfl, fun w' hS => ?_⟩) hHeld ?_
        · go_simp
        simp only [List.set_cons_zero, List.set_cons_succ]
        refine wpAnyH_ready (rs := [14]) (by kernel_rfl) (by simp) (AllReadyH.cons rfl (fun K' hK => ?_) AllReadyH.nil)
        rw [if_pos (by rfl)]
        refine wp_store_mid 81 (.tmp 6) (.tmp 60) (by rfl) gr 0 R.toArray (by rfl) (by rfl) (show World.there (World.drew wc) _ _ _ from HTH.out) HJ.out HONE.out ?_
        refine hK.out _ _ HSS.out (fun hHeld' => ?_)
        clear hK hHeld
        have hHeld := hHeld'
        clear hHeld'
        refine wpAnyH_putNone rfl ?_
        refine wpAnyH_takeAt (i := 15) (v := (.bool true)) rfl (by kernel_rfl) (by kernel_rfl) (by kernel_rfl) (fun _ _ _ h => h) rfl (Or.inl ⟨by rfl, fun w' hS => ?_⟩) hHeld ?_
        · go_simp
        simp only [List.set_cons_zero, List.set_cons_succ]
        refine wpAnyH_done (by kernel_rfl) ?_ _
        go_wp2_with fail
        refine bodyPost_ret (results_ct rfl _ _ gr _ _ rfl rfl HLOAD.out) rfl ⟨R.toArray, by rw [HRS.out]; simp [HQE.out], ?_, HBF.out⟩
        rw [HRS.out]
        exact HROF.out
      · have HQE : Hid (b'.isEmpty = false) := by show _ = _; cases b' with | nil => exact absurd HQ.out hq0 | cons _ _ => rfl
        have hq1 : ¬ (q : Int) = 0 := by omega
        have hq2 : ((q : Int) == 0) = false := by simpa using hq1
        clear hq0 hq1
        refine wp_region_held_drew (S := (fun w' => (w'.cell? ⟨g, 0, none⟩ = some (.slice Aq q cq) ∧ w'.cell? ⟨g, 1, none⟩ = some (.bool false)) ∧ w'.rangeAt gx 0 R)) (by kernel_rfl) (⟨⟨HKG.out, HKB.out⟩, HRG.out⟩) (fun hHeld => ?_)
        refine wpAnyH_takeAt (i := 0) (v := (.agg R.toArray)) rfl (by kernel_rfl) (by kernel_rfl) (by kernel_rfl) (fun _ _ _ h => h) rfl (yieldsIf_load_mid (by rfl) 81 _ rfl gx 0 rfl R _ (fun w' hS => hS.2) Tryz.underlying81 rfl HI.out) hHeld ?_
        simp only [List.set_cons_zero, List.set_cons_succ]
        refine wpAnyH_takeAt (i := 1) (v := (.pointer (some ⟨g, 0, none⟩))) rfl (by kernel_rfl) (by kernel_rfl) (by kernel_rfl) (fun _ _ _ h => h) rfl (Or.inl ⟨by rfl, fun w' hS => ?_⟩) hHeld ?_
        · go_simp
        simp only [List.set_cons_zero, List.set_cons_succ]
        refine wpAnyH_takeAt (i := 2) (v := (.pointer (some ⟨g, 0, none⟩))) rfl (by kernel_rfl) (by kernel_rfl) (by kernel_rfl) (fun _ _ _ h => h) rfl (Or.inl ⟨by rfl, fun w' hS => ?_⟩) hHeld ?_
        · go_simp
        simp only [List.set_cons_zero, List.set_cons_succ]
        refine wpAnyH_takeAt (i := 3) (v := (.pointer (some ⟨g, 1, none⟩))) rfl (by kernel_rfl) (by kernel_rfl) (by kernel_rfl) (fun _ _ _ h => h) rfl (Or.inl ⟨by rfl, fun w' hS => ?_⟩) hHeld ?_
        · go_simp
        simp only [List.set_cons_zero, List.set_cons_succ]
        refine wpAnyH_takeAt (i := 4) (v := (.bool false)) rfl (by kernel_rfl) (by kernel_rfl) (by kernel_rfl) (fun _ _ _ h => h) rfl (Or.inl ⟨by rfl, fun w' hS => ?_⟩) hHeld ?_
        · have hc := hS.1.2
          go_simp
        simp only [List.set_cons_zero, List.set_cons_succ]
        refine wpAnyH_takeAt (i := 5) (v := (.bool true)) rfl (by kernel_rfl) (by kernel_rfl) (by kernel_rfl) (fun _ _ _ h => h) rfl (Or.inl ⟨by rfl, fun w' hS => ?_⟩) hHeld ?_
        · go_simp
        simp only [List.set_cons_zero, List.set_cons_succ]
        refine wpAnyH_takeAt (i := 6) (v := (.bool true)) rfl (by kernel_rfl) (by kernel_rfl) (by kernel_rfl) (fun _ _ _ h => h) rfl (Or.inl ⟨by rfl, fun w' hS => ?_⟩) hHeld ?_
        · go_simp
        simp only [List.set_cons_zero, List.set_cons_succ]
        refine wpAnyH_takeAt (i := 7) (v := (.pointer (some ⟨g, 0, none⟩))) rfl (by kernel_rfl) (by kernel_rfl) (by kernel_rfl) (fun _ _ _ h => h) rfl (Or.inl ⟨by rfl, fun w' hS => ?_⟩) hHeld ?_
        · go_simp
        simp only [List.set_cons_zero, List.set_cons_succ]
        refine wpAnyH_takeAt (i := 8) (v := (.pointer (some ⟨g, 0, none⟩))) rfl (by kernel_rfl) (by kernel_rfl) (by kernel_rfl) (fun _ _ _ h => h) rfl (Or.inl ⟨by rfl, fun w' hS => ?_⟩) hHeld ?_
        · go_simp
        simp only [List.set_cons_zero, List.set_cons_succ]
        refine wpAnyH_takeAt (i := 9) (v := (.pointer (some ⟨g, 0, none⟩))) rfl (by kernel_rfl) (by kernel_rfl) (by kernel_rfl) (fun _ _ _ h => h) rfl (Or.inl ⟨by rfl, fun w' hS => ?_⟩) hHeld ?_
        · go_simp
        simp only [List.set_cons_zero, List.set_cons_succ]
        refine wpAnyH_takeAt (i := 10) (v := (.slice Aq q cq)) rfl (by kernel_rfl) (by kernel_rfl) (by kernel_rfl) (fun _ _ _ h => h) rfl (Or.inl ⟨by rfl, fun w' hS => ?_⟩) hHeld ?_
        · have hc := hS.1.1
          go_simp
        simp only [List.set_cons_zero, List.set_cons_succ]
        refine wpAnyH_takeAt (i := 11) (v := (.int .i64 (q : Int))) rfl (by kernel_rfl) (by kernel_rfl) (by kernel_rfl) (fun _ _ _ h => h) rfl (Or.inl ⟨by rfl, fun w' hS => ?_⟩) hHeld ?_
        · go_simp
        simp only [List.set_cons_zero, List.set_cons_succ]
        refine wpAnyH_takeAt (i := 12) (v := (.bool false)) rfl (by kernel_rfl) (by kernel_rfl) (by kernel_rfl) (fun _ _ _ h => h) rfl (Or.inl ⟨by rfl, fun w' hS => ?_⟩) hHeld ?_
        · go_simp
        simp only [List.set_cons_zero, List.set_cons_succ]
        refine wpAnyH_takeAt (i := 13) (v := (.bool false)) rfl (by kernel_rfl) (by kernel_rfl) (by kernel_rfl) (fun _ _ _ h => h) rfl (Or.inl ⟨by rfl, fun w' hS => ?_⟩) hHeld ?_
        · go_simp
        simp only [List.set_cons_zero, List.set_cons_succ]
        refine wpAnyH_ready (rs := [14]) (by kernel_rfl) (by simp) (AllReadyH.cons rfl (fun K' hK => ?_) AllReadyH.nil)
        rw [if_pos (by rfl)]
        refine wp_store_mid 81 (.tmp 6) (.tmp 60) (by rfl) gr 0 R.toArray (by rfl) (by rfl) (show World.there (World.drew wc) _ _ _ from HTH.out) HJ.out HONE.out ?_
        refine hK.out _ _ HSS.out (fun hHeld' => ?_)
        clear hK hHeld
        have hHeld := hHeld'
        clear hHeld'
        refine wpAnyH_putNone rfl ?_
        refine wpAnyH_takeAt (i := 15) (v := (.bool false)) rfl (by kernel_rfl) (by kernel_rfl) (by kernel_rfl) (fun _ _ _ h => h) rfl (Or.inl ⟨by rfl, fun w' hS => ?_⟩) hHeld ?_
        · go_simp
        simp only [List.set_cons_zero, List.set_cons_succ]
        refine wpAnyH_done (by kernel_rfl) ?_ _
        go_wp2_with fail
        refine bodyPost_ret (results_ct rfl _ _ gr _ _ rfl rfl HLOAD.out) rfl ⟨R.toArray, by rw [HRS.out]; simp [HQE.out], ?_, HBF.out⟩
        rw [HRS.out]
        exact HROF.out
end Go.Proofs.YtmkifedcanmjoaaGreat
