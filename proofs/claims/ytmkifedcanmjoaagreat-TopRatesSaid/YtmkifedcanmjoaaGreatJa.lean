/- Texts of this claim, one behind the other: Base, Post, Mem, App, Own, Str, U8, W32, Sv, Cut, Slv, ArrU. Each says ahead of itself what it proves, and its conditions. -/
import Derived.Test.YtmkifedcanmjoaaGreatRows
import Derived.WalkKit
import Derived.Outline
import Derived.Lib.Hide
import Derived.Deep.QuietTactic
import Derived.BigQuiet
import Derived.WalkSpells
import Derived.Deep.DeepMust
import Derived.Deep.Draws
import Derived.Deep.AppendLies
import Derived.Deep.LoopGhost
import Derived.Deep.DeepCutAuto
import Derived.Deep.RegionLaw
import Derived.Maps.AppendAt
import Derived.Laws.OwnMore
import Derived.Laws.Rows
import Derived.Deep.RegionHeld3
import Derived.Deep.DrawnRows
import Derived.ProofKit
import Derived.OpenShut
import Derived.Below
import Derived.ChangeSame
import Derived.SizedLaws
import Derived.JoinedCond
import Derived.Deep.CondSized
import Derived.Lib.SmallJoins
import Derived.RegionTactic
import Derived.OwnWalk
import Derived.Laws.IdiomStrings
import Derived.Laws.BitsAllLaws
import Derived.Lib.EndianBits
import Derived.Deep.MidRow
/- What all texts of this seat share: blocks known whole, frames ('Below'), draws. Plain lemmas over any world. -/
set_option linter.unusedVariables false
namespace Go.Proofs.YtmkifedcanmjoaaGreat
open Go.RowKit

theorem ret_bool {a b : Bool} (h : a = b) : Ending.returned (.bool a) = .returned (.bool b) := by rw [h]
theorem ret_int {k : IntKind} {a b : Int} (h : a = b) : Ending.returned (.int k a) = .returned (.int k b) := by rw [h]

theorem below_drewN {B : Nat} {a w : World} (h : Below B a w) (n : Nat) : Below B a (w.drewN n) := ⟨h.os, h.tape, h.output, h.size, h.block⟩
theorem balloc {w W : World} (k : Below w.heap.size w W) (o : Obj) : Below w.heap.size w (W.alloc o) := k.alloc k.size o
theorem bcall {w W w1 : World} (k : Below w.heap.size w W) (hb : Below W.heap.size W w1) : Below w.heap.size w w1 := k.trans (hb.mono k.size)
theorem bcallr {w W w1 : World} (hb : Below W.heap.size W w1) (k : Below w.heap.size w W) : Below w.heap.size w w1 := k.trans (hb.mono k.size)
theorem bdrew {w W : World} (k : Below w.heap.size w W) : Below w.heap.size w W.drew := k.drew
theorem bset {w W : World} (k : Below w.heap.size w W) {p : Addr} (hp : w.heap.size ≤ p.block) (u : Value) : Below w.heap.size w (W.setCell p u) := k.setCell hp u
theorem bcell {W w1 : World} (hb : Below W.heap.size W w1) : (∀ b o, b < W.heap.size → w1.cell? ⟨b, o, none⟩ = W.cell? ⟨b, o, none⟩) ∧ (∀ b o, b < W.heap.size → w1.frozen? ⟨b, o, none⟩ = W.frozen? ⟨b, o, none⟩) :=
  ⟨fun b o h => hb.cell (p := ⟨b, o, none⟩) h, fun b o h => hb.frozen (p := ⟨b, o, none⟩) h⟩

/-! A slice that reads as a list of cells, nil let in. -/
theorem block_of_add (a : Addr) (n : Nat) : (a.add n).block = a.block := by unfold Addr.add; split <;> rfl
theorem add_of_add (a : Addr) (i j : Nat) : (a.add i).add j = a.add (i + j) := by
  unfold Addr.add
  by_cases hi : i = 0 <;> by_cases hj : j = 0 <;> simp [hi, hj, Nat.add_assoc]

def Reads (w : World) (B size : Nat) (A : Option Addr) (n : Nat) (xs : List Value) : Prop :=
  xs.length = n * size ∧ (0 < n → ∃ ad, A = some ad ∧ ad.block < B ∧ ∀ j u, xs[j]? = some u → w.cell? (ad.add j) = some u)

section
variable {w w' : World} {B B' size n : Nat} {A : Option Addr} {xs : List Value}
theorem Reads.none_ : Reads w B size A 0 [] := ⟨by simp, fun h => absurd h (by omega)⟩
theorem Reads.at_ {k : Nat} (h : Reads w B 1 A n xs) (hk : k < n) : ∃ ad u, A = some ad ∧ ad.block < B ∧ xs[k]? = some u ∧ w.cell? (ad.add k) = some u := by
  obtain ⟨ad, e, hb, hc⟩ := h.2 (by omega)
  have hl : k < xs.length := by have := h.1; omega
  exact ⟨ad, xs[k], e, hb, List.getElem?_eq_getElem hl, hc k _ (List.getElem?_eq_getElem hl)⟩
theorem Reads.keep (h : Reads w B size A n xs) (hk : ∀ p : Addr, p.block < B → w'.cell? p = w.cell? p) : Reads w' B size A n xs :=
  ⟨h.1, fun hn => by
    obtain ⟨ad, e, hb, hc⟩ := h.2 hn
    exact ⟨ad, e, hb, fun j u hu => (hk _ (by rw [block_of_add]; exact hb)).trans (hc j u hu)⟩⟩
theorem Reads.more (h : Reads w B size A n xs) (hB : B ≤ B') : Reads w B' size A n xs :=
  ⟨h.1, fun hn => by
    obtain ⟨ad, e, hb, hc⟩ := h.2 hn
    exact ⟨ad, e, by omega, hc⟩⟩
theorem Reads.below (h : Reads w B size A n xs) (hb : Below B w w') : Reads w' B size A n xs := h.keep fun _ hp => hb.cell hp
theorem Reads.drew (h : Reads w B size A n xs) : Reads w.drew B size A n xs := h
theorem Reads.drewN (h : Reads w B size A n xs) (k : Nat) : Reads (w.drewN k) B size A n xs := h
theorem Reads.alloc (h : Reads w B size A n xs) (hB : B ≤ w.heap.size) (o : Obj) : Reads (w.alloc o) B size A n xs := h.keep fun p hp => World.cell?_alloc_lt w o p (by omega)
theorem Reads.setCell (h : Reads w B size A n xs) {p : Addr} (hB : B ≤ p.block) (u : Value) : Reads (w.setCell p u) B size A n xs :=
  h.keep fun q hq => World.cell?_setCell_other w p q u (fun e => by subst e; omega)
theorem Reads.grown (h : Reads w B size A n xs) {row : Option Nat} (hg : w.grownBy w' row) (hB : B ≤ w.heap.size) (hr : ∀ g, row = some g → B ≤ g) : Reads w' B size A n xs :=
  h.keep fun p hp => World.cell?_of_block (hg.block p.block (by omega) (fun e => by have := hr _ e.symm; omega))
theorem Reads.cut (h : Reads w B size A n xs) {k cap : Nat} (hk : k ≤ n) (hc : n ≤ cap) :
    Reads w B size (if cap = k then A else A.map (·.add (k * size))) (n - k) (xs.drop (k * size)) := by
  refine ⟨by rw [List.length_drop, h.1, Nat.sub_mul], fun hn => ?_⟩
  obtain ⟨ad, rfl, hb, hcell⟩ := h.2 (by omega)
  rw [if_neg (by omega)]
  refine ⟨ad.add (k * size), rfl, by rw [block_of_add]; exact hb, fun j u hu => ?_⟩
  rw [add_of_add]
  exact hcell _ u (by rw [← hu, List.getElem?_drop])
theorem Reads.of_own {base : Nat} {e : TypeId} {c : Nat} (h : w.ownsRow base e size (.slice A n c) n xs) : Reads w w.heap.size size A n xs := by
  refine ⟨h.1, fun hn => ?_⟩
  obtain ⟨g, cap, hv, _, hlt⟩ := h.form hn
  have hA : A = some ⟨g, 0, none⟩ := by injection hv
  subst hA
  exact ⟨_, rfl, hlt, h.cells (g := g) rfl⟩
end

/-- Block g holds just the cells cs, none of them frozen. -/
def Blk (w : World) (g : Nat) (t : TypeId) (cs : Array Value) : Prop := w.heap[g]? = some (.cells cs t (0, 0))
section
variable {w w' : World} {g : Nat} {t : TypeId} {cs : Array Value}
theorem Blk.lt (h : Blk w g t cs) : g < w.heap.size := by
  rcases Nat.lt_or_ge g w.heap.size with hlt | hge
  · exact hlt
  · unfold Blk at h; rw [Array.getElem?_eq_none hge] at h; cases h
theorem Blk.cell (h : Blk w g t cs) (i : Nat) : w.cell? ⟨g, i, none⟩ = cs[i]? := cell_of_row w g i cs t (0, 0) h
theorem Blk.frozen (h : Blk w g t cs) (i : Nat) : w.frozen? ⟨g, i, none⟩ = false := by
  unfold Blk at h
  simp [World.frozen?, h]
theorem Blk.new (w : World) (t : TypeId) (cs : Array Value) : Blk (w.alloc (.cells cs t)) w.heap.size t cs := heap_alloc_new w _
theorem Blk.drew (h : Blk w g t cs) : Blk w.drew g t cs := h
theorem Blk.drewN (h : Blk w g t cs) (n : Nat) : Blk (w.drewN n) g t cs := h
theorem Blk.alloc (h : Blk w g t cs) (o : Obj) : Blk (w.alloc o) g t cs := (Below.heap_alloc w o g h.lt).trans h
theorem Blk.set_ (h : Blk w g t cs) (i : Nat) (u : Value) : Blk (w.setCell ⟨g, i, none⟩ u) g t (cs.setIfInBounds i u) := by
  unfold Blk at h ⊢
  simp [World.setCell, Array.getElem?_modify, h]
theorem Blk.far (h : Blk w g t cs) {p : Addr} (hp : g ≠ p.block) (u : Value) : Blk (w.setCell p u) g t cs := (Below.heap_setCell w p u g hp).trans h
theorem Blk.belowB {B : Nat} (h : Blk w g t cs) (hb : Below B w w') (hg : g < B) : Blk w' g t cs := (hb.block g hg).trans h
theorem Blk.below (h : Blk w g t cs) (hb : Below w.heap.size w w') : Blk w' g t cs := (hb.block g h.lt).trans h
theorem Blk.grown {row : Option Nat} (h : Blk w g t cs) (hb : w.grownBy w' row) (hg : some g ≠ row) : Blk w' g t cs := (hb.block g h.lt hg).trans h
theorem Blk.cell3 {x y z : Value} (h : Blk w g t #[x, y, z]) : w.cell? ⟨g, 0, none⟩ = some x ∧ w.cell? ⟨g, 1, none⟩ = some y ∧ w.cell? ⟨g, 2, none⟩ = some z ∧ g < w.heap.size := ⟨h.cell 0, h.cell 1, h.cell 2, h.lt⟩
theorem Blk.cell3f {x y z : Value} (h : Blk w g t #[x, y, z]) : (w.cell? ⟨g, 0, none⟩ = some x ∧ w.cell? ⟨g, 1, none⟩ = some y ∧ w.cell? ⟨g, 2, none⟩ = some z ∧ g < w.heap.size) ∧ w.frozen? ⟨g, 0, none⟩ = false ∧ w.frozen? ⟨g, 1, none⟩ = false ∧ w.frozen? ⟨g, 2, none⟩ = false := ⟨⟨h.cell 0, h.cell 1, h.cell 2, h.lt⟩, h.frozen 0, h.frozen 1, h.frozen 2⟩
theorem Blk.cell2 {x y : Value} (h : Blk w g t #[x, y]) : w.cell? ⟨g, 0, none⟩ = some x ∧ w.cell? ⟨g, 1, none⟩ = some y ∧ g < w.heap.size := ⟨h.cell 0, h.cell 1, h.lt⟩
theorem Blk.cell1 {x : Value} (h : Blk w g t #[x]) : w.cell? ⟨g, 0, none⟩ = some x ∧ g < w.heap.size := ⟨h.cell 0, h.lt⟩
end

/-- But for block g, the row and what is new, w' is as W was: what a region that appends and then stores leaves alone. -/
structure Far (W : World) (g : Nat) (row : Option Nat) (w' : World) : Prop where
  size : W.heap.size ≤ w'.heap.size
  cell : ∀ p : Addr, p.block < W.heap.size → p.block ≠ g → some p.block ≠ row → w'.cell? p = W.cell? p
section
variable {W w' w'' : World} {g : Nat} {row : Option Nat}
theorem Far.refl (W : World) (g : Nat) (row : Option Nat) : Far W g row W := ⟨Nat.le_refl _, fun _ _ _ _ => rfl⟩
theorem Far.drew (h : Far W g row w') : Far W g row w'.drew := ⟨h.size, h.cell⟩
theorem Far.alloc (h : Far W g row w') (o : Obj) : Far W g row (w'.alloc o) :=
  ⟨Nat.le_trans h.size (by simp), fun p hp h1 h2 => (World.cell?_alloc_lt w' o p (Nat.lt_of_lt_of_le hp h.size)).trans (h.cell p hp h1 h2)⟩
theorem Far.set_ (h : Far W g row w') (i : Nat) (u : Value) : Far W g row (w'.setCell ⟨g, i, none⟩ u) :=
  ⟨by simpa [World.setCell] using h.size, fun p hp h1 h2 => (World.cell?_setCell_other w' _ p u (by intro e; exact h1 (congrArg Addr.block e).symm)).trans (h.cell p hp h1 h2)⟩
theorem Far.grown (hg : w'.grownBy w'' row) (h : Far W g row w') : Far W g row w'' :=
  ⟨Nat.le_trans h.size hg.size, fun p hp h1 h2 => (World.cell?_of_block (hg.block p.block (Nat.lt_of_lt_of_le hp h.size) h2)).trans (h.cell p hp h1 h2)⟩
theorem Far.below (hb : Below w'.heap.size w' w'') (h : Far W g row w') : Far W g row w'' :=
  ⟨Nat.le_trans h.size hb.size, fun p hp h1 h2 => (hb.cell (Nat.lt_of_lt_of_le hp h.size)).trans (h.cell p hp h1 h2)⟩
end
end Go.Proofs.YtmkifedcanmjoaaGreat
/- The row's last step, for every law of this seat: a call that returns true and leaves all that lay before it as it was meets the law's statement: each argument reads as it read. -/
set_option linter.unusedVariables false
namespace Go.Proofs.YtmkifedcanmjoaaGreat
open Go.RowKit Go.WideShapes Go.ChangeShapes
section
variable {H : Type} {enc : TypeId × Value → H} {P : Program}
theorem args_stay (hl : laidOutB P = true) {W W' : World} (hb : Below W.heap.size W W') : ∀ (ts : List TypeId) (vs : List Value) (ds : List (DataW H)) (ps : List MemPlace),
    (∀ t ∈ ts, P.readableRec t = true ∧ t < P.types.size) → (∀ x ∈ ps, x.block < W.heap.size) →
    DataW.TrodAll enc P W 0 (fun _ => true) true ts vs ds ps → DataW.TrodAll enc P W' 0 (fun b => decide (b < W.heap.size)) true ts vs ds ps
  | [], vs, ds, ps, _, _, h => by
    obtain ⟨rfl, rfl, rfl⟩ := trodAll_nil h
    exact trodAll_mk0
  | t :: ts, vs, ds, ps, hr, hlt, h => by
    obtain ⟨v, vs', d, ds', p, q, rfl, rfl, rfl, h1, h2⟩ := trodAll_cons h
    have h3 := hr t (List.mem_cons_self ..)
    exact trodAll_cons_mk (Below.trod hl h3.1 h3.2 h1 hb fun x hx => hlt x (List.mem_append.2 (.inl hx)))
      (args_stay hl hb ts vs' ds' q (fun u hu => hr u (List.mem_cons_of_mem _ hu)) (fun x hx => hlt x (List.mem_append.2 (.inr hx))) h2)

theorem law_post {f : Func} {s : ChangeSpec} {W W' : World} {args : Array Value} {ds gs : List (DataW H)} {before : List MemPlace} (hl : laidOutB P = true)
    (hr : ∀ t ∈ f.params.toList, P.readableRec t = true ∧ t < P.types.size) (hvars : s.vars = []) (hW : DataW.Whole enc P f.params.toList s.vars false W args.toList ds gs before)
    (hb : Below W.heap.size W W') {tb : TypeId} (hrt : f.resultTypes = #[tb]) (htb : P.underlying tb = some .bool)
    (hfn : s.fn H (ds ++ gs) = { results := [.lit (.bool true)], args := ds }) : s.post enc P f false true false false W args (.bool true) W' := by
  have hW' := hW
  have hlt : ∀ p ∈ before, p.block < W.heap.size := fun p hp => hW'.lt p hp
  obtain ⟨p, q, hA, hV, rfl, _, _⟩ := hW
  rw [hvars] at hV
  obtain ⟨rfl, rfl⟩ := trodVars_none hV
  refine ⟨ds, [], _, ([] : List MemPlace) ++ [], p, [], hW', ?_, ?_, ?_, hb.frame _, fun h => by cases h⟩
  · rw [hrt, hfn]
    exact trodAll_cons_mk (shut_bool htb _) trodAll_mk0
  · rw [hfn]
    exact args_stay hl hb _ _ _ _ hr (fun x hx => hlt x (List.mem_append.2 (.inl hx))) hA
  · rw [hfn, hvars]
    rfl
end
section
variable {H : Type} {enc : TypeId × Value → H} {P : Program}
/-- A slice of integers that came in, nil let in: it reads as a list of numbers of its kind. -/
theorem open_row {t e : TypeId} {k : IntKind} {W : World} {A : Option Addr} {n c : Nat} {d : DataW H} {p : List MemPlace} (ht : P.underlying t = some (.slice e)) (he : P.underlying e = some (.int k)) (hc : P.cellsOf e = 1)
    (h : DataW.Trod enc P W 0 (fun _ => true) true t (.slice A n c) d p) (hlt : ∀ x ∈ p, x.block < W.heap.size) :
    ∃ zs : List Int, zs.length = n ∧ n ≤ c ∧ c ≤ maxLen ∧ Reads W W.heap.size 1 A n (zs.map (Value.int k)) ∧ (∀ z ∈ zs, (Lit.int k z).wf = true) ∧
      ((A = none ∧ n = 0 ∧ c = 0 ∧ d = .nil) ∨ ∃ rest : List (DataW H), d = .slice (lits k zs) rest ∧ rest.length = c - n) := by
  obtain ⟨fuel, hf⟩ := h
  rcases open_ints ht he hc hf with ⟨hcs, hx⟩ | ⟨a, len, cap, zs, hcs, _, hl, hm, hz, hx, hcell, hwz⟩
  · simp [Value.cells] at hcs
    obtain ⟨rfl, rfl, rfl⟩ := hcs
    simp only [Prod.mk.injEq] at hx
    exact ⟨[], rfl, Nat.le_refl _, by simp [maxLen], Reads.none_, by simp, .inl ⟨rfl, rfl, rfl, hx.1⟩⟩
  · simp [Value.cells] at hcs
    obtain ⟨rfl, rfl, rfl⟩ := hcs
    simp only [Prod.mk.injEq] at hx
    simp only [if_true] at hz
    refine ⟨zs.take n, by simp; omega, hl, hm, ⟨by simp; omega, fun hn => ⟨a, rfl, ?_, fun j u hu => ?_⟩⟩, fun z hzm => hwz z (List.mem_of_mem_take hzm), .inr ⟨lits k (zs.drop n), hx.1, by simp [lits]; omega⟩⟩
    · have hcell0 := hcell 0 (by omega)
      exact World.block_lt_of_cell? _ _ (by simpa [Addr.add] using hcell0)
    · rw [List.getElem?_map] at hu
      rcases hj : (zs.take n)[j]? with _ | z
      · rw [hj] at hu; simp at hu
      · rw [hj] at hu
        simp only [Option.map_some, Option.some.injEq] at hu
        obtain ⟨hjl, hje⟩ := List.getElem?_eq_some_iff.1 hj
        have hjn : j < n := by have := hjl; simp at this; omega
        rw [hcell j (by omega), ← hu]
        have : zs.getD j 0 = z := by
          rw [List.getElem_take] at hje
          simp [List.getD, List.getElem?_eq_getElem (show j < zs.length by omega), hje]
        rw [this]
end
theorem own : ownKnob Tryz.prog.godebug = none := by kernel_rfl
theorem laidOut : laidOutB Tryz.prog = true := by kernel_rfl
theorem u64_bd {x : Int} (wx : (Lit.int .u64 x).wf = true) : 0 ≤ x ∧ x ≤ 18446744073709551615 := by simpa [Lit.wf, IntKind.min, IntKind.max, IntKind.signed, IntKind.bits] using wx
theorem u32_bd {x : Int} (wx : (Lit.int .u32 x).wf = true) : 0 ≤ x ∧ x ≤ 4294967295 := by simpa [Lit.wf, IntKind.min, IntKind.max, IntKind.signed, IntKind.bits] using wx
theorem u16_bd {x : Int} (wx : (Lit.int .u16 x).wf = true) : 0 ≤ x ∧ x ≤ 65535 := by simpa [Lit.wf, IntKind.min, IntKind.max, IntKind.signed, IntKind.bits] using wx
theorem u8_bd {x : Int} (wx : (Lit.int .u8 x).wf = true) : 0 ≤ x ∧ x ≤ 255 := by simpa [Lit.wf, IntKind.min, IntKind.max, IntKind.signed, IntKind.bits] using wx
theorem i64_bd {x : Int} (wx : (Lit.int .i64 x).wf = true) : -9223372036854775808 ≤ x ∧ x ≤ 9223372036854775807 := by simpa [Lit.wf, IntKind.min, IntKind.max, IntKind.signed, IntKind.bits] using wx
/-- Numbers of a uint8 as bytes. -/
theorem as_bytes {zs : List Int} (h : ∀ z ∈ zs, (Lit.int .u8 z).wf = true) : ∃ bs : List UInt8, bs.length = zs.length ∧ zs.map (Value.int .u8) = bs.map (fun (b : UInt8) => Value.int .u8 (b.toNat : Int)) ∧ zs = bs.map fun (b : UInt8) => (b.toNat : Int) := by
  refine ⟨zs.map fun z => UInt8.ofNat z.toNat, by simp, ?_, ?_⟩
  · rw [List.map_map]
    refine List.map_congr_left fun z hz => ?_
    have := u8_bd (h z hz)
    simp only [Function.comp, UInt8.toNat_ofNat']
    congr 1
    omega
  · rw [List.map_map]
    conv => lhs; rw [← List.map_id zs]
    refine List.map_congr_left fun z hz => ?_
    have := u8_bd (h z hz)
    simp only [Function.comp, UInt8.toNat_ofNat', id]
    omega
/-- Numbers that are not below nought as natural numbers. -/
theorem as_nats {k : IntKind} {zs : List Int} (h : ∀ z ∈ zs, 0 ≤ z) : ∃ ns : List Nat, ns.length = zs.length ∧ zs.map (Value.int k) = ns.map (fun (n : Nat) => Value.int k (n : Int)) ∧ zs = ns.map fun (n : Nat) => (n : Int) := by
  refine ⟨zs.map fun z => z.toNat, by simp, ?_, ?_⟩
  · rw [List.map_map]
    refine List.map_congr_left fun z hz => ?_
    have := h z hz
    simp only [Function.comp]
    congr 1
    omega
  · rw [List.map_map]
    conv => lhs; rw [← List.map_id zs]
    refine List.map_congr_left fun z hz => ?_
    have := h z hz
    simp only [Function.comp, id]
    omega
end Go.Proofs.YtmkifedcanmjoaaGreat
/- Frames by the kind of block, and bytes held as a slice: what calls that keep data in memory leave alone. Plain lemmas over any world. -/
set_option linter.unusedVariables false
namespace Go.Proofs.YtmkifedcanmjoaaGreat
open Go.RowKit

/-- Of the blocks that were there only those from B on whose element type T marks may have turned. -/
structure Fr (B : Nat) (T : TypeId → Bool) (w w' : World) : Prop where
  os : w'.os = w.os
  tape : w'.tape = w.tape
  output : w'.output = w.output
  size : w.heap.size ≤ w'.heap.size
  block : ∀ k, k < w.heap.size → (k < B ∨ ∃ cs t fr, w.heap[k]? = some (.cells cs t fr) ∧ T t = false) → w'.heap[k]? = w.heap[k]?
section
variable {B : Nat} {T : TypeId → Bool} {w w' w'' : World}
theorem Fr.refl (B : Nat) (T : TypeId → Bool) (w : World) : Fr B T w w := ⟨rfl, rfl, rfl, Nat.le_refl _, fun _ _ _ => rfl⟩
theorem Fr.trans (h : Fr B T w w') (k : Fr B T w' w'') : Fr B T w w'' :=
  ⟨k.os.trans h.os, k.tape.trans h.tape, k.output.trans h.output, Nat.le_trans h.size k.size, fun i hi hc => by
    have e := h.block i hi hc
    refine (k.block i (Nat.lt_of_lt_of_le hi h.size) ?_).trans e
    rw [e]
    exact hc⟩
theorem Fr.of_below (h : Below w.heap.size w w') : Fr B T w w' := ⟨h.os, h.tape, h.output, h.size, fun k hk _ => h.block k hk⟩
theorem Fr.call (h : Fr B T w w') (hb : Below w'.heap.size w' w'') : Fr B T w w'' := h.trans (Fr.of_below hb)
theorem Fr.callr (hb : Below w'.heap.size w' w'') (h : Fr B T w w') : Fr B T w w'' := h.trans (Fr.of_below hb)
theorem Fr.below (h : Fr B T w w') (hB : B ≤ w.heap.size) : Below B w w' := ⟨h.os, h.tape, h.output, h.size, fun k hk => h.block k (by omega) (.inl hk)⟩
theorem Fr.mono {T' : TypeId → Bool} (h : Fr B T w w') (hT : ∀ t, T t = true → T' t = true) : Fr B T' w w' :=
  ⟨h.os, h.tape, h.output, h.size, fun k hk hc => h.block k hk (by
    rcases hc with hc | ⟨cs, t, fr, e, ht⟩
    · exact .inl hc
    · refine .inr ⟨cs, t, fr, e, ?_⟩
      cases hT' : T t
      · rfl
      · rw [hT t hT'] at ht; cases ht)⟩
theorem Fr.lower {B' : Nat} (h : Fr B T w w') (hB : B' ≤ B) : Fr B' T w w' :=
  ⟨h.os, h.tape, h.output, h.size, fun k hk hc => h.block k hk (hc.imp (fun h => Nat.lt_of_lt_of_le h hB) id)⟩
theorem Fr.drew (h : Fr B T w w') : Fr B T w w'.drew := ⟨h.os, h.tape, h.output, h.size, h.block⟩
theorem Fr.drewN (h : Fr B T w w') (n : Nat) : Fr B T w (w'.drewN n) := ⟨h.os, h.tape, h.output, h.size, h.block⟩
theorem Fr.alloc (h : Fr B T w w') (o : Obj) : Fr B T w (w'.alloc o) := h.call (balloc (Below.refl _ _) o)
/-- A store into a block that T marks. -/
theorem Fr.set_ (h : Fr B T w w') {g : Nat} {t : TypeId} {cs : Array Value} (hb : Blk w' g t cs) (hT : T t = true) (hg : B ≤ g) (i : Nat) (u : Value) : Fr B T w (w'.setCell ⟨g, i, none⟩ u) := by
  refine h.trans ⟨rfl, rfl, rfl, by simp [World.setCell], fun k hk hc => Below.heap_setCell _ _ _ _ ?_⟩
  intro ek
  have ek' : k = g := ek
  subst ek'
  rcases hc with hc | ⟨cs', t', fr, e, ht⟩
  · exact absurd hc (Nat.not_lt.2 hg)
  · unfold Blk at hb
    have e' : w'.heap[k]? = some (.cells cs' t' fr) := e
    rw [hb] at e'
    injection e' with e'
    injection e' with _ e2
    rw [← e2, hT] at ht
    cases ht
/-- Writes to one row of the call's own, of an element type that T marks (append, copy). -/
theorem Fr.grown (h : Fr B T w w') {row : Option Nat} (hg : w'.grownBy w'' row) (hr : ∀ g, row = some g → B ≤ g ∧ ∀ cs t fr, w'.heap[g]? = some (.cells cs t fr) → T t = true) : Fr B T w w'' :=
  h.trans ⟨hg.os, hg.tape, hg.output, hg.size, fun k hk hc => hg.block k hk (fun e => by
    have := hr k e.symm
    rcases hc with hc | ⟨cs, t, fr, e, ht⟩
    · exact absurd hc (Nat.not_lt.2 this.1)
    · rw [this.2 _ _ _ e] at ht; cases ht)⟩
theorem Blk.fr {g : Nat} {t : TypeId} {cs : Array Value} (h : Blk w g t cs) (hf : Fr B T w w') (hT : g < B ∨ T t = false) : Blk w' g t cs :=
  (hf.block g h.lt (hT.imp id fun h' => ⟨_, _, _, h, h'⟩)).trans h
theorem own_fr {base e size n : Nat} {v : Value} {xs : List Value} (h : w.ownsRow base e size v n xs) (hf : Fr B T w w') (hT : T e = false) : w'.ownsRow base e size v n xs := by
  obtain ⟨h1, h2⟩ := h
  refine ⟨h1, ?_⟩
  rcases h2 with h2 | ⟨g, cap, cur, hv, hg, hh, r⟩
  · exact .inl h2
  · refine .inr ⟨g, cap, cur, hv, hg, ?_, r⟩
    have hlt : g < w.heap.size := Blk.lt (t := e) (cs := cur) hh
    exact (hf.block g hlt (.inr ⟨_, _, _, hh, hT⟩)).trans hh
/-- The row of an owned slice is of its element type. -/
theorem own_tag {base e size n : Nat} {v : Value} {xs : List Value} (h : w.ownsRow base e size v n xs) : ∀ g, v.ownBlock = some g → base ≤ g ∧ ∃ cs, w.heap[g]? = some (.cells cs e (0, 0)) := by
  intro g hg
  refine ⟨(h.lt g hg).1, ?_⟩
  rcases h.2 with ⟨rfl, _⟩ | ⟨g', cap, cur, rfl, _, hh, _⟩
  · simp [Value.ownBlock] at hg
  · simp [Value.ownBlock] at hg
    subst hg
    exact ⟨cur, hh⟩
theorem Fr.grown_own (h : Fr B T w w') {base e size n : Nat} {v : Value} {xs : List Value} (ho : w'.ownsRow base e size v n xs) (hg : w'.grownBy w'' v.ownBlock) (hB : B ≤ base) (hT : T e = true) : Fr B T w w'' :=
  h.grown hg fun g e => by
    obtain ⟨h1, cs0, h2⟩ := own_tag ho g e
    refine ⟨Nat.le_trans hB h1, fun cs t fr e' => ?_⟩
    rw [h2] at e'
    injection e' with e'
    injection e' with _ e2
    rw [← e2]; exact hT
end

/-- The value of a byte. -/
def u8v (b : UInt8) : Value := .int .u8 (b.toNat : Int)
/-- v is a slice of bytes that reads bs; its bytes lie below B, or in a block of bytes (element type t). -/
def BytesV (t : TypeId) (B : Nat) (w : World) (v : Value) (bs : List UInt8) : Prop :=
  ∃ A c, v = .slice A bs.length c ∧ bs.length ≤ c ∧ Reads w w.heap.size 1 A bs.length (bs.map u8v) ∧ (0 < bs.length → ∀ ad, A = some ad → ad.block < B ∨ ∃ cs fr, w.heap[ad.block]? = some (.cells cs t fr))
section
variable {t : TypeId} {B : Nat} {w w' : World} {v : Value} {bs : List UInt8}
theorem BytesV.nil (t : TypeId) (B : Nat) (w : World) : BytesV t B w (.slice none 0 0) [] := ⟨none, 0, rfl, Nat.le_refl _, Reads.none_, fun h => absurd h (by simp)⟩
theorem BytesV.fr {T : TypeId → Bool} (h : BytesV t B w v bs) (hf : Fr B T w w') (hT : T t = false) : BytesV t B w' v bs := by
  obtain ⟨A, c, rfl, hc, hr, hl⟩ := h
  refine ⟨A, c, rfl, hc, ⟨hr.1, fun hn => ?_⟩, fun hn ad e => ?_⟩
  · obtain ⟨ad, rfl, hb, hcell⟩ := hr.2 hn
    have hk := hf.block ad.block hb ((hl hn ad rfl).imp id fun ⟨cs, fr, e⟩ => ⟨cs, t, fr, e, hT⟩)
    exact ⟨ad, rfl, Nat.lt_of_lt_of_le hb hf.size, fun j u hu => (World.cell?_of_block (by rw [block_of_add]; exact hk)).trans (hcell j u hu)⟩
  · obtain ⟨ad', e', hb, _⟩ := hr.2 hn
    rw [e] at e'
    injection e' with e'
    subst e'
    rcases hl hn ad e with h1 | ⟨cs, fr, h1⟩
    · exact .inl h1
    · exact .inr ⟨cs, fr, (hf.block ad.block hb (.inr ⟨cs, t, fr, h1, hT⟩)).trans h1⟩
theorem BytesV.below (h : BytesV t B w v bs) (hb : Below w.heap.size w w') : BytesV t B w' v bs :=
  h.fr (T := fun _ => false) (Fr.of_below hb) rfl
theorem BytesV.of_own {base c n : Nat} {A : Option Addr} (h : w.ownsRow base t 1 (.slice A n c) n (bs.map u8v)) (hn : n = bs.length) (hc : bs.length ≤ c) : BytesV t B w (.slice A n c) bs := by
  subst hn
  refine ⟨A, c, rfl, hc, Reads.of_own h, fun hn ad e => ?_⟩
  subst e
  obtain ⟨g, cap, e, _, _⟩ := h.form hn
  injection e with e1
  injection e1 with e1
  subst e1
  obtain ⟨_, cs, h2⟩ := own_tag h g rfl
  exact .inr ⟨cs, _, h2⟩
theorem BytesV.of_arg {A : Option Addr} {n c : Nat} (h : Reads w B 1 A n (bs.map u8v)) (hn : n = bs.length) (hc : n ≤ c) (hB : B ≤ w.heap.size) : BytesV t B w (.slice A n c) bs := by
  subst hn
  refine ⟨A, c, rfl, hc, h.more hB, fun hn ad e => ?_⟩
  obtain ⟨ad', e', hb, _⟩ := h.2 hn
  rw [e] at e'
  injection e' with e'
  subst e'
  exact .inl hb
theorem own_bound {base e size n c : Nat} {A : Option Addr} {xs : List Value} (h : w.ownsRow base e size (.slice A n c) n xs) : n ≤ c := by
  rcases h.2 with ⟨e, h0⟩ | ⟨g, cap, cur, e, _, _, h1, _⟩
  · injection e with _ e1 e2; omega
  · injection e with _ e1 e2; omega
end
theorem addr_plain {w : World} {ad : Addr} {v : Value} (h : w.cell? (ad.add 0) = some v) : ∃ b off, ad = ⟨b, off, none⟩ := by
  obtain ⟨b, off, spot⟩ := ad
  have h2 : spot = none := World.cell?_spot (a := ⟨b, off, spot⟩) h
  exact ⟨b, off, by rw [h2]⟩
theorem own_slice {w : World} {base e size n : Nat} {v : Value} {xs : List Value} (h : w.ownsRow base e size v n xs) : ∃ A c, v = .slice A n c := by
  rcases h.2 with ⟨rfl, rfl⟩ | ⟨g, cap, cur, rfl, _⟩
  · exact ⟨none, 0, rfl⟩
  · exact ⟨_, _, rfl⟩
theorem BytesV.owned {t : TypeId} {B base : Nat} {w : World} {v : Value} {bs : List UInt8} (h : w.ownsRow base t 1 v bs.length (bs.map u8v)) : BytesV t B w v bs := by
  obtain ⟨A, c, rfl⟩ := own_slice h
  exact BytesV.of_own h rfl (own_bound h)
theorem own_blk_ne {w : World} {g : Nat} {t : TypeId} {cs : Array Value} {base : Nat} {e : TypeId} {size n : Nat} {v : Value} {xs : List Value} (h : w.ownsRow base e size v n xs) (hg : Blk w g t cs) (hne : e ≠ t) : v.ownBlock ≠ some g := by
  rcases h.2 with ⟨rfl, _⟩ | ⟨g', cap, cur, rfl, _, hh, _⟩
  · simp [Value.ownBlock]
  · intro he
    have : g' = g := by simpa [Value.ownBlock] using he
    subst this
    unfold Blk at hg
    rw [hg] at hh
    injection hh with hh
    injection hh with _ ht
    exact hne ht.symm
theorem own_below {w w' : World} {base e size n : Nat} {v : Value} {xs : List Value} (h : w.ownsRow base e size v n xs) (hb : Below w.heap.size w w') : w'.ownsRow base e size v n xs :=
  h.kept (row := none) ⟨hb.os, hb.tape, hb.output, hb.size, fun i hi _ => hb.block i hi⟩ (by cases h : v.ownBlock <;> simp)
theorem cell_set_far {w : World} {g b i o : Nat} {u v : Value} (hne : b ≠ g) (h : w.cell? ⟨b, o, none⟩ = some v) : (w.setCell ⟨g, i, none⟩ u).cell? ⟨b, o, none⟩ = some v := by
  rw [World.cell?_setCell_other w _ _ u (by intro e; injection e with e1; omega)]; exact h
theorem own_set {w : World} {base e size n : Nat} {v : Value} {xs : List Value} (h : w.ownsRow base e size v n xs) {g : Nat} (hne : v.ownBlock ≠ some g) (i : Nat) (u : Value) : (w.setCell ⟨g, i, none⟩ u).ownsRow base e size v n xs :=
  h.kept (row := some g) ⟨rfl, rfl, rfl, by simp [World.setCell], fun k hk hk2 => Below.heap_setCell _ _ _ _ (fun e => hk2 (by rw [e]))⟩ (.inr hne)
theorem Blk.set3 {w : World} {g : Nat} {t : TypeId} {x y z x' y' z' : Value} (h : Blk w g t #[x, y, z]) : Blk (((w.setCell ⟨g, 0, none⟩ x').setCell ⟨g, 1, none⟩ y').setCell ⟨g, 2, none⟩ z') g t #[x', y', z'] :=
  ((h.set_ 0 x').set_ 1 y').set_ 2 z'
end Go.Proofs.YtmkifedcanmjoaaGreat
/- Append onto a row of the call's own, whatever the source (the kit's words, laid here as it bids). Conditions: as each says. -/
set_option linter.unusedVariables false
namespace Go.Proofs.YtmkifedcanmjoaaGreat
open Go.RowKit
section
variable {P : Program} (w : World)

theorem run_append_of_nil (base : Nat) (t ty e : TypeId) (i : TypeInfo) (size : Nat) (ht : P.underlying t = some (.slice e)) (hi : P.info? e = some i)
    (v : Value) (n : Nat) (xs : List Value) (hown : w.ownsRow base e size v n xs) (c : Nat) : (Builtin.append_ #[t, t] ty #[v, .slice none 0 c]).run P w = .ok v w := by
  rcases hown.2 with ⟨rfl, rfl⟩ | ⟨g, cap, cur, rfl, _, _, hnc, _⟩
  · simp [Builtin.append_, run_underlying ht, sizeOf, typeInfo, hi, Builtin.lenOf, Builtin.firstCells]
  · simp [Builtin.append_, run_underlying ht, sizeOf, typeInfo, hi, Builtin.lenOf, Builtin.firstCells, hnc, storeCells]

theorem run_append_any (base : Nat) (t ty e : TypeId) (i : TypeInfo) (z : Value) (size bytes : Nat) (ht : P.underlying t = some (.slice e)) (hi : P.info? e = some i) (hz : i.zero = some z)
    (hsize : i.size = size) (hby : i.bytes = bytes) (hzs : z.cells.size = size) (hsz : 0 < size)
    (v : Value) (n : Nat) (xs : List Value) (hown : w.ownsRow base e size v n xs)
    (B : Nat) (A : Option Addr) (m c : Nat) (news : List Value) (hr : Reads w B size A m news) (h1 : ∀ u ∈ news, u.oneCell' = true)
    (h63 : n + m ≤ maxLen) (hbytes : (n + m) * bytes ≤ 140737488355328) (hbase : base ≤ w.heap.size) :
    ∃ v' w', (Builtin.append_ #[t, t] ty #[v, .slice A m c]).run P w = .ok v' w' ∧ w'.ownsRow base e size v' (n + m) (xs ++ news) ∧ w.grownBy w' v.ownBlock ∧
      (v'.ownBlock = v.ownBlock ∨ v'.ownBlock = some w.heap.size) := by
  rcases A with _ | ad
  · have hm : m = 0 := by
      rcases Nat.eq_zero_or_pos m with h0 | h0
      · exact h0
      · obtain ⟨ad, h, _⟩ := hr.2 h0
        cases h
    subst hm
    have hn : news = [] := List.eq_nil_of_length_eq_zero (by simpa using hr.1)
    subst hn
    exact ⟨v, w, run_append_of_nil w base t ty e i size ht hi v n xs hown c, by simpa using hown, World.grownBy.refl w _, .inl rfl⟩
  · have hcells : ∀ j u, news[j]? = some u → w.cell? (ad.add j) = some u := by
      intro j u hu
      rcases Nat.eq_zero_or_pos m with h0 | h0
      · subst h0
        have hn : news = [] := List.eq_nil_of_length_eq_zero (by simpa using hr.1)
        subst hn
        simp at hu
      · obtain ⟨ad', h, _, hc⟩ := hr.2 h0
        injection h with h
        subst h
        exact hc j u hu
    obtain ⟨v', w', hrun, h2, h3, _, h5⟩ := run_append_own_at (P := P) w base t ty e i z size bytes ht hi hz hsize hby hzs hsz v n xs hown ad m c news hr.1 hcells h1 h63 hbytes hbase
    exact ⟨v', w', hrun, h2, h3, h5⟩

theorem wp_append_any {o : Oper} {a : Act} {K : Act → World → Prop} {Q : Exit → Act → World → Prop} (s x : Operand) (t : TypeId)
    (ho : o.op = .call { callee := .builtin .append, args := #[s, x], argTypes := #[t, t] })
    (base : Nat) (e : TypeId) (i : TypeInfo) (z : Value) (size bytes : Nat) (ht : P.underlying t = some (.slice e)) (hi : P.info? e = some i) (hz : i.zero = some z)
    (hsize : i.size = size) (hby : i.bytes = bytes) (hzs : z.cells.size = size) (hsz : 0 < size)
    (v : Value) (n : Nat) (xs : List Value) (hs : a.eval s = v) (hown : w.ownsRow base e size v n xs)
    (B : Nat) (A : Option Addr) (m c : Nat) (news : List Value) (hx : a.eval x = .slice A m c) (hr : Reads w B size A m news) (h1 : ∀ u ∈ news, u.oneCell' = true)
    (h63 : n + m ≤ maxLen) (hbytes : (n + m) * bytes ≤ 140737488355328) (hbase : base ≤ w.heap.size)
    (h : ∀ v' w', w'.ownsRow base e size v' (n + m) (xs ++ news) → w.grownBy w' v.ownBlock → (v'.ownBlock = v.ownBlock ∨ v'.ownBlock = some w.heap.size) → K (a.put o.dst v') w') : o.wp P a w K Q := by
  obtain ⟨v', w', hrun, h2, h3, h4⟩ := run_append_any (P := P) w base t o.type e i z size bytes ht hi hz hsize hby hzs hsz v n xs hown B A m c news hr h1 h63 hbytes hbase
  unfold Oper.wp execOp
  simp only [ho, resolve, invoke, builtin, Sem.run_bind, Sem.run_pure, Result.andThen_ok, List.map_toArray, List.map_cons, List.map_nil, hs, hx, hrun]
  exact h v' w' h2 h3 h4

theorem wpList_append_any {ops : Array Oper} {rest : List Oper} {o : Oper} {a : Act} {Q : Exit → Act → World → Prop} (hgd : o.guard = none) (s x : Operand) (t : TypeId)
    (ho : o.op = .call { callee := .builtin .append, args := #[s, x], argTypes := #[t, t] })
    (base : Nat) (e : TypeId) (i : TypeInfo) (z : Value) (size bytes : Nat) (ht : P.underlying t = some (.slice e)) (hi : P.info? e = some i) (hz : i.zero = some z)
    (hsize : i.size = size) (hby : i.bytes = bytes) (hzs : z.cells.size = size) (hsz : 0 < size)
    (v : Value) (n : Nat) (xs : List Value) (hs : a.eval s = v) (hown : w.ownsRow base e size v n xs)
    (B : Nat) (A : Option Addr) (m c : Nat) (news : List Value) (hx : a.eval x = .slice A m c) (hr : Reads w B size A m news) (h1 : ∀ u ∈ news, u.oneCell' = true)
    (h63 : n + m ≤ maxLen) (hbytes : (n + m) * bytes ≤ 140737488355328) (hbase : base ≤ w.heap.size)
    (h : ∀ v' w', w'.ownsRow base e size v' (n + m) (xs ++ news) → w.grownBy w' v.ownBlock → (v'.ownBlock = v.ownBlock ∨ v'.ownBlock = some w.heap.size) → wpList P ops Q rest (a.put o.dst v') w') : wpList P ops Q (o :: rest) a w :=
  wpList_plain hgd fun _ hK => wp_append_any w s x t ho base e i z size bytes ht hi hz hsize hby hzs hsz v n xs hs hown B A m c news hx hr h1 h63 hbytes hbase fun v' w' h2 h3 h4 => hK _ _ (h v' w' h2 h3 h4)

theorem step_append_any {ops : Array Oper} {o : Oper} {a : Act} {K : Act → World → Prop} {Q : Exit → Act → World → Prop} {E : Prop} (hgd : o.guard = none) (s x : Operand) (t : TypeId)
    (ho : o.op = .call { callee := .builtin .append, args := #[s, x], argTypes := #[t, t] })
    (base : Nat) (e : TypeId) (i : TypeInfo) (z : Value) (size bytes : Nat) (ht : P.underlying t = some (.slice e)) (hi : P.info? e = some i) (hz : i.zero = some z)
    (hsize : i.size = size) (hby : i.bytes = bytes) (hzs : z.cells.size = size) (hsz : 0 < size)
    (v : Value) (n : Nat) (xs : List Value) (hs : a.eval s = v) (hown : w.ownsRow base e size v n xs)
    (B : Nat) (A : Option Addr) (m c : Nat) (news : List Value) (hx : a.eval x = .slice A m c) (hr : Reads w B size A m news) (h1 : ∀ u ∈ news, u.oneCell' = true)
    (h63 : n + m ≤ maxLen) (hbytes : (n + m) * bytes ≤ 140737488355328) (hbase : base ≤ w.heap.size)
    (h : ∀ v' w', w'.ownsRow base e size v' (n + m) (xs ++ news) → w.grownBy w' v.ownBlock → (v'.ownBlock = v.ownBlock ∨ v'.ownBlock = some w.heap.size) → K (a.put o.dst v') w') :
    if Region.wanted o (yielded ops a.tmps) = true then Oper.wp P o a w K Q else E := by
  have hw : Region.wanted o (yielded ops a.tmps) = true := by simp [Region.wanted, hgd]
  rw [if_pos hw]
  exact wp_append_any w s x t ho base e i z size bytes ht hi hz hsize hby hzs hsz v n xs hs hown B A m c news hx hr h1 h63 hbytes hbase h
end

theorem own_empty (w : World) (e size : Nat) : (w.alloc (.cells #[] e)).ownsRow w.heap.size e size (.slice (some ⟨w.heap.size, 0, none⟩) 0 0) 0 [] :=
  ⟨by simp, .inr ⟨_, 0, #[], rfl, Nat.le_refl _, by show (w.heap.push _)[w.heap.size]? = _; simp, by omega, by simp [maxLen], by simp, by simp⟩⟩
theorem BytesV.reads {t : TypeId} {B : Nat} {w : World} {A : Option Addr} {n c : Nat} {bs : List UInt8} (h : BytesV t B w (.slice A n c) bs) : n = bs.length ∧ Reads w w.heap.size 1 A bs.length (bs.map u8v) := by
  obtain ⟨A', c', e, _, hr, _⟩ := h
  injection e with e1 e2 e3
  subst e1 e2
  exact ⟨rfl, hr⟩
theorem u8_one (bs : List UInt8) : ∀ u ∈ bs.map u8v, u.oneCell' = true := by
  intro u hu
  obtain ⟨b, _, rfl⟩ := List.mem_map.1 hu
  rfl
end Go.Proofs.YtmkifedcanmjoaaGreat
/- Rows of bytes of the call's own: plain facts. Conditions: none. -/
set_option linter.unusedVariables false
namespace Go.Proofs.YtmkifedcanmjoaaGreat
open Go.RowKit
attribute [local go_sem ↓] Go.wp_at_zero Go.wp_at_succ

theorem infoByte : (Tryz.prog.info? 5).map (fun i => (i.zero, i.size, i.bytes)) = some (some (.int .u8 0), 1, 1) := by kernel_rfl
theorem own_one (w : World) (e : TypeId) (u : Value) : (w.alloc (.cells #[u] e)).ownsRow w.heap.size e 1 (.slice (some ⟨w.heap.size, 0, none⟩) 1 1) 1 [u] :=
  ⟨by simp, .inr ⟨_, 1, #[u], rfl, Nat.le_refl _, by show (w.heap.push _)[w.heap.size]? = _; simp, by omega, by simp [maxLen], by simp, by simp⟩⟩
theorem own_lower {w : World} {B B' e size n : Nat} {v : Value} {xs : List Value} (h : w.ownsRow B' e size v n xs) (hB : B ≤ B') : w.ownsRow B e size v n xs :=
  ⟨h.1, h.2.imp id (fun ⟨g, cap, cur, a, b, c⟩ => ⟨g, cap, cur, a, Nat.le_trans hB b, c⟩)⟩
/-- What a row of the call's own grows by leaves all that was as it was. -/
theorem own_grow_below {b0 : Nat} {w wx w' : World} {e size n : Nat} {v : Value} {xs : List Value} (hb : Below b0 w wx) (ho : wx.ownsRow b0 e size v n xs) (hg : wx.grownBy w' v.ownBlock) (hle : b0 ≤ w.heap.size := by exact Nat.le_refl _) : Below b0 w w' :=
  ⟨hg.os.trans hb.os, hg.tape.trans hb.tape, hg.output.trans hb.output, Nat.le_trans hb.size hg.size, fun k hk => (hg.block k (by have := hb.size; omega) (fun e => by have := (ho.lt k e.symm).1; omega)).trans (hb.block k hk)⟩
theorem fresh_below {w w' : World} {o : Obj} (hg : (w.alloc o).grownBy w' (some w.heap.size)) : Below w.heap.size w w' :=
  ⟨hg.os, hg.tape, hg.output, Nat.le_trans (by simp) hg.size, fun k hk => (hg.block k (by simp; omega) (by simp; omega)).trans (Below.heap_alloc w o k hk)⟩
theorem Reads.to_ {w w' : World} {size n : Nat} {A : Option Addr} {xs : List Value} (h : Reads w w.heap.size size A n xs) (hb : Below w.heap.size w w') : Reads w' w'.heap.size size A n xs := (h.below hb).more hb.size
theorem u8_wrap (x : Nat) : IntKind.u8.wrap (x : Int) = ((UInt8.ofNat x).toNat : Int) := by
  rw [IntKind.wrap_u8]; simp
theorem byte_at (x s : Nat) : Value.int .u8 ((x : Int) / 2 ^ s % 256) = u8v (UInt8.ofNat (x / 2 ^ s)) := by
  unfold u8v
  rfl
/-- A slice of bytes and its row in memory. -/
def ByteRow (w : World) (B : Nat) (v : Value) (bs : List UInt8) : Prop := w.ownsRow B 5 1 v bs.length (bs.map u8v)
theorem own_cap {w : World} {B c n : Nat} {A : Option Addr} {bs : List UInt8} (h : ByteRow w B (.slice A n c) bs) : bs.length ≤ c := by
  rcases h.2 with ⟨e, h0⟩ | ⟨g, cap, cur, e, _, _, h1, _⟩
  · omega
  · injection e with _ _ e
    omega
theorem own_set_below {w : World} {B e size n : Nat} {v : Value} {xs : List Value} {p : Addr} (h : w.ownsRow B e size v n xs) (hp : p.block < B) (u : Value) : (w.setCell p u).ownsRow B e size v n xs := by
  rcases h with ⟨h1, h⟩
  refine ⟨h1, ?_⟩
  rcases h with h | ⟨g, cap, cur, e1, e2, e3, e4⟩
  · exact .inl h
  · refine .inr ⟨g, cap, cur, e1, e2, ?_, e4⟩
    exact (Below.heap_setCell w p u g (by omega)).trans e3
theorem own_lit (w : World) (e : TypeId) (C : Array Value) (n : Nat) (hn : n = C.size) (hm : n ≤ 1000) : (w.alloc (.cells C e)).ownsRow w.heap.size e 1 (.slice (some ⟨w.heap.size, 0, none⟩) n n) n C.toList :=
  ⟨by simp [hn], .inr ⟨_, n, C, rfl, Nat.le_refl _, by show (w.heap.push _)[w.heap.size]? = _; simp, Nat.le_refl _, by simp only [maxLen]; omega, by omega, by rw [Nat.mul_one, hn, ← Array.length_toList, List.take_length]⟩⟩
theorem lit_reads (w : World) (e : TypeId) (C : Array Value) (xs : List UInt8) (n : Nat) (hC : C.toList = xs.map u8v) (hn : xs.length = n) (hm : n ≤ 1000) :
    Reads (w.alloc (.cells C e)) (w.alloc (.cells C e)).heap.size 1 (some ⟨w.heap.size, 0, none⟩) n (xs.map u8v) := by
  have hs : n = C.size := by rw [← hn, ← Array.length_toList, hC, List.length_map]
  rw [← hC]
  exact Reads.of_own (own_lit w e C n hs hm)
theorem reads_take {w : World} {B n r : Nat} {A : Option Addr} {bs : List UInt8} (h : Reads w B 1 A n (bs.map u8v)) (hn : bs.length = n) (hr : r ≤ n) : Reads w B 1 A (bs.take r).length ((bs.take r).map u8v) := by
  refine ⟨by simp, fun h0 => ?_⟩
  rw [List.length_take] at h0
  obtain ⟨ad, e, hb, hc⟩ := h.2 (by omega)
  refine ⟨ad, e, hb, fun j u hj => hc j u ?_⟩
  rw [List.map_take, List.getElem?_take] at hj
  split at hj
  · exact hj
  · cases hj
theorem head_cells {w : World} {B : Nat} {A : Option Addr} {bs : List UInt8} (hr : Reads w B 1 A bs.length (bs.map u8v)) (hi : 0 < bs.length) :
    ∃ b off, A = some ⟨b, off, none⟩ ∧ b < B ∧ ∀ i, i < bs.length → w.cell? ⟨b, off + i, none⟩ = some (.int .u8 ((bs.getD i 0).toNat : Int)) := by
  obtain ⟨ad, rfl, hadl, hcell⟩ := hr.2 (by omega)
  have c00 := hcell 0 (u8v (bs[0]'(by omega))) (by rw [List.getElem?_map, List.getElem?_eq_getElem (by omega)]; rfl)
  obtain ⟨b, off, rfl⟩ := addr_plain c00
  refine ⟨b, off, rfl, hadl, fun i hi => ?_⟩
  have := hcell i (u8v (bs.getD i 0)) (by rw [List.getElem?_map, List.getElem?_eq_getElem (by omega), List.getD_eq_getElem?_getD, List.getElem?_eq_getElem (by omega)]; rfl)
  rwa [Go.WideShapes.add_plain] at this
end Go.Proofs.YtmkifedcanmjoaaGreat
/- What the reference's Same returns for bytes (contract). Conditions: the bytes read. -/
set_option linter.unusedVariables false
namespace Go.Proofs.YtmkifedcanmjoaaGreat
open Go.RowKit
attribute [local go_sem ↓] Go.wp_at_zero Go.wp_at_succ

/-- string(b). -/
theorem str_of {B : Nat} {w : World} {A : Option Addr} {c : Nat} {bs : List UInt8} (hr : Reads w B 1 A bs.length (bs.map u8v)) : (convert 28 9 (.slice A bs.length c)).run Tryz.prog w = .ok (.string ⟨bs.toArray⟩) w := by
  rcases Nat.eq_zero_or_pos bs.length with h0 | h0
  · have := List.eq_nil_of_length_eq_zero h0
    subst this
    rw [run_convert_bytes_string w 28 9 5 A _ c Tryz.underlying28 Tryz.underlying5 Tryz.underlying9]
    cases A with
    | none => rfl
    | some ad =>
      rw [show ([] : List UInt8).length = 0 from rfl, run_bytesToString (P := Tryz.prog) w ad 0 c [] (Go.run_loadCells_list (P := Tryz.prog) w ad [] (by simp))]
      rfl
  · obtain ⟨ad, rfl, _, hcell⟩ := hr.2 h0
    refine run_convert_bytes_back w 28 9 5 ad c bs Tryz.underlying28 Tryz.underlying5 Tryz.underlying9 (fun j hj => ?_)
    exact hcell j _ (by simp [u8v, hj])
theorem same_c {A1 A2 : Option Addr} {c1 c2 : Nat} {w : World} {b1 b2 : List UInt8} (h1 : Reads w w.heap.size 1 A1 b1.length (b1.map u8v)) (h2 : Reads w w.heap.size 1 A2 b2.length (b2.map u8v)) :
    Calls Tryz.prog 13 #[.slice A1 b1.length c1, .slice A2 b2.length c2] w fun e w' => e = .returned (.bool (b1 == b2)) ∧ w = w' := by
  have s1 := str_of (c := c1) h1
  have s2 := str_of (c := c2) h2
  go_enter Tryz.func13, Tryz.ntmps13
  go_wp2
  go_ret
  exact ⟨by simp, rfl⟩
theorem row_reads {w : World} {B base : Nat} {A : Option Addr} {c : Nat} {bs : List UInt8} (h : ByteRow w B (.slice A bs.length c) bs) : Reads w w.heap.size 1 A bs.length (bs.map u8v) := Reads.of_own h
end Go.Proofs.YtmkifedcanmjoaaGreat
/- Bytes as numbers, and rows of bytes in a block: plain facts. Conditions: none. -/
set_option linter.unusedVariables false
namespace Go.Proofs.YtmkifedcanmjoaaGreat
open Go.RowKit
theorem U8.xor (a b : UInt8) : bits .xor .u8 (a.toNat : Int) (b.toNat : Int) = ((a ^^^ b).toNat : Int) := by
  rw [u8_xor_nat _ _ (UInt8.toNat_lt _) (UInt8.toNat_lt _), UInt8.toNat_xor]
theorem U8.and (a b : UInt8) : bits .and .u8 (a.toNat : Int) (b.toNat : Int) = ((a &&& b).toNat : Int) := by
  rw [u8_and_nat _ _ (UInt8.toNat_lt _) (UInt8.toNat_lt _), UInt8.toNat_and]
theorem U8.or (a b : UInt8) : bits .or .u8 (a.toNat : Int) (b.toNat : Int) = ((a ||| b).toNat : Int) := by
  rw [u8_or_nat _ _ (UInt8.toNat_lt _) (UInt8.toNat_lt _), UInt8.toNat_or]
theorem U8.shl1 (a : UInt8) : (a.toNat : Int) * (2 : Int) % (256 : Int) = ((a <<< 1).toNat : Int) := by
  rw [UInt8.toNat_shiftLeft]
  simp [Nat.shiftLeft_eq]
theorem U8.shr1 (a : UInt8) : (a.toNat : Int) / (2 : Int) = ((a >>> 1).toNat : Int) := by
  rw [UInt8.toNat_shiftRight]
  simp [Nat.shiftRight_eq_div_pow]
theorem U8.lt (a : UInt8) : (a.toNat : Int) < 256 := by have := UInt8.toNat_lt a; omega
theorem U8.eq (a b : UInt8) : ((a.toNat : Int) == (b.toNat : Int)) = (a == b) := by
  rw [Bool.eq_iff_iff]
  rw [beq_iff_eq, beq_iff_eq]
  exact ⟨fun h => UInt8.toNat_inj.1 (by omega), fun h => by rw [h]⟩
/-- A block that holds just these bytes. -/
def BB (w : World) (g : Nat) (t : TypeId) (l : List UInt8) : Prop := Blk w g t (l.map u8v).toArray
section
variable {w w' : World} {g : Nat} {t : TypeId} {l : List UInt8}
theorem BB.cell (h : BB w g t l) (i : Nat) (hi : i < l.length) : w.cell? ⟨g, i, none⟩ = some (.int .u8 ((l.getD i 0).toNat : Int)) := by
  rw [Blk.cell h i]
  simp [u8v, hi]
theorem BB.free (h : BB w g t l) (i : Nat) : w.frozen? ⟨g, i, none⟩ = false := Blk.frozen h i
theorem BB.new (w : World) (t : TypeId) (l : List UInt8) : BB (w.alloc (.cells (l.map u8v).toArray t)) w.heap.size t l := Blk.new w t _
theorem BB.set (h : BB w g t l) (i : Nat) (x : UInt8) : BB (w.setCell ⟨g, i, none⟩ (.int .u8 (x.toNat : Int))) g t (l.set i x) := by
  have := Blk.set_ h i (u8v x)
  unfold BB
  rw [List.map_set]
  rw [List.setIfInBounds_toArray] at this
  exact this
theorem BB.lt (h : BB w g t l) : g < w.heap.size := Blk.lt h
theorem BB.below (h : BB w g t l) (hb : Below w.heap.size w w') : BB w' g t l := Blk.below h hb
theorem BB.belowB {B : Nat} (h : BB w g t l) (hb : Below B w w') (hg : g < B) : BB w' g t l := Blk.belowB h hb hg
theorem BB.alloc (h : BB w g t l) (o : Obj) : BB (w.alloc o) g t l := Blk.alloc h o
theorem BB.drew (h : BB w g t l) : BB w.drew g t l := h
theorem BB.drewN (h : BB w g t l) (n : Nat) : BB (w.drewN n) g t l := h
theorem BB.far (h : BB w g t l) {p : Addr} (hp : g ≠ p.block) (u : Value) : BB (w.setCell p u) g t l := Blk.far h hp u
theorem BB.range (h : BB w g t l) : w.rangeAt g 0 (l.map u8v) := fun j v hv => by
  rw [Nat.zero_add, Blk.cell h j]
  simpa using hv
end
/-- The first k of n places made anew. -/
def upTo (n k : Nat) (f old : Nat → UInt8) : List UInt8 := (List.range n).map fun i => if i < k then f i else old i
theorem upTo_len (n k : Nat) (f old : Nat → UInt8) : (upTo n k f old).length = n := by simp [upTo]
theorem upTo_zero (n : Nat) (f old : Nat → UInt8) : upTo n 0 f old = (List.range n).map old := by simp [upTo]
theorem upTo_full (n : Nat) (f old : Nat → UInt8) : upTo n n f old = (List.range n).map f := by
  unfold upTo
  refine List.map_congr_left fun i hi => ?_
  rw [if_pos (List.mem_range.1 hi)]
theorem upTo_set {n k : Nat} (f old : Nat → UInt8) (hk : k < n) : (upTo n k f old).set k (f k) = upTo n (k + 1) f old := by
  unfold upTo
  refine List.ext_getElem? fun i => ?_
  rw [List.getElem?_set]
  by_cases h : k = i
  · subst h
    simp [hk]
  · by_cases hi : i < n
    · have e : (i < k + 1) = (i < k) := by apply propext; omega
      simp [h, hi, e]
    · simp [h, hi]
theorem upTo_getD {n k i : Nat} (f old : Nat → UInt8) (hi : i < n) : (upTo n k f old).getD i 0 = if i < k then f i else old i := by
  simp [upTo, List.getD_eq_getElem?_getD, hi]
theorem list_range (l : List UInt8) : (List.range l.length).map (fun i => l.getD i 0) = l := by
  refine List.ext_getElem? fun i => ?_
  by_cases hi : i < l.length
  · simp [hi]
  · simp [hi]
theorem size_byte (w : World) : (sizeOf 5).run Tryz.prog w = .ok 1 w := by kernel_rfl
theorem agg_byte (w : World) : (isAgg 5).run Tryz.prog w = .ok false w := by kernel_rfl
/-- An array of bytes, by value, at a place inside. -/
theorem run_index_row (w : World) (t : TypeId) (n : Nat) (L : List UInt8) (k : Nat) (h : Tryz.prog.underlying t = some (.array n 5)) (hk : k < n) (hn : L.length = n) (x : UInt8) (hx : L.getD k 0 = x) :
    (Instr.index t (.agg (L.map u8v).toArray) (.int .i64 (k : Int))).run Tryz.prog w = .ok (.int .u8 (x.toNat : Int)) w := by
  have h0 : (0 ≤ (k : Int) ∧ (k : Int) < (n : Int)) := by omega
  have hl : L[k]? = some x := by rw [← hx, List.getD_eq_getElem?_getD, List.getElem?_eq_getElem (by omega)]; rfl
  simp [Instr.index, run_underlying h, asIntOf, hk, go_sem, hl, u8v]
/-- A result that lives in a variable. -/
theorem results_one {P : Program} {fn : Func} {t : Tmp} {ty : TypeId} (h : fn.results = #[.cell t ty]) (tmps : Array Value) (w : World) (b : Nat) (v : Value) (ht : tmps.getD t undef = .pointer (some ⟨b, 0, none⟩))
    (hl : (loadVar ty ⟨b, 0, none⟩).run P w = .ok v w) : (results fn tmps).run P w = .ok v w := by
  have ha : (asAddr (tmps.getD t undef)).run P w = .ok ⟨b, 0, none⟩ w := by rw [ht]; rfl
  simp [results, h]
  rw [Array.getD_eq_getD_getElem?] at ha
  rw [ha]
  exact hl
end Go.Proofs.YtmkifedcanmjoaaGreat
/- Words of 32 bits as numbers, and rows of them in a block: plain facts. Conditions: none. -/
set_option linter.unusedVariables false
namespace Go.Proofs.YtmkifedcanmjoaaGreat
open Go.RowKit
def u32v (x : UInt32) : Value := .int .u32 (x.toNat : Int)
theorem W.lt (a : UInt32) : (a.toNat : Int) < 4294967296 := by have := UInt32.toNat_lt a; omega
theorem W.xor (a b : UInt32) : bits .xor .u32 (a.toNat : Int) (b.toNat : Int) = ((a ^^^ b).toNat : Int) := by
  rw [u32_xor_nat _ _ (UInt32.toNat_lt _) (UInt32.toNat_lt _), UInt32.toNat_xor]
theorem W.and (a b : UInt32) : bits .and .u32 (a.toNat : Int) (b.toNat : Int) = ((a &&& b).toNat : Int) := by
  rw [u32_and_nat _ _ (UInt32.toNat_lt _) (UInt32.toNat_lt _), UInt32.toNat_and]
theorem W.or (a b : UInt32) : bits .or .u32 (a.toNat : Int) (b.toNat : Int) = ((a ||| b).toNat : Int) := by
  rw [u32_or_nat _ _ (UInt32.toNat_lt _) (UInt32.toNat_lt _), UInt32.toNat_or]
theorem W.wrap (z : Int) : IntKind.u32.wrap z = z % 4294967296 := by simp [IntKind.wrap, IntKind.bits, IntKind.signed]
theorem W.add (a b : UInt32) : ((a.toNat : Int) + (b.toNat : Int)) % 4294967296 = ((a + b).toNat : Int) := by
  rw [UInt32.toNat_add]; omega
theorem W.addw (a b : UInt32) : IntKind.u32.wrap ((a.toNat : Int) + (b.toNat : Int)) = ((a + b).toNat : Int) := by
  rw [W.wrap, W.add]
theorem W.shr (a : UInt32) (n : Nat) (hn : n < 32) : (a.toNat : Int) / (2 : Int) ^ n = ((a >>> UInt32.ofNat n).toNat : Int) := by
  rw [UInt32.toNat_shiftRight, UInt32.toNat_ofNat', Nat.mod_eq_of_lt (by omega : n < 2 ^ 32), Nat.mod_eq_of_lt hn, Nat.shiftRight_eq_div_pow, Int.natCast_ediv, Int.natCast_pow]
  rfl
theorem W.shl (a : UInt32) (n : Nat) (hn : n < 32) : (a.toNat : Int) * (2 : Int) ^ n % 4294967296 = ((a <<< UInt32.ofNat n).toNat : Int) := by
  rw [UInt32.toNat_shiftLeft, UInt32.toNat_ofNat', Nat.mod_eq_of_lt (by omega : n < 2 ^ 32), Nat.mod_eq_of_lt hn, Nat.shiftLeft_eq]
  have e : (a.toNat : Int) * (2 : Int) ^ n = ((a.toNat * 2 ^ n : Nat) : Int) := by rw [Int.natCast_mul, Int.natCast_pow]; rfl
  rw [e]
  generalize a.toNat * 2 ^ n = z
  omega
theorem W.not (a : UInt32) : (4294967295 : Int) - (a.toNat : Int) = ((~~~a).toNat : Int) := by
  rw [UInt32.toNat_not]
  have := UInt32.toNat_lt a
  show (4294967295 : Int) - _ = ((4294967296 - 1 - a.toNat : Nat) : Int)
  omega
theorem W.byte (x : UInt32) (n : Nat) (hn : n < 32) : (x.toNat : Int) / (2 : Int) ^ n % 256 = (((x >>> UInt32.ofNat n).toUInt8).toNat : Int) := by
  rw [W.shr x n hn]
  rfl
theorem W.of_byte (b : UInt8) : ((b.toUInt32).toNat : Int) = (b.toNat : Int) := by rw [UInt8.toNat_toUInt32]
/-- A block that holds just these words. -/
def WB (w : World) (g : Nat) (t : TypeId) (l : List UInt32) : Prop := Blk w g t (l.map u32v).toArray
section
variable {w w' : World} {g : Nat} {t : TypeId} {l : List UInt32}
theorem WB.cell (h : WB w g t l) (i : Nat) (hi : i < l.length) : w.cell? ⟨g, i, none⟩ = some (.int .u32 ((l.getD i 0).toNat : Int)) := by
  rw [Blk.cell h i]
  simp [u32v, hi]
theorem WB.free (h : WB w g t l) (i : Nat) : w.frozen? ⟨g, i, none⟩ = false := Blk.frozen h i
theorem WB.new (w : World) (t : TypeId) (l : List UInt32) : WB (w.alloc (.cells (l.map u32v).toArray t)) w.heap.size t l := Blk.new w t _
theorem WB.set (h : WB w g t l) (i : Nat) (x : UInt32) : WB (w.setCell ⟨g, i, none⟩ (.int .u32 (x.toNat : Int))) g t (l.set i x) := by
  have := Blk.set_ h i (u32v x)
  unfold WB
  rw [List.map_set]
  rw [List.setIfInBounds_toArray] at this
  exact this
theorem WB.lt (h : WB w g t l) : g < w.heap.size := Blk.lt h
theorem WB.below (h : WB w g t l) (hb : Below w.heap.size w w') : WB w' g t l := Blk.below h hb
theorem WB.alloc (h : WB w g t l) (o : Obj) : WB (w.alloc o) g t l := Blk.alloc h o
theorem WB.drew (h : WB w g t l) : WB w.drew g t l := h
theorem WB.drewN (h : WB w g t l) (n : Nat) : WB (w.drewN n) g t l := h
theorem WB.far (h : WB w g t l) {p : Addr} (hp : g ≠ p.block) (u : Value) : WB (w.setCell p u) g t l := Blk.far h hp u
theorem WB.range (h : WB w g t l) : w.rangeAt g 0 (l.map u32v) := fun j v hv => by
  rw [Nat.zero_add, Blk.cell h j]
  simpa using hv
end
theorem u32_one (l : List UInt32) : ∀ u ∈ l.map u32v, u.oneCell' = true := by
  intro u hu
  obtain ⟨x, _, rfl⟩ := List.mem_map.1 hu
  rfl
/-- The first k of n places made anew. -/
def upW (n k : Nat) (f old : Nat → UInt32) : List UInt32 := (List.range n).map fun i => if i < k then f i else old i
theorem upW_len (n k : Nat) (f old : Nat → UInt32) : (upW n k f old).length = n := by simp [upW]
theorem upW_zero (n : Nat) (f old : Nat → UInt32) : upW n 0 f old = (List.range n).map old := by simp [upW]
theorem upW_full (n : Nat) (f old : Nat → UInt32) : upW n n f old = (List.range n).map f := by
  unfold upW
  refine List.map_congr_left fun i hi => ?_
  rw [if_pos (List.mem_range.1 hi)]
theorem upW_set {n k : Nat} (f old : Nat → UInt32) (hk : k < n) : (upW n k f old).set k (f k) = upW n (k + 1) f old := by
  unfold upW
  refine List.ext_getElem? fun i => ?_
  rw [List.getElem?_set]
  by_cases h : k = i
  · subst h
    simp [hk]
  · by_cases hi : i < n
    · rw [if_neg h]
      simp only [List.getElem?_map, List.getElem?_range hi, Option.map_some]
      congr 1
      by_cases h2 : i < k
      · rw [if_pos h2, if_pos (by omega)]
      · rw [if_neg h2, if_neg (by omega)]
    · rw [if_neg h, List.getElem?_eq_none (by simp; omega), List.getElem?_eq_none (by simp; omega)]
theorem upW_getD {n k i : Nat} (f old : Nat → UInt32) (hi : i < n) : (upW n k f old).getD i 0 = if i < k then f i else old i := by
  simp [upW, List.getD_eq_getElem?_getD, hi]
theorem listW_range (l : List UInt32) : (List.range l.length).map (fun i => l.getD i 0) = l := by
  refine List.ext_getElem? fun i => ?_
  by_cases hi : i < l.length
  · simp [hi, List.getD_eq_getElem?_getD]
  · rw [List.getElem?_eq_none (by simp; omega), List.getElem?_eq_none (by omega)]
end Go.Proofs.YtmkifedcanmjoaaGreat
/- Worlds that differ at named blocks alone. Conditions: none. -/
set_option linter.unusedVariables false
namespace Go.Proofs.YtmkifedcanmjoaaGreat
open Go.RowKit
/-- All but the blocks of M is as it was. -/
structure Sv (M : Nat → Prop) (w w' : World) : Prop where
  os : w'.os = w.os
  tape : w'.tape = w.tape
  output : w'.output = w.output
  size : w.heap.size ≤ w'.heap.size
  block : ∀ k, k < w.heap.size → ¬ M k → w'.heap[k]? = w.heap[k]?
section
variable {M M' : Nat → Prop} {w w' w'' : World}
theorem Sv.refl (M : Nat → Prop) (w : World) : Sv M w w := ⟨rfl, rfl, rfl, Nat.le_refl _, fun _ _ _ => rfl⟩
theorem Sv.of_below (h : Below w.heap.size w w') : Sv M w w' := ⟨h.os, h.tape, h.output, h.size, fun k hk _ => h.block k hk⟩
theorem Sv.mono (h : Sv M w w') (hM : ∀ k, k < w.heap.size → M k → M' k) : Sv M' w w' := ⟨h.os, h.tape, h.output, h.size, fun k hk hn => h.block k hk fun hm => hn (hM k hk hm)⟩
theorem Sv.trans (h : Sv M w w') (h' : Sv M' w' w'') (hM : ∀ k, k < w.heap.size → M' k → M k) : Sv M w w'' :=
  ⟨h'.os.trans h.os, h'.tape.trans h.tape, h'.output.trans h.output, Nat.le_trans h.size h'.size, fun k hk hn => (h'.block k (Nat.lt_of_lt_of_le hk h.size) fun hm => hn (hM k hk hm)).trans (h.block k hk hn)⟩
theorem Sv.trans_ (h : Sv M w w') (h' : Sv M w' w'') : Sv M w w'' := h.trans h' fun _ _ h => h
theorem Sv.call (h : Sv M w w') (hb : Below w'.heap.size w' w'') : Sv M w w'' := h.trans_ (Sv.of_below hb)
theorem Sv.drew (h : Sv M w w') : Sv M w w'.drew := ⟨h.os, h.tape, h.output, h.size, h.block⟩
theorem Sv.drewN (h : Sv M w w') (n : Nat) : Sv M w (w'.drewN n) := ⟨h.os, h.tape, h.output, h.size, h.block⟩
theorem Sv.alloc (h : Sv M w w') (o : Obj) : Sv M w (w'.alloc o) := h.call (balloc (Below.refl _ _) o)
theorem Sv.set (h : Sv M w w') {p : Addr} (hp : M p.block ∨ w.heap.size ≤ p.block) (u : Value) : Sv M w (w'.setCell p u) :=
  ⟨h.os, h.tape, h.output, by rw [World.size_setCell]; exact h.size, fun k hk hn => (Below.heap_setCell w' p u k (by
    rintro rfl
    rcases hp with hp | hp
    · exact hn hp
    · omega)).trans (h.block k hk hn)⟩
theorem Sv.grown (h : Sv M w w') {row : Option Nat} (hg : w'.grownBy w'' row) (hr : ∀ g, row = some g → M g ∨ w.heap.size ≤ g) : Sv M w w'' :=
  ⟨hg.os.trans h.os, hg.tape.trans h.tape, hg.output.trans h.output, Nat.le_trans h.size hg.size, fun k hk hn => (hg.block k (Nat.lt_of_lt_of_le hk h.size) fun e => by
    rcases hr k e.symm with h1 | h1
    · exact hn h1
    · omega).trans (h.block k hk hn)⟩
theorem Sv.toBelow (h : Sv M w w') {B : Nat} (hM : ∀ k, M k → B ≤ k) (hB : B ≤ w.heap.size) : Below B w w' := ⟨h.os, h.tape, h.output, h.size, fun k hk => h.block k (by omega) fun hm => by have := hM k hm; omega⟩
theorem Sv.blk {k : Nat} {t : TypeId} {cs : Array Value} (h : Sv M w w') (hb : Blk w k t cs) (hk : ¬ M k) : Blk w' k t cs := (h.block k hb.lt hk).trans hb
theorem Sv.cell {p : Addr} (h : Sv M w w') (hp : p.block < w.heap.size) (hg : ¬ M p.block) : w'.cell? p = w.cell? p := by
  unfold World.cell?
  rw [h.block _ hp hg]
theorem Sv.reads {size n : Nat} {A : Option Addr} {xs : List Value} (h : Sv M w w') (hr : Reads w w.heap.size size A n xs) (hA : ∀ ad, A = some ad → ¬ M ad.block) : Reads w' w'.heap.size size A n xs := by
  refine ⟨hr.1, fun hn => ?_⟩
  obtain ⟨ad, e, hb, hc⟩ := hr.2 hn
  refine ⟨ad, e, Nat.lt_of_lt_of_le hb h.size, fun j u hj => ?_⟩
  rw [h.cell (by rw [block_of_add]; exact hb) (by rw [block_of_add]; exact hA ad e)]
  exact hc j u hj
theorem Sv.own {base e size n : Nat} {v : Value} {xs : List Value} (h : Sv M w w') (ho : w.ownsRow base e size v n xs) (hv : ∀ g, v.ownBlock = some g → ¬ M g) : w'.ownsRow base e size v n xs := by
  refine ⟨ho.1, ?_⟩
  rcases ho.2 with h0 | ⟨g, cap, cur, rfl, hb, hc, h1, h2, h3, h4⟩
  · exact .inl h0
  · refine .inr ⟨g, cap, cur, rfl, hb, ?_, h1, h2, h3, h4⟩
    have hlt : g < w.heap.size := by
      rcases Nat.lt_or_ge g w.heap.size with hlt | hge
      · exact hlt
      · rw [Array.getElem?_eq_none hge] at hc; cases hc
    exact (h.block g hlt (hv g rfl)).trans hc
end
end Go.Proofs.YtmkifedcanmjoaaGreat
/- Slices of bytes cut at a place; append behind a guard. Conditions: as each says. -/
set_option linter.unusedVariables false
namespace Go.Proofs.YtmkifedcanmjoaaGreat
open Go.RowKit

theorem wpList_append_any_g {P : Program} (w : World) {ops : Array Oper} {rest : List Oper} {o : Oper} {a : Act} {Q : Exit → Act → World → Prop} (hgd : Region.wanted o (yielded ops a.tmps) = true) (s x : Operand) (t : TypeId)
    (ho : o.op = .call { callee := .builtin .append, args := #[s, x], argTypes := #[t, t] })
    (base : Nat) (e : TypeId) (i : TypeInfo) (z : Value) (size bytes : Nat) (ht : P.underlying t = some (.slice e)) (hi : P.info? e = some i) (hz : i.zero = some z)
    (hsize : i.size = size) (hby : i.bytes = bytes) (hzs : z.cells.size = size) (hsz : 0 < size)
    (v : Value) (n : Nat) (xs : List Value) (hs : a.eval s = v) (hown : w.ownsRow base e size v n xs)
    (B : Nat) (A : Option Addr) (m c : Nat) (news : List Value) (hx : a.eval x = .slice A m c) (hr : Reads w B size A m news) (h1 : ∀ u ∈ news, u.oneCell' = true)
    (h63 : n + m ≤ maxLen) (hbytes : (n + m) * bytes ≤ 140737488355328) (hbase : base ≤ w.heap.size)
    (h : ∀ v' w', w'.ownsRow base e size v' (n + m) (xs ++ news) → w.grownBy w' v.ownBlock → (v'.ownBlock = v.ownBlock ∨ v'.ownBlock = some w.heap.size) → wpList P ops Q rest (a.put o.dst v') w') : wpList P ops Q (o :: rest) a w := by
  simp only [wpList, hgd, if_true]
  exact .inl <| wp_append_any w s x t ho base e i z size bytes ht hi hz hsize hby hzs hsz v n xs hs hown B A m c news hx hr h1 h63 hbytes hbase h
/-- Where b[k:] begins. -/
def cutA (A : Option Addr) (c k : Nat) : Option Addr := if c = k then A else A.map (·.add k)
theorem slice22 : Tryz.prog.underlying 28 = some (.slice (Tryz.prog.elem 28)) := by rw [Tryz.underlying28, show Tryz.prog.elem 28 = 5 from by kernel_rfl]
theorem size22 (w : World) : (sizeOf (Tryz.prog.elem 28)).run Tryz.prog w = .ok 1 w := by rw [show Tryz.prog.elem 28 = 5 from by kernel_rfl]; exact size_byte w
theorem cut_to (wx : World) (A : Option Addr) (n c k : Nat) (hk : k ≤ c) : (Instr.slice 28 (.slice A n c) none (some (.int .i64 (k : Int))) none).run Tryz.prog wx = .ok (.slice (cutA A c 0) k c) wx := by
  rw [run_slice_h (P := Tryz.prog) wx 28 A n c slice22 .i64 (k : Int) (by omega) (by omega)]
  rw [size22]
  simp [Result.andThen, sliced, cutA]
theorem cut_from (wx : World) (A : Option Addr) (n c k : Nat) (hk : k ≤ n) : (Instr.slice 28 (.slice A n c) (some (.int .i64 (k : Int))) none none).run Tryz.prog wx = .ok (.slice (cutA A c k) (n - k) (c - k)) wx := by
  rw [run_slice_l (P := Tryz.prog) wx 28 A n c slice22 .i64 (k : Int) (by omega) (by omega)]
  rw [size22]
  simp [Result.andThen, sliced, cutA]
theorem cut_to' (wx : World) (A : Option Addr) (n c k : Nat) (hk : k ≤ c) : (Instr.sliceAt 28 (.slice A n c) none (some (.int .i64 (k : Int))) none).run Tryz.prog wx = .ok (.slice (cutA A c 0) k c) wx := by
  rw [run_sliceAt_slice (P := Tryz.prog) wx 28 _ _ _ _ slice22]; exact cut_to wx A n c k hk
theorem cut_from' (wx : World) (A : Option Addr) (n c k : Nat) (hk : k ≤ n) : (Instr.sliceAt 28 (.slice A n c) (some (.int .i64 (k : Int))) none none).run Tryz.prog wx = .ok (.slice (cutA A c k) (n - k) (c - k)) wx := by
  rw [run_sliceAt_slice (P := Tryz.prog) wx 28 _ _ _ _ slice22]; exact cut_from wx A n c k hk
theorem Reads.from_ {w : World} {B n c k : Nat} {A : Option Addr} {b : List UInt8} (h : Reads w B 1 A n (b.map u8v)) (hk : k ≤ n) (hc : n ≤ c) : Reads w B 1 (cutA A c k) (n - k) ((b.drop k).map u8v) := by
  have := h.cut hk hc
  rw [Nat.mul_one, ← List.map_drop] at this
  exact this
theorem Reads.to_k {w : World} {B n c k : Nat} {A : Option Addr} {b : List UInt8} (h : Reads w B 1 A n (b.map u8v)) (hn : b.length = n) (hk : k ≤ n) (hc : n ≤ c) : Reads w B 1 (cutA A c 0) k ((b.take k).map u8v) := by
  have h0 := h.from_ (Nat.zero_le _) hc
  rw [List.drop_zero, Nat.sub_zero] at h0
  have := reads_take h0 hn hk
  rwa [List.length_take, hn, Nat.min_eq_left hk] at this
end Go.Proofs.YtmkifedcanmjoaaGreat
/- Slices of bytes that lie in memory, also below a bound. Conditions: as each says. -/
set_option linter.unusedVariables false
namespace Go.Proofs.YtmkifedcanmjoaaGreat
open Go.RowKit

/-- v is a slice of bytes that reads b. -/
def SlV (w : World) (v : Value) (b : List UInt8) : Prop := ∃ A c, v = .slice A b.length c ∧ b.length ≤ c ∧ Reads w w.heap.size 1 A b.length (b.map u8v)
/-- v is a slice of bytes that reads b below block B. -/
def SlB (w : World) (B : Nat) (v : Value) (b : List UInt8) : Prop := ∃ A c, v = .slice A b.length c ∧ b.length ≤ c ∧ Reads w B 1 A b.length (b.map u8v)
section
variable {w w' : World} {g B : Nat} {v : Value} {b : List UInt8}
theorem SlV.below (h : SlV w v b) (hb : Below w.heap.size w w') : SlV w' v b := by
  obtain ⟨A, c, e, hc, hr⟩ := h
  exact ⟨A, c, e, hc, (hr.below hb).more hb.size⟩
theorem SlV.nil (w : World) : SlV w (.slice none 0 0) [] := ⟨none, 0, rfl, Nat.le_refl _, Reads.none_⟩
theorem SlV.of {A : Option Addr} {n c : Nat} (hn : n = b.length) (hc : b.length ≤ c) (hr : Reads w w.heap.size 1 A b.length (b.map u8v)) : SlV w (.slice A n c) b := ⟨A, c, by rw [hn], hc, hr⟩
theorem SlV.own {base : Nat} (h : ByteRow w base v b) : SlV w v b := by
  obtain ⟨A, c, rfl⟩ := own_slice h
  exact ⟨A, c, rfl, own_cap h, Reads.of_own h⟩
theorem SlV.lit (w : World) (cs : Array Value) (fr : Nat × Nat) (n : Nat) (b : List UInt8) (hcs : cs.toList = b.map u8v) (hn : n = b.length) : SlV (w.alloc (.cells cs 5 fr)) (.slice (some ⟨w.heap.size, 0, none⟩) n n) b := by
  subst hn
  refine ⟨_, _, rfl, Nat.le_refl _, ⟨by simp, fun hn => ⟨_, rfl, by simp, fun j u hu => ?_⟩⟩⟩
  rw [Go.WideShapes.add_plain, Nat.zero_add, World.cell?_alloc_mark, ← Array.getElem?_toList, hcs]
  exact hu
theorem SlV.num {A : Option Addr} {n c : Nat} (h : SlV w (.slice A n c) b) : n = b.length := by
  obtain ⟨_, _, e, _⟩ := h
  injection e
theorem SlV.rd {A : Option Addr} {n c : Nat} (h : SlV w (.slice A n c) b) : Reads w w.heap.size 1 A n (b.map u8v) := by
  obtain ⟨A', c', e, hc, hr⟩ := h
  injection e with e1 e2 e3
  subst e1 e2
  exact hr
theorem SlV.form (h : SlV w v b) : ∃ A c, v = .slice A b.length c ∧ b.length ≤ c := by
  obtain ⟨A, c, e, hc, hr⟩ := h
  exact ⟨A, c, e, hc⟩
theorem SlV.toB (h : SlV w v b) (hw : w.heap.size ≤ B) : SlB w B v b := by
  obtain ⟨A, c, e, hc, hr⟩ := h
  exact ⟨A, c, e, hc, hr.more hw⟩
theorem SlB.toV (h : SlB w B v b) (hw : B ≤ w.heap.size) : SlV w v b := by
  obtain ⟨A, c, e, hc, hr⟩ := h
  exact ⟨A, c, e, hc, hr.more hw⟩
theorem SlB.nil (w : World) (B : Nat) : SlB w B (.slice none 0 0) [] := ⟨none, 0, rfl, Nat.le_refl _, Reads.none_⟩
theorem SlB.keep (h : SlB w B v b) (hk : ∀ p : Addr, p.block < B → w'.cell? p = w.cell? p) : SlB w' B v b := by
  obtain ⟨A, c, e, hc, hr⟩ := h
  exact ⟨A, c, e, hc, hr.keep hk⟩
theorem SlB.belowB (h : SlB w B v b) (hb : Below B w w') : SlB w' B v b := h.keep fun _ hp => hb.cell hp
theorem SlB.sv {M : Nat → Prop} (h : SlB w B v b) (hs : Sv M w w') (hB : B ≤ w.heap.size) (hM : ∀ k, M k → B ≤ k) : SlB w' B v b :=
  h.keep fun p hp => hs.cell (by omega) (fun hm => by have := hM _ hm; omega)
theorem SlB.num {A : Option Addr} {n c : Nat} (h : SlB w B (.slice A n c) b) : n = b.length := by
  obtain ⟨_, _, e, _⟩ := h
  injection e
theorem SlB.cap {A : Option Addr} {n c : Nat} (h : SlB w B (.slice A n c) b) : n ≤ c := by
  obtain ⟨_, _, e, hc, _⟩ := h
  injection e with e1 e2 e3
  omega
theorem SlB.rd {A : Option Addr} {n c : Nat} (h : SlB w B (.slice A n c) b) : Reads w B 1 A n (b.map u8v) := by
  obtain ⟨A', c', e, hc, hr⟩ := h
  injection e with e1 e2 e3
  subst e1 e2
  exact hr
theorem SlB.drop {A : Option Addr} {n c k : Nat} (h : SlB w B (.slice A n c) b) (hk : k ≤ n) : SlB w B (.slice (cutA A c k) (n - k) (c - k)) (b.drop k) := by
  obtain ⟨A', c', e, hc, hr⟩ := h
  injection e with e1 e2 e3
  subst e1 e2 e3
  have h1 := hr.from_ hk hc
  refine ⟨_, _, by rw [List.length_drop], by rw [List.length_drop]; omega, ?_⟩
  rw [List.length_drop]
  exact h1
theorem SlB.to_ {A : Option Addr} {n c k : Nat} (h : SlB w B (.slice A n c) b) (hk : k ≤ n) : SlB w B (.slice (cutA A c 0) k c) (b.take k) := by
  obtain ⟨A', c', e, hc, hr⟩ := h
  injection e with e1 e2 e3
  subst e1 e2 e3
  have h1 := hr.to_k rfl hk hc
  have hl : (b.take k).length = k := by rw [List.length_take]; omega
  refine ⟨_, _, by rw [hl], by omega, ?_⟩
  rw [hl]
  exact h1
theorem SlB.mid {A : Option Addr} {n c k d : Nat} (h : SlB w B (.slice A n c) b) (hk : k + d ≤ n) : SlB w B (.slice (cutA A c k) d (c - k)) ((b.drop k).take d) := by
  obtain ⟨A', c', e, hc, hr⟩ := h
  injection e with e1 e2 e3
  subst e1 e2 e3
  have h1 := hr.from_ (show k ≤ b.length by omega) hc
  have h2 := reads_take h1 (by rw [List.length_drop]) (show d ≤ b.length - k by omega)
  have hl : ((b.drop k).take d).length = d := by rw [List.length_take, List.length_drop]; omega
  refine ⟨_, _, by rw [hl], by omega, ?_⟩
  exact h2
end
theorem Blk.newAt {w : World} {g : Nat} (h : g = w.heap.size) (t : TypeId) (cs : Array Value) : Blk (w.alloc (.cells cs t)) g t cs := by rw [h]; exact Blk.new w t cs
theorem cut_to0 (wx : World) (p : Addr) (n c k : Nat) (hk : k ≤ c) : (Instr.slice 28 (.slice (some p) n c) none (some (.int .i64 (k : Int))) none).run Tryz.prog wx = .ok (.slice (some p) k c) wx := by
  rw [cut_to wx (some p) n c k hk, cutA]
  have : (Option.map (fun x => Addr.add x 0) (some p)) = some p := by simp [Addr.add]
  split <;> simp [Addr.add]
theorem cut_mid (wx : World) (A : Option Addr) (n c k e d : Nat) (hk : k ≤ e) (he : e ≤ c) (hd : e - k = d) : (Instr.slice 28 (.slice A n c) (some (.int .i64 (k : Int))) (some (.int .i64 (e : Int))) none).run Tryz.prog wx = .ok (.slice (cutA A c k) d (c - k)) wx := by
  rw [run_slice_lh (P := Tryz.prog) wx 28 A n c slice22 .i64 .i64 (k : Int) (e : Int) (by omega) (by omega) (by omega)]
  rw [size22]
  simp [Result.andThen, sliced, cutA, hd]
end Go.Proofs.YtmkifedcanmjoaaGreat
/- An array of three numbers of 16 bits as an argument, by value. Conditions: none. -/
set_option linter.unusedVariables false
namespace Go.Proofs.YtmkifedcanmjoaaGreat
open Go.RowKit Go.ChangeShapes Go.WideShapes Go.Joins
section
variable {H : Type} {enc : TypeId × Value → H} {P : Program} {w : World} {base : Nat} {spare : Nat → Bool} {held : Bool}
theorem okWide_array {n : Nat} {t e : TypeId} {r : Reach} {b0 : Nat} {v : Value} (ht : P.underlying t = some (.array n e)) (h : Value.okWide P w r b0 t v) : ∃ cs, v = .agg cs ∧ cs.size = P.cellsOf t := by
  simp only [Value.okWide, ht] at h
  obtain ⟨cs, h1, h2, _⟩ := h
  exact ⟨cs, h1, h2⟩
theorem open_u16s {t e : TypeId} {r : Reach} {b0 : Nat} {v : Value} {d : DataW H} {p : List MemPlace} (ht : P.underlying t = some (.array 3 e)) (he : P.underlying e = some (.int .u16)) (hc : P.cellsOf e = 1) (hC : P.cellsOf t = 3)
    (hv : Value.okWide P w r b0 t v) (h : DataW.Trod enc P w base spare held t v d p) :
    ∃ x y z : Nat, x < 65536 ∧ y < 65536 ∧ z < 65536 ∧ v = .agg #[.int .u16 (x : Int), .int .u16 (y : Int), .int .u16 (z : Int)] := by
  obtain ⟨cs, rfl, hsz⟩ := okWide_array ht hv
  obtain ⟨fuel, hf⟩ := h
  obtain ⟨xs, m, _, _, _, hxl, hg⟩ := DataW.trod_array ht hf
  rw [hC] at hsz
  have key : ∀ i, i < 3 → ∃ x : Nat, x < 65536 ∧ cs[i]? = some (.int .u16 (x : Int)) := by
    intro i hi
    have h1 := hg i hi
    rw [hc, Nat.mul_one, List.getElem?_eq_getElem (by omega)] at h1
    have e1 : ((Value.agg cs).cells.toList.drop i).take 1 = [cs[i]'(by omega)] := by
      show (cs.toList.drop i).take 1 = _
      rw [List.drop_eq_getElem_cons (by simpa using (show i < cs.size by omega))]
      simp
    rw [e1] at h1
    obtain ⟨z, hz, _, hw⟩ := DataW.trod_int he h1
    have bz := u16_bd hw
    refine ⟨z.toNat, by omega, ?_⟩
    rw [Array.getElem?_eq_getElem (by omega)]
    simp only [List.cons.injEq, and_true] at hz
    rw [hz, Int.toNat_of_nonneg bz.1]
  obtain ⟨x, hx, h0⟩ := key 0 (by omega)
  obtain ⟨y, hy, h1⟩ := key 1 (by omega)
  obtain ⟨z, hz, h2⟩ := key 2 (by omega)
  refine ⟨x, y, z, hx, hy, hz, ?_⟩
  congr 1
  apply Array.ext
  · simp [hsz]
  · intro i hi hj
    rw [Array.getElem?_eq_getElem (by omega), Option.some.injEq] at h0 h1 h2
    rcases i with _ | _ | _ | i
    · exact h0
    · exact h1
    · exact h2
    · omega
end
end Go.Proofs.YtmkifedcanmjoaaGreat
