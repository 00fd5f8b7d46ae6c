/- The row's last step, for every law of this seat: a call that returns true and leaves all that lay before it as it was meets the law's statement: each argument reads as it read. -/
import Derived.Test.YtkfimncbfbbopaaBase
import Derived.WalkKit
import Derived.ProofKit
import Derived.OpenShut
import Derived.Below
import Derived.ChangeSame
import Derived.SizedLaws
import Derived.JoinedCond
import Derived.Deep.CondSized
import Derived.Lib.SmallJoins
set_option linter.unusedVariables false
namespace Go.Proofs.Ytkfimncbfbbopaa
open Go.RowKit Go.WideShapes Go.ChangeShapes
section
variable {H : Type} {enc : TypeId × Value → H} {P : Program}
theorem args_stay (hl : laidOutB P = true) {W W' : World} (hb : Below W.heap.size W W') : ∀ (ts : List TypeId) (vs : List Value) (ds : List (DataW H)) (ps : List MemPlace),
    (∀ t ∈ ts, P.readableRec t = true ∧ t < P.types.size) → (∀ x ∈ ps, x.block < W.heap.size) →
    DataW.TrodAll enc P W 0 (fun _ => true) true ts vs ds ps → DataW.TrodAll enc P W' 0 (fun b => decide (b < W.heap.size)) true ts vs ds ps
  | [], vs, ds, ps, _, _, h => by
    obtain ⟨rfl, rfl, rfl⟩ := trodAll_nil h
    exact trodAll_mk0
  | t :: ts, vs, ds, ps, hr, hlt, h => by
    obtain ⟨v, vs', d, ds', p, q, rfl, rfl, rfl, h1, h2⟩ := trodAll_cons h
    have h3 := hr t (List.mem_cons_self ..)
    exact trodAll_cons_mk (Below.trod hl h3.1 h3.2 h1 hb fun x hx => hlt x (List.mem_append.2 (.inl hx)))
      (args_stay hl hb ts vs' ds' q (fun u hu => hr u (List.mem_cons_of_mem _ hu)) (fun x hx => hlt x (List.mem_append.2 (.inr hx))) h2)

theorem law_post {f : Func} {s : ChangeSpec} {W W' : World} {args : Array Value} {ds gs : List (DataW H)} {before : List MemPlace} (hl : laidOutB P = true)
    (hr : ∀ t ∈ f.params.toList, P.readableRec t = true ∧ t < P.types.size) (hvars : s.vars = []) (hW : DataW.Whole enc P f.params.toList s.vars false W args.toList ds gs before)
    (hb : Below W.heap.size W W') {tb : TypeId} (hrt : f.resultTypes = #[tb]) (htb : P.underlying tb = some .bool)
    (hfn : s.fn H (ds ++ gs) = { results := [.lit (.bool true)], args := ds }) : s.post enc P f false true false false W args (.bool true) W' := by
  have hW' := hW
  have hlt : ∀ p ∈ before, p.block < W.heap.size := fun p hp => hW'.lt p hp
  obtain ⟨p, q, hA, hV, rfl, _, _⟩ := hW
  rw [hvars] at hV
  obtain ⟨rfl, rfl⟩ := trodVars_none hV
  refine ⟨ds, [], _, ([] : List MemPlace) ++ [], p, [], hW', ?_, ?_, ?_, hb.frame _, fun h => by cases h⟩
  · rw [hrt, hfn]
    exact trodAll_cons_mk (shut_bool htb _) trodAll_mk0
  · rw [hfn]
    exact args_stay hl hb _ _ _ _ hr (fun x hx => hlt x (List.mem_append.2 (.inl hx))) hA
  · rw [hfn, hvars]
    rfl
end
section
variable {H : Type} {enc : TypeId × Value → H} {P : Program}
/-- A slice of integers that came in, nil let in: it reads as a list of numbers of its kind. -/
theorem open_row {t e : TypeId} {k : IntKind} {W : World} {A : Option Addr} {n c : Nat} {d : DataW H} {p : List MemPlace} (ht : P.underlying t = some (.slice e)) (he : P.underlying e = some (.int k)) (hc : P.cellsOf e = 1)
    (h : DataW.Trod enc P W 0 (fun _ => true) true t (.slice A n c) d p) (hlt : ∀ x ∈ p, x.block < W.heap.size) :
    ∃ zs : List Int, zs.length = n ∧ n ≤ c ∧ c ≤ maxLen ∧ Reads W W.heap.size 1 A n (zs.map (Value.int k)) ∧ (∀ z ∈ zs, (Lit.int k z).wf = true) ∧
      ((A = none ∧ n = 0 ∧ c = 0 ∧ d = .nil) ∨ ∃ rest : List (DataW H), d = .slice (lits k zs) rest ∧ rest.length = c - n) := by
  obtain ⟨fuel, hf⟩ := h
  rcases open_ints ht he hc hf with ⟨hcs, hx⟩ | ⟨a, len, cap, zs, hcs, _, hl, hm, hz, hx, hcell, hwz⟩
  · simp [Value.cells] at hcs
    obtain ⟨rfl, rfl, rfl⟩ := hcs
    simp only [Prod.mk.injEq] at hx
    exact ⟨[], rfl, Nat.le_refl _, by simp [maxLen], Reads.none_, by simp, .inl ⟨rfl, rfl, rfl, hx.1⟩⟩
  · simp [Value.cells] at hcs
    obtain ⟨rfl, rfl, rfl⟩ := hcs
    simp only [Prod.mk.injEq] at hx
    simp only [if_true] at hz
    refine ⟨zs.take n, by simp; omega, hl, hm, ⟨by simp; omega, fun hn => ⟨a, rfl, ?_, fun j u hu => ?_⟩⟩, fun z hzm => hwz z (List.mem_of_mem_take hzm), .inr ⟨lits k (zs.drop n), hx.1, by simp [lits]; omega⟩⟩
    · have hcell0 := hcell 0 (by omega)
      exact World.block_lt_of_cell? _ _ (by simpa [Addr.add] using hcell0)
    · rw [List.getElem?_map] at hu
      rcases hj : (zs.take n)[j]? with _ | z
      · rw [hj] at hu; simp at hu
      · rw [hj] at hu
        simp only [Option.map_some, Option.some.injEq] at hu
        obtain ⟨hjl, hje⟩ := List.getElem?_eq_some_iff.1 hj
        have hjn : j < n := by have := hjl; simp at this; omega
        rw [hcell j (by omega), ← hu]
        have : zs.getD j 0 = z := by
          rw [List.getElem_take] at hje
          simp [List.getD, List.getElem?_eq_getElem (show j < zs.length by omega), hje]
        rw [this]
end
theorem own : ownKnob Try.prog.godebug = none := by kernel_rfl
theorem laidOut : laidOutB Try.prog = true := by kernel_rfl
theorem u64_bd {x : Int} (wx : (Lit.int .u64 x).wf = true) : 0 ≤ x ∧ x ≤ 18446744073709551615 := by simpa [Lit.wf, IntKind.min, IntKind.max, IntKind.signed, IntKind.bits] using wx
theorem u32_bd {x : Int} (wx : (Lit.int .u32 x).wf = true) : 0 ≤ x ∧ x ≤ 4294967295 := by simpa [Lit.wf, IntKind.min, IntKind.max, IntKind.signed, IntKind.bits] using wx
theorem u16_bd {x : Int} (wx : (Lit.int .u16 x).wf = true) : 0 ≤ x ∧ x ≤ 65535 := by simpa [Lit.wf, IntKind.min, IntKind.max, IntKind.signed, IntKind.bits] using wx
theorem u8_bd {x : Int} (wx : (Lit.int .u8 x).wf = true) : 0 ≤ x ∧ x ≤ 255 := by simpa [Lit.wf, IntKind.min, IntKind.max, IntKind.signed, IntKind.bits] using wx
theorem i64_bd {x : Int} (wx : (Lit.int .i64 x).wf = true) : -9223372036854775808 ≤ x ∧ x ≤ 9223372036854775807 := by simpa [Lit.wf, IntKind.min, IntKind.max, IntKind.signed, IntKind.bits] using wx
/-- Numbers of a uint8 as bytes. -/
theorem as_bytes {zs : List Int} (h : ∀ z ∈ zs, (Lit.int .u8 z).wf = true) : ∃ bs : List UInt8, bs.length = zs.length ∧ zs.map (Value.int .u8) = bs.map (fun (b : UInt8) => Value.int .u8 (b.toNat : Int)) ∧ zs = bs.map fun (b : UInt8) => (b.toNat : Int) := by
  refine ⟨zs.map fun z => UInt8.ofNat z.toNat, by simp, ?_, ?_⟩
  · rw [List.map_map]
    refine List.map_congr_left fun z hz => ?_
    have := u8_bd (h z hz)
    simp only [Function.comp, UInt8.toNat_ofNat']
    congr 1
    omega
  · rw [List.map_map]
    conv => lhs; rw [← List.map_id zs]
    refine List.map_congr_left fun z hz => ?_
    have := u8_bd (h z hz)
    simp only [Function.comp, UInt8.toNat_ofNat', id]
    omega
/-- Numbers that are not below nought as natural numbers. -/
theorem as_nats {k : IntKind} {zs : List Int} (h : ∀ z ∈ zs, 0 ≤ z) : ∃ ns : List Nat, ns.length = zs.length ∧ zs.map (Value.int k) = ns.map (fun (n : Nat) => Value.int k (n : Int)) ∧ zs = ns.map fun (n : Nat) => (n : Int) := by
  refine ⟨zs.map fun z => z.toNat, by simp, ?_, ?_⟩
  · rw [List.map_map]
    refine List.map_congr_left fun z hz => ?_
    have := h z hz
    simp only [Function.comp]
    congr 1
    omega
  · rw [List.map_map]
    conv => lhs; rw [← List.map_id zs]
    refine List.map_congr_left fun z hz => ?_
    have := h z hz
    simp only [Function.comp, id]
    omega
end Go.Proofs.Ytkfimncbfbbopaa
