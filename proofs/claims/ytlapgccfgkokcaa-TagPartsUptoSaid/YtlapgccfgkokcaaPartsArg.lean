/- An argument that is a slice of slices of bytes; what the second form's bound gives. Conditions: none. -/
import Derived.Test.YtlapgccfgkokcaaArgs
import Derived.Test.YtlapgccfgkokcaaParts
import Derived.Deep.Matrix
import Derived.Deep.CondSized
import Derived.JoinedCond
set_option linter.unusedVariables false
namespace Go.Proofs.Ytlapgccfgkokcaa
open Go.RowKit Go.ChangeShapes Go.WideShapes Go.Joins Go.Deep
theorem bulk_one {H : Type} (d : DataW H) : 1 ≤ Rows.uptoBulk d := by
  cases d with
  | lit l => cases l <;> simp [Rows.uptoBulk]
  | nil => simp [Rows.uptoBulk]
  | ptr d => simp [Rows.uptoBulk]
  | slice elems spare => simp [Rows.uptoBulk]
  | agg parts => simp [Rows.uptoBulk]
  | iface t d => simp [Rows.uptoBulk]
  | map entries => simp [Rows.uptoBulk]
  | held h => simp [Rows.uptoBulk]
theorem bulk_length {H : Type} (l : List (DataW H)) : l.length ≤ Rows.uptoBulkAll l := by
  induction l with
  | nil => simp [Rows.uptoBulkAll]
  | cons x r ih => have := bulk_one x; simp only [Rows.uptoBulkAll, List.length_cons]; omega
theorem bulk_row {H : Type} {k : IntKind} {A : Option Addr} {L : Nat} {Z : List Int} (hL : L ≤ Z.length) (hA : A = none → L = 0) : L ≤ Rows.uptoBulk (intRow (H := H) k A L Z) := by
  cases A with
  | none => have := hA rfl; omega
  | some a =>
    simp only [intRow, Rows.uptoBulk]
    have := bulk_length (lits (H := H) k (Z.take L))
    simp only [lits, List.length_map, List.length_take] at this
    simp only [lits]
    omega
theorem bulk_flat {H : Type} (F : Nat → List UInt8) (D : Nat → DataW H) : ∀ l : List Nat, (∀ i ∈ l, (F i).length ≤ Rows.uptoBulk (D i)) → (l.map F).flatten.length ≤ Rows.uptoBulkAll (l.map D)
  | [], _ => by simp
  | i :: l, h => by
    have h1 := h i (List.mem_cons_self ..)
    have h2 := bulk_flat F D l fun j hj => h j (List.mem_cons_of_mem _ hj)
    simp only [List.map_cons, List.flatten_cons, List.length_append, Rows.uptoBulkAll]
    omega
theorem open_parts {H : Type} {enc : TypeId × Value → H} {P : Program} {W : World} {t e q : TypeId} {A : Option Addr} {n c : Nat} {d : DataW H} {p : List MemPlace}
    (ht : P.underlying t = some (.slice e)) (he : P.underlying e = some (.slice q)) (hq : P.underlying q = some (.int .u8)) (ce : P.cellsOf e = 1) (cq : P.cellsOf q = 1)
    (h : DataW.Trod enc P W 0 (fun _ => true) true t (.slice A n c) d p) (hlt : ∀ x ∈ p, x.block < W.heap.size) :
    ∃ ps : List (List UInt8), ps.length = n ∧ n ≤ c ∧ c ≤ maxLen ∧ Parts W A ps ∧ ps.flatten.length ≤ Rows.uptoBulk d := by
  obtain ⟨fuel, hf⟩ := h
  rcases open_int_rows ht he hq ce cq hf with ⟨hcs, hx⟩ | ⟨a, len, cap, A', L, C, Z, hcs, hb, hl, hm, hx, hi⟩
  · simp [Value.cells] at hcs
    obtain ⟨rfl, rfl, rfl⟩ := hcs
    exact ⟨[], rfl, Nat.le_refl _, by simp [maxLen], Parts.nil _ _, by simp⟩
  · simp [Value.cells] at hcs
    obtain ⟨rfl, rfl, rfl⟩ := hcs
    simp only [Prod.mk.injEq] at hx
    obtain ⟨hd, hp⟩ := hx
    let F : Nat → List UInt8 := fun r => ((Z r).take (L r)).map fun z => UInt8.ofNat z.toNat
    have hFl : ∀ r, r < n → (F r).length = L r := fun r hr => by
      obtain ⟨_, r1, r2, r3, _⟩ := hi r (by omega)
      simp only [F, List.length_map, List.length_take]
      omega
    have hgd : ∀ r, r < n → ((List.range n).map F).getD r [] = F r := fun r hr => by
      simp [List.getD_eq_getElem?_getD, hr]
    refine ⟨(List.range n).map F, by simp, hl, hm, ?_, ?_⟩
    · intro hn
      simp only [List.length_map, List.length_range] at hn
      have h0 := (hi 0 (by omega)).1
      obtain ⟨g, o, rfl⟩ := addr_plain h0
      refine ⟨g, o, rfl, World.block_lt_of_cell? _ _ (by simpa [Addr.add] using h0), fun r hr => ?_⟩
      simp only [List.length_map, List.length_range] at hr
      obtain ⟨hc, r1, r2, r3, r4, r5, r6⟩ := hi r (by omega)
      rw [hgd r hr, hFl r hr]
      refine ⟨A' r, C r, by rwa [Go.WideShapes.add_plain] at hc, r1, by simp [hFl r hr], fun hp0 => ?_⟩
      cases hA : A' r with
      | none => have := r5 hA; omega
      | some a' =>
        obtain ⟨hb', hcell⟩ := r6 a' hA
        refine ⟨a', rfl, ?_, fun j u hu => ?_⟩
        · have := World.block_lt_of_cell? _ _ (hcell 0 (by omega))
          rwa [block_of_add] at this
        · have hj : j < L r := by
            rcases Nat.lt_or_ge j (L r) with h | h
            · exact h
            · rw [List.getElem?_eq_none (by rw [List.length_map, hFl r hr]; exact h)] at hu; cases hu
          rw [hcell j (by omega), ← hu]
          have hjz : j < (Z r).length := by omega
          have hw := u8_bd (r4 _ (List.getElem_mem hjz))
          simp only [F, List.map_map, List.getElem?_map, List.getElem?_take, if_pos hj, List.getElem?_eq_getElem hjz, Option.map_some, Function.comp, u8v, List.getD_eq_getElem?_getD, Option.getD_some]
          congr 2
          rw [UInt8.toNat_ofNat']
          omega
    · rw [hd]
      have := bulk_flat F (fun r => intRow (H := H) .u8 (A' r) (L r) (Z r)) (List.range n) (fun r hr => by
        have hr' := List.mem_range.1 hr
        obtain ⟨_, r1, r2, r3, _, r5, _⟩ := hi r (by omega)
        rw [hFl r hr']
        exact bulk_row (by omega) (fun e => by have := r5 e; omega))
      simp only [Rows.uptoBulk]
      omega
theorem upto_bound {H : Type} {l : List (DataW H)} (hk : Rows.uptoSmall H l = true) : Rows.uptoBulkAll l ≤ 1048576 := of_decide_eq_true hk
theorem cells27b : Try.prog.cellsOf 27 = 1 := by kernel_rfl
end Go.Proofs.Ytlapgccfgkokcaa
