/-
  The law StreamNext returns true: so many more, and so many more, are both together; the lowest byte goes round first.
  Conditions: none.
-/
import Derived.Test.YtklkehpcifnfkaaNextL
import Derived.Test.YtklkehpcifnfkaaArr
set_option linter.unusedVariables false
namespace Go.Proofs.Ytklkehpcifnfkaa
open Go.ChangeShapes Go.WideShapes Go.ChangeAt Go.RowKit Go.Joins
namespace streamNext
theorem cells_23 : Try.prog.cellsOf 23 = 16 := by kernel_rfl
theorem u64_bd {x : Int} (wx : (Lit.int .u64 x).wf = true) : 0 ≤ x ∧ x ≤ 18446744073709551615 := by simpa [Lit.wf, IntKind.min, IntKind.max, IntKind.signed, IntKind.bits] using wx
theorem reads : ∀ t ∈ Try.f12.params.toList, Try.prog.readableRec t = true ∧ t < Try.prog.types.size := by
  rw [show Try.f12.params = #[23, 49, 49] from Try.params12]
  intro t ht
  simp only [List.mem_cons, List.not_mem_nil, or_false] at ht
  rcases ht with rfl | rfl | rfl <;> exact ⟨by kernel_rfl, of_decide_eq_true (by kernel_rfl)⟩
set_option maxRecDepth 100000 in
theorem lifted (os : Os) (started : os.Started) (H : Type) (enc : TypeId × Value → H) :
    ReturnsInHanded {} Try.checked os 12 .any (Rows.streamNextSpec.pre6 enc Try.prog Try.f12 Rows.streamNextRow.domain false) (Rows.streamNextSpec.post enc Try.prog Try.f12 false true false false) := by
  refine returnsInHanded_of_change_sized (C := Try.checked) own started (by kernel_rfl) Try.func12
    (ChangeSpec.witness6 (enc := enc) (C := Try.checked) false ⟨#[], #[.agg (Array.replicate 16 (.int .u8 0)), .int .u64 0, .int .u64 0], []⟩ 8 (by kernel_rfl) (by kernel_rfl) (by kernel_rfl) (by kernel_rfl)) ?_
  intro W base args ds gs before hval0 hW hcnd hsz0 _
  have hsz : (DataW.weightsEach Try.prog (Try.f12.params.toList ++ Rows.streamNextSpec.plain.varTypes Try.prog) (ds ++ gs)).all (· ≤ reachBytes) = true := hsz0
  have hval : ∀ (j : Nat) t v, Try.f12.params[j]? = some t → args[j]? = some v → Value.okWide Try.prog W .any base t v := hval0
  clear hsz0 hval0
  have hW' := hW
  have hlt : ∀ x ∈ before, x.block < W.heap.size := fun x hx => hW'.lt x hx
  obtain ⟨p, q, hA0, hV, rfl, hfz, hnd⟩ := hW
  have hA : DataW.TrodAll enc Try.prog W 0 (fun _ => true) true Try.f12.params.toList args.toList ds p := hA0
  clear hA0
  rw [Try.params12] at hA hval hsz
  obtain ⟨rfl, rfl⟩ := trodVars_none hV
  obtain ⟨v0, v1, v2, d0, d1, d2, p0, p1, p2, rfl, rfl, rfl, h0, h1, h2⟩ := trodAll_three hA
  obtain ⟨l0, hl0, rfl⟩ := open_arr Try.underlying23 Try.underlying5 cells5b cells_23 (hval 0 23 v0 rfl rfl) h0
  obtain ⟨z1, rfl, rfl, rfl, wz1⟩ := open_int Try.underlying49 (hval 1 49 v1 rfl rfl) h1
  have bz1 := u64_bd wz1
  obtain ⟨n1, rfl⟩ : ∃ n : Nat, z1 = (n : Int) := ⟨z1.toNat, by omega⟩
  obtain ⟨z2, rfl, rfl, rfl, wz2⟩ := open_int Try.underlying49 (hval 2 49 v2 rfl rfl) h2
  have bz2 := u64_bd wz2
  obtain ⟨n2, rfl⟩ : ∃ n : Nat, z2 = (n : Int) := ⟨z2.toNat, by omega⟩
  refine (next_walk l0 n1 n2 W hl0 (by omega) (by omega)).mono fun e W' ⟨he, hg⟩ => ?_
  subst he
  exact ⟨_, rfl, law_post laidOut reads rfl hW' hg rfl Try.underlying4 rfl⟩

theorem over : Rows.streamNextRow.holds Try.pinned (OpenSpec.ofChange Rows.streamNextSpec) :=
  OpenClaim.holds_of_wide 12 Try.f12 rfl rfl rfl rfl rfl rfl rfl ⟨rfl, rfl, rfl, rfl, rfl⟩ rfl rfl rfl rfl rfl (by kernel_rfl) Try.func12 (by kernel_rfl)
    (of_decide_eq_true (by kernel_rfl)) (by unfold Func.isWrapper; first | (rw [if_pos (by decide +kernel)]; kernel_rfl) | (rw [if_neg (by decide +kernel)]; exact ⟨rfl, rfl⟩))
    (fun os started H enc _ => lifted os started H enc)
theorem proved : Rows.StreamNextSaid :=
  over
end streamNext
end Go.Proofs.Ytklkehpcifnfkaa
