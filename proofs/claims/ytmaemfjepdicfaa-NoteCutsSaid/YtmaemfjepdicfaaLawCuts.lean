/-
  The law NoteCuts returns true: a note that is cut off lacks bytes; with bytes behind it has no form.
  Conditions: none.
-/
import Derived.Test.YtmaemfjepdicfaaCuts
import Derived.Test.YtmaemfjepdicfaaNArgs
set_option linter.unusedVariables false
namespace Go.Proofs.Ytmaemfjepdicfaa
open Go.ChangeShapes Go.WideShapes Go.ChangeAt Go.RowKit Go.Joins
namespace noteCuts
theorem reads : ∀ t ∈ Try.f7.params.toList, Try.prog.readableRec t = true ∧ t < Try.prog.types.size := by
  rw [show Try.f7.params = #[24, 41, 22] from Try.params7]
  intro t ht
  simp only [List.mem_cons, List.not_mem_nil, or_false] at ht
  rcases ht with rfl | rfl | rfl <;> exact ⟨by kernel_rfl, of_decide_eq_true (by kernel_rfl)⟩
set_option maxRecDepth 100000 in
theorem lifted (os : Os) (started : os.Started) (H : Type) (enc : TypeId × Value → H) :
    ReturnsInHanded {} Try.checked os 7 .any (Rows.noteCutsSpec.pre6 enc Try.prog Try.f7 Rows.noteCutsRow.domain false) (Rows.noteCutsSpec.post enc Try.prog Try.f7 false true false false) := by
  refine returnsInHanded_of_change_sized (C := Try.checked) own started (by kernel_rfl) Try.func7
    (ChangeSpec.witness6 (enc := enc) (C := Try.checked) false ⟨#[], #[.agg #[.int .i64 0, .int .i64 0, .int .i64 0, .int .i64 0, .int .i64 0, .int .i64 0, .slice none 0 0], .int .u16 0, .slice none 0 0], []⟩ 8 (by kernel_rfl) (by kernel_rfl) (by kernel_rfl) (by kernel_rfl)) ?_
  intro W base args ds gs before hval0 hW hcnd hsz0 _
  have hsz : (DataW.weightsEach Try.prog (Try.f7.params.toList ++ Rows.noteCutsSpec.plain.varTypes Try.prog) (ds ++ gs)).all (· ≤ reachBytes) = true := hsz0
  have hval : ∀ (j : Nat) t v, Try.f7.params[j]? = some t → args[j]? = some v → Value.okWide Try.prog W .any base t v := hval0
  clear hsz0 hval0
  have hW' := hW
  have hlt : ∀ x ∈ before, x.block < W.heap.size := fun x hx => hW'.lt x hx
  obtain ⟨p, q, hA0, hV, rfl, hfz, hnd⟩ := hW
  have hA : DataW.TrodAll enc Try.prog W 0 (fun _ => true) true Try.f7.params.toList args.toList ds p := hA0
  clear hA0
  rw [Try.params7] at hA hval hsz
  obtain ⟨rfl, rfl⟩ := trodVars_none hV
  obtain ⟨v0, v1, v2, d0, d1, d2, p0, p1, p2, rfl, rfl, rfl, h0, h1, h2⟩ := trodAll_three hA
  obtain ⟨D, A, c, rfl, hr, hn⟩ := open_note (hval 0 24 v0 rfl rfl) h0 (fun x hx => hlt x (by simp [hx]))
  obtain ⟨z, rfl, rfl, rfl, wz⟩ := open_int Try.underlying41 (hval 1 41 v1 rfl rfl) h1
  have bz := u16_bd wz
  obtain ⟨y, rfl⟩ := Int.eq_ofNat_of_zero_le bz.1
  obtain ⟨A2, len2, cap2, rfl⟩ := okWide_slice Try.underlying22 (hval 2 22 v2 rfl rfl)
  have hw2 : ∀ m ∈ d2.weights Try.prog 22, m ≤ reachBytes := fun m hm => by
    have := List.all_eq_true.1 hsz m (DataW.weights_mem_each (j := 2) (t := 22) (d := d2) rfl rfl m hm)
    simpa using this
  obtain ⟨bs2, rfl, hr2, hc2, hm2, hl2⟩ := open_b Try.underlying22 Try.underlying5 cells5b h2 (fun x hx => hlt x (by simp [hx]))
  have hl2' := hl2 bytes5b hw2
  refine (cuts_walk D A c y bs2 A2 cap2 W hr hn (by omega) hr2 hl2').mono fun e W' ⟨he, hg⟩ => ?_
  subst he
  exact ⟨_, rfl, law_post laidOut reads rfl hW' hg rfl Try.underlying4 rfl⟩

theorem over : Rows.noteCutsRow.holds Try.pinned (OpenSpec.ofChange Rows.noteCutsSpec) :=
  OpenClaim.holds_of_wide 7 Try.f7 rfl rfl rfl rfl rfl rfl rfl ⟨rfl, rfl, rfl, rfl, rfl⟩ rfl rfl rfl rfl rfl (by kernel_rfl) Try.func7 (by kernel_rfl)
    (of_decide_eq_true (by kernel_rfl)) (by unfold Func.isWrapper; first | (rw [if_pos (by decide +kernel)]; kernel_rfl) | (rw [if_neg (by decide +kernel)]; exact ⟨rfl, rfl⟩))
    (fun os started H enc _ => lifted os started H enc)
theorem proved : Rows.NoteCutsSaid :=
  over
end noteCuts
end Go.Proofs.Ytmaemfjepdicfaa
