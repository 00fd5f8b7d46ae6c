/-
  The law KdfSays returns true: any salt, key, info, length: as the standard has it, or its error.
  Conditions: none.
-/
import Derived.Test.YtlapgccfgkokcaaKSaysW
import Derived.Test.YtlapgccfgkokcaaArgs
import Derived.Test.YtlapgccfgkokcaaPost
set_option linter.unusedVariables false
namespace Go.Proofs.Ytlapgccfgkokcaa
open Go.ChangeShapes Go.WideShapes Go.ChangeAt Go.RowKit Go.Joins
namespace kdfSays
theorem i64_bd {x : Int} (wx : (Lit.int .i64 x).wf = true) : -9223372036854775808 ≤ x ∧ x ≤ 9223372036854775807 := by simpa [Lit.wf, IntKind.min, IntKind.max, IntKind.signed, IntKind.bits] using wx
theorem reads : ∀ t ∈ Try.f14.params.toList, Try.prog.readableRec t = true ∧ t < Try.prog.types.size := by
  rw [show Try.f14.params = #[27, 27, 27, 3] from Try.params14]
  intro t ht
  simp only [List.mem_cons, List.not_mem_nil, or_false] at ht
  rcases ht with rfl | rfl | rfl | rfl <;> exact ⟨by kernel_rfl, of_decide_eq_true (by kernel_rfl)⟩
set_option maxRecDepth 100000 in
theorem lifted (os : Os) (started : os.Started) (H : Type) (enc : TypeId × Value → H) :
    ReturnsInHanded {} Try.checked os 14 .any (Rows.kdfSaysSpec.pre6 enc Try.prog Try.f14 Rows.kdfSaysRow.domain false) (Rows.kdfSaysSpec.post enc Try.prog Try.f14 false true false false) := by
  refine returnsInHanded_of_change_sized (C := Try.checked) own started (by kernel_rfl) Try.func14
    (ChangeSpec.witness6 (enc := enc) (C := Try.checked) false ⟨#[], #[.slice none 0 0, .slice none 0 0, .slice none 0 0, .int .i64 0], []⟩ 8 (by kernel_rfl) (by kernel_rfl) (by kernel_rfl) (by kernel_rfl)) ?_
  intro W base args ds gs before hval0 hW hcnd hsz0 _
  have hsz : (DataW.weightsEach Try.prog (Try.f14.params.toList ++ Rows.kdfSaysSpec.plain.varTypes Try.prog) (ds ++ gs)).all (· ≤ reachBytes) = true := hsz0
  have hval : ∀ (j : Nat) t v, Try.f14.params[j]? = some t → args[j]? = some v → Value.okWide Try.prog W .any base t v := hval0
  clear hsz0 hval0
  have hW' := hW
  have hlt : ∀ x ∈ before, x.block < W.heap.size := fun x hx => hW'.lt x hx
  obtain ⟨p, q, hA0, hV, rfl, hfz, hnd⟩ := hW
  have hA : DataW.TrodAll enc Try.prog W 0 (fun _ => true) true Try.f14.params.toList args.toList ds p := hA0
  clear hA0
  rw [Try.params14] at hA hval hsz
  obtain ⟨rfl, rfl⟩ := trodVars_none hV
  obtain ⟨v0, v1, v2, v3, d0, d1, d2, d3, p0, p1, p2, p3, rfl, rfl, rfl, h0, h1, h2, h3⟩ := trodAll_four hA
  obtain ⟨A0, len0, cap0, rfl⟩ := okWide_slice Try.underlying27 (hval 0 27 v0 rfl rfl)
  have hw0 : ∀ m ∈ d0.weights Try.prog 27, m ≤ reachBytes := fun m hm => by
    have := List.all_eq_true.1 hsz m (DataW.weights_mem_each (j := 0) (t := 27) (d := d0) rfl rfl m hm)
    simpa using this
  obtain ⟨bs0, rfl, hr0, hc0, hm0, hl0⟩ := open_b Try.underlying27 Try.underlying5 cells5b h0 (fun x hx => hlt x (by simp [hx]))
  have hl0' := hl0 bytes5b hw0
  obtain ⟨A1, len1, cap1, rfl⟩ := okWide_slice Try.underlying27 (hval 1 27 v1 rfl rfl)
  have hw1 : ∀ m ∈ d1.weights Try.prog 27, m ≤ reachBytes := fun m hm => by
    have := List.all_eq_true.1 hsz m (DataW.weights_mem_each (j := 1) (t := 27) (d := d1) rfl rfl m hm)
    simpa using this
  obtain ⟨bs1, rfl, hr1, hc1, hm1, hl1⟩ := open_b Try.underlying27 Try.underlying5 cells5b h1 (fun x hx => hlt x (by simp [hx]))
  have hl1' := hl1 bytes5b hw1
  obtain ⟨A2, len2, cap2, rfl⟩ := okWide_slice Try.underlying27 (hval 2 27 v2 rfl rfl)
  have hw2 : ∀ m ∈ d2.weights Try.prog 27, m ≤ reachBytes := fun m hm => by
    have := List.all_eq_true.1 hsz m (DataW.weights_mem_each (j := 2) (t := 27) (d := d2) rfl rfl m hm)
    simpa using this
  obtain ⟨bs2, rfl, hr2, hc2, hm2, hl2⟩ := open_b Try.underlying27 Try.underlying5 cells5b h2 (fun x hx => hlt x (by simp [hx]))
  have hl2' := hl2 bytes5b hw2
  obtain ⟨z3, rfl, rfl, rfl, wz3⟩ := open_int Try.underlying3 (hval 3 3 v3 rfl rfl) h3
  have bz3 := i64_bd wz3
  refine (ksays_walk bs0 bs1 bs2 A0 A1 A2 _ _ _ cap0 cap1 cap2 z3 W (SlV.of rfl hc0 hr0) (SlV.of rfl hc1 hr1) (SlV.of rfl hc2 hr2) (by omega) (by omega) (by omega)).mono fun e W' ⟨he, hg⟩ => ?_
  subst he
  exact ⟨_, rfl, law_post laidOut reads rfl hW' hg rfl Try.underlying4 rfl⟩

theorem over : Rows.kdfSaysRow.holds Try.pinned (OpenSpec.ofChange Rows.kdfSaysSpec) :=
  OpenClaim.holds_of_wide 14 Try.f14 rfl rfl rfl rfl rfl rfl rfl ⟨rfl, rfl, rfl, rfl, rfl⟩ rfl rfl rfl rfl rfl (by kernel_rfl) Try.func14 (by kernel_rfl)
    (of_decide_eq_true (by kernel_rfl)) (by unfold Func.isWrapper; first | (rw [if_pos (by decide +kernel)]; kernel_rfl) | (rw [if_neg (by decide +kernel)]; exact ⟨rfl, rfl⟩))
    (fun os started H enc _ => lifted os started H enc)
theorem proved : Rows.KdfSaysSaid :=
  over
end kdfSays
end Go.Proofs.Ytlapgccfgkokcaa
