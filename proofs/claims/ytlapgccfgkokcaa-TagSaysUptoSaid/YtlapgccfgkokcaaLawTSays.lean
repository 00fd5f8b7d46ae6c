/-
  The law TagSays returns true, where what it reads is of bulk at most 1048576: with a key, the standard's own.
  Conditions: the bulk's bound.
-/
import Derived.Test.YtlapgccfgkokcaaSaysW
import Derived.Test.YtlapgccfgkokcaaPartsArg
import Derived.Test.YtlapgccfgkokcaaPost
import Derived.Deep.CondSized
import Derived.JoinedCond
set_option linter.unusedVariables false
namespace Go.Proofs.Ytlapgccfgkokcaa
open Go.ChangeShapes Go.WideShapes Go.ChangeAt Go.RowKit Go.Joins
namespace tagSays
theorem reads : ∀ t ∈ Try.f9.params.toList, Try.prog.readableRec t = true ∧ t < Try.prog.types.size := by
  rw [show Try.f9.params = #[27, 22] from Try.params9]
  intro t ht
  simp only [List.mem_cons, List.not_mem_nil, or_false] at ht
  rcases ht with rfl | rfl <;> exact ⟨by kernel_rfl, of_decide_eq_true (by kernel_rfl)⟩
set_option maxRecDepth 100000 in
theorem lifted (os : Os) (started : os.Started) (H : Type) (enc : TypeId × Value → H) (F : Stop.Interp) :
    ReturnsInHanded {} Try.checked os 9 .any ((Rows.OpenSpec.upto Rows.tagSaysSpec).pre6 enc Try.prog Try.f9 Rows.tagSaysUptoRow.domain false) (((Rows.OpenSpec.upto Rows.tagSaysSpec).at F).post enc Try.prog Try.f9 false true false false) := by
  refine returnsInHanded_of_cond_sized (C := Try.checked) (s := Rows.OpenSpec.upto Rows.tagSaysSpec) (k := Rows.uptoSmall) rfl own started (by kernel_rfl) Try.func9
    (OpenSpec.witness (enc := enc) (C := Try.checked) (s := Rows.OpenSpec.upto Rows.tagSaysSpec) (k := Rows.uptoSmall) rfl false ⟨#[], #[.slice none 0 0, .slice none 0 0], []⟩ 8 (by kernel_rfl) (by kernel_rfl) (by kernel_rfl)
      (x := ([.nil, .nil], [], [])) (by kernel_rfl) rfl (by kernel_rfl)) ?_
  intro W base args ds gs before hval0 hW hcnd hkk hsz0 _
  have hsz : (DataW.weightsEach Try.prog (Try.f9.params.toList ++ Rows.tagSaysSpec.plain.varTypes Try.prog) (ds ++ gs)).all (· ≤ reachBytes) = true := hsz0
  have hval : ∀ (j : Nat) t v, Try.f9.params[j]? = some t → args[j]? = some v → Value.okWide Try.prog W .any base t v := hval0
  clear hsz0 hval0
  have hW1 : DataW.Whole enc Try.prog Try.f9.params.toList Rows.tagSaysSpec.vars false W args.toList ds gs before := hW
  clear hW
  have hW' := hW1
  have hlt : ∀ x ∈ before, x.block < W.heap.size := fun x hx => hW'.lt x hx
  obtain ⟨p, q, hA0, hV, rfl, hfz, hnd⟩ := hW1
  have hA : DataW.TrodAll enc Try.prog W 0 (fun _ => true) true Try.f9.params.toList args.toList ds p := hA0
  clear hA0
  rw [Try.params9] at hA hval hsz
  obtain ⟨rfl, rfl⟩ := trodVars_none hV
  have hbk := upto_bound hkk
  obtain ⟨v0, v1, d0, d1, p0, p1, rfl, rfl, rfl, h0, h1⟩ := trodAll_two hA
  obtain ⟨A0, len0, cap0, rfl⟩ := okWide_slice Try.underlying27 (hval 0 27 v0 rfl rfl)
  have hw0 : ∀ m ∈ d0.weights Try.prog 27, m ≤ reachBytes := fun m hm => by
    have := List.all_eq_true.1 hsz m (DataW.weights_mem_each (j := 0) (t := 27) (d := d0) rfl rfl m hm)
    simpa using this
  obtain ⟨bs0, rfl, hr0, hc0, hm0, hl0⟩ := open_b Try.underlying27 Try.underlying5 cells5b h0 (fun x hx => hlt x (by simp [hx]))
  have hl0' := hl0 bytes5b hw0
  obtain ⟨A1, len1, cap1, rfl⟩ := okWide_slice Try.underlying22 (hval 1 22 v1 rfl rfl)
  obtain ⟨ps1, rfl, hc1, hm1, hP1, hF1⟩ := open_parts Try.underlying22 Try.underlying27 Try.underlying5 cells27b cells5b h1 (fun x hx => hlt x (by simp [hx]))
  have hn1 : ps1.length < 9223372036854775808 := by simp only [maxLen] at hm1; omega
  have hb1 : ps1.flatten.length ≤ 140737488353000 := by
    simp only [List.append_nil, Rows.uptoBulkAll] at hbk
    omega
  refine (tsays_walk bs0 ps1 A0 A1 _ cap0 cap1 W (SlV.of rfl hc0 hr0) (by omega) hP1 hn1 hb1).mono fun e W' ⟨he, hg⟩ => ?_
  subst he
  exact ⟨_, rfl, law_post laidOut reads rfl hW' hg rfl Try.underlying4 rfl⟩

theorem over : Rows.tagSaysUptoRow.holds Try.pinned (Rows.OpenSpec.upto Rows.tagSaysSpec) :=
  OpenClaim.holds_of_cond 9 Try.f9 rfl rfl rfl rfl rfl rfl rfl ⟨rfl, rfl, rfl, rfl, rfl⟩ rfl rfl rfl rfl rfl (by kernel_rfl) Try.func9 (by kernel_rfl)
    (of_decide_eq_true (by kernel_rfl)) (by unfold Func.isWrapper; first | (rw [if_pos (by decide +kernel)]; kernel_rfl) | (rw [if_neg (by decide +kernel)]; exact ⟨rfl, rfl⟩))
    (fun os started H enc _ F => lifted os started H enc F)
theorem proved : Rows.TagSaysUptoSaid :=
  over
end tagSays
end Go.Proofs.Ytlapgccfgkokcaa
