/-
  The law DigestStreams returns true, where what it reads is of bulk at most 1048576: bytes that are added part by part have the digest of all that was added, behind each part.
  Conditions: the bulk's bound.
-/
import Derived.Test.YtlapgccfgkokcaaStreamsW
import Derived.Test.YtlapgccfgkokcaaPartsArg
import Derived.Test.YtlapgccfgkokcaaPost
import Derived.Deep.CondSized
import Derived.JoinedCond
set_option linter.unusedVariables false
namespace Go.Proofs.Ytlapgccfgkokcaa
open Go.ChangeShapes Go.WideShapes Go.ChangeAt Go.RowKit Go.Joins
namespace digestStreams
theorem reads : ∀ t ∈ Try.f4.params.toList, Try.prog.readableRec t = true ∧ t < Try.prog.types.size := by
  rw [show Try.f4.params = #[22] from Try.params4]
  intro t ht
  simp only [List.mem_cons, List.not_mem_nil, or_false] at ht
  subst ht
  exact ⟨by kernel_rfl, of_decide_eq_true (by kernel_rfl)⟩
set_option maxRecDepth 100000 in
theorem lifted (os : Os) (started : os.Started) (H : Type) (enc : TypeId × Value → H) (F : Stop.Interp) :
    ReturnsInHanded {} Try.checked os 4 .any ((Rows.OpenSpec.upto Rows.digestStreamsSpec).pre6 enc Try.prog Try.f4 Rows.digestStreamsUptoRow.domain false) (((Rows.OpenSpec.upto Rows.digestStreamsSpec).at F).post enc Try.prog Try.f4 false true false false) := by
  refine returnsInHanded_of_cond_sized (C := Try.checked) (s := Rows.OpenSpec.upto Rows.digestStreamsSpec) (k := Rows.uptoSmall) rfl own started (by kernel_rfl) Try.func4
    (OpenSpec.witness (enc := enc) (C := Try.checked) (s := Rows.OpenSpec.upto Rows.digestStreamsSpec) (k := Rows.uptoSmall) rfl false ⟨#[], #[.slice none 0 0], []⟩ 8 (by kernel_rfl) (by kernel_rfl) (by kernel_rfl)
      (x := ([.nil], [], [])) (by kernel_rfl) rfl (by kernel_rfl)) ?_
  intro W base args ds gs before hval0 hW hcnd hkk hsz0 _
  have hsz : (DataW.weightsEach Try.prog (Try.f4.params.toList ++ Rows.digestStreamsSpec.plain.varTypes Try.prog) (ds ++ gs)).all (· ≤ reachBytes) = true := hsz0
  have hval : ∀ (j : Nat) t v, Try.f4.params[j]? = some t → args[j]? = some v → Value.okWide Try.prog W .any base t v := hval0
  clear hsz0 hval0
  have hW1 : DataW.Whole enc Try.prog Try.f4.params.toList Rows.digestStreamsSpec.vars false W args.toList ds gs before := hW
  clear hW
  have hW' := hW1
  have hlt : ∀ x ∈ before, x.block < W.heap.size := fun x hx => hW'.lt x hx
  obtain ⟨p, q, hA0, hV, rfl, hfz, hnd⟩ := hW1
  have hA : DataW.TrodAll enc Try.prog W 0 (fun _ => true) true Try.f4.params.toList args.toList ds p := hA0
  clear hA0
  rw [Try.params4] at hA hval hsz
  obtain ⟨rfl, rfl⟩ := trodVars_none hV
  have hbk := upto_bound hkk
  obtain ⟨v0, d0, rfl, rfl, h0⟩ := trodAll_one hA
  obtain ⟨A0, len0, cap0, rfl⟩ := okWide_slice Try.underlying22 (hval 0 22 v0 rfl rfl)
  obtain ⟨ps0, rfl, hc0, hm0, hP0, hF0⟩ := open_parts Try.underlying22 Try.underlying27 Try.underlying5 cells27b cells5b h0 (fun x hx => hlt x (by simp [hx]))
  have hn0 : ps0.length < 9223372036854775808 := by simp only [maxLen] at hm0; omega
  have hb0 : ps0.flatten.length ≤ 140737488353000 := by
    simp only [List.append_nil, Rows.uptoBulkAll] at hbk
    omega
  refine (streams_walk ps0 A0 cap0 W hP0 hn0 hb0).mono fun e W' ⟨he, hg⟩ => ?_
  subst he
  exact ⟨_, rfl, law_post laidOut reads rfl hW' hg rfl Try.underlying4 rfl⟩

theorem over : Rows.digestStreamsUptoRow.holds Try.pinned (Rows.OpenSpec.upto Rows.digestStreamsSpec) :=
  OpenClaim.holds_of_cond 4 Try.f4 rfl rfl rfl rfl rfl rfl rfl ⟨rfl, rfl, rfl, rfl, rfl⟩ rfl rfl rfl rfl rfl (by kernel_rfl) Try.func4 (by kernel_rfl)
    (of_decide_eq_true (by kernel_rfl)) (by unfold Func.isWrapper; first | (rw [if_pos (by decide +kernel)]; kernel_rfl) | (rw [if_neg (by decide +kernel)]; exact ⟨rfl, rfl⟩))
    (fun os started H enc _ F => lifted os started H enc F)
theorem proved : Rows.DigestStreamsUptoSaid :=
  over
end digestStreams
end Go.Proofs.Ytlapgccfgkokcaa
