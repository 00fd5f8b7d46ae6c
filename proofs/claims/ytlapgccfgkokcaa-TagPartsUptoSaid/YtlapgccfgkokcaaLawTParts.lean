/-
  The law TagParts returns true, where what it reads is of bulk at most 1048576: however what is tagged is parted, it is the same.
  Conditions: the bulk's bound.
-/
import Derived.Test.YtlapgccfgkokcaaTPartsW
import Derived.Test.YtlapgccfgkokcaaBulkArg
import Derived.Test.YtlapgccfgkokcaaPost
import Derived.Deep.CondSized
import Derived.JoinedCond
set_option linter.unusedVariables false
namespace Go.Proofs.Ytlapgccfgkokcaa
open Go.ChangeShapes Go.WideShapes Go.ChangeAt Go.RowKit Go.Joins
namespace tagParts
theorem reads : ∀ t ∈ Try.f12.params.toList, Try.prog.readableRec t = true ∧ t < Try.prog.types.size := by
  rw [show Try.f12.params = #[27, 27, 27, 27] from Try.params12]
  intro t ht
  simp only [List.mem_cons, List.not_mem_nil, or_false] at ht
  rcases ht with rfl | rfl | rfl | rfl <;> exact ⟨by kernel_rfl, of_decide_eq_true (by kernel_rfl)⟩
set_option maxRecDepth 100000 in
theorem lifted (os : Os) (started : os.Started) (H : Type) (enc : TypeId × Value → H) (F : Stop.Interp) :
    ReturnsInHanded {} Try.checked os 12 .any ((Rows.OpenSpec.upto Rows.tagPartsSpec).pre6 enc Try.prog Try.f12 Rows.tagPartsUptoRow.domain false) (((Rows.OpenSpec.upto Rows.tagPartsSpec).at F).post enc Try.prog Try.f12 false true false false) := by
  refine returnsInHanded_of_cond_sized (C := Try.checked) (s := Rows.OpenSpec.upto Rows.tagPartsSpec) (k := Rows.uptoSmall) rfl own started (by kernel_rfl) Try.func12
    (OpenSpec.witness (enc := enc) (C := Try.checked) (s := Rows.OpenSpec.upto Rows.tagPartsSpec) (k := Rows.uptoSmall) rfl false ⟨#[], #[.slice none 0 0, .slice none 0 0, .slice none 0 0, .slice none 0 0], []⟩ 8 (by kernel_rfl) (by kernel_rfl) (by kernel_rfl)
      (x := ([.nil, .nil, .nil, .nil], [], [])) (by kernel_rfl) rfl (by kernel_rfl)) ?_
  intro W base args ds gs before hval0 hW hcnd hkk hsz0 _
  have hsz : (DataW.weightsEach Try.prog (Try.f12.params.toList ++ Rows.tagPartsSpec.plain.varTypes Try.prog) (ds ++ gs)).all (· ≤ reachBytes) = true := hsz0
  have hval : ∀ (j : Nat) t v, Try.f12.params[j]? = some t → args[j]? = some v → Value.okWide Try.prog W .any base t v := hval0
  clear hsz0 hval0
  have hW1 : DataW.Whole enc Try.prog Try.f12.params.toList Rows.tagPartsSpec.vars false W args.toList ds gs before := hW
  clear hW
  have hW' := hW1
  have hlt : ∀ x ∈ before, x.block < W.heap.size := fun x hx => hW'.lt x hx
  obtain ⟨p, q, hA0, hV, rfl, hfz, hnd⟩ := hW1
  have hA : DataW.TrodAll enc Try.prog W 0 (fun _ => true) true Try.f12.params.toList args.toList ds p := hA0
  clear hA0
  rw [Try.params12] at hA hval hsz
  obtain ⟨rfl, rfl⟩ := trodVars_none hV
  have hbk := upto_bound hkk
  obtain ⟨v0, v1, v2, v3, d0, d1, d2, d3, p0, p1, p2, p3, rfl, rfl, rfl, h0, h1, h2, h3⟩ := trodAll_four hA
  obtain ⟨A0, len0, cap0, rfl⟩ := okWide_slice Try.underlying27 (hval 0 27 v0 rfl rfl)
  have hu0 := open_bu Try.underlying27 Try.underlying5 cells5b h0 (fun x hx => hlt x (by simp [hx]))
  obtain ⟨bs0, rfl, hr0, hc0, hm0, _⟩ := open_b Try.underlying27 Try.underlying5 cells5b h0 (fun x hx => hlt x (by simp [hx]))
  obtain ⟨A1, len1, cap1, rfl⟩ := okWide_slice Try.underlying27 (hval 1 27 v1 rfl rfl)
  have hu1 := open_bu Try.underlying27 Try.underlying5 cells5b h1 (fun x hx => hlt x (by simp [hx]))
  obtain ⟨bs1, rfl, hr1, hc1, hm1, _⟩ := open_b Try.underlying27 Try.underlying5 cells5b h1 (fun x hx => hlt x (by simp [hx]))
  obtain ⟨A2, len2, cap2, rfl⟩ := okWide_slice Try.underlying27 (hval 2 27 v2 rfl rfl)
  have hu2 := open_bu Try.underlying27 Try.underlying5 cells5b h2 (fun x hx => hlt x (by simp [hx]))
  obtain ⟨bs2, rfl, hr2, hc2, hm2, _⟩ := open_b Try.underlying27 Try.underlying5 cells5b h2 (fun x hx => hlt x (by simp [hx]))
  obtain ⟨A3, len3, cap3, rfl⟩ := okWide_slice Try.underlying27 (hval 3 27 v3 rfl rfl)
  have hu3 := open_bu Try.underlying27 Try.underlying5 cells5b h3 (fun x hx => hlt x (by simp [hx]))
  obtain ⟨bs3, rfl, hr3, hc3, hm3, _⟩ := open_b Try.underlying27 Try.underlying5 cells5b h3 (fun x hx => hlt x (by simp [hx]))
  have hb : bs1.length + bs2.length + bs3.length ≤ 140737488353000 := by
    simp only [List.append_nil, Rows.uptoBulkAll] at hbk
    omega
  refine (tparts_walk bs0 bs1 bs2 bs3 A0 A1 A2 A3 _ _ _ _ cap0 cap1 cap2 cap3 W (SlV.of rfl hc0 hr0) (SlV.of rfl hc1 hr1) (SlV.of rfl hc2 hr2) (SlV.of rfl hc3 hr3) hb).mono fun e W' ⟨he, hg⟩ => ?_
  subst he
  exact ⟨_, rfl, law_post laidOut reads rfl hW' hg rfl Try.underlying4 rfl⟩

theorem over : Rows.tagPartsUptoRow.holds Try.pinned (Rows.OpenSpec.upto Rows.tagPartsSpec) :=
  OpenClaim.holds_of_cond 12 Try.f12 rfl rfl rfl rfl rfl rfl rfl ⟨rfl, rfl, rfl, rfl, rfl⟩ rfl rfl rfl rfl rfl (by kernel_rfl) Try.func12 (by kernel_rfl)
    (of_decide_eq_true (by kernel_rfl)) (by unfold Func.isWrapper; first | (rw [if_pos (by decide +kernel)]; kernel_rfl) | (rw [if_neg (by decide +kernel)]; exact ⟨rfl, rfl⟩))
    (fun os started H enc _ F => lifted os started H enc F)
theorem proved : Rows.TagPartsUptoSaid :=
  over
end tagParts
end Go.Proofs.Ytlapgccfgkokcaa
