/-
  The law RatchetParts returns true: so many steps, and so many more, are both together.
  Conditions: none.
-/
import Derived.Test.YtlapgccfgkokcaaRPartsW
import Derived.Test.YtlapgccfgkokcaaArgs
import Derived.Test.YtlapgccfgkokcaaPost
set_option linter.unusedVariables false
namespace Go.Proofs.Ytlapgccfgkokcaa
open Go.ChangeShapes Go.WideShapes Go.ChangeAt Go.RowKit Go.Joins
namespace ratchetParts
theorem u8_bd {x : Int} (wx : (Lit.int .u8 x).wf = true) : 0 ≤ x ∧ x ≤ 255 := by simpa [Lit.wf, IntKind.min, IntKind.max, IntKind.signed, IntKind.bits] using wx
theorem reads : ∀ t ∈ Try.f18.params.toList, Try.prog.readableRec t = true ∧ t < Try.prog.types.size := by
  rw [show Try.f18.params = #[27, 5, 5] from Try.params18]
  intro t ht
  simp only [List.mem_cons, List.not_mem_nil, or_false] at ht
  rcases ht with rfl | rfl | rfl <;> exact ⟨by kernel_rfl, of_decide_eq_true (by kernel_rfl)⟩
set_option maxRecDepth 100000 in
theorem lifted (os : Os) (started : os.Started) (H : Type) (enc : TypeId × Value → H) :
    ReturnsInHanded {} Try.checked os 18 .any (Rows.ratchetPartsSpec.pre6 enc Try.prog Try.f18 Rows.ratchetPartsRow.domain false) (Rows.ratchetPartsSpec.post enc Try.prog Try.f18 false true false false) := by
  refine returnsInHanded_of_change_sized (C := Try.checked) own started (by kernel_rfl) Try.func18
    (ChangeSpec.witness6 (enc := enc) (C := Try.checked) false ⟨#[], #[.slice none 0 0, .int .u8 0, .int .u8 0], []⟩ 8 (by kernel_rfl) (by kernel_rfl) (by kernel_rfl) (by kernel_rfl)) ?_
  intro W base args ds gs before hval0 hW hcnd hsz0 _
  have hsz : (DataW.weightsEach Try.prog (Try.f18.params.toList ++ Rows.ratchetPartsSpec.plain.varTypes Try.prog) (ds ++ gs)).all (· ≤ reachBytes) = true := hsz0
  have hval : ∀ (j : Nat) t v, Try.f18.params[j]? = some t → args[j]? = some v → Value.okWide Try.prog W .any base t v := hval0
  clear hsz0 hval0
  have hW' := hW
  have hlt : ∀ x ∈ before, x.block < W.heap.size := fun x hx => hW'.lt x hx
  obtain ⟨p, q, hA0, hV, rfl, hfz, hnd⟩ := hW
  have hA : DataW.TrodAll enc Try.prog W 0 (fun _ => true) true Try.f18.params.toList args.toList ds p := hA0
  clear hA0
  rw [Try.params18] at hA hval hsz
  obtain ⟨rfl, rfl⟩ := trodVars_none hV
  obtain ⟨v0, v1, v2, d0, d1, d2, p0, p1, p2, rfl, rfl, rfl, h0, h1, h2⟩ := trodAll_three hA
  obtain ⟨A0, len0, cap0, rfl⟩ := okWide_slice Try.underlying27 (hval 0 27 v0 rfl rfl)
  have hw0 : ∀ m ∈ d0.weights Try.prog 27, m ≤ reachBytes := fun m hm => by
    have := List.all_eq_true.1 hsz m (DataW.weights_mem_each (j := 0) (t := 27) (d := d0) rfl rfl m hm)
    simpa using this
  obtain ⟨bs0, rfl, hr0, hc0, hm0, hl0⟩ := open_b Try.underlying27 Try.underlying5 cells5b h0 (fun x hx => hlt x (by simp [hx]))
  have hl0' := hl0 bytes5b hw0
  obtain ⟨z1, rfl, rfl, rfl, wz1⟩ := open_int Try.underlying5 (hval 1 5 v1 rfl rfl) h1
  have bz1 := u8_bd wz1
  obtain ⟨n1, rfl⟩ : ∃ n : Nat, z1 = (n : Int) := ⟨z1.toNat, by omega⟩
  obtain ⟨z2, rfl, rfl, rfl, wz2⟩ := open_int Try.underlying5 (hval 2 5 v2 rfl rfl) h2
  have bz2 := u8_bd wz2
  obtain ⟨n2, rfl⟩ : ∃ n : Nat, z2 = (n : Int) := ⟨z2.toNat, by omega⟩
  refine (rparts_walk bs0 A0 _ cap0 n1 n2 W (SlV.of rfl hc0 hr0) (by omega) (by omega) (by omega)).mono fun e W' ⟨he, hg⟩ => ?_
  subst he
  exact ⟨_, rfl, law_post laidOut reads rfl hW' hg rfl Try.underlying4 rfl⟩

theorem over : Rows.ratchetPartsRow.holds Try.pinned (OpenSpec.ofChange Rows.ratchetPartsSpec) :=
  OpenClaim.holds_of_wide 18 Try.f18 rfl rfl rfl rfl rfl rfl rfl ⟨rfl, rfl, rfl, rfl, rfl⟩ rfl rfl rfl rfl rfl (by kernel_rfl) Try.func18 (by kernel_rfl)
    (of_decide_eq_true (by kernel_rfl)) (by unfold Func.isWrapper; first | (rw [if_pos (by decide +kernel)]; kernel_rfl) | (rw [if_neg (by decide +kernel)]; exact ⟨rfl, rfl⟩))
    (fun os started H enc _ => lifted os started H enc)
theorem proved : Rows.RatchetPartsSaid :=
  over
end ratchetParts
end Go.Proofs.Ytlapgccfgkokcaa
