/-
  The law RtcpNack returns true: any numbers: the pairs name them all and no others; each within sixteen is in one pair; twice written, alike.
  Conditions: none.
-/
import Derived.Test.YtkfimncbfbbopaaNackL
import Derived.Test.YtkfimncbfbbopaaPost
set_option linter.unusedVariables false
namespace Go.Proofs.Ytkfimncbfbbopaa
open Go.ChangeShapes Go.WideShapes Go.ChangeAt Go.RowKit Go.Joins
namespace rtcpNack
theorem cells55 : Try.prog.cellsOf 55 = 1 := by kernel_rfl
theorem reads : ∀ t ∈ Try.f5.params.toList, Try.prog.readableRec t = true ∧ t < Try.prog.types.size := by
  rw [show Try.f5.params = #[48] from Try.params5]
  intro t ht
  simp only [List.mem_cons, List.not_mem_nil, or_false] at ht
  subst ht
  exact ⟨by kernel_rfl, of_decide_eq_true (by kernel_rfl)⟩
set_option maxRecDepth 100000 in
theorem lifted (os : Os) (started : os.Started) (H : Type) (enc : TypeId × Value → H) :
    ReturnsInHanded {} Try.checked os 5 .any (Rows.rtcpNackSpec.pre6 enc Try.prog Try.f5 Rows.rtcpNackRow.domain false) (Rows.rtcpNackSpec.post enc Try.prog Try.f5 false true false false) := by
  refine returnsInHanded_of_change_sized (C := Try.checked) own started (by kernel_rfl) Try.func5
    (ChangeSpec.witness6 (enc := enc) (C := Try.checked) false ⟨#[], #[.slice none 0 0], []⟩ 8 (by kernel_rfl) (by kernel_rfl) (by kernel_rfl) (by kernel_rfl)) ?_
  intro W base args ds gs before hval0 hW hcnd hsz0 _
  have hsz : (DataW.weightsEach Try.prog (Try.f5.params.toList ++ Rows.rtcpNackSpec.plain.varTypes Try.prog) (ds ++ gs)).all (· ≤ reachBytes) = true := hsz0
  have hval : ∀ (j : Nat) t v, Try.f5.params[j]? = some t → args[j]? = some v → Value.okWide Try.prog W .any base t v := hval0
  clear hsz0 hval0
  have hW' := hW
  have hlt : ∀ x ∈ before, x.block < W.heap.size := fun x hx => hW'.lt x hx
  obtain ⟨p, q, hA0, hV, rfl, hfz, hnd⟩ := hW
  have hA : DataW.TrodAll enc Try.prog W 0 (fun _ => true) true Try.f5.params.toList args.toList ds p := hA0
  clear hA0
  rw [Try.params5] at hA hval hsz
  obtain ⟨rfl, rfl⟩ := trodVars_none hV
  obtain ⟨v0, d0, rfl, rfl, h0⟩ := trodAll_one hA
  obtain ⟨A, len, cap, rfl⟩ := okWide_slice Try.underlying48 (hval 0 48 v0 rfl rfl)
  obtain ⟨zs, hzl, hlc, hcm, hreads, hwz, hd⟩ := open_row Try.underlying48 Try.underlying55 cells55 h0 (fun x hx => hlt x (by simp [hx]))
  obtain ⟨qs, hql, hqm, hqe⟩ := as_nats (k := .u16) (zs := zs) (fun z hz => (u16_bd (hwz z hz)).1)
  rw [hqm] at hreads
  unfold maxLen at hcm
  have hq : ∀ x ∈ qs, x < 65536 := by
    intro y hy
    have := u16_bd (hwz (y : Int) (by rw [hqe]; exact List.mem_map_of_mem hy))
    omega
  refine (nackLaw_c qs A len cap W hreads hq (by omega)).mono fun e W' ⟨he, hg⟩ => ?_
  subst he
  exact ⟨_, rfl, law_post laidOut reads rfl hW' hg rfl Try.underlying4 rfl⟩

theorem over : Rows.rtcpNackRow.holds Try.pinned (OpenSpec.ofChange Rows.rtcpNackSpec) :=
  OpenClaim.holds_of_wide 5 Try.f5 rfl rfl rfl rfl rfl rfl rfl ⟨rfl, rfl, rfl, rfl, rfl⟩ rfl rfl rfl rfl rfl (by kernel_rfl) Try.func5 (by kernel_rfl)
    (of_decide_eq_true (by kernel_rfl)) (by unfold Func.isWrapper; first | (rw [if_pos (by decide +kernel)]; kernel_rfl) | (rw [if_neg (by decide +kernel)]; exact ⟨rfl, rfl⟩))
    (fun os started H enc _ => lifted os started H enc)
theorem proved : Rows.RtcpNackSaid :=
  over
end rtcpNack
end Go.Proofs.Ytkfimncbfbbopaa
