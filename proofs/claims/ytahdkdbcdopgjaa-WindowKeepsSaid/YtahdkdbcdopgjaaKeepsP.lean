/-
  The law WindowKeeps returns true: what did not come, and is less than sixty-four below the greatest, may come; all that is farther below may not.
  Conditions: none.
-/
import Derived.Test.YtahdkdbcdopgjaaKeeps
import Derived.Test.YtahdkdbcdopgjaaPost
set_option linter.unusedVariables false
namespace Go.Proofs.Ytahdkdbcdopgjaa
open Go.ChangeShapes Go.WideShapes Go.ChangeAt Go.RowKit Go.Joins
theorem Try.cells23 : Try.prog.cellsOf 23 = 1 := by kernel_rfl
theorem Try.bytes23 : Try.prog.bytesOf 23 = 8 := by kernel_rfl
namespace windowKeeps
theorem reads : ∀ t ∈ Try.f6.params.toList, Try.prog.readableRec t = true ∧ t < Try.prog.types.size := by
  rw [show Try.f6.params = #[37, 23] from Try.params6]
  intro t ht
  simp only [List.mem_cons, List.not_mem_nil, or_false] at ht
  rcases ht with rfl | rfl <;> exact ⟨by kernel_rfl, of_decide_eq_true (by kernel_rfl)⟩
set_option maxRecDepth 100000 in
theorem lifted (os : Os) (started : os.Started) (H : Type) (enc : TypeId × Value → H) :
    ReturnsInHanded {} Try.checked os 6 .any (Rows.windowKeepsSpec.pre6 enc Try.prog Try.f6 Rows.windowKeepsRow.domain false) (Rows.windowKeepsSpec.post enc Try.prog Try.f6 false true false false) := by
  refine returnsInHanded_of_change_sized (C := Try.checked) own started (by kernel_rfl) Try.func6
    (ChangeSpec.witness6 (enc := enc) (C := Try.checked) false ⟨#[], #[.slice none 0 0, .int .u64 0], []⟩ 8 (by kernel_rfl) (by kernel_rfl) (by kernel_rfl) (by kernel_rfl)) ?_
  intro W base args ds gs before hval0 hW hcnd hsz0 _
  have hsz : (DataW.weightsEach Try.prog (Try.f6.params.toList ++ Rows.windowKeepsSpec.plain.varTypes Try.prog) (ds ++ gs)).all (· ≤ reachBytes) = true := hsz0
  have hval : ∀ (j : Nat) t v, Try.f6.params[j]? = some t → args[j]? = some v → Value.okWide Try.prog W .any base t v := hval0
  clear hsz0 hval0
  have hW' := hW
  have hlt : ∀ x ∈ before, x.block < W.heap.size := fun x hx => hW'.lt x hx
  obtain ⟨p, q, hA0, hV, rfl, hfz, hnd⟩ := hW
  have hA : DataW.TrodAll enc Try.prog W 0 (fun _ => true) true Try.f6.params.toList args.toList ds p := hA0
  clear hA0
  rw [Try.params6] at hA hval hsz
  obtain ⟨rfl, rfl⟩ := trodVars_none hV
  obtain ⟨v0, v1, d0, d1, p0, p1, rfl, rfl, rfl, h0, h1⟩ := trodAll_two hA
  obtain ⟨n, rfl, rfl, rfl, wn⟩ := open_int Try.underlying23 (hval 1 23 v1 rfl rfl) h1
  have bn := u64_bd wn
  obtain ⟨n, rfl⟩ := Int.eq_ofNat_of_zero_le bn.1
  obtain ⟨A, len, cap, rfl⟩ := okWide_slice Try.underlying37 (hval 0 37 v0 rfl rfl)
  obtain ⟨zs, hzl, hlc, hcm, hreads, hwz, hd⟩ := open_row Try.underlying37 Try.underlying23 Try.cells23 h0 (fun x hx => hlt x (by simp [hx]))
  have hreach : len ≤ 140737488351232 := by
    rcases hd with ⟨_, h, _⟩ | ⟨rest, rfl, hr⟩
    · omega
    · have := sized_slice hsz (j := 0) (t := 37) (e := 23) rfl rfl Try.underlying37
      rw [Try.bytes23] at this
      simp only [lits, List.length_map, reachBytes] at this
      omega
  obtain ⟨l, hll, hlm, hle⟩ := as_nats (k := .u64) (zs := zs) (fun z hz => (u64_bd (hwz z hz)).1)
  rw [hlm] at hreads
  have hlb : ∀ y ∈ l, y < 18446744073709551616 := by
    intro y hy
    have := u64_bd (hwz (y : Int) (by rw [hle]; exact List.mem_map_of_mem hy))
    omega
  refine (keeps_walk A len cap n l W (by omega) hreads (by omega) hlb hreach).mono fun e W' ⟨he, hg⟩ => ?_
  subst he
  exact ⟨_, rfl, law_post laidOut reads rfl hW' hg rfl Try.underlying4 rfl⟩

theorem over : Rows.windowKeepsRow.holds Try.pinned (OpenSpec.ofChange Rows.windowKeepsSpec) :=
  OpenClaim.holds_of_wide 6 Try.f6 rfl rfl rfl rfl rfl rfl rfl ⟨rfl, rfl, rfl, rfl, rfl⟩ rfl rfl rfl rfl rfl (by kernel_rfl) Try.func6 (by kernel_rfl)
    (of_decide_eq_true (by kernel_rfl)) (by unfold Func.isWrapper; first | (rw [if_pos (by decide +kernel)]; kernel_rfl) | (rw [if_neg (by decide +kernel)]; exact ⟨rfl, rfl⟩))
    (fun os started H enc _ => lifted os started H enc)
theorem proved : Rows.WindowKeepsSaid :=
  over
end windowKeeps
end Go.Proofs.Ytahdkdbcdopgjaa
