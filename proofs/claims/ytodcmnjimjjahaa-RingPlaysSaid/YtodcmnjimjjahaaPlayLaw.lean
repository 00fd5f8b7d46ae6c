/- The plain law behind RingPlays: with distinct numbers the program's ring and the reference's ring keep the same. No program in sight. -/
import Derived.Test.YtodcmnjimjjahaaRefAdd
set_option linter.unusedVariables false
namespace Go.Proofs.Ytodcmnjimjjahaa

/-- The reference's list by its keys. -/
def refK (ks : List Key) (e : Key) : List Key :=
  let l := ks.filter (fun x => x.1 != e.1) ++ [e]
  if 64 < l.length then l.drop 1 else l
theorem ref_key (es : List Ent) (s : Nat) (v : Value) (bs : List UInt8) : (cutR (kept es s es.length ++ [⟨s, v, bs⟩])).map Ent.key = refK (es.map Ent.key) (s, bs) := by
  have h : (kept es s es.length ++ [(⟨s, v, bs⟩ : Ent)]).map Ent.key = (es.map Ent.key).filter (fun x => x.1 != s) ++ [(s, bs)] := by
    rw [List.map_append, kept, List.take_length, List.filter_map]; rfl
  have hl : (kept es s es.length ++ [(⟨s, v, bs⟩ : Ent)]).length = ((es.map Ent.key).filter (fun x => x.1 != s) ++ [(s, bs)]).length := by rw [← h, List.length_map]
  simp only [cutR, refK]
  rw [hl]
  split
  · rw [List.map_drop, h]
  · exact h
theorem out_filter : ∀ (ks : List Key) (q : Nat), (ks.map (·.1)).Nodup → outK ks q = ks.filter fun x => x.1 != q
  | [], q, _ => rfl
  | e :: ks, q, h => by
    rw [List.map_cons, List.nodup_cons] at h
    have ih := out_filter ks q h.2
    by_cases he : e.1 = q
    · have hno : ∀ x ∈ ks, x.1 ≠ q := fun x hx hq => h.1 (by rw [he, ← hq]; exact List.mem_map_of_mem hx)
      have hf : ks.filter (fun x => x.1 != q) = ks := List.filter_eq_self.2 fun x hx => by simpa using hno x hx
      simp [outK, idxK, he, hf]
    · simp only [outK, idxK, he, if_false, List.length_cons] at ih ⊢
      rw [List.filter_cons_of_pos (by simpa using he), ← ih]
      by_cases hl : idxK ks q < ks.length
      · rw [if_pos (by omega), if_pos hl]; rfl
      · rw [if_neg (by omega), if_neg hl]
theorem add_ref (ks : List Key) (e : Key) (h : (ks.map (·.1)).Nodup) : addK ks e = refK ks e := by
  simp only [addK, cutK, refK, out_filter ks e.1 h]
  split
  · rw [List.eraseIdx_zero, List.drop_one]
  · rfl
theorem ref_nodup (ks : List Key) (e : Key) (h : (ks.map (·.1)).Nodup) : ((refK ks e).map (·.1)).Nodup := by
  have h1 : ((ks.filter (fun x => x.1 != e.1) ++ [e]).map (·.1)).Nodup := by
    rw [List.map_append, List.nodup_append]
    refine ⟨(List.filter_sublist.map _).nodup h, by simp, ?_⟩
    intro a ha b hb
    obtain ⟨x, hx, rfl⟩ := List.mem_map.1 ha
    have := (List.mem_filter.1 hx).2
    simp at hb this
    rw [hb]; exact this
  simp only [refK]
  split
  · exact ((List.drop_sublist _ _).map _).nodup h1
  · exact h1
end Go.Proofs.Ytodcmnjimjjahaa
