/- Both rings over plain lists, and what any packets leave. Conditions: as the contracts say. -/
import Derived.Test.YtodcmnjimjjahaaPlayLaw
set_option linter.unusedVariables false
namespace Go.Proofs.Ytodcmnjimjjahaa
open Go.RowKit

def RefK (w : World) (B r : Nat) (ks : List Key) : Prop := ∃ es, RefIs w B r es ∧ es.map Ent.key = ks
theorem RefK.fr {T : TypeId → Bool} {w w' : World} {B r : Nat} {ks : List Key} (h : RefK w B r ks) (hf : Fr B T w w') (h5 : T 5 = false) (h26 : T 26 = false) (h27 : T 27 = false) (h36 : T 36 = false) : RefK w' B r ks :=
  h.imp fun _ h => ⟨h.1.fr hf h5 h26 h27 h36, h.2⟩
theorem RefK.below {w w' : World} {B r : Nat} {ks : List Key} (h : RefK w B r ks) (hb : Below w.heap.size w w') : RefK w' B r ks := h.imp fun _ h => ⟨h.1.below hb, h.2⟩
theorem RefK.new (w : World) (B : Nat) (hB : B ≤ w.heap.size) : RefK (w.alloc (.cells #[.slice none 0 0, .slice none 0 0] 36)) B w.heap.size [] :=
  ⟨[], ⟨_, _, Blk.new _ _ _, hB, RowV.nil _ _ _, RowV.nil _ _ _, by simp⟩, rfl⟩
theorem reddK_c {r s B : Nat} {ks : List Key} {bs : List UInt8} {v : Value} {w : World} (h : RefK w B r ks) (hv : BytesV 5 B w v bs) (hbs : bs.length ≤ 140737488355328) (hl : ks.length ≤ 64) :
    Calls Try.prog 12 #[.pointer (some ⟨r, 0, none⟩), .int .u16 s, v] w fun e w' => e = .returned (.tuple #[]) ∧ RefK w' B r (refK ks (s, bs)) ∧ Fr B (fun t => t == 36) w w' := by
  obtain ⟨es, h, rfl⟩ := h
  refine (radd_c r s B es bs v w h hv hbs (by simpa using hl)).mono ?_
  rintro e w' ⟨rfl, v', h1, h2⟩
  exact ⟨rfl, ⟨_, h1, ref_key _ _ _ _⟩, h2⟩
def RGotB (bs : List UInt8) (B : Nat) (w : World) (e : Ending) (w' : World) : Prop := ∃ A c, e = .returned (.tuple #[.slice A bs.length c, .bool true]) ∧ BytesV 5 B w' (.slice A bs.length c) bs ∧ w = w'
theorem rgetK_hit {r q B : Nat} {ks : List Key} {bs : List UInt8} {w : World} (h : RefK w B r ks) (hl : ks.length ≤ 64) (hg : getK ks q = some bs) :
    Calls Try.prog 13 #[.pointer (some ⟨r, 0, none⟩), .int .u16 q] w (RGotB bs B w) := by
  obtain ⟨es, h, rfl⟩ := h
  rw [getK, idx_key, List.getElem?_map] at hg
  have hr := h
  obtain ⟨_, _, _, _, _, _, hbv⟩ := hr
  cases hE : es[idxF es q]? with
  | none => rw [hE] at hg; cases hg
  | some E =>
    rw [hE] at hg
    have hg : E.bs = bs := by simpa [Ent.key] using hg
    subst hg
    rw [List.length_map] at hl
    refine (rget_c r q B es w h (by omega)).mono ?_
    rintro e w' ⟨he, rfl⟩
    rw [hE] at he
    have hbe := hbv E (List.mem_of_getElem? hE)
    have hbe2 := hbe
    obtain ⟨A, c, hv, _⟩ := hbe2
    refine ⟨A, c, ?_, by rw [← hv]; exact hbe, rfl⟩
    rw [← hv]; exact he
theorem rgetK_miss {r q B : Nat} {ks : List Key} {w : World} (h : RefK w B r ks) (hl : ks.length ≤ 64) (hg : getK ks q = none) :
    Calls Try.prog 13 #[.pointer (some ⟨r, 0, none⟩), .int .u16 q] w fun e w' => e = .returned (.tuple #[.slice none 0 0, .bool false]) ∧ w = w' := by
  obtain ⟨es, h, rfl⟩ := h
  rw [getK, idx_key, List.getElem?_map] at hg
  rw [List.length_map] at hl
  refine (rget_c r q B es w h (by omega)).mono ?_
  rintro e w' ⟨he, rfl⟩
  cases hE : es[idxF es q]? with
  | none => rw [hE] at he; exact ⟨he, rfl⟩
  | some E => rw [hE] at hg; cases hg

theorem refK_len (ks : List Key) (e : Key) (h : ks.length ≤ 64) : (refK ks e).length ≤ 64 := by
  have := List.length_filter_le (fun x : Key => x.1 != e.1) ks
  simp only [refK]
  split
  · simp only [List.length_drop, List.length_append, List.length_cons, List.length_nil] at *; omega
  · simp only [List.length_append, List.length_cons, List.length_nil] at *; omega
/-- What the first k packets leave. -/
def playK (ps : List Key) : Nat → List Key
  | 0 => []
  | k + 1 => match ps[k]? with
    | some e => addK (playK ps k) e
    | none => playK ps k
theorem playK_ok (ps : List Key) : ∀ k, (playK ps k).length ≤ 64 ∧ ((playK ps k).map (·.1)).Nodup
  | 0 => by simp [playK]
  | k + 1 => by
    obtain ⟨h1, h2⟩ := playK_ok ps k
    simp only [playK]
    split
    · rw [add_ref _ _ h2]; exact ⟨refK_len _ _ h1, ref_nodup _ _ h2⟩
    · exact ⟨h1, h2⟩
theorem playK_succ (ps : List Key) (k : Nat) (e : Key) (h : ps[k]? = some e) : playK ps (k + 1) = addK (playK ps k) e ∧ playK ps (k + 1) = refK (playK ps k) e := by
  have h1 : playK ps (k + 1) = addK (playK ps k) e := by simp only [playK, h]
  exact ⟨h1, h1.trans (add_ref _ _ (playK_ok ps k).2)⟩
theorem addK_mem (ks : List Key) (e x : Key) (h : x ∈ addK ks e) : x ∈ ks ∨ x = e := by
  have h1 : x ∈ outK ks e.1 ++ [e] := by
    unfold addK cutK at h
    split at h
    · exact List.mem_of_mem_eraseIdx h
    · exact h
  rcases List.mem_append.1 h1 with h1 | h1
  · left
    unfold outK at h1
    split at h1
    · exact List.mem_of_mem_eraseIdx h1
    · exact h1
  · exact .inr (List.mem_singleton.1 h1)
theorem playK_mem (ps : List Key) : ∀ (k : Nat) (x : Key), x ∈ playK ps k → x ∈ ps
  | 0, x, h => by simp [playK] at h
  | k + 1, x, h => by
    simp only [playK] at h
    split at h
    · rename_i e he
      rcases addK_mem _ _ _ h with h | h
      · exact playK_mem ps k x h
      · rw [h]; exact List.mem_of_getElem? he
    · exact playK_mem ps k x h
theorem getK_mem {ks : List Key} {q : Nat} {bs : List UInt8} (h : getK ks q = some bs) : ∃ e ∈ ks, e.2 = bs := by
  rw [getK] at h
  cases hE : ks[idxK ks q]? with
  | none => rw [hE] at h; cases h
  | some E => rw [hE] at h; exact ⟨E, List.mem_of_getElem? hE, by simpa using h⟩
theorem RefK.cells {w : World} {B r : Nat} {ks : List Key} (h : RefK w B r ks) : ∃ A c, w.cell? ⟨r, 0, none⟩ = some (.slice A ks.length c) := by
  obtain ⟨es, ⟨VN, VB, hb, _, ⟨A, c, rfl, _⟩, _⟩, rfl⟩ := h
  exact ⟨A, c, by rw [hb.cell, List.length_map]; rfl⟩
end Go.Proofs.Ytodcmnjimjjahaa
