/- The plain law behind RingLast: what the list of the last sixty-four holds. No program in sight. -/
import Derived.Test.YtodcmnjimjjahaaKeys
set_option linter.unusedVariables false
namespace Go.Proofs.Ytodcmnjimjjahaa

def lastE (q : Nat) (b : List UInt8) (j : Nat) : Key := ((q + j) % 65536, UInt8.ofNat j :: b)
def lastK (q : Nat) (b : List UInt8) (k : Nat) : List Key := ((List.range k).drop (k - 64)).map (lastE q b)
theorem lastK_len (q : Nat) (b : List UInt8) (k : Nat) : (lastK q b k).length = k - (k - 64) := by simp [lastK]
theorem idxK_none : ∀ (l : List Key) (q : Nat), (∀ e ∈ l, e.1 ≠ q) → idxK l q = l.length
  | [], q, _ => rfl
  | e :: l, q, h => by
    have h0 := h e (by simp)
    simp only [idxK, h0, if_false, List.length_cons]
    rw [idxK_none l q fun x hx => h x (by simp [hx])]
theorem idxK_at : ∀ (l : List Key) (q m : Nat) (e : Key), l[m]? = some e → e.1 = q → (∀ j, j < m → ∀ x, l[j]? = some x → x.1 ≠ q) → idxK l q = m
  | [], q, m, e, h, _, _ => by simp at h
  | x :: l, q, 0, e, h, he, _ => by
    simp at h
    subst h
    simp [idxK, he]
  | x :: l, q, m + 1, e, h, he, hno => by
    have h0 := hno 0 (by omega) x (by simp)
    simp only [idxK, h0, if_false]
    rw [idxK_at l q m e (by simpa using h) he fun j hj y hy => hno (j + 1) (by omega) y (by simpa using hy)]
theorem mem_last {q : Nat} {b : List UInt8} {k : Nat} {e : Key} (h : e ∈ lastK q b k) : ∃ j, j < k ∧ e = lastE q b j := by
  obtain ⟨j, hj, rfl⟩ := List.mem_map.1 h
  exact ⟨j, List.mem_range.1 (List.mem_of_mem_drop hj), rfl⟩
theorem lastK_get (q : Nat) (b : List UInt8) (k m : Nat) (h : m < k - (k - 64)) : (lastK q b k)[m]? = some (lastE q b (k - 64 + m)) := by
  rw [lastK, List.getElem?_map, List.getElem?_drop, List.getElem?_range (by omega)]
  rfl
theorem lastK_succ (q : Nat) (b : List UInt8) (k : Nat) (hk : k < 256) : addK (lastK q b k) ((q + k) % 65536, UInt8.ofNat k :: b) = lastK q b (k + 1) := by
  have hno : ∀ e ∈ lastK q b k, e.1 ≠ (q + k) % 65536 := by
    intro e he
    obtain ⟨j, hj, rfl⟩ := mem_last he
    simp only [lastE]
    omega
  have hout : outK (lastK q b k) ((q + k) % 65536) = lastK q b k := by rw [outK, idxK_none _ _ hno, if_neg (Nat.lt_irrefl _)]
  have happ : lastK q b k ++ [((q + k) % 65536, UInt8.ofNat k :: b)] = ((List.range (k + 1)).drop (k - 64)).map (lastE q b) := by
    rw [List.range_succ, List.drop_append_of_le_length (by simp), List.map_append, lastK]; rfl
  rw [addK, hout, happ, cutK]
  simp only [List.length_map, List.length_drop, List.length_range]
  split
  · rw [List.eraseIdx_zero, ← List.map_tail, List.tail_drop, lastK]
    congr 2
    omega
  · rw [lastK]
    congr 2
    omega
theorem lastK_in (q : Nat) (b : List UInt8) (k i : Nat) (hk : k < 256) (h1 : k ≤ i + 64) (h2 : i < k) : getK (lastK q b k) ((q + i) % 65536) = some (UInt8.ofNat i :: b) := by
  have hm : i - (k - 64) < k - (k - 64) := by omega
  have hg := lastK_get q b k (i - (k - 64)) hm
  rw [show k - 64 + (i - (k - 64)) = i by omega] at hg
  have hi : idxK (lastK q b k) ((q + i) % 65536) = i - (k - 64) := by
    refine idxK_at _ _ _ _ hg rfl fun j hj x hx => ?_
    rw [lastK_get q b k j (by omega)] at hx
    injection hx with hx
    subst hx
    simp only [lastE]
    omega
  rw [getK, hi, hg]
  rfl
theorem lastK_out (q : Nat) (b : List UInt8) (k i : Nat) (hk : k < 256) (h1 : i + 64 < k ∨ k ≤ i) (h2 : i < 256) : getK (lastK q b k) ((q + i) % 65536) = none := by
  have hno : ∀ e ∈ lastK q b k, e.1 ≠ (q + i) % 65536 := by
    intro e he
    obtain ⟨m, hm, he'⟩ := List.mem_iff_getElem.1 he
    have hm' := hm
    rw [lastK_len] at hm'
    have hg := lastK_get q b k m hm'
    rw [List.getElem?_eq_getElem hm, he'] at hg
    injection hg with hg
    subst hg
    simp only [lastE]
    omega
  rw [getK, idxK_none _ _ hno, List.getElem?_eq_none (Nat.le_refl _)]
  rfl
theorem lastK_0 (q : Nat) (b : List UInt8) : lastK q b 0 = [] := rfl
attribute [irreducible] lastK
end Go.Proofs.Ytodcmnjimjjahaa
