/- Lists of reports in memory, element by element; what is read is small; what Parse returns under names. Conditions: as each says. -/
import Derived.Test.YtkfimncbfbbopaaHelpR
import Derived.Test.YtkfimncbfbbopaaJoinS
set_option linter.unusedVariables false
namespace Go.Proofs.Ytkfimncbfbbopaa
open Go.RowKit

/-- A report whose lists are short. -/
def Small (r : Rep) : Prop := r.blocks.length ≤ 31 ∧ r.pairs.length ≤ 1201 ∧ r.firs.length ≤ 1201 ∧ r.ssrcs.length ≤ 255
theorem doS_len (f : RS → List Nat × RS) : ∀ (n : Nat) (s : RS), (doS f n s).1.length ≤ n
  | 0, s => Nat.le_refl _
  | n + 1, s => by
    unfold doS
    have := doS_len f n (f s).2
    split <;> simp <;> omega
theorem itS_len (f : RS → List Nat × RS) : ∀ (n : Nat) (s : RS), (itS f n s).1.length ≤ n
  | 0, s => Nat.le_refl _
  | n + 1, s => by
    have := itS_len f n s
    simp [itS]
    omega
theorem report_small (t c : Nat) (b : List UInt8) (hc : c ≤ 31) (hb : b.length ≤ 1200) : Small (reportS t c b).1 := by
  have h4 := numS_len 4 (b, false)
  simp only at h4
  have hz : (0 : Nat) ≤ 31 ∧ (0 : Nat) ≤ 1201 ∧ (0 : Nat) ≤ 255 := by omega
  unfold reportS
  by_cases h7 : kindS t c b = 7
  · simp only [if_pos h7]; exact ⟨hz.1, hz.2.1, hz.2.1, hz.2.2⟩
  by_cases h1 : kindS t c b = 1
  · simp only [if_neg h7, if_pos h1]
    exact ⟨by show (blksS c _).1.length ≤ _; rw [blksS_len]; exact hc, hz.2.1, hz.2.1, hz.2.2⟩
  by_cases h2 : kindS t c b = 2
  · simp only [if_neg h7, if_neg h1, if_pos h2]
    exact ⟨by show (blksS c _).1.length ≤ _; rw [blksS_len]; exact hc, hz.2.1, hz.2.1, hz.2.2⟩
  by_cases h3 : kindS t c b = 3
  · simp only [if_neg h7, if_neg h1, if_neg h2, if_pos h3]
    exact ⟨hz.1, Nat.le_trans (doS_len pairS _ _) (by omega), hz.2.1, hz.2.2⟩
  by_cases h4' : kindS t c b = 4
  · simp only [if_neg h7, if_neg h1, if_neg h2, if_neg h3, if_pos h4']; exact ⟨hz.1, hz.2.1, hz.2.1, hz.2.2⟩
  by_cases h5 : kindS t c b = 5
  · simp only [if_neg h7, if_neg h1, if_neg h2, if_neg h3, if_neg h4', if_pos h5]
    exact ⟨hz.1, hz.2.1, Nat.le_trans (doS_len firS _ _) (by omega), hz.2.2⟩
  · simp only [if_neg h7, if_neg h1, if_neg h2, if_neg h3, if_neg h4', if_neg h5]
    refine ⟨hz.1, hz.2.1, hz.2.1, ?_⟩
    show (rembS _).2.1.length ≤ _
    unfold rembS
    refine Nat.le_trans (itS_len ssrcS _ _) ?_
    have := numS_lt 1 (numS 4 (numS 4 (numS 4 (b, false)).2).2).2 (by decide)
    omega
theorem one_small (b : List UInt8) (hb : b.length ≤ 1200) : Small (oneS b).1 := by
  unfold oneS
  refine report_small _ _ _ Nat.and_le_right ?_
  rw [List.length_drop, List.length_take]
  omega
theorem parN_small : ∀ (f : Nat) (b : List UInt8) (acc : List Rep), b.length ≤ 1200 → (∀ r ∈ acc, Small r) → ∀ r ∈ (parN f b acc).1, Small r
  | 0, b, acc, hb, ha => ha
  | f + 1, b, acc, hb, ha => by
    by_cases h0 : b.length = 0
    · rw [parN, if_pos h0]; exact ha
    by_cases hk : okS b = true
    · rw [parN_ok hk]
      refine parN_small f _ _ (by rw [List.length_drop]; omega) ?_
      intro r hr
      rcases List.mem_append.1 hr with h | h
      · exact ha r h
      · rw [List.mem_singleton] at h
        subst h
        exact one_small b hb
    · rw [(parN_bad (f := f) (acc := acc) (by simpa using hk) h0).2]
      intro r hr
      exact absurd hr (by simp)
theorem parse_small {b : List UInt8} {i : Nat} {r : Rep} (h : (parseS b).1[i]? = some r) : Small r := by
  have hm := List.mem_of_getElem? h
  unfold parseS at hm
  split at hm
  · simp at hm
  · split at hm
    · simp at hm
    · exact parN_small _ _ _ (by omega) (fun _ h => absurd h (by simp)) _ hm
theorem parse_count (b : List UInt8) : (parseS b).1.length ≤ 1200 := by
  unfold parseS
  split
  · simp
  · split
    · simp
    · have := parse_len (b := b) (b.length + 1) b []
      simp only [List.length_nil] at this
      omega
theorem cellsL_at : ∀ (css : List (Array Value)), (∀ c ∈ css, c.size = 16) → ∀ (i : Nat) (c : Array Value), css[i]? = some c → ∀ (j : Nat) (u : Value), c[j]? = some u → (cellsL css)[i * 16 + j]? = some u
  | [], _, i, c, h, _, _, _ => by simp at h
  | c0 :: css, hs, 0, c, h, j, u, hu => by
    simp at h
    subst h
    have hj : j < c0.toList.length := by
      rcases Nat.lt_or_ge j c0.toList.length with h | h
      · exact h
      · rw [← Array.getElem?_toList, List.getElem?_eq_none h] at hu; cases hu
    rw [Nat.zero_mul, Nat.zero_add]
    show (c0.toList ++ cellsL css)[j]? = some u
    rw [List.getElem?_append_left hj, Array.getElem?_toList]
    exact hu
  | c0 :: css, hs, i + 1, c, h, j, u, hu => by
    have h16 : c0.toList.length = 16 := by rw [Array.length_toList]; exact hs c0 (by simp)
    show (c0.toList ++ cellsL css)[(i + 1) * 16 + j]? = some u
    rw [List.getElem?_append_right (by omega), show (i + 1) * 16 + j - c0.toList.length = i * 16 + j by omega]
    exact cellsL_at css (fun c hc => hs c (by simp [hc])) i c (by simpa using h) j u hu
theorem RepV.size {w : World} {cs : Array Value} {r : Rep} (h : RepV w cs r) : cs.size = 16 := by
  obtain ⟨_, _, _, _, _, e, _⟩ := h
  rw [e]
  rfl
/-- A slice of reports that read as rs. -/
def RepsAt (w : World) (A : Option Addr) (n : Nat) (rs : List Rep) : Prop := ∃ css, Reads w w.heap.size 16 A n (cellsL css) ∧ RepsV w css rs
theorem RepsAt.below {w w' : World} {A : Option Addr} {n : Nat} {rs : List Rep} (h : RepsAt w A n rs) (hb : Below w.heap.size w w') : RepsAt w' A n rs := by
  obtain ⟨css, h1, h2⟩ := h
  exact ⟨css, (h1.below hb).more hb.size, h2.below hb⟩
theorem RepsV.all16 {w : World} {css : List (Array Value)} {rs : List Rep} (h : RepsV w css rs) : ∀ c ∈ css, c.size = 16 := by
  intro c hc
  obtain ⟨i, hi⟩ := List.getElem?_of_mem hc
  have hlt : i < css.length := by
    rcases Nat.lt_or_ge i css.length with h | h
    · exact h
    · rw [List.getElem?_eq_none h] at hi; cases hi
  exact (h.2 i c (rs[i]'(by rw [← h.1]; exact hlt)) hi (List.getElem?_eq_getElem _)).size
theorem cellsL_len : ∀ css : List (Array Value), (∀ c ∈ css, c.size = 16) → (cellsL css).length = css.length * 16
  | [], _ => rfl
  | c :: css, h => by
    show (c.toList ++ cellsL css).length = _
    rw [List.length_append, cellsL_len css (fun c hc => h c (by simp [hc])), Array.length_toList, h c (by simp), List.length_cons]
    omega
theorem RepsAt.at_ {w : World} {A : Option Addr} {n : Nat} {rs : List Rep} (h : RepsAt w A n rs) (hn : 0 < n) :
    ∃ g o, A = some ⟨g, o, none⟩ ∧ g < w.heap.size ∧ ∀ i r, rs[i]? = some r → ∃ cs : List Value, RepV w cs.toArray r ∧ cs.length = 16 ∧ w.rangeAt g (o + i * 16) cs := by
  obtain ⟨css, h1, h2⟩ := h
  obtain ⟨ad, rfl, hlt, hc⟩ := h1.2 hn
  have hl := h1.1
  have h16 := h2.all16
  have hlen := cellsL_len css h16
  have hc0 : (cellsL css)[0]? = some ((cellsL css)[0]'(by omega)) := List.getElem?_eq_getElem _
  obtain ⟨g, o, rfl⟩ := addr_plain (hc 0 _ hc0)
  refine ⟨g, o, rfl, hlt, fun i r hr => ?_⟩
  have hi : i < css.length := by
    rcases Nat.lt_or_ge i rs.length with h | h
    · rw [h2.1]; exact h
    · rw [List.getElem?_eq_none h] at hr; cases hr
  have hci : css[i]? = some (css[i]'hi) := List.getElem?_eq_getElem _
  have hv := h2.2 i _ r hci hr
  refine ⟨(css[i]'hi).toList, by rw [Array.toArray_toList]; exact hv, by rw [Array.length_toList]; exact hv.size, fun j u hu => ?_⟩
  have := hc (i * 16 + j) u (cellsL_at css h16 i _ hci j u (by rw [Array.getElem?_toList] at hu; exact hu))
  rw [Go.WideShapes.add_plain] at this
  rw [show o + i * 16 + j = o + (i * 16 + j) by omega]
  exact this
/-- What Parse returns, under names. -/
def ParZ (b : List UInt8) (z : Int) (n : Nat) (w : World) (e : Ending) (w' : World) : Prop := ∃ A c, e = .returned (.tuple #[.slice A n c, .int .i64 z]) ∧ RepsAt w' A n (parseS b).1 ∧ Below w.heap.size w w'
theorem parse_z {b : List UInt8} {A : Option Addr} {n cap : Nat} {w : World} {z : Int} {k : Nat} (h : SlV w (.slice A n cap) b) (hn2 : n < 9223372036854775808) (hz : z = (parseS b).2) (hk : k = (parseS b).1.length) :
    Calls Try.prog 10 #[.slice A n cap] w (ParZ b z k w) := by
  subst hz hk
  refine (parse_c b A n cap w h hn2).mono ?_
  rintro e w' ⟨A', n', c', css, he, rfl, hc, hr, hv, hb⟩
  exact ⟨A', c', he, ⟨css, hr, hv⟩, hb⟩
theorem below_range {w w' : World} {g o : Nat} {cs : List Value} {B : Nat} (h : w.rangeAt g o cs) (hb : Below B w w') (hg : g < B) : w'.rangeAt g o cs := fun j v hv => (hb.cell (p := ⟨g, o + j, none⟩) hg).trans (h j v hv)
end Go.Proofs.Ytkfimncbfbbopaa
