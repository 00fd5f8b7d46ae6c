/- What a report is read as, place by place (plain). No program in sight. -/
import Derived.Test.YtkfimncbfbbopaaParsB
set_option linter.unusedVariables false
namespace Go.Proofs.Ytkfimncbfbbopaa

/-- The number of k bytes at a place. -/
def nAt (b : List UInt8) (at_ k : Nat) : Nat := beV ((b.drop at_).take k)
theorem nAt_drop (b : List UInt8) (d at_ k : Nat) : nAt (b.drop d) at_ k = nAt b (d + at_) k := by unfold nAt; rw [List.drop_drop]
theorem nAt_lt (b : List UInt8) (at_ k : Nat) : nAt b at_ k < 256 ^ k := by
  have := beV_lt ((b.drop at_).take k)
  refine Nat.lt_of_lt_of_le this (Nat.pow_le_pow_right (by decide) ?_)
  rw [List.length_take]
  exact Nat.min_le_left _ _
theorem numS_at {b : List UInt8} {q : Bool} {at_ k : Nat} (h : at_ + k ≤ b.length) : numS k (b.drop at_, q) = (nAt b at_ k, (b.drop (at_ + k), q)) := by
  unfold numS nAt
  rw [if_neg (by show ¬ (b.drop at_).length < k; rw [List.length_drop]; omega)]
  simp only [List.drop_drop]
theorem numS_at0 {b : List UInt8} {q : Bool} {k : Nat} (h : k ≤ b.length) : numS k (b, q) = (nAt b 0 k, (b.drop k, q)) := by
  have := numS_at (b := b) (q := q) (at_ := 0) (k := k) (by omega)
  rw [List.drop_zero, Nat.zero_add] at this
  exact this
theorem numS_short {b : List UInt8} {q : Bool} {k : Nat} (h : b.length < k) : numS k (b, q) = (0, ([], true)) := by
  unfold numS
  rw [if_pos h]
theorem numS_bad (k : Nat) (s : RS) (h : s.2 = true) : (numS k s).2.2 = true := by
  unfold numS
  split
  · rfl
  · exact h
/-- Several numbers behind each other: what is left. -/
def seqS : List Nat → RS → RS
  | [], s => s
  | k :: ks, s => seqS ks (numS k s).2
theorem seqS_bad : ∀ (ks : List Nat) (s : RS), s.2 = true → (seqS ks s).2 = true
  | [], s, h => h
  | k :: ks, s, h => seqS_bad ks _ (numS_bad k s h)
theorem seqS_short : ∀ (ks : List Nat) (s : RS), s.1.length < ks.sum → (seqS ks s).2 = true
  | [], s, h => absurd h (by simp)
  | k :: ks, (b, q), h => by
    rw [List.sum_cons] at h
    by_cases hb : b.length < k
    · rw [seqS, numS_short hb]; exact seqS_bad ks _ rfl
    · rw [seqS, numS_at0 (by omega)]
      refine seqS_short ks _ ?_
      show (b.drop k).length < _
      rw [List.length_drop]
      have : b.length < k + ks.sum := h
      omega
/-- A step that keeps what is wrong wrong. -/
def KeepsBad (f : RS → List Nat × RS) : Prop := ∀ s : RS, s.2 = true → (f s).2.2 = true
theorem blkS_snd (s : RS) : (blkS s).2 = seqS [4, 1, 3, 4, 4, 4, 4] s := by unfold blkS; simp only [seqS]
theorem blksS_snd (n : Nat) (s : RS) : (blksS (n + 1) s).2 = (blkS (blksS n s).2).2 := by rw [blksS]
theorem kb_blk : KeepsBad blkS := fun s h => by rw [blkS_snd]; exact seqS_bad _ _ h
theorem kb_pair : KeepsBad pairS := fun s h => by
  unfold pairS
  exact numS_bad _ _ (numS_bad _ _ h)
theorem kb_ssrc : KeepsBad ssrcS := fun s h => by
  unfold ssrcS
  exact numS_bad _ _ h
theorem firS_snd (s : RS) : (firS s).2.2 = ((seqS [4, 1, 3] s).2 || decide ((numS 3 (seqS [4, 1] s)).1 ≠ 0)) := rfl
theorem kb_fir : KeepsBad firS := fun s h => by rw [firS_snd, seqS_bad _ _ h]; rfl
theorem blksS_bad : ∀ (n : Nat) (s : RS), s.2 = true → (blksS n s).2.2 = true
  | 0, s, h => h
  | n + 1, s, h => by rw [blksS_snd]; exact kb_blk _ (blksS_bad n s h)
theorem itS_bad {f : RS → List Nat × RS} (hf : KeepsBad f) : ∀ (n : Nat) (s : RS), s.2 = true → (itS f n s).2.2 = true
  | 0, s, h => h
  | n + 1, s, h => hf _ (itS_bad hf n s h)
theorem doS_bad {f : RS → List Nat × RS} (hf : KeepsBad f) : ∀ (n : Nat) (s : RS), s.2 = true → (doS f n s).2.2 = true
  | 0, s, h => h
  | n + 1, s, h => by
    unfold doS
    split
    · exact hf _ h
    · exact doS_bad hf n _ (hf _ h)
/-- The seven numbers of a block at a place. -/
def blkAt (b : List UInt8) (p : Nat) : List Nat := [nAt b p 4, nAt b (p + 4) 1, nAt b (p + 5) 3, nAt b (p + 8) 4, nAt b (p + 12) 4, nAt b (p + 16) 4, nAt b (p + 20) 4]
theorem blkS_at {b : List UInt8} {q : Bool} {p : Nat} (h : p + 24 ≤ b.length) : blkS (b.drop p, q) = (blkAt b p, (b.drop (p + 24), q)) := by
  unfold blkS blkAt
  simp only [numS_at (b := b) (q := q) (at_ := p) (k := 4) (by omega), numS_at (b := b) (q := q) (at_ := p + 4) (k := 1) (by omega), numS_at (b := b) (q := q) (at_ := p + 4 + 1) (k := 3) (by omega),
    numS_at (b := b) (q := q) (at_ := p + 4 + 1 + 3) (k := 4) (by omega), numS_at (b := b) (q := q) (at_ := p + 4 + 1 + 3 + 4) (k := 4) (by omega), numS_at (b := b) (q := q) (at_ := p + 4 + 1 + 3 + 4 + 4) (k := 4) (by omega), numS_at (b := b) (q := q) (at_ := p + 4 + 1 + 3 + 4 + 4 + 4) (k := 4) (by omega)]
/-- A step that falls short of k bytes is wrong. -/
theorem blkS_short {s : RS} (h : s.1.length < 24) : (blkS s).2.2 = true := by rw [blkS_snd]; exact seqS_short _ _ h
theorem range_snoc {α : Type} (f : Nat → α) (n : Nat) : (List.range (n + 1)).map f = (List.range n).map f ++ [f n] := by rw [List.range_succ, List.map_append]; rfl
theorem blksS_at {b : List UInt8} {q : Bool} {p : Nat} : ∀ n, p + 24 * n ≤ b.length → blksS n (b.drop p, q) = ((List.range n).map (fun i => blkAt b (p + 24 * i)), (b.drop (p + 24 * n), q))
  | 0, h => by simp [blksS]
  | n + 1, h => by
    rw [blksS, blksS_at n (by omega), range_snoc]
    simp only [blkS_at (b := b) (q := q) (p := p + 24 * n) (by omega)]
    rw [show p + 24 * n + 24 = p + 24 * (n + 1) by omega]
theorem blksS_lack {b : List UInt8} {q : Bool} {p : Nat} : ∀ n, b.length < p + 24 * n → (blksS n (b.drop p, q)).2.2 = true ∨ (b.length < p)
  | 0, h => .inr (by omega)
  | n + 1, h => by
    by_cases hp : b.length < p
    · exact .inr hp
    refine .inl ?_
    rw [blksS_snd]
    by_cases hn : p + 24 * n ≤ b.length
    · rw [blksS_at n hn]
      refine blkS_short ?_
      show (b.drop _).length < _
      rw [List.length_drop]; omega
    · rcases blksS_lack (b := b) (q := q) (p := p) n (by omega) with h | h
      · exact kb_blk _ h
      · exact absurd h hp
def pairAt (b : List UInt8) (i : Nat) : List Nat := [nAt b (4 * i) 2, nAt b (4 * i + 2) 2]
def firAt (b : List UInt8) (i : Nat) : List Nat := [nAt b (8 * i) 4, nAt b (8 * i + 4) 1]
def ssrcAt (b : List UInt8) (i : Nat) : List Nat := [nAt b (8 + 4 * i) 4]
theorem pairS_at {b : List UInt8} {q : Bool} (h : 4 ≤ b.length) : pairS (b, q) = (pairAt b 0, (b.drop 4, q)) := by
  unfold pairS pairAt
  rw [numS_at0 (by omega)]
  simp only
  rw [numS_at (by omega)]
theorem firS_at {b : List UInt8} {q : Bool} (h : 8 ≤ b.length) : firS (b, q) = (firAt b 0, (b.drop 8, q || decide (nAt b 5 3 ≠ 0))) := by
  unfold firS firAt
  rw [numS_at0 (by omega)]
  simp only
  rw [numS_at (by omega)]
  simp only
  rw [numS_at (by omega)]
theorem firS_short {b : List UInt8} {q : Bool} (h : b.length < 8) : (firS (b, q)).2.2 = true := by rw [firS_snd, seqS_short _ _ h]; rfl
theorem range_cons {α : Type} (f : Nat → α) (n : Nat) : (List.range (n + 1)).map f = f 0 :: (List.range n).map (fun i => f (i + 1)) := by
  rw [List.range_succ_eq_map, List.map_cons, List.map_map]; rfl
theorem doS_pairs : ∀ (m fuel : Nat) (b : List UInt8) (q : Bool), b.length = 4 * (m + 1) → m < fuel → doS pairS fuel (b, q) = ((List.range (m + 1)).map (pairAt b), ([], q))
  | m, 0, _, _, _, h => absurd h (by omega)
  | 0, fuel + 1, b, q, hb, _ => by
    have e := pairS_at (b := b) (q := q) (by omega)
    have he : b.drop 4 = [] := List.drop_eq_nil_of_le (by omega)
    rw [he] at e
    rw [doS_end fuel e rfl]
    rfl
  | m + 1, fuel + 1, b, q, hb, hf => by
    have e := pairS_at (b := b) (q := q) (by omega)
    rw [doS_more fuel e (by intro h; have := congrArg List.length h; simp at this; omega)]
    rw [doS_pairs m fuel (b.drop 4) q (by rw [List.length_drop]; omega) (by omega), range_cons (pairAt b)]
    congr 2
    refine List.map_congr_left fun i _ => ?_
    unfold pairAt
    rw [nAt_drop, nAt_drop, show 4 + 4 * i = 4 * (i + 1) by omega, show 4 + (4 * i + 2) = 4 * (i + 1) + 2 by omega]
/-- Some of the first m has a byte that should be 0. -/
def dirty (b : List UInt8) (m : Nat) : Bool := (List.range m).any fun i => decide (nAt b (8 * i + 5) 3 ≠ 0)
theorem dirty_cons (b : List UInt8) (m : Nat) : dirty b (m + 1) = (decide (nAt b 5 3 ≠ 0) || dirty (b.drop 8) m) := by
  unfold dirty
  rw [List.range_succ_eq_map, List.any_cons, List.any_map]
  congr 1
  congr 1
  funext i
  show decide _ = decide _
  rw [nAt_drop, show 8 + (8 * i + 5) = 8 * (i + 1) + 5 by omega]
theorem doS_firs : ∀ (m fuel : Nat) (b : List UInt8) (q : Bool), b.length = 8 * (m + 1) → m < fuel → doS firS fuel (b, q) = ((List.range (m + 1)).map (firAt b), ([], q || dirty b (m + 1)))
  | m, 0, _, _, _, h => absurd h (by omega)
  | 0, fuel + 1, b, q, hb, _ => by
    have e := firS_at (b := b) (q := q) (by omega)
    have he : b.drop 8 = [] := List.drop_eq_nil_of_le (by omega)
    rw [he] at e
    rw [doS_end fuel e rfl, dirty_cons]
    have : dirty (b.drop 8) 0 = false := rfl
    rw [this, Bool.or_false]
    rfl
  | m + 1, fuel + 1, b, q, hb, hf => by
    have e := firS_at (b := b) (q := q) (by omega)
    rw [doS_more fuel e (by intro h; have := congrArg List.length h; simp at this; omega)]
    rw [doS_firs m fuel (b.drop 8) _ (by rw [List.length_drop]; omega) (by omega), range_cons (firAt b), dirty_cons b (m + 1), Bool.or_assoc]
    congr 2
    refine List.map_congr_left fun i _ => ?_
    unfold firAt
    rw [nAt_drop, nAt_drop, show 8 + 8 * i = 8 * (i + 1) by omega, show 8 + (8 * i + 4) = 8 * (i + 1) + 4 by omega]
theorem doS_firs_odd : ∀ (fuel : Nat) (b : List UInt8) (q : Bool), b.length % 8 ≠ 0 → b.length < fuel → (doS firS fuel (b, q)).2.2 = true
  | 0, _, _, _, h => absurd h (by omega)
  | fuel + 1, b, q, hb, hf => by
    by_cases h8 : b.length < 8
    · unfold doS
      have hx := firS_short (q := q) h8
      split
      · exact hx
      · exact doS_bad kb_fir _ _ hx
    · have e := firS_at (b := b) (q := q) (by omega)
      rw [doS_more fuel e (by intro h; have := congrArg List.length h; simp at this; omega)]
      exact doS_firs_odd fuel (b.drop 8) _ (by rw [List.length_drop]; omega) (by rw [List.length_drop]; omega)
theorem itS_ssrcs {b : List UInt8} {q : Bool} : ∀ n, 8 + 4 * n ≤ b.length → itS ssrcS n (b.drop 8, q) = ((List.range n).map (ssrcAt b), (b.drop (8 + 4 * n), q))
  | 0, h => by simp [itS]
  | n + 1, h => by
    rw [itS, itS_ssrcs n (by omega), range_snoc]
    simp only [ssrcS, numS_at (b := b) (q := q) (at_ := 8 + 4 * n) (k := 4) (by omega)]
    rw [show 8 + 4 * n + 4 = 8 + 4 * (n + 1) by omega]
    rfl
theorem itS_ssrcs_lack {b : List UInt8} {q : Bool} : ∀ n, 8 ≤ b.length → b.length < 8 + 4 * n → (itS ssrcS n (b.drop 8, q)).2.2 = true
  | 0, h8, h => absurd h (by omega)
  | n + 1, h8, h => by
    rw [itS]
    by_cases hn : 8 + 4 * n ≤ b.length
    · rw [itS_ssrcs n hn]
      simp only [ssrcS]
      rw [numS_short (by rw [List.length_drop]; omega)]
    · exact kb_ssrc _ (itS_ssrcs_lack n h8 (by omega))
section
variable {t c : Nat} {b : List UInt8}
theorem rep_k7 (hk : kindS t c b = 7) : reportS t c b = ({ rep0 with kind := 7, ty := t, ct := c, body := b }, true) := by
  unfold reportS
  simp only [if_pos hk]
theorem rep_k1 (hk : kindS t c b = 1) (hl : b.length = 24 + 24 * c) :
    reportS t c b = ({ rep0 with kind := 1, fr := nAt b 0 4, ntp := nAt b 4 8, ts := nAt b 12 4, pk := nAt b 16 4, oc := nAt b 20 4, blocks := (List.range c).map (fun i => blkAt b (24 + 24 * i)) }, true) := by
  unfold reportS
  simp only [hk]
  rw [if_neg (by decide), if_pos trivial]
  have he : b.drop (24 + 24 * c) = [] := List.drop_eq_nil_of_le (by omega)
  simp only [numS_at0 (b := b) (q := false) (k := 4) (by omega), numS_at (b := b) (q := false) (at_ := 4) (k := 8) (by omega), numS_at (b := b) (q := false) (at_ := 4 + 8) (k := 4) (by omega), numS_at (b := b) (q := false) (at_ := 4 + 8 + 4) (k := 4) (by omega), numS_at (b := b) (q := false) (at_ := 4 + 8 + 4 + 4) (k := 4) (by omega), blksS_at (b := b) (q := false) (p := 4 + 8 + 4 + 4 + 4) c (by omega)]
  rw [show 4 + 8 + 4 + 4 + 4 + 24 * c = 24 + 24 * c by omega, he]
  rfl
theorem rep_k1_no (hk : kindS t c b = 1) (hl : b.length ≠ 24 + 24 * c) : (reportS t c b).2 = false := by
  have e : (reportS t c b).2 = (!(blksS c (seqS [4, 8, 4, 4, 4] (b, false))).2.2 && (blksS c (seqS [4, 8, 4, 4, 4] (b, false))).2.1.isEmpty) := by
    unfold reportS
    simp only [hk]
    rw [if_neg (by decide), if_pos trivial]
    rfl
  rw [e]
  by_cases h5 : b.length < 24
  · rw [blksS_bad _ _ (seqS_short _ _ h5)]; rfl
  have e2 : seqS [4, 8, 4, 4, 4] (b, false) = (b.drop 24, false) := by
    simp only [seqS, numS_at0 (b := b) (q := false) (k := 4) (by omega), numS_at (b := b) (q := false) (at_ := 4) (k := 8) (by omega), numS_at (b := b) (q := false) (at_ := 4 + 8) (k := 4) (by omega), numS_at (b := b) (q := false) (at_ := 4 + 8 + 4) (k := 4) (by omega), numS_at (b := b) (q := false) (at_ := 4 + 8 + 4 + 4) (k := 4) (by omega)]
  rw [e2]
  by_cases h6 : b.length < 24 + 24 * c
  · rcases blksS_lack (b := b) (q := false) (p := 24) c (by omega) with h | h
    · rw [h]; rfl
    · exact absurd h (by omega)
  · rw [blksS_at c (by omega)]
    have : b.drop (24 + 24 * c) ≠ [] := by intro h; have := congrArg List.length h; simp at this; omega
    cases hd : b.drop (24 + 24 * c) with
    | nil => exact absurd hd this
    | cons x l => rfl
theorem rep_k2 (hk : kindS t c b = 2) (hl : b.length = 4 + 24 * c) :
    reportS t c b = ({ rep0 with kind := 2, fr := nAt b 0 4, blocks := (List.range c).map (fun i => blkAt b (4 + 24 * i)) }, true) := by
  unfold reportS
  simp only [hk]
  rw [if_neg (by decide), if_neg (by decide), if_pos trivial]
  have he : b.drop (4 + 24 * c) = [] := List.drop_eq_nil_of_le (by omega)
  simp only [numS_at0 (b := b) (q := false) (k := 4) (by omega), blksS_at (b := b) (q := false) (p := 4) c (by omega)]
  rw [he]
  rfl
theorem rep_k2_no (hk : kindS t c b = 2) (hl : b.length ≠ 4 + 24 * c) : (reportS t c b).2 = false := by
  unfold reportS
  simp only [hk]
  rw [if_neg (by decide), if_neg (by decide), if_pos trivial]
  by_cases h1 : b.length < 4
  · rw [numS_short h1, blksS_bad _ _ rfl]; rfl
  rw [numS_at0 (by omega)]
  by_cases h6 : b.length < 4 + 24 * c
  · rcases blksS_lack (b := b) (q := false) (p := 4) c (by omega) with h | h
    · simp only [h]; rfl
    · exact absurd h (by omega)
  · rw [blksS_at c (by omega)]
    have : b.drop (4 + 24 * c) ≠ [] := by intro h; have := congrArg List.length h; simp at this; omega
    cases hd : b.drop (4 + 24 * c) with
    | nil => exact absurd hd this
    | cons x l => simp
theorem two_no (q : Bool) (h : b.length < 8) : (numS 4 (numS 4 (b, q)).2).2.2 = true := seqS_short [4, 4] (b, q) h
theorem two_at (q : Bool) (h : 8 ≤ b.length) : numS 4 (b, q) = (nAt b 0 4, (b.drop 4, q)) ∧ numS 4 (b.drop 4, q) = (nAt b 4 4, (b.drop 8, q)) := ⟨numS_at0 (by omega), numS_at (by omega)⟩
theorem rep_k3 (hk : kindS t c b = 3) {m : Nat} (hl : b.length = 8 + 4 * (m + 1)) :
    reportS t c b = ({ rep0 with kind := 3, fr := nAt b 0 4, ab := nAt b 4 4, pairs := (List.range (m + 1)).map (pairAt (b.drop 8)) }, true) := by
  obtain ⟨e1, e2⟩ := two_at (b := b) false (by omega)
  unfold reportS
  simp only [hk]
  rw [if_neg (by decide), if_neg (by decide), if_neg (by decide), if_pos trivial]
  simp only [e1, e2]
  rw [doS_pairs m _ (b.drop 8) false (by rw [List.length_drop]; omega) (by rw [List.length_drop]; omega)]
  rfl
theorem rep_k3_no (hk : kindS t c b = 3) (hl : b.length ≤ 8) : (reportS t c b).2 = false := by
  unfold reportS
  simp only [hk]
  rw [if_neg (by decide), if_neg (by decide), if_neg (by decide), if_pos trivial]
  by_cases h : b.length < 8
  · rw [doS_bad kb_pair _ _ (two_no false h)]; rfl
  · obtain ⟨e1, e2⟩ := two_at (b := b) false (by omega)
    simp only [e1, e2]
    have he : b.drop 8 = [] := List.drop_eq_nil_of_le (by omega)
    rw [he, show (b.drop 4).length + 1 = (b.drop 4).length + 1 from rfl]
    have e3 : pairS ([], false) = ([0, 0], ([], true)) := rfl
    rw [doS_end _ e3 rfl]
    rfl
theorem rep_k4 (hk : kindS t c b = 4) (hl : b.length = 8) : reportS t c b = ({ rep0 with kind := 4, fr := nAt b 0 4, ab := nAt b 4 4 }, true) := by
  obtain ⟨e1, e2⟩ := two_at (b := b) false (by omega)
  unfold reportS
  simp only [hk]
  rw [if_neg (by decide), if_neg (by decide), if_neg (by decide), if_neg (by decide), if_pos trivial]
  have he : b.drop 8 = [] := List.drop_eq_nil_of_le (by omega)
  simp only [e1, e2, he]
  rfl
theorem rep_k4_no (hk : kindS t c b = 4) (hl : b.length ≠ 8) : (reportS t c b).2 = false := by
  unfold reportS
  simp only [hk]
  rw [if_neg (by decide), if_neg (by decide), if_neg (by decide), if_neg (by decide), if_pos trivial]
  by_cases h : b.length < 8
  · simp only [two_no false h]; rfl
  · obtain ⟨e1, e2⟩ := two_at (b := b) false (by omega)
    simp only [e1, e2]
    have : b.drop 8 ≠ [] := by intro h; have := congrArg List.length h; simp at this; omega
    cases hd : b.drop 8 with
    | nil => exact absurd hd this
    | cons x l => simp
theorem rep_k5 (hk : kindS t c b = 5) {m : Nat} (hl : b.length = 8 + 8 * (m + 1)) :
    reportS t c b = ({ rep0 with kind := 5, fr := nAt b 0 4, ab := nAt b 4 4, firs := (List.range (m + 1)).map (firAt (b.drop 8)) }, !dirty (b.drop 8) (m + 1)) := by
  obtain ⟨e1, e2⟩ := two_at (b := b) false (by omega)
  unfold reportS
  simp only [hk]
  rw [if_neg (by decide), if_neg (by decide), if_neg (by decide), if_neg (by decide), if_neg (by decide), if_pos trivial]
  simp only [e1, e2]
  rw [doS_firs m _ (b.drop 8) false (by rw [List.length_drop]; omega) (by rw [List.length_drop]; omega), Bool.false_or]
  simp
theorem rep_k5_no (hk : kindS t c b = 5) (hl : b.length ≤ 8 ∨ b.length % 8 ≠ 0) : (reportS t c b).2 = false := by
  unfold reportS
  simp only [hk]
  rw [if_neg (by decide), if_neg (by decide), if_neg (by decide), if_neg (by decide), if_neg (by decide), if_pos trivial]
  by_cases h : b.length < 8
  · rw [doS_bad kb_fir _ _ (two_no false h)]; rfl
  · obtain ⟨e1, e2⟩ := two_at (b := b) false (by omega)
    simp only [e1, e2]
    by_cases h8 : b.length % 8 ≠ 0
    · rw [doS_firs_odd _ (b.drop 8) false (by rw [List.length_drop]; omega) (by rw [List.length_drop, List.length_drop]; omega)]; rfl
    · have he : b.drop 8 = [] := List.drop_eq_nil_of_le (by omega)
      rw [he]
      have e3 : firS ([], false) = ([0, 0], ([], true)) := rfl
      rw [doS_end _ e3 rfl]
      rfl
theorem rep_k6 (hk : kindS t c b = 6) {n : Nat} (hn : n = nAt b 12 1) (hl : b.length = 16 + 4 * n) :
    reportS t c b = ({ rep0 with kind := 6, fr := nAt b 0 4, ab := nAt b 4 4, ex := ((nAt b 13 3 / 262144 : Nat) : Int), mt := nAt b 13 3 % 262144, ssrcs := (List.range n).map (ssrcAt (b.drop 8)) }, true) := by
  obtain ⟨e1, e2⟩ := two_at (b := b) false (by omega)
  unfold reportS
  simp only [hk]
  rw [if_neg (by decide), if_neg (by decide), if_neg (by decide), if_neg (by decide), if_neg (by decide), if_neg (by decide)]
  simp only [e1, e2, rembS]
  have he : b.drop (16 + 4 * n) = [] := List.drop_eq_nil_of_le (by omega)
  simp only [numS_at (b := b) (q := false) (at_ := 8) (k := 4) (by omega), numS_at (b := b) (q := false) (at_ := 8 + 4) (k := 1) (by omega), numS_at (b := b) (q := false) (at_ := 8 + 4 + 1) (k := 3) (by omega)]
  have h16 := itS_ssrcs (b := b.drop 8) (q := false) n (by rw [List.length_drop]; omega)
  rw [List.drop_drop, List.drop_drop, show 8 + (8 + 4 * n) = 16 + 4 * n by omega, he] at h16
  rw [show (8 + 4 + 1 + 3) = 8 + 8 from rfl, ← hn, h16]
  rfl
theorem rep_k6_no (hk : kindS t c b = 6) (h12 : 12 ≤ b.length) (hl : b.length < 16 ∨ b.length ≠ 16 + 4 * nAt b 12 1) : (reportS t c b).2 = false := by
  obtain ⟨e1, e2⟩ := two_at (b := b) false (by omega)
  unfold reportS
  simp only [hk]
  rw [if_neg (by decide), if_neg (by decide), if_neg (by decide), if_neg (by decide), if_neg (by decide), if_neg (by decide)]
  simp only [e1, e2, rembS]
  rw [numS_at (b := b) (q := false) (at_ := 8) (k := 4) (by omega)]
  simp only
  by_cases h1 : b.length < 13
  · rw [numS_short (b := b.drop (8 + 4)) (k := 1) (by rw [List.length_drop]; omega)]
    rw [itS_bad kb_ssrc _ _ (numS_bad _ _ rfl)]; rfl
  rw [numS_at (b := b) (q := false) (at_ := 8 + 4) (k := 1) (by omega)]
  simp only
  by_cases h2 : b.length < 16
  · rw [numS_short (b := b.drop (8 + 4 + 1)) (k := 3) (by rw [List.length_drop]; omega)]
    rw [itS_bad kb_ssrc _ _ rfl]; rfl
  rw [numS_at (b := b) (q := false) (at_ := 8 + 4 + 1) (k := 3) (by omega)]
  simp only
  obtain ⟨n, hn⟩ : ∃ n, n = nAt b 12 1 := ⟨_, rfl⟩
  rw [← hn] at hl
  rw [show nAt b (8 + 4) 1 = n from hn.symm, show (8 + 4 + 1 + 3) = 8 + 8 from rfl, ← List.drop_drop]
  by_cases h3 : b.length < 16 + 4 * n
  · rw [itS_ssrcs_lack (b := b.drop 8) n (by rw [List.length_drop]; omega) (by rw [List.length_drop]; omega)]; rfl
  · rw [itS_ssrcs (b := b.drop 8) n (by rw [List.length_drop]; omega)]
    have : (b.drop 8).drop (8 + 4 * n) ≠ [] := by intro h; have := congrArg List.length h; simp at this; omega
    cases hd : (b.drop 8).drop (8 + 4 * n) with
    | nil => exact absurd hd this
    | cons x l => simp
end
end Go.Proofs.Ytkfimncbfbbopaa
