/- Texts of this claim, one behind the other: BackS, BackR, ToldA, BackQ, BytesC, Heavy, RepArg. Each says ahead of itself what it proves, and its conditions. -/
import Derived.Test.YtkfimncbfbbopaaHl
import Derived.Test.YtkfimncbfbbopaaHg
import Derived.Test.YtkfimncbfbbopaaHk
import Derived.Test.YtkfimncbfbbopaaHm
import Derived.Test.YtkfimncbfbbopaaGa
import Derived.Deep.Slices
import Derived.Deep.Fields
import Derived.ChangeArms
/- What is written is read as it was, and what was read is written as it was (plain). No program in sight. -/
set_option linter.unusedVariables false
set_option linter.unusedSimpArgs false
namespace Go.Proofs.Ytkfimncbfbbopaa

theorem beV_beTake (x n : Nat) (hx : x < 256 ^ n) : ∀ k, k ≤ n → beV (beTake x n k) = x / 2 ^ (8 * (n - k))
  | 0, _ => by
    show 0 = _
    rw [Nat.sub_zero, Nat.pow_mul, Nat.div_eq_of_lt hx]
  | k + 1, h => by
    rw [beTake, beV_snoc, beV_beTake x n hx k (by omega), UInt8.toNat_ofNat']
    have e1 : 8 * (n - k) = 8 * (n - 1 - k) + 8 := by omega
    have e2 : 8 * (n - (k + 1)) = 8 * (n - 1 - k) := by omega
    rw [e1, e2, Nat.pow_add, ← Nat.div_div_eq_div_mul]
    show 256 * (_ / 256) + _ % 256 = _
    exact Nat.div_add_mod _ _
theorem beV_beS {x n : Nat} (hx : x < 256 ^ n) : beV (beS x n) = x := by
  unfold beS
  rw [beV_beTake x n hx n (Nat.le_refl _), Nat.sub_self]
  simp
theorem beV_inj : ∀ (n : Nat) (l l' : List UInt8), l.length = n → l'.length = n → beV l = beV l' → l = l'
  | 0, l, l', h, h', _ => by rw [List.eq_nil_of_length_eq_zero h, List.eq_nil_of_length_eq_zero h']
  | n + 1, l, l', h, h', he => by
    rcases List.eq_nil_or_concat l with e | ⟨L, c, e⟩
    · rw [e] at h; simp at h
    rcases List.eq_nil_or_concat l' with e' | ⟨L', c', e'⟩
    · rw [e'] at h'; simp at h'
    rw [List.concat_eq_append] at e e'
    subst e e'
    rw [beV_snoc, beV_snoc] at he
    have h1 := UInt8.toNat_lt c
    have h2 := UInt8.toNat_lt c'
    rw [List.length_append, List.length_singleton] at h h'
    have hl := beV_inj n L L' (by omega) (by omega) (by omega)
    subst hl
    have hc : c = c' := UInt8.toNat_inj.1 (by omega)
    rw [hc]
theorem beS_beV (l : List UInt8) : beS (beV l) l.length = l :=
  beV_inj l.length _ _ (beS_len _ _) rfl (beV_beS (beV_lt l))
theorem numS_w {k x : Nat} (rest : List UInt8) (bad : Bool) (hx : x < 256 ^ k) : numS k (beS x k ++ rest, bad) = (x, (rest, bad)) := by
  have hl := beS_len x k
  unfold numS
  rw [if_neg (by show ¬ (beS x k ++ rest).length < k; rw [List.length_append]; omega)]
  show (beV ((beS x k ++ rest).take k), ((beS x k ++ rest).drop k, bad)) = _
  rw [List.take_left' hl, List.drop_left' hl, beV_beS hx]
theorem numS_r {k : Nat} {s : RS} (h : (numS k s).2.2 = false) : s.2 = false ∧ s.1 = beS (numS k s).1 k ++ (numS k s).2.1 ∧ (numS k s).1 < 256 ^ k := by
  unfold numS at h ⊢
  by_cases hk : s.1.length < k
  · rw [if_pos hk] at h
    exact absurd h (by simp)
  · rw [if_neg hk] at h ⊢
    have hl : (s.1.take k).length = k := by rw [List.length_take]; omega
    refine ⟨h, ?_, ?_⟩
    · show s.1 = beS (beV (s.1.take k)) k ++ s.1.drop k
      have := beS_beV (s.1.take k)
      rw [hl] at this
      rw [this, List.take_append_drop]
    · have := beV_lt (s.1.take k)
      rw [hl] at this
      exact this
theorem numS_q {k x : Nat} {s s' : RS} (e : numS k s = (x, s')) (h : s'.2 = false) : s.2 = false ∧ s.1 = beS x k ++ s'.1 ∧ x < 256 ^ k := by
  have := numS_r (k := k) (s := s) (by rw [e]; exact h)
  rw [e] at this
  exact this
theorem beS1 (x : Nat) : beS x 1 = [UInt8.ofNat x] := by
  show [] ++ [UInt8.ofNat (x / 2 ^ (8 * (1 - 1 - 0)))] = _
  simp
/-- A reader of an element, and what writes it. -/
structure Codec (f : RS → List Nat × RS) (enc : List Nat → List UInt8) (ok : List Nat → Prop) : Prop where
  wr : ∀ e rest bad, ok e → f (enc e ++ rest, bad) = (e, (rest, bad))
  rd : ∀ s, (f s).2.2 = false → s.2 = false ∧ s.1 = enc (f s).1 ++ (f s).2.1 ∧ ok (f s).1
  pos : ∀ e, 0 < (enc e).length
section
variable {f : RS → List Nat × RS} {enc : List Nat → List UInt8} {ok : List Nat → Prop}
theorem it_w (C : Codec f enc ok) (l : List (List Nat)) (rest : List UInt8) (bad : Bool) (hl : ∀ e ∈ l, ok e) : ∀ n, n ≤ l.length → itS f n (l.flatMap enc ++ rest, bad) = (l.take n, ((l.drop n).flatMap enc ++ rest, bad))
  | 0, _ => by simp [itS]
  | n + 1, h => by
    have hn : n < l.length := by omega
    rw [itS, it_w C l rest bad hl n (by omega)]
    have hd : l.drop n = l[n] :: l.drop (n + 1) := (List.drop_eq_getElem_cons hn)
    rw [hd, List.flatMap_cons, List.append_assoc]
    show (l.take n ++ [(f (enc l[n] ++ _, bad)).1], (f (enc l[n] ++ _, bad)).2) = _
    rw [C.wr _ _ _ (hl _ (List.getElem_mem hn)), List.take_succ_eq_append_getElem hn]
theorem it_r (C : Codec f enc ok) (s : RS) : ∀ n, (itS f n s).2.2 = false → s.2 = false ∧ s.1 = (itS f n s).1.flatMap enc ++ (itS f n s).2.1 ∧ (∀ e ∈ (itS f n s).1, ok e) ∧ (itS f n s).1.length = n
  | 0, h => ⟨h, by simp [itS], by simp [itS], rfl⟩
  | n + 1, h => by
    rw [itS] at h ⊢
    obtain ⟨h1, h2, h3⟩ := C.rd _ h
    obtain ⟨g1, g2, g3, g4⟩ := it_r C s n h1
    refine ⟨g1, ?_, ?_, ?_⟩
    · show s.1 = ((itS f n s).1 ++ [(f (itS f n s).2).1]).flatMap enc ++ (f (itS f n s).2).2.1
      rw [List.flatMap_append, List.flatMap_cons, List.flatMap_nil, List.append_nil, List.append_assoc, ← h2]
      exact g2
    · intro e he
      rcases List.mem_append.1 he with he | he
      · exact g3 e he
      · rw [List.mem_singleton.1 he]; exact h3
    · rw [List.length_append, g4]; rfl
theorem do_w (C : Codec f enc ok) (bad : Bool) : ∀ (l : List (List Nat)) (n : Nat), l ≠ [] → l.length ≤ n → (∀ e ∈ l, ok e) → doS f n (l.flatMap enc, bad) = (l, ([], bad))
  | [], _, h, _, _ => absurd rfl h
  | e :: l, 0, _, h, _ => absurd h (by simp)
  | e :: l, n + 1, _, h, hl => by
    have hw := C.wr e (l.flatMap enc) bad (hl _ (by simp))
    rw [List.flatMap_cons]
    rw [doS, hw]
    by_cases hz : l = []
    · subst hz
      exact if_pos rfl
    · have hne : (l.flatMap enc) ≠ [] := by
        obtain ⟨x, L, rfl⟩ := List.exists_cons_of_ne_nil hz
        rw [List.flatMap_cons]
        intro e0
        have := C.pos x
        have h2 := congrArg List.length e0
        rw [List.length_append, List.length_nil] at h2
        omega
      rw [if_neg hne]
      show (e :: (doS f n (l.flatMap enc, bad)).1, (doS f n (l.flatMap enc, bad)).2) = _
      rw [do_w C bad l n hz (by simpa using h) (fun x hx => hl x (by simp [hx]))]
theorem do_r (C : Codec f enc ok) : ∀ (n : Nat) (s : RS), (doS f n s).2.2 = false → s.2 = false ∧ s.1 = (doS f n s).1.flatMap enc ++ (doS f n s).2.1 ∧ (∀ e ∈ (doS f n s).1, ok e) ∧ (0 < n → (doS f n s).1 ≠ [])
  | 0, s, h => ⟨h, by simp [doS], by simp [doS], fun h => absurd h (by omega)⟩
  | n + 1, s, h => by
    rw [doS] at h ⊢
    by_cases hz : (f s).2.1 = []
    · rw [if_pos hz] at h ⊢
      obtain ⟨h1, h2, h3⟩ := C.rd s h
      exact ⟨h1, by show s.1 = [(f s).1].flatMap enc ++ _; simpa using h2, by intro e he; rw [List.mem_singleton.1 he]; exact h3, fun _ => by simp⟩
    · rw [if_neg hz] at h ⊢
      obtain ⟨g1, g2, g3, _⟩ := do_r C n _ h
      obtain ⟨h1, h2, h3⟩ := C.rd s g1
      refine ⟨h1, ?_, ?_, fun _ => by simp⟩
      · show s.1 = ((f s).1 :: _).flatMap enc ++ _
        rw [List.flatMap_cons, List.append_assoc, ← g2]
        exact h2
      · intro e he
        rcases List.mem_cons.1 he with he | he
        · rw [he]; exact h3
        · exact g3 e he
end
def okB (e : List Nat) : Prop := ∃ a b c d x y z, e = [a, b, c, d, x, y, z] ∧ a < 4294967296 ∧ b < 256 ∧ c < 16777216 ∧ d < 4294967296 ∧ x < 4294967296 ∧ y < 4294967296 ∧ z < 4294967296
def okP (e : List Nat) : Prop := ∃ a b, e = [a, b] ∧ a < 65536 ∧ b < 65536
def okF (e : List Nat) : Prop := ∃ a b, e = [a, b] ∧ a < 4294967296 ∧ b < 256
def okQ (e : List Nat) : Prop := ∃ a, e = [a] ∧ a < 4294967296
def ssrcB (e : List Nat) : List UInt8 := beS (e.getD 0 0) 4
theorem codecB : Codec blkS blkB okB where
  wr e rest bad h := by
    obtain ⟨a, b, c, d, x, y, z, rfl, h1, h2, h3, h4, h5, h6, h7⟩ := h
    have e0 : blkB [a, b, c, d, x, y, z] ++ rest = beS a 4 ++ (beS b 1 ++ (beS c 3 ++ (beS d 4 ++ (beS x 4 ++ (beS y 4 ++ (beS z 4 ++ rest)))))) := by
      rw [beS1]
      simp [blkB, fours, List.append_assoc]
    rw [e0]
    unfold blkS
    simp only [numS_w _ _ (show a < 256 ^ 4 from h1), numS_w _ _ (show b < 256 ^ 1 from h2), numS_w _ _ (show c < 256 ^ 3 from h3), numS_w _ _ (show d < 256 ^ 4 from h4), numS_w _ _ (show x < 256 ^ 4 from h5), numS_w _ _ (show y < 256 ^ 4 from h6), numS_w _ _ (show z < 256 ^ 4 from h7)]
  rd s h := by
    unfold blkS at h ⊢
    obtain ⟨x1, s1, q1⟩ : ∃ x s', numS 4 s = (x, s') := ⟨_, _, rfl⟩
    obtain ⟨x2, s2, q2⟩ : ∃ x s', numS 1 s1 = (x, s') := ⟨_, _, rfl⟩
    obtain ⟨x3, s3, q3⟩ : ∃ x s', numS 3 s2 = (x, s') := ⟨_, _, rfl⟩
    obtain ⟨x4, s4, q4⟩ : ∃ x s', numS 4 s3 = (x, s') := ⟨_, _, rfl⟩
    obtain ⟨x5, s5, q5⟩ : ∃ x s', numS 4 s4 = (x, s') := ⟨_, _, rfl⟩
    obtain ⟨x6, s6, q6⟩ : ∃ x s', numS 4 s5 = (x, s') := ⟨_, _, rfl⟩
    obtain ⟨x7, s7, q7⟩ : ∃ x s', numS 4 s6 = (x, s') := ⟨_, _, rfl⟩
    simp only [q1, q2, q3, q4, q5, q6, q7] at h ⊢
    obtain ⟨g1, g2, g3⟩ := numS_q q7 h
    obtain ⟨f1, f2, f3⟩ := numS_q q6 g1
    obtain ⟨e1, e2, e3⟩ := numS_q q5 f1
    obtain ⟨d1, d2, d3⟩ := numS_q q4 e1
    obtain ⟨c1, c2, c3⟩ := numS_q q3 d1
    obtain ⟨b1, b2, b3⟩ := numS_q q2 c1
    obtain ⟨a1, a2, a3⟩ := numS_q q1 b1
    refine ⟨a1, ?_, x1, x2, x3, x4, x5, x6, x7, rfl, a3, b3, c3, d3, e3, f3, g3⟩
    rw [a2, b2, c2, d2, e2, f2, g2, beS1]
    simp [blkB, fours, List.append_assoc]
  pos e := by rw [blkB_len]; omega
theorem codecP : Codec pairS pairB okP where
  wr e rest bad h := by
    obtain ⟨a, b, rfl, h1, h2⟩ := h
    have e0 : pairB [a, b] ++ rest = beS a 2 ++ (beS b 2 ++ rest) := by simp [pairB, List.append_assoc]
    rw [e0]
    unfold pairS
    simp only [numS_w _ _ (show a < 256 ^ 2 from h1), numS_w _ _ (show b < 256 ^ 2 from h2)]
  rd s h := by
    unfold pairS at h ⊢
    obtain ⟨x1, s1, q1⟩ : ∃ x s', numS 2 s = (x, s') := ⟨_, _, rfl⟩
    obtain ⟨x2, s2, q2⟩ : ∃ x s', numS 2 s1 = (x, s') := ⟨_, _, rfl⟩
    simp only [q1, q2] at h ⊢
    obtain ⟨b1, b2, b3⟩ := numS_q q2 h
    obtain ⟨a1, a2, a3⟩ := numS_q q1 b1
    refine ⟨a1, ?_, x1, x2, rfl, a3, b3⟩
    rw [a2, b2]
    simp [pairB, List.append_assoc]
  pos e := by simp [pairB, beS_len]
theorem be0 : beS 0 3 = [0, 0, 0] := by decide
theorem codecF : Codec firS firB okF where
  wr e rest bad h := by
    obtain ⟨a, b, rfl, h1, h2⟩ := h
    have e0 : firB [a, b] ++ rest = beS a 4 ++ (beS b 1 ++ (beS 0 3 ++ rest)) := by
      rw [beS1, be0]
      simp [firB, List.append_assoc]
    rw [e0]
    unfold firS
    simp only [numS_w _ _ (show a < 256 ^ 4 from h1), numS_w _ _ (show b < 256 ^ 1 from h2), numS_w _ _ (show 0 < 256 ^ 3 by decide)]
    simp
  rd s h := by
    unfold firS at h ⊢
    obtain ⟨x1, s1, q1⟩ : ∃ x s', numS 4 s = (x, s') := ⟨_, _, rfl⟩
    obtain ⟨x2, s2, q2⟩ : ∃ x s', numS 1 s1 = (x, s') := ⟨_, _, rfl⟩
    obtain ⟨x3, s3, q3⟩ : ∃ x s', numS 3 s2 = (x, s') := ⟨_, _, rfl⟩
    simp only [q1, q2, q3] at h ⊢
    rw [Bool.or_eq_false_iff] at h
    have hz0 : x3 = 0 := by simpa using h.2
    obtain ⟨c1, c2, c3⟩ := numS_q q3 h.1
    obtain ⟨b1, b2, b3⟩ := numS_q q2 c1
    obtain ⟨a1, a2, a3⟩ := numS_q q1 b1
    refine ⟨a1, ?_, x1, x2, rfl, a3, b3⟩
    rw [a2, b2, c2, hz0, be0, beS1]
    simp [firB, List.append_assoc]
  pos e := by simp [firB, beS_len]
theorem codecQ : Codec ssrcS ssrcB okQ where
  wr e rest bad h := by
    obtain ⟨a, rfl, h1⟩ := h
    show (_, _) = _
    have e0 : ssrcB [a] = beS a 4 := rfl
    rw [e0, numS_w _ _ (show a < 256 ^ 4 from h1)]
  rd s h := by
    obtain ⟨a1, a2, a3⟩ := numS_r h
    exact ⟨a1, a2, _, rfl, a3⟩
  pos e := by simp [ssrcB, beS_len]
theorem blks_it : ∀ n s, blksS n s = itS blkS n s
  | 0, _ => rfl
  | n + 1, s => by rw [blksS, itS, blks_it n s]
theorem fours_q (l : List (List Nat)) : fours (l.map fun e => e.getD 0 0) = l.flatMap ssrcB := by
  induction l with
  | nil => rfl
  | cons e l ih =>
    rw [List.map_cons, List.flatMap_cons, ← ih]
    rfl
end Go.Proofs.Ytkfimncbfbbopaa
/- A report that is written is read as it was; one that was read is written as it was (plain). No program in sight. -/
set_option linter.unusedVariables false
set_option linter.unusedSimpArgs false
namespace Go.Proofs.Ytkfimncbfbbopaa

def okC (e : List Nat) : Prop := ∃ a b c d x y z, e = [a, b, c, d, x, y, z] ∧ a < 4294967296 ∧ b < 256 ∧ c < 4294967296 ∧ d < 4294967296 ∧ x < 4294967296 ∧ y < 4294967296 ∧ z < 4294967296
theorem okC_ok {e : List Nat} (h : okC e) (hb : ¬ bigE e) : okB e := by
  obtain ⟨a, b, c, d, x, y, z, rfl, h1, h2, h3, h4, h5, h6, h7⟩ := h
  have hc : ¬ 16777216 ≤ c := hb
  exact ⟨a, b, c, d, x, y, z, rfl, h1, h2, by omega, h4, h5, h6, h7⟩
theorem okB_C {e : List Nat} (h : okB e) : okC e := by
  obtain ⟨a, b, c, d, x, y, z, rfl, h1, h2, h3, h4, h5, h6, h7⟩ := h
  exact ⟨a, b, c, d, x, y, z, rfl, h1, h2, by omega, h4, h5, h6, h7⟩
/-- Each number of a report fits its place. -/
structure FitR (r : Rep) : Prop where
  fr : r.fr < 4294967296
  ab : r.ab < 4294967296
  ntp : r.ntp < 18446744073709551616
  ts : r.ts < 4294967296
  pk : r.pk < 4294967296
  oc : r.oc < 4294967296
  mt : r.mt < 4294967296
  blocks : ∀ e ∈ r.blocks, okC e
  pairs : ∀ e ∈ r.pairs, okP e
  firs : ∀ e ∈ r.firs, okF e
  ssrcs : ∀ e ∈ r.ssrcs, okQ e
theorem nil_of {α : Type} {l : List α} (h : l.length = 0) : l = [] := List.eq_nil_of_length_eq_zero h
set_option maxRecDepth 20000 in
set_option maxHeartbeats 3200000 in
theorem report_w {r : Rep} (hg : goodS r) (hf : FitR r) : ∃ t c : Nat, typS r = t ∧ cntS r = c ∧ 192 ≤ t ∧ t ≤ 223 ∧ c ≤ 31 ∧ (bodyS r).length % 4 = 0 ∧ reportS t c (bodyS r) = (r, true) := by
  obtain ⟨k, hk, hn, hc⟩ := hg
  obtain ⟨f1, f2, f3, f4, f5, f6, f7, f8, f9, f10, f11⟩ := hf
  obtain ⟨kind, fr, ab, ntp, ts, pk, oc, blocks, pairs, firs, ex, mt, ssrcs, ty, ct, body⟩ := r
  dsimp only at hk f1 f2 f3 f4 f5 f6 f7 f8 f9 f10 f11
  subst hk
  match k, hn, hc with
  | 1, hn, hc =>
    obtain ⟨n1, n2, n3, n4, n5, n6, n7, n8, n9⟩ := hn
    obtain ⟨c1, c2⟩ := hc
    dsimp only at n1 n2 n3 n4 n5 n6 n7 n8 n9 c1 c2
    subst n1 n2 n3 n4 n5
    rw [nil_of n6, nil_of n7, nil_of n8, nil_of n9]
    have hb : ∀ e ∈ blocks, okB e := fun e he => okC_ok (f8 e he) fun h => c2 ⟨e, he, h⟩
    refine ⟨200, blocks.length, rfl, rfl, by decide, by decide, c1, ?_, ?_⟩
    · show (beS fr 4 ++ beS ntp 8 ++ fours [ts, pk, oc] ++ blksB blocks).length % 4 = 0
      simp only [List.length_append, beS_len, fours_len, blksB_len, List.length_cons, List.length_nil]
      omega
    · have e0 : bodyS ⟨1, fr, 0, ntp, ts, pk, oc, blocks, [], [], 0, 0, [], 0, 0, []⟩ = beS fr 4 ++ (beS ntp 8 ++ (beS ts 4 ++ (beS pk 4 ++ (beS oc 4 ++ (blocks.flatMap blkB ++ []))))) := by
        show beS fr 4 ++ beS ntp 8 ++ fours [ts, pk, oc] ++ blksB blocks = _
        simp [fours, blksB, List.append_assoc]
      show reportS 200 blocks.length (bodyS ⟨1, fr, 0, ntp, ts, pk, oc, blocks, [], [], 0, 0, [], 0, 0, []⟩) = _
      rw [e0]
      unfold reportS
      have hK : ∀ b, kindS ((200 : Nat) : Int) (blocks.length : Int) b = 1 := fun b => by unfold kindS; rw [if_pos (by rfl)]
      simp only [hK, numS_w _ _ (show fr < 256 ^ 4 from f1), numS_w _ _ (show ntp < 256 ^ 8 from f3), numS_w _ _ (show ts < 256 ^ 4 from f4), numS_w _ _ (show pk < 256 ^ 4 from f5), numS_w _ _ (show oc < 256 ^ 4 from f6), blks_it, it_w codecB blocks [] false hb _ (Nat.le_refl _), List.take_length, List.drop_length]
      rfl
  | 2, hn, hc =>
    obtain ⟨n1, n2, n3, n4, n5, n6, n7, n8, n9, m1, m2, m3, m4⟩ := hn
    obtain ⟨c1, c2⟩ := hc
    dsimp only at n1 n2 n3 n4 n5 n6 n7 n8 n9 m1 m2 m3 m4 c1 c2
    subst n1 n2 n3 n4 n5 n6 n7 n8 n9
    rw [nil_of m1, nil_of m2, nil_of m3, nil_of m4]
    have hb : ∀ e ∈ blocks, okB e := fun e he => okC_ok (f8 e he) fun h => c2 ⟨e, he, h⟩
    refine ⟨201, blocks.length, rfl, rfl, by decide, by decide, c1, ?_, ?_⟩
    · show (beS fr 4 ++ blksB blocks).length % 4 = 0
      simp only [List.length_append, beS_len, blksB_len]
      omega
    · have e0 : bodyS ⟨2, fr, 0, 0, 0, 0, 0, blocks, [], [], 0, 0, [], 0, 0, []⟩ = beS fr 4 ++ (blocks.flatMap blkB ++ []) := by
        show beS fr 4 ++ blksB blocks = _
        simp [blksB]
      show reportS 201 blocks.length (bodyS ⟨2, fr, 0, 0, 0, 0, 0, blocks, [], [], 0, 0, [], 0, 0, []⟩) = _
      rw [e0]
      unfold reportS
      have hK : ∀ b, kindS ((201 : Nat) : Int) (blocks.length : Int) b = 2 := fun b => by unfold kindS; rw [if_neg (by decide), if_pos (by rfl)]
      simp only [hK, numS_w _ _ (show fr < 256 ^ 4 from f1), blks_it, it_w codecB blocks [] false hb _ (Nat.le_refl _), List.take_length, List.drop_length]
      rfl
  | 3, hn, hc =>
    obtain ⟨n1, n2, n3, n4, n5, n6, n7, n8, m1, m2, m3, m4⟩ := hn
    dsimp only at n1 n2 n3 n4 n5 n6 n7 n8 m1 m2 m3 m4
    have hc : 0 < pairs.length := hc
    subst n1 n2 n3 n4 n5 n6 n7 n8
    rw [nil_of m1, nil_of m2, nil_of m3, nil_of m4]
    refine ⟨205, 1, rfl, rfl, by decide, by decide, by decide, ?_, ?_⟩
    · show (beS fr 4 ++ beS ab 4 ++ pairsB pairs).length % 4 = 0
      simp only [List.length_append, beS_len, pairsB_len]
      omega
    · have e0 : bodyS ⟨3, fr, ab, 0, 0, 0, 0, [], pairs, [], 0, 0, [], 0, 0, []⟩ = beS fr 4 ++ (beS ab 4 ++ pairs.flatMap pairB) := by
        show beS fr 4 ++ beS ab 4 ++ pairsB pairs = _
        simp [pairsB, List.append_assoc]
      show reportS 205 1 (bodyS ⟨3, fr, ab, 0, 0, 0, 0, [], pairs, [], 0, 0, [], 0, 0, []⟩) = _
      rw [e0]
      unfold reportS
      have hK : ∀ b, kindS ((205 : Nat) : Int) ((1 : Nat) : Int) b = 3 := fun b => by unfold kindS; rw [if_neg (by decide), if_neg (by decide), if_pos (by decide)]
      have hlen : pairs.length ≤ (beS ab 4 ++ pairs.flatMap pairB).length + 1 := by
        have := pairsB_len pairs
        unfold pairsB at this
        rw [List.length_append, this]
        omega
      simp only [hK, numS_w _ _ (show fr < 256 ^ 4 from f1), numS_w _ _ (show ab < 256 ^ 4 from f2), do_w codecP false pairs _ (List.length_pos_iff.1 hc) hlen f9]
      rfl
  | 4, hn, hc =>
    obtain ⟨n1, n2, n3, n4, n5, n6, n7, n8, m0, m1, m2, m3, m4⟩ := hn
    dsimp only at n1 n2 n3 n4 n5 n6 n7 n8 m0 m1 m2 m3 m4
    subst n1 n2 n3 n4 n5 n6 n7 n8
    rw [nil_of m0, nil_of m1, nil_of m2, nil_of m3, nil_of m4]
    refine ⟨206, 1, rfl, rfl, by decide, by decide, by decide, ?_, ?_⟩
    · show (beS fr 4 ++ beS ab 4).length % 4 = 0
      simp only [List.length_append, beS_len]
    · have e0 : bodyS ⟨4, fr, ab, 0, 0, 0, 0, [], [], [], 0, 0, [], 0, 0, []⟩ = beS fr 4 ++ (beS ab 4 ++ []) := by
        show beS fr 4 ++ beS ab 4 = _
        simp
      show reportS 206 1 (bodyS ⟨4, fr, ab, 0, 0, 0, 0, [], [], [], 0, 0, [], 0, 0, []⟩) = _
      rw [e0]
      unfold reportS
      have hK : ∀ b, kindS ((206 : Nat) : Int) ((1 : Nat) : Int) b = 4 := fun b => by unfold kindS; rw [if_neg (by decide), if_neg (by decide), if_neg (by decide), if_pos (by decide)]
      simp only [hK, numS_w _ _ (show fr < 256 ^ 4 from f1), numS_w _ _ (show ab < 256 ^ 4 from f2)]
      rfl
  | 5, hn, hc =>
    obtain ⟨n1, n2, n3, n4, n5, n6, n7, n8, m1, m2, m3, m4⟩ := hn
    dsimp only at n1 n2 n3 n4 n5 n6 n7 n8 m1 m2 m3 m4
    have hc : 0 < firs.length := hc
    subst n1 n2 n3 n4 n5 n6 n7 n8
    rw [nil_of m1, nil_of m2, nil_of m3, nil_of m4]
    refine ⟨206, 4, rfl, rfl, by decide, by decide, by decide, ?_, ?_⟩
    · show (beS fr 4 ++ beS ab 4 ++ firsB firs).length % 4 = 0
      simp only [List.length_append, beS_len, firsB_len]
      omega
    · have e0 : bodyS ⟨5, fr, ab, 0, 0, 0, 0, [], [], firs, 0, 0, [], 0, 0, []⟩ = beS fr 4 ++ (beS ab 4 ++ firs.flatMap firB) := by
        show beS fr 4 ++ beS ab 4 ++ firsB firs = _
        simp [firsB, List.append_assoc]
      show reportS 206 4 (bodyS ⟨5, fr, ab, 0, 0, 0, 0, [], [], firs, 0, 0, [], 0, 0, []⟩) = _
      rw [e0]
      unfold reportS
      have hK : ∀ b, kindS ((206 : Nat) : Int) ((4 : Nat) : Int) b = 5 := fun b => by unfold kindS; rw [if_neg (by decide), if_neg (by decide), if_neg (by decide), if_neg (by decide), if_pos (by decide)]
      have hlen : firs.length ≤ (beS ab 4 ++ firs.flatMap firB).length + 1 := by
        have := firsB_len firs
        unfold firsB at this
        rw [List.length_append, this]
        omega
      simp only [hK, numS_w _ _ (show fr < 256 ^ 4 from f1), numS_w _ _ (show ab < 256 ^ 4 from f2), do_w codecF false firs _ (List.length_pos_iff.1 hc) hlen f10]
      rfl
  | 6, hn, hc =>
    obtain ⟨n1, n2, n3, n4, n5, n6, m1, m2, m3, m4⟩ := hn
    obtain ⟨c1, c2, c3, c4⟩ := hc
    dsimp only at n1 n2 n3 n4 n5 n6 m1 m2 m3 m4 c1 c2 c3 c4
    subst n1 n2 n3 n4 n5 n6
    rw [nil_of m1, nil_of m2, nil_of m3, nil_of m4]
    obtain ⟨x, rfl⟩ := Int.eq_ofNat_of_zero_le c2
    refine ⟨206, 15, rfl, rfl, by decide, by decide, by decide, ?_, ?_⟩
    · show (beS fr 4 ++ beS ab 4 ++ [82, 69, 77, 66] ++ [UInt8.ofNat ssrcs.length] ++ beS ((x : Int).toNat * 262144 + mt) 3 ++ fours (ssrcs.map fun e : List Nat => e.getD 0 0)).length % 4 = 0
      simp only [List.length_append, beS_len, fours_len, List.length_cons, List.length_nil]
      omega
    · have e0 : bodyS ⟨6, fr, ab, 0, 0, 0, 0, [], [], [], (x : Int), mt, ssrcs, 0, 0, []⟩ = beS fr 4 ++ (beS ab 4 ++ (beS 1380273474 4 ++ (beS ssrcs.length 1 ++ (beS (x * 262144 + mt) 3 ++ (ssrcs.flatMap ssrcB ++ []))))) := by
        show beS fr 4 ++ beS ab 4 ++ [82, 69, 77, 66] ++ [UInt8.ofNat ssrcs.length] ++ beS ((x : Int).toNat * 262144 + mt) 3 ++ fours (ssrcs.map fun e : List Nat => e.getD 0 0) = _
        rw [fours_q, beS1, show beS 1380273474 4 = [82, 69, 77, 66] by decide, Int.toNat_natCast]
        simp [List.append_assoc]
      show reportS 206 15 (bodyS ⟨6, fr, ab, 0, 0, 0, 0, [], [], [], (x : Int), mt, ssrcs, 0, 0, []⟩) = _
      have hR : rembB (bodyS ⟨6, fr, ab, 0, 0, 0, 0, [], [], [], (x : Int), mt, ssrcs, 0, 0, []⟩) = true := by
        rw [e0, show beS 1380273474 4 = [82, 69, 77, 66] by decide]
        unfold rembB
        rw [Bool.and_eq_true]
        constructor
        · rw [decide_eq_true_eq]
          simp only [List.length_append, beS_len, List.length_cons, List.length_nil]
          omega
        · rw [← List.append_assoc, List.drop_left' (by rw [List.length_append, beS_len, beS_len])]
          exact (by decide : (([82, 69, 77, 66] : List UInt8) == lettersL) = true)
      have hK : kindS ((206 : Nat) : Int) ((15 : Nat) : Int) (bodyS ⟨6, fr, ab, 0, 0, 0, 0, [], [], [], (x : Int), mt, ssrcs, 0, 0, []⟩) = 6 := by
        unfold kindS
        rw [if_neg (by decide), if_neg (by decide), if_neg (by decide), if_neg (by decide), if_neg (by decide), if_pos ⟨by decide, by decide, hR⟩]
      unfold reportS
      rw [hK, e0]
      unfold rembS
      simp only [numS_w _ _ (show fr < 256 ^ 4 from f1), numS_w _ _ (show ab < 256 ^ 4 from f2), numS_w _ _ (show 1380273474 < 256 ^ 4 by decide), numS_w _ _ (show ssrcs.length < 256 ^ 1 by omega), numS_w _ _ (show x * 262144 + mt < 256 ^ 3 by omega), it_w codecQ ssrcs [] false f11 _ (Nat.le_refl _), List.take_length, List.drop_length]
      rw [show (x * 262144 + mt) / 262144 = x by omega, show (x * 262144 + mt) % 262144 = mt by omega]
      rfl
  | 7, hn, hc =>
    obtain ⟨n1, n2, n3, n4, n5, n6, n7, n8, m1, m2, m3, m4⟩ := hn
    obtain ⟨c1, c2, c3, c4, c5, c6⟩ := hc
    dsimp only at n1 n2 n3 n4 n5 n6 n7 n8 m1 m2 m3 m4 c1 c2 c3 c4 c5 c6
    subst n1 n2 n3 n4 n5 n6 n7 n8
    rw [nil_of m1, nil_of m2, nil_of m3, nil_of m4]
    obtain ⟨t, rfl⟩ := Int.eq_ofNat_of_zero_le (show 0 ≤ ty by omega)
    obtain ⟨c, rfl⟩ := Int.eq_ofNat_of_zero_le c3
    refine ⟨t, c, rfl, rfl, by omega, by omega, by omega, c5, ?_⟩
    show reportS t c body = _
    unfold reportS
    rw [c6]
    rfl
  | 0, hn, _ => exact hn.elim
  | k + 8, hn, _ => exact hn.elim
end Go.Proofs.Ytkfimncbfbbopaa
/- What told returns, whatever the report's kind (contract). Conditions: the report lies in memory, may be, and is of a length that fits. -/
set_option linter.unusedVariables false
set_option linter.unusedSimpArgs false
namespace Go.Proofs.Ytkfimncbfbbopaa
open Go.RowKit

theorem okC_fit {l : List (List Nat)} (h : ∀ e ∈ l, okC e) : FitL l := by
  intro e he
  obtain ⟨a, b, c, d, x, y, z, rfl, h1, h2, h3, h4, h5, h6, h7⟩ := h e he
  refine ⟨fun u hu => ?_, h2⟩
  simp only [List.mem_cons, List.not_mem_nil, or_false] at hu
  rcases hu with rfl | rfl | rfl | rfl | rfl | rfl | rfl <;> omega
theorem okF_fit {l : List (List Nat)} (h : ∀ e ∈ l, okF e) : FitL l := by
  intro e he
  obtain ⟨a, b, rfl, h1, h2⟩ := h e he
  refine ⟨fun u hu => ?_, h2⟩
  simp only [List.mem_cons, List.not_mem_nil, or_false] at hu
  rcases hu with rfl | rfl <;> omega
theorem okP_fit {l : List (List Nat)} (h : ∀ e ∈ l, okP e) : ∀ e ∈ l, ∀ x ∈ e, x < 65536 := by
  intro e he u hu
  obtain ⟨a, b, rfl, h1, h2⟩ := h e he
  simp only [List.mem_cons, List.not_mem_nil, or_false] at hu
  rcases hu with rfl | rfl <;> omega
theorem okQ_fit {l : List (List Nat)} (h : ∀ e ∈ l, okQ e) : ∀ e ∈ l, ∀ x ∈ e, x < 4294967296 := by
  intro e he u hu
  obtain ⟨a, rfl, h1⟩ := h e he
  simp only [List.mem_cons, List.not_mem_nil, or_false] at hu
  rcases hu with rfl
  exact h1
theorem told_c (r : Rep) (cs0 : Array Value) (w : World) (h : RepV w cs0 r) (hg : goodS r) (hf : FitR r) (h1 : r.blocks.length ≤ 100000) (h2 : r.pairs.length ≤ 100000) (h3 : r.firs.length ≤ 100000) (vd0 : Value) (hvd : cs0[15]? = some vd0) :
    Calls Try.prog 37 #[.agg cs0] w (ToldR r vd0 w) := by
  obtain ⟨vb, vp, vf, vs, vd, e1, hb, hp, hfi, hs, hd⟩ := h
  subst e1
  obtain ⟨f1, f2, f3, f4, f5, f6, f7, f8, f9, f10, f11⟩ := hf
  obtain ⟨Ab, cb, eb, _, _⟩ := id hb
  obtain ⟨Ap, cp, ep, _, _⟩ := id hp
  obtain ⟨Af, cf, ef, _, _⟩ := id hfi
  obtain ⟨As, cs, es, _, _⟩ := id hs
  obtain ⟨Ad, cd, ed, _, _⟩ := id hd
  subst eb ep ef es ed
  have hvd0 : Value.slice Ad r.body.length cd = vd0 := by injection hvd
  subst hvd0
  clear hvd
  obtain ⟨k, hk, hn, hc⟩ := hg
  match k, hn, hc with
  | 1, hn, hc =>
    have hk1 : r.kind = 1 := hk
    have := told1_c r.fr r.ab r.ntp r.ts r.pk r.oc r.mt r.blocks.length cb r.pairs.length cp r.firs.length cf r.ssrcs.length cs r.body.length cd r.ex r.ty r.ct Ab Ap Af As Ad w r hk1 hb (okC_fit f8) h1 f3 f4 f5 f6 rfl rfl rfl rfl f1 f2 rfl rfl
    rw [← hk1] at this
    exact this
  | 2, hn, hc =>
    have hk1 : r.kind = 2 := hk
    have := told2_c r.fr r.ab r.ntp r.ts r.pk r.oc r.mt r.blocks.length cb r.pairs.length cp r.firs.length cf r.ssrcs.length cs r.body.length cd r.ex r.ty r.ct Ab Ap Af As Ad w r hk1 hb (okC_fit f8) h1 f1 f2 rfl rfl
    rw [← hk1] at this
    exact this
  | 3, hn, hc =>
    have hk1 : r.kind = 3 := hk
    have := told3_c r.fr r.ab r.ntp r.ts r.pk r.oc r.mt r.blocks.length cb r.pairs.length cp r.firs.length cf r.ssrcs.length cs r.body.length cd r.ex r.ty r.ct Ab Ap Af As Ad w r hk1 hp (okP_fit f9) h2 f1 f2 rfl rfl
    rw [← hk1] at this
    exact this
  | 4, hn, hc =>
    have hk1 : r.kind = 4 := hk
    have := told4_c r.fr r.ab r.ntp r.ts r.pk r.oc r.mt r.blocks.length cb r.pairs.length cp r.firs.length cf r.ssrcs.length cs r.body.length cd r.ex r.ty r.ct Ab Ap Af As Ad w r hk1 f1 f2 rfl rfl
    rw [← hk1] at this
    exact this
  | 5, hn, hc =>
    have hk1 : r.kind = 5 := hk
    have := told5_c r.fr r.ab r.ntp r.ts r.pk r.oc r.mt r.blocks.length cb r.pairs.length cp r.firs.length cf r.ssrcs.length cs r.body.length cd r.ex r.ty r.ct Ab Ap Af As Ad w r hk1 hfi (okF_fit f10) h3 f1 f2 rfl rfl
    rw [← hk1] at this
    exact this
  | 6, hn, hc =>
    have hk1 : r.kind = 6 := hk
    obtain ⟨c1, c2, c3, c4⟩ := hc
    have := told6_c r.fr r.ab r.ntp r.ts r.pk r.oc r.mt r.blocks.length cb r.pairs.length cp r.firs.length cf r.ssrcs.length cs r.body.length cd r.ex r.ty r.ct Ab Ap Af As Ad w r hk1 hs (okQ_fit f11) c1 r.ex.toNat (by omega) (by omega) c4 rfl rfl f1 f2 rfl rfl
    rw [← hk1] at this
    exact this
  | 7, hn, hc =>
    have hk1 : r.kind = 7 := hk
    have := told7_c r.fr r.ab r.ntp r.ts r.pk r.oc r.mt r.blocks.length cb r.pairs.length cp r.firs.length cf r.ssrcs.length cs r.body.length cd r.ex r.ty r.ct Ab Ap Af As Ad w r hk1 hd rfl rfl f1 f2 rfl rfl
    rw [← hk1] at this
    exact this
  | 0, hn, _ => exact hn.elim
  | k + 8, hn, _ => exact hn.elim
end Go.Proofs.Ytkfimncbfbbopaa
/- A report that was read may be written, as the bytes that it was (plain). No program in sight. -/
set_option linter.unusedVariables false
set_option linter.unusedSimpArgs false
namespace Go.Proofs.Ytkfimncbfbbopaa

/-- A kind's type and count. -/
theorem kindS_inv (t c : Int) (b : List UInt8) : (kindS t c b = 1 ∧ t = 200) ∨ (kindS t c b = 2 ∧ t = 201) ∨ (kindS t c b = 3 ∧ t = 205 ∧ c = 1) ∨ (kindS t c b = 4 ∧ t = 206 ∧ c = 1) ∨ (kindS t c b = 5 ∧ t = 206 ∧ c = 4) ∨ (kindS t c b = 6 ∧ t = 206 ∧ c = 15 ∧ rembB b = true) ∨ kindS t c b = 7 := by
  unfold kindS
  by_cases h1 : t = 200
  · rw [if_pos h1]; exact .inl ⟨rfl, h1⟩
  rw [if_neg h1]
  by_cases h2 : t = 201
  · rw [if_pos h2]; exact .inr (.inl ⟨rfl, h2⟩)
  rw [if_neg h2]
  by_cases h3 : t = 205 ∧ c = 1
  · rw [if_pos h3]; exact .inr (.inr (.inl ⟨rfl, h3⟩))
  rw [if_neg h3]
  by_cases h4 : t = 206 ∧ c = 1
  · rw [if_pos h4]; exact .inr (.inr (.inr (.inl ⟨rfl, h4⟩)))
  rw [if_neg h4]
  by_cases h5 : t = 206 ∧ c = 4
  · rw [if_pos h5]; exact .inr (.inr (.inr (.inr (.inl ⟨rfl, h5⟩))))
  rw [if_neg h5]
  by_cases h6 : t = 206 ∧ c = 15 ∧ rembB b = true
  · rw [if_pos h6]; exact .inr (.inr (.inr (.inr (.inr (.inl ⟨rfl, h6⟩)))))
  rw [if_neg h6]
  exact .inr (.inr (.inr (.inr (.inr (.inr rfl)))))
theorem end_of {b : Bool} {l : List UInt8} (h : (!b && l.isEmpty) = true) : b = false ∧ l = [] := by
  rw [Bool.and_eq_true] at h
  exact ⟨by simpa using h.1, by simpa using h.2⟩
theorem okB_len {e : List Nat} (h : okB e) : e.length = 7 ∧ ¬ bigE e := by
  obtain ⟨a, b, c, d, x, y, z, rfl, h1, h2, h3, h4, h5, h6, h7⟩ := h
  exact ⟨rfl, fun h => by have : 16777216 ≤ c := h; omega⟩
theorem it_q {f : RS → List Nat × RS} {enc : List Nat → List UInt8} {ok : List Nat → Prop} (C : Codec f enc ok) {s s' : RS} {n : Nat} {l : List (List Nat)} (e : itS f n s = (l, s')) (h : s'.2 = false) : s.2 = false ∧ s.1 = l.flatMap enc ++ s'.1 ∧ (∀ e ∈ l, ok e) ∧ l.length = n := by
  have := it_r C s n (by rw [e]; exact h)
  rw [e] at this
  exact this
theorem do_q {f : RS → List Nat × RS} {enc : List Nat → List UInt8} {ok : List Nat → Prop} (C : Codec f enc ok) {s s' : RS} {n : Nat} {l : List (List Nat)} (e : doS f n s = (l, s')) (h : s'.2 = false) : s.2 = false ∧ s.1 = l.flatMap enc ++ s'.1 ∧ (∀ e ∈ l, ok e) ∧ (0 < n → l ≠ []) := by
  have := do_r C n s (by rw [e]; exact h)
  rw [e] at this
  exact this
set_option maxRecDepth 20000 in
set_option maxHeartbeats 3200000 in
theorem report_r {t c : Nat} {b : List UInt8} (ht0 : 192 ≤ t) (ht1 : t ≤ 223) (hc : c ≤ 31) (hl : b.length % 4 = 0) (h : (reportS t c b).2 = true) :
    goodS (reportS t c b).1 ∧ FitR (reportS t c b).1 ∧ typS (reportS t c b).1 = t ∧ cntS (reportS t c b).1 = c ∧ bodyS (reportS t c b).1 = b := by
  rcases kindS_inv t c b with ⟨hK, k1⟩ | ⟨hK, k1⟩ | ⟨hK, k1, k2⟩ | ⟨hK, k1, k2⟩ | ⟨hK, k1, k2⟩ | ⟨hK, k1, k2, k3⟩ | hK
  · unfold reportS at h ⊢
    obtain ⟨x1, s1, q1⟩ : ∃ x s', numS 4 (b, false) = (x, s') := ⟨_, _, rfl⟩
    obtain ⟨x2, s2, q2⟩ : ∃ x s', numS 8 s1 = (x, s') := ⟨_, _, rfl⟩
    obtain ⟨x3, s3, q3⟩ : ∃ x s', numS 4 s2 = (x, s') := ⟨_, _, rfl⟩
    obtain ⟨x4, s4, q4⟩ : ∃ x s', numS 4 s3 = (x, s') := ⟨_, _, rfl⟩
    obtain ⟨x5, s5, q5⟩ : ∃ x s', numS 4 s4 = (x, s') := ⟨_, _, rfl⟩
    obtain ⟨l, sl, ql⟩ : ∃ l s', itS blkS c s5 = (l, s') := ⟨_, _, rfl⟩
    simp only [if_true, if_false, (show (((1 : Int) = 7) = False) by decide), (show (((1 : Int) = 2) = False) by decide), (show (((1 : Int) = 3) = False) by decide), (show (((1 : Int) = 4) = False) by decide), (show (((1 : Int) = 5) = False) by decide), hK, q1, q2, q3, q4, q5, ql, blks_it] at h ⊢
    obtain ⟨h1, h2⟩ := end_of h
    obtain ⟨a1, a2, a3, a4⟩ := it_q codecB ql h1
    obtain ⟨g5, f5, e5⟩ := numS_q q5 a1
    obtain ⟨g4, f4, e4⟩ := numS_q q4 g5
    obtain ⟨g3, f3, e3⟩ := numS_q q3 g4
    obtain ⟨g2, f2, e2⟩ := numS_q q2 g3
    obtain ⟨g1, f1, e1⟩ := numS_q q1 g2
    refine ⟨⟨1, rfl, ⟨rfl, rfl, rfl, rfl, rfl, rfl, rfl, rfl, rfl⟩, by show _ ≤ 31; rw [a4]; exact hc, fun ⟨e, he, hb⟩ => (okB_len (a3 e he)).2 hb⟩, ⟨e1, Nat.zero_lt_succ _, e2, e3, e4, e5, Nat.zero_lt_succ _, fun e he => okB_C (a3 e he), by simp [rep0], by simp [rep0], by simp [rep0]⟩, ?_, ?_, ?_⟩
    · show (200 : Int) = t; omega
    · show ((l.length : Nat) : Int) = c; rw [a4]
    · show beS x1 4 ++ beS x2 8 ++ fours [x3, x4, x5] ++ l.flatMap blkB = b
      conv => rhs; rw [show b = (b, false).1 from rfl, f1, f2, f3, f4, f5, a2, h2]
      simp [fours, List.append_assoc]
  · unfold reportS at h ⊢
    obtain ⟨x1, s1, q1⟩ : ∃ x s', numS 4 (b, false) = (x, s') := ⟨_, _, rfl⟩
    obtain ⟨l, sl, ql⟩ : ∃ l s', itS blkS c s1 = (l, s') := ⟨_, _, rfl⟩
    simp only [if_true, if_false, (show (((2 : Int) = 7) = False) by decide), (show (((2 : Int) = 1) = False) by decide), (show (((2 : Int) = 3) = False) by decide), (show (((2 : Int) = 4) = False) by decide), (show (((2 : Int) = 5) = False) by decide), hK, q1, ql, blks_it] at h ⊢
    obtain ⟨h1, h2⟩ := end_of h
    obtain ⟨a1, a2, a3, a4⟩ := it_q codecB ql h1
    obtain ⟨g1, f1, e1⟩ := numS_q q1 a1
    refine ⟨⟨2, rfl, ⟨rfl, rfl, rfl, rfl, rfl, rfl, rfl, rfl, rfl, rfl, rfl, rfl, rfl⟩, by show _ ≤ 31; rw [a4]; exact hc, fun ⟨e, he, hb⟩ => (okB_len (a3 e he)).2 hb⟩, ⟨e1, Nat.zero_lt_succ _, Nat.zero_lt_succ _, Nat.zero_lt_succ _, Nat.zero_lt_succ _, Nat.zero_lt_succ _, Nat.zero_lt_succ _, fun e he => okB_C (a3 e he), by simp [rep0], by simp [rep0], by simp [rep0]⟩, ?_, ?_, ?_⟩
    · show (201 : Int) = t; omega
    · show ((l.length : Nat) : Int) = c; rw [a4]
    · show beS x1 4 ++ l.flatMap blkB = b
      conv => rhs; rw [show b = (b, false).1 from rfl, f1, a2, h2]
      simp [fours, List.append_assoc]
  · unfold reportS at h ⊢
    obtain ⟨x1, s1, q1⟩ : ∃ x s', numS 4 (b, false) = (x, s') := ⟨_, _, rfl⟩
    obtain ⟨x2, s2, q2⟩ : ∃ x s', numS 4 s1 = (x, s') := ⟨_, _, rfl⟩
    obtain ⟨l, sl, ql⟩ : ∃ l s', doS pairS (s1.1.length + 1) s2 = (l, s') := ⟨_, _, rfl⟩
    simp only [if_true, if_false, (show (((3 : Int) = 7) = False) by decide), (show (((3 : Int) = 1) = False) by decide), (show (((3 : Int) = 2) = False) by decide), (show (((3 : Int) = 4) = False) by decide), (show (((3 : Int) = 5) = False) by decide), hK, q1, q2, ql] at h ⊢
    obtain ⟨h1, h2⟩ := end_of h
    obtain ⟨a1, a2, a3, a4⟩ := do_q codecP ql h1
    obtain ⟨g2, f2, e2⟩ := numS_q q2 a1
    obtain ⟨g1, f1, e1⟩ := numS_q q1 g2
    refine ⟨⟨3, rfl, ⟨rfl, rfl, rfl, rfl, rfl, rfl, rfl, rfl, rfl, rfl, rfl, rfl⟩, List.length_pos_iff.2 (a4 (by omega))⟩, ⟨e1, e2, Nat.zero_lt_succ _, Nat.zero_lt_succ _, Nat.zero_lt_succ _, Nat.zero_lt_succ _, Nat.zero_lt_succ _, by simp [rep0], a3, by simp [rep0], by simp [rep0]⟩, ?_, ?_, ?_⟩
    · show (205 : Int) = t; omega
    · show (1 : Int) = c; omega
    · show beS x1 4 ++ beS x2 4 ++ l.flatMap pairB = b
      conv => rhs; rw [show b = (b, false).1 from rfl, f1, f2, a2, h2]
      simp [fours, List.append_assoc]
  · unfold reportS at h ⊢
    obtain ⟨x1, s1, q1⟩ : ∃ x s', numS 4 (b, false) = (x, s') := ⟨_, _, rfl⟩
    obtain ⟨x2, s2, q2⟩ : ∃ x s', numS 4 s1 = (x, s') := ⟨_, _, rfl⟩
    simp only [if_true, if_false, (show (((4 : Int) = 7) = False) by decide), (show (((4 : Int) = 1) = False) by decide), (show (((4 : Int) = 2) = False) by decide), (show (((4 : Int) = 3) = False) by decide), (show (((4 : Int) = 5) = False) by decide), hK, q1, q2] at h ⊢
    obtain ⟨h1, h2⟩ := end_of h
    obtain ⟨g2, f2, e2⟩ := numS_q q2 h1
    obtain ⟨g1, f1, e1⟩ := numS_q q1 g2
    refine ⟨⟨4, rfl, ⟨rfl, rfl, rfl, rfl, rfl, rfl, rfl, rfl, rfl, rfl, rfl, rfl, rfl⟩, trivial⟩, ⟨e1, e2, Nat.zero_lt_succ _, Nat.zero_lt_succ _, Nat.zero_lt_succ _, Nat.zero_lt_succ _, Nat.zero_lt_succ _, by simp [rep0], by simp [rep0], by simp [rep0], by simp [rep0]⟩, ?_, ?_, ?_⟩
    · show (206 : Int) = t; omega
    · show (1 : Int) = c; omega
    · show beS x1 4 ++ beS x2 4 = b
      conv => rhs; rw [show b = (b, false).1 from rfl, f1, f2, h2]
      simp [fours, List.append_assoc]
  · unfold reportS at h ⊢
    obtain ⟨x1, s1, q1⟩ : ∃ x s', numS 4 (b, false) = (x, s') := ⟨_, _, rfl⟩
    obtain ⟨x2, s2, q2⟩ : ∃ x s', numS 4 s1 = (x, s') := ⟨_, _, rfl⟩
    obtain ⟨l, sl, ql⟩ : ∃ l s', doS firS (s1.1.length + 1) s2 = (l, s') := ⟨_, _, rfl⟩
    simp only [if_true, if_false, (show (((5 : Int) = 7) = False) by decide), (show (((5 : Int) = 1) = False) by decide), (show (((5 : Int) = 2) = False) by decide), (show (((5 : Int) = 3) = False) by decide), (show (((5 : Int) = 4) = False) by decide), hK, q1, q2, ql] at h ⊢
    obtain ⟨h1, h2⟩ := end_of h
    obtain ⟨a1, a2, a3, a4⟩ := do_q codecF ql h1
    obtain ⟨g2, f2, e2⟩ := numS_q q2 a1
    obtain ⟨g1, f1, e1⟩ := numS_q q1 g2
    refine ⟨⟨5, rfl, ⟨rfl, rfl, rfl, rfl, rfl, rfl, rfl, rfl, rfl, rfl, rfl, rfl⟩, List.length_pos_iff.2 (a4 (by omega))⟩, ⟨e1, e2, Nat.zero_lt_succ _, Nat.zero_lt_succ _, Nat.zero_lt_succ _, Nat.zero_lt_succ _, Nat.zero_lt_succ _, by simp [rep0], by simp [rep0], a3, by simp [rep0]⟩, ?_, ?_, ?_⟩
    · show (206 : Int) = t; omega
    · show (4 : Int) = c; omega
    · show beS x1 4 ++ beS x2 4 ++ l.flatMap firB = b
      conv => rhs; rw [show b = (b, false).1 from rfl, f1, f2, a2, h2]
      simp [fours, List.append_assoc]
  · unfold reportS rembS at h ⊢
    obtain ⟨x1, s1, q1⟩ : ∃ x s', numS 4 (b, false) = (x, s') := ⟨_, _, rfl⟩
    obtain ⟨x2, s2, q2⟩ : ∃ x s', numS 4 s1 = (x, s') := ⟨_, _, rfl⟩
    obtain ⟨x3, s3, q3⟩ : ∃ x s', numS 4 s2 = (x, s') := ⟨_, _, rfl⟩
    obtain ⟨x4, s4, q4⟩ : ∃ x s', numS 1 s3 = (x, s') := ⟨_, _, rfl⟩
    obtain ⟨x5, s5, q5⟩ : ∃ x s', numS 3 s4 = (x, s') := ⟨_, _, rfl⟩
    obtain ⟨l, sl, ql⟩ : ∃ l s', itS ssrcS x4 s5 = (l, s') := ⟨_, _, rfl⟩
    simp only [if_true, if_false, (show (((6 : Int) = 7) = False) by decide), (show (((6 : Int) = 1) = False) by decide), (show (((6 : Int) = 2) = False) by decide), (show (((6 : Int) = 3) = False) by decide), (show (((6 : Int) = 4) = False) by decide), (show (((6 : Int) = 5) = False) by decide), hK, q1, q2, q3, q4, q5, ql] at h ⊢
    obtain ⟨h1, h2⟩ := end_of h
    obtain ⟨a1, a2, a3, a4⟩ := it_q codecQ ql h1
    obtain ⟨g5, f5, e5⟩ := numS_q q5 a1
    obtain ⟨g4, f4, e4⟩ := numS_q q4 g5
    obtain ⟨g3, f3, e3⟩ := numS_q q3 g4
    obtain ⟨g2, f2, e2⟩ := numS_q q2 g3
    obtain ⟨g1, f1, e1⟩ := numS_q q1 g2
    have hb : b = beS x1 4 ++ (beS x2 4 ++ (beS x3 4 ++ s3.1)) := by
      conv => lhs; rw [show b = (b, false).1 from rfl, f1, f2, f3]
    have hlet : beS x3 4 = [82, 69, 77, 66] := by
      unfold rembB at k3
      rw [Bool.and_eq_true] at k3
      have e4 := k3.2
      rw [hb, ← List.append_assoc, List.drop_left' (by rw [List.length_append, beS_len, beS_len]), List.take_left' (beS_len _ _)] at e4
      exact eq_of_beq e4
    have hx3 : x5 < 16777216 := e5
    have hn1 : x4 < 256 := e4
    refine ⟨⟨6, rfl, ⟨rfl, rfl, rfl, rfl, rfl, rfl, rfl, rfl, rfl, rfl⟩, by show l.length ≤ 255; rw [a4]; omega, ?_, ?_, ?_⟩, ?_, ?_, ?_, ?_⟩
    · show (0 : Int) ≤ ((x5 / 262144 : Nat) : Int); omega
    · show ((x5 / 262144 : Nat) : Int) ≤ 63; omega
    · show x5 % 262144 < 262144; omega
    · exact ⟨e1, e2, Nat.zero_lt_succ _, Nat.zero_lt_succ _, Nat.zero_lt_succ _, Nat.zero_lt_succ _, by show x5 % 262144 < _; omega, by simp [rep0], by simp [rep0], by simp [rep0], a3⟩
    · show (206 : Int) = t; omega
    · show (15 : Int) = c; omega
    · show beS x1 4 ++ beS x2 4 ++ [82, 69, 77, 66] ++ [UInt8.ofNat l.length] ++ beS ((((x5 / 262144 : Nat) : Int)).toNat * 262144 + x5 % 262144) 3 ++ fours (l.map fun e : List Nat => e.getD 0 0) = b
      rw [fours_q, a4, ← beS1, Int.toNat_natCast, show x5 / 262144 * 262144 + x5 % 262144 = x5 by omega, ← hlet]
      conv => rhs; rw [hb, f4, f5, a2, h2]
      simp [List.append_assoc]
  · unfold reportS at h ⊢
    simp only [if_true, if_false, (show (((7 : Int) = 1) = False) by decide), (show (((7 : Int) = 2) = False) by decide), (show (((7 : Int) = 3) = False) by decide), (show (((7 : Int) = 4) = False) by decide), (show (((7 : Int) = 5) = False) by decide), hK] at h ⊢
    refine ⟨⟨7, rfl, ⟨rfl, rfl, rfl, rfl, rfl, rfl, rfl, rfl, rfl, rfl, rfl, rfl⟩, by show (192 : Int) ≤ t; omega, by show (t : Int) ≤ 223; omega, by show (0 : Int) ≤ c; omega, by show (c : Int) ≤ 31; omega, hl, hK⟩, ?_, rfl, rfl, rfl⟩
    exact ⟨Nat.zero_lt_succ _, Nat.zero_lt_succ _, Nat.zero_lt_succ _, Nat.zero_lt_succ _, Nat.zero_lt_succ _, Nat.zero_lt_succ _, Nat.zero_lt_succ _, by simp [rep0], by simp [rep0], by simp [rep0], by simp [rep0]⟩
/-- A report's bytes. -/
def oneB (r : Rep) : List UInt8 := [UInt8.ofNat (128 + (cntS r).toNat), UInt8.ofNat (typS r).toNat] ++ beS ((bodyS r).length / 4) 2 ++ bodyS r
def bytesS (rs : List Rep) : List UInt8 := rs.flatMap oneB
theorem oneB_len (r : Rep) : (oneB r).length = 4 + (bodyS r).length := by simp [oneB, beS_len]; omega
set_option maxRecDepth 100000 in
theorem and_hd : ∀ x : Nat, x < 256 → (x &&& 224 = 128 → x = 128 + (x &&& 31) ∧ (x &&& 31) ≤ 31) := by decide
theorem hd_and : ∀ c : Nat, c ≤ 31 → (128 + c) &&& 224 = 128 ∧ (128 + c) &&& 31 = c := by decide
theorem be2 (x : Nat) (h : x < 65536) : beS x 2 = [UInt8.ofNat (x / 256), UInt8.ofNat x] := by
  show [] ++ [UInt8.ofNat (x / 2 ^ (8 * (2 - 1 - 0)))] ++ [UInt8.ofNat (x / 2 ^ (8 * (2 - 1 - 1)))] = _
  simp
theorem oneB_ok {r : Rep} (hg : goodS r) (hf : FitR r) (hl : (bodyS r).length ≤ 100000) (rest : List UInt8) :
    okS (oneB r ++ rest) = true ∧ lenS (oneB r ++ rest) = (oneB r).length ∧ (oneS (oneB r ++ rest)).1 = r := by
  obtain ⟨t, c, e1, e2, h1, h2, h3, h4, h5⟩ := report_w hg hf
  have hq : (bodyS r).length / 4 < 65536 := by omega
  have hB : oneB r ++ rest = UInt8.ofNat (128 + c) :: UInt8.ofNat t :: UInt8.ofNat ((bodyS r).length / 4 / 256) :: UInt8.ofNat ((bodyS r).length / 4) :: (bodyS r ++ rest) := by
    unfold oneB
    rw [be2 _ hq, e1, e2, Int.toNat_natCast, Int.toNat_natCast]
    simp
  have g0 : ((oneB r ++ rest).getD 0 0).toNat = 128 + c := by rw [hB]; show (UInt8.ofNat (128 + c)).toNat = _; rw [UInt8.toNat_ofNat']; omega
  have g1 : ((oneB r ++ rest).getD 1 0).toNat = t := by rw [hB]; show (UInt8.ofNat t).toNat = _; rw [UInt8.toNat_ofNat']; omega
  have g2 : ((oneB r ++ rest).getD 2 0).toNat = (bodyS r).length / 4 / 256 := by rw [hB]; show (UInt8.ofNat _).toNat = _; rw [UInt8.toNat_ofNat']; omega
  have g3 : ((oneB r ++ rest).getD 3 0).toNat = (bodyS r).length / 4 % 256 := by rw [hB]; show (UInt8.ofNat _).toNat = _; rw [UInt8.toNat_ofNat']
  have hlen : lenS (oneB r ++ rest) = (oneB r).length := by unfold lenS; rw [g2, g3, oneB_len]; omega
  have hone : oneS (oneB r ++ rest) = (r, true) := by
    unfold oneS
    rw [hlen, g0, g1, (hd_and c h3).2, List.take_left' rfl]
    have : (oneB r).drop 4 = bodyS r := by
      unfold oneB
      rw [List.drop_left' (by simp [beS_len])]
    rw [this]
    exact h5
  refine ⟨?_, hlen, by rw [hone]⟩
  unfold okS
  simp only [Bool.and_eq_true, decide_eq_true_eq]
  refine ⟨⟨⟨by rw [List.length_append, oneB_len]; omega, ?_, ?_⟩, by rw [hlen, List.length_append]; omega⟩, by rw [hone]⟩
  · unfold headB; rw [g0, (hd_and c h3).1]; decide
  · unfold isB
    simp only [Bool.and_eq_true, decide_eq_true_eq]
    rw [g1]
    exact ⟨⟨by rw [List.length_append, oneB_len]; omega, h1⟩, h2⟩
theorem parN_bytes : ∀ (rs : List Rep) (f : Nat) (acc : List Rep), (∀ r ∈ rs, goodS r ∧ FitR r ∧ (bodyS r).length ≤ 100000) → (bytesS rs).length < f → parN f (bytesS rs) acc = (acc ++ rs, 0)
  | [], 0, _, _, h => absurd h (by omega)
  | [], f + 1, acc, _, h => by rw [parN, if_pos (show (bytesS []).length = 0 from rfl), List.append_nil]
  | r :: rs, 0, _, _, h => absurd h (by omega)
  | r :: rs, f + 1, acc, hr, h => by
    have e : bytesS (r :: rs) = oneB r ++ bytesS rs := by simp [bytesS]
    obtain ⟨g, hf, hl⟩ := hr r (by simp)
    obtain ⟨k1, k2, k3⟩ := oneB_ok g hf hl (bytesS rs)
    rw [e] at h ⊢
    rw [parN_ok k1, k2, k3, List.drop_left' rfl]
    rw [parN_bytes rs f _ (fun x hx => hr x (by simp [hx])) (by rw [List.length_append, oneB_len] at h; omega)]
    simp
/-- What is written is read as it was. -/
theorem parse_bytes {rs : List Rep} (h0 : rs ≠ []) (h : ∀ r ∈ rs, goodS r ∧ FitR r) (hl : (bytesS rs).length ≤ 1200) : parseS (bytesS rs) = (rs, 0) := by
  obtain ⟨r, rs', rfl⟩ := List.exists_cons_of_ne_nil h0
  have hp : 0 < (bytesS (r :: rs')).length := by
    have : bytesS (r :: rs') = oneB r ++ bytesS rs' := by simp [bytesS]
    rw [this, List.length_append, oneB_len]; omega
  have hb : ∀ x ∈ (r :: rs'), (bodyS x).length ≤ (bytesS (r :: rs')).length := by
    intro x hx
    obtain ⟨l1, l2, e⟩ := List.append_of_mem hx
    rw [e]
    simp only [bytesS, List.flatMap_append, List.flatMap_cons, List.length_append, oneB_len]
    omega
  rw [parseS, if_neg (by omega), if_neg (by omega)]
  rw [parN_bytes (r :: rs') _ _ (fun x hx => ⟨(h x hx).1, (h x hx).2, by have := hb x hx; omega⟩) (by omega)]
  rfl
theorem isB_bytes {rs : List Rep} (h0 : rs ≠ []) (h : ∀ r ∈ rs, goodS r ∧ FitR r) : isB (bytesS rs) = true := by
  obtain ⟨r, rs', rfl⟩ := List.exists_cons_of_ne_nil h0
  obtain ⟨t, c, e1, e2, h1, h2, h3, h4, h5⟩ := report_w (h r (by simp)).1 (h r (by simp)).2
  have e : bytesS (r :: rs') = UInt8.ofNat (128 + (cntS r).toNat) :: UInt8.ofNat t :: (beS ((bodyS r).length / 4) 2 ++ bodyS r ++ bytesS rs') := by
    simp [bytesS, oneB, e1]
  unfold isB
  rw [e]
  simp only [List.length_cons, Bool.and_eq_true, decide_eq_true_eq]
  have g1 : ((UInt8.ofNat (128 + (cntS r).toNat) :: UInt8.ofNat t :: (beS ((bodyS r).length / 4) 2 ++ bodyS r ++ bytesS rs')).getD 1 0).toNat = t := by show (UInt8.ofNat t).toNat = _; rw [UInt8.toNat_ofNat']; omega
  rw [g1]
  exact ⟨⟨by omega, h1⟩, h2⟩
theorem one_back {b : List UInt8} (h : okS b = true) : goodS (oneS b).1 ∧ FitR (oneS b).1 ∧ oneB (oneS b).1 = b.take (lenS b) := by
  have hge := lenS_ge b
  unfold okS at h
  simp only [Bool.and_eq_true, decide_eq_true_eq] at h
  obtain ⟨⟨⟨h1, h2⟩, h3⟩, h4⟩ := h
  have hh : (b.getD 0 0).toNat &&& 224 = 128 := by have := h2.1; unfold headB at this; simpa using this
  obtain ⟨hx, hy⟩ := and_hd _ (UInt8.toNat_lt (b.getD 0 0)) hh
  have hi := h2.2
  unfold isB at hi
  simp only [Bool.and_eq_true, decide_eq_true_eq] at hi
  have hlen : ((b.take (lenS b)).drop 4).length = 4 * (256 * (b.getD 2 0).toNat + (b.getD 3 0).toNat) := by
    rw [List.length_drop, List.length_take, Nat.min_eq_left h3]
    unfold lenS
    omega
  have hm : ((b.take (lenS b)).drop 4).length % 4 = 0 := by rw [hlen]; omega
  obtain ⟨r1, r2, r3, r4, r5⟩ := report_r hi.1.2 hi.2 hy hm h4
  refine ⟨r1, r2, ?_⟩
  show [UInt8.ofNat (128 + (cntS (oneS b).1).toNat), UInt8.ofNat (typS (oneS b).1).toNat] ++ beS ((bodyS (oneS b).1).length / 4) 2 ++ bodyS (oneS b).1 = _
  have r3' : typS (oneS b).1 = ((b.getD 1 0).toNat : Int) := r3
  have r4' : cntS (oneS b).1 = (((b.getD 0 0).toNat &&& 31 : Nat) : Int) := r4
  have r5' : bodyS (oneS b).1 = (b.take (lenS b)).drop 4 := r5
  have q2 := UInt8.toNat_lt (b.getD 2 0)
  have q3 := UInt8.toNat_lt (b.getD 3 0)
  have z0 : UInt8.ofNat (128 + ((b.getD 0 0).toNat &&& 31)) = b.getD 0 0 := by rw [← hx]; exact UInt8.ofNat_toNat
  have z1 : UInt8.ofNat (b.getD 1 0).toNat = b.getD 1 0 := UInt8.ofNat_toNat
  have z2 : UInt8.ofNat ((256 * (b.getD 2 0).toNat + (b.getD 3 0).toNat) / 256) = b.getD 2 0 := by rw [show (256 * (b.getD 2 0).toNat + (b.getD 3 0).toNat) / 256 = (b.getD 2 0).toNat by omega]; exact UInt8.ofNat_toNat
  have z3 : UInt8.ofNat (256 * (b.getD 2 0).toNat + (b.getD 3 0).toNat) = b.getD 3 0 := by
    apply UInt8.toNat_inj.1
    rw [UInt8.toNat_ofNat']
    omega
  rw [r3', r4', Int.toNat_natCast, Int.toNat_natCast, r5', hlen, Nat.mul_div_cancel_left _ (by decide), be2 _ (by omega), z0, z1, z2, z3]
  match b, h1 with
  | b0 :: b1 :: b2 :: b3 :: rest, _ =>
    obtain ⟨n, hn⟩ : ∃ n, lenS (b0 :: b1 :: b2 :: b3 :: rest) = n + 4 := ⟨_, (Nat.sub_add_cancel hge).symm⟩
    rw [hn]
    rfl
theorem parN_back : ∀ (f : Nat) (b : List UInt8) (acc l : List Rep), b.length < f → parN f b acc = (l, 0) → ∃ rs, l = acc ++ rs ∧ bytesS rs = b ∧ ∀ r ∈ rs, goodS r ∧ FitR r
  | 0, _, _, _, h, _ => absurd h (by omega)
  | f + 1, b, acc, l, hf, h => by
    by_cases h0 : b.length = 0
    · have hb : b = [] := List.eq_nil_of_length_eq_zero h0
      subst hb
      rw [parN, if_pos h0] at h
      injection h with h _
      exact ⟨[], by rw [List.append_nil]; exact h.symm, rfl, by simp⟩
    by_cases hk : okS b = true
    · rw [parN_ok hk] at h
      have hge := lenS_ge b
      obtain ⟨rs, e1, e2, e3⟩ := parN_back f _ _ l (by rw [List.length_drop]; omega) h
      obtain ⟨g1, g2, g3⟩ := one_back hk
      refine ⟨(oneS b).1 :: rs, by rw [e1]; simp, ?_, ?_⟩
      · show (oneB (oneS b).1 ++ bytesS rs) = b
        rw [g3, e2, List.take_append_drop]
      · intro r hr
        rcases List.mem_cons.1 hr with hr | hr
        · rw [hr]; exact ⟨g1, g2⟩
        · exact e3 r hr
    · have := (parN_bad (f := f) (acc := acc) (by simpa using hk) h0).1
      rw [h] at this
      exact absurd rfl this
/-- What was read may be written, as the bytes that it was. -/
theorem bytes_parse {b : List UInt8} (h : (parseS b).2 = 0) : bytesS (parseS b).1 = b ∧ (parseS b).1 ≠ [] ∧ (∀ r ∈ (parseS b).1, goodS r ∧ FitR r) ∧ b.length ≤ 1200 := by
  unfold parseS at h ⊢
  by_cases h1 : 1200 < b.length
  · rw [if_pos h1] at h; exact absurd h (by decide)
  rw [if_neg h1] at h ⊢
  by_cases h2 : b.length = 0
  · rw [if_pos h2] at h; exact absurd h (by decide)
  rw [if_neg h2] at h ⊢
  obtain ⟨rs, e1, e2, e3⟩ := parN_back (b.length + 1) b [] _ (by omega) (Prod.ext rfl h : parN (b.length + 1) b [] = ((parN (b.length + 1) b []).1, 0))
  rw [e1, List.nil_append]
  refine ⟨e2, fun hn => ?_, e3, by omega⟩
  subst hn
  rw [← e2] at h2
  exact h2 rfl
end Go.Proofs.Ytkfimncbfbbopaa
/- What Bytes returns (contract). Conditions: the reports lie in memory, and their numbers fit their places. -/
set_option linter.unusedVariables false
set_option linter.unusedSimpArgs false
namespace Go.Proofs.Ytkfimncbfbbopaa
open Go.RowKit
attribute [local go_sem ↓] Go.wp_at_zero Go.wp_at_succ

/-- The error of a list of reports. -/
def ErrOf (rs : List Rep) (z : Int) : Prop := (z = 1 ∧ (rs = [] ∨ ∃ r ∈ rs, ¬ goodS r)) ∨ (z = 4 ∧ rs ≠ [] ∧ (∀ r ∈ rs, goodS r) ∧ 1200 < (bytesS rs).length) ∨ (z = 0 ∧ rs ≠ [] ∧ (∀ r ∈ rs, goodS r) ∧ (bytesS rs).length ≤ 1200)
theorem ErrOf.one {rs : List Rep} {y z : Int} (h : ErrOf rs y) (g : ErrOf rs z) : y = z := by
  have nb : ∀ {rs : List Rep}, (rs = [] ∨ ∃ r ∈ rs, ¬ goodS r) → rs ≠ [] → (∀ r ∈ rs, goodS r) → False := by
    intro rs h h1 h2
    rcases h with h | ⟨r, h, hb⟩
    · exact h1 h
    · exact hb (h2 r h)
  rcases h with ⟨h1, h2⟩ | ⟨h1, h2, h3, h4⟩ | ⟨h1, h2, h3, h4⟩ <;> rcases g with ⟨g1, g2⟩ | ⟨g1, g2, g3, g4⟩ | ⟨g1, g2, g3, g4⟩
  · rw [h1, g1]
  · exact (nb h2 g2 g3).elim
  · exact (nb h2 g2 g3).elim
  · exact (nb g2 h2 h3).elim
  · rw [h1, g1]
  · omega
  · exact (nb g2 h2 h3).elim
  · omega
  · rw [h1, g1]
theorem RepV.one {w : World} {L : List Value} {r : Rep} (h : RepV w L.toArray r) : L.toArray.all (·.oneCell') = true := by
  obtain ⟨vb, vp, vf, vs, vd, e, h1, h2, h3, h4, h5⟩ := h
  obtain ⟨_, _, rfl, _⟩ := h1
  obtain ⟨_, _, rfl, _⟩ := h2
  obtain ⟨_, _, rfl, _⟩ := h3
  obtain ⟨_, _, rfl, _⟩ := h4
  obtain ⟨_, _, rfl, _⟩ := h5
  rw [e]
  simp [repA, Value.oneCell']
theorem RepV.body15 {w : World} {cs : Array Value} {r : Rep} (h : RepV w cs r) : ∃ vd, cs[15]? = some vd ∧ SlV w vd r.body := by
  obtain ⟨vb, vp, vf, vs, vd, e, h1, h2, h3, h4, h5⟩ := h
  subst e
  exact ⟨vd, rfl, h5⟩
theorem Grew.call {B : Nat} {v v' : Value} {l : List UInt8} {w w' w'' : World} (h : Grew B v l w v' w') (hb : Below w'.heap.size w' w'') : Grew B v l w v' w'' :=
  ⟨(Sv.of_below (M := fun _ => False) hb).own h.1 (fun _ _ e => e), h.2.1.call hb, h.2.2⟩
/-- What told returned lies there still where what is written grows. -/
theorem told_src {B : Nat} {w9 w10 w11 w13 : World} {vout v9 : Value} {b L : List UInt8} (hg : Grew B (.slice none 0 0) L w9 vout w10) (hB : B = w9.heap.size) (h : ByteRow w11 w10.heap.size v9 b ∨ SlV w9 v9 b) (hb : Below w10.heap.size w10 w11) (hx : Sv (fun j => vout.ownBlock = some j) w11 w13) : SlV w13 v9 b := by
  rcases h with h | h
  · refine SlV.own (base := w10.heap.size) (hx.own h fun g e hm => ?_)
    have h1 := (World.ownsRow.lt h g e).1
    have h2 := (World.ownsRow.lt hg.1 g hm).2
    omega
  · have h1 := bcall hg.belowN hb
    refine h.below (h1.trans (hx.toBelow (fun k hk => ?_) h1.size))
    have := (World.ownsRow.lt hg.1 k hk).1
    omega
/-- What Bytes returns. -/
def BytesR (rs : List Rep) (w : World) (e : Ending) (w' : World) : Prop := ∃ v z, e = .returned (.tuple #[v, .int .i64 z]) ∧ ErrOf rs z ∧ SlV w' v (if z = 0 then bytesS rs else []) ∧ Below w.heap.size w w'
/-- What is asked of reports in memory. -/
structure FitM (r : Rep) : Prop where
  fit : FitR r
  blocks : r.blocks.length ≤ 90000
  pairs : r.pairs.length ≤ 90000
  firs : r.firs.length ≤ 90000
  ssrcs : r.ssrcs.length ≤ 90000
  body : r.body.length ≤ 90000
  exlo : -9223372036854775808 ≤ r.ex
  exhi : r.ex ≤ 9223372036854775807
theorem bodyS_le {r : Rep} (h : FitM r) : (bodyS r).length ≤ 10000000 := by
  obtain ⟨_, h1, h2, h3, h4, h5, _, _⟩ := h
  unfold bodyS
  split
  · omega
  split
  · simp only [List.length_append, beS_len, fours_len, blksB_len, List.length_cons, List.length_nil]; omega
  split
  · simp only [List.length_append, beS_len, blksB_len]; omega
  split
  · simp only [List.length_append, beS_len, pairsB_len]; omega
  split
  · simp only [List.length_append, beS_len]; omega
  split
  · simp only [List.length_append, beS_len, firsB_len]; omega
  · simp only [List.length_append, beS_len, fours_len, List.length_cons, List.length_nil, List.length_map]; omega
theorem bytesS_snoc {rs : List Rep} {i : Nat} {r : Rep} (h : rs[i]? = some r) : bytesS (rs.take (i + 1)) = bytesS (rs.take i) ++ oneB r := by
  have hi : i < rs.length := by
    rcases Nat.lt_or_ge i rs.length with h1 | h1
    · exact h1
    · rw [List.getElem?_eq_none h1] at h; cases h
  rw [List.take_succ_eq_append_getElem hi]
  rw [List.getElem?_eq_getElem hi] at h
  injection h with h
  rw [h]
  simp [bytesS]
theorem bytesS_le (rs : List Rep) (i : Nat) : (bytesS (rs.take i)).length ≤ (bytesS rs).length := by
  conv => rhs; rw [← List.take_append_drop i rs]
  simp only [bytesS, List.flatMap_append, List.length_append]
  omega
theorem or128 : ∀ c : Nat, c ≤ 31 → bits .or .i64 128 (c : Int) = ((128 + c : Nat) : Int) := by
  intro c hc
  have := or_join (x := 0) (y := 0) (by decide) (by decide)
  rcases c with _ | _ | _ | _ | _ | _ | _ | _ | _ | _ | _ | _ | _ | _ | _ | _ | _ | _ | _ | _ | _ | _ | _ | _ | _ | _ | _ | _ | _ | _ | _ | _ | c <;> first | decide | omega
set_option maxRecDepth 100000 in
set_option maxHeartbeats 12800000 in
theorem bytesGood_c (rs : List Rep) (A : Option Addr) (n cap : Nat) (w : World) (h : RepsAt w A n rs) (hl : rs.length = n) (h0 : 0 < n) (hn : n ≤ 100000) (hf : ∀ r ∈ rs, FitM r) (hg : ∀ r ∈ rs, goodS r) :
    Calls Try.prog 23 #[.slice A n cap] w (BytesR rs w) := by
  obtain ⟨iB, hiB, hz0, hz1, hz2⟩ := info_parts infoByte
  have HC := Lib.hid (contR_c rs A n cap w h hl (by omega) (fun r hr => ⟨by have := (hf r hr).blocks; omega, (hf r hr).exlo, (hf r hr).exhi⟩))
  have HNB : Hid (¬ ∃ r ∈ rs, ¬ goodS r) := fun ⟨r, hr, hb⟩ => hb (hg r hr)
  have q0 : ((n : Int) == 0) = false := by rw [beq_eq_false_iff_ne]; omega
  have q1 : (n == 0) = false := by rw [beq_eq_false_iff_ne]; omega
  have HF := Lib.hid hf
  have HGD := Lib.hid hg
  have HLEN := Lib.hid hl
  have H := Lib.hid h
  have HN0 := Lib.hid h0
  have HNN := Lib.hid hn
  clear h hl h0 hf hg hn
  go_enter Try.func23, Try.ntmps23
  go_upto_region 5 with (first
    | (go_at_call 35
       refine HC.out.mono ?_
       rintro e9 w9 ⟨q, rfl, hq, hb9⟩
       have hqf : q = false := by
         cases q
         · rfl
         · exact absurd (hq.1 rfl) HNB.out
       subst hqf
       have HB9 := Lib.hid hb9
       clear hq hb9))
  clear q0 q1
  obtain ⟨B, hB⟩ : ∃ B, B = w9.heap.size := ⟨_, rfl⟩
  have HG0 : Hid (Grew B (.slice none 0 0) (bytesS (rs.take 0)) w9 (.slice none 0 0) w9) := by show Grew _ _ _ _ _ _; rw [hB]; exact Grew.start w9
  have HBE := Lib.hid hB
  have H9 : Hid (RepsAt w9 A n rs) := H.out.below HB9.out
  clear hB
  go_loopg [4, 19] n (fun gg vv vi wx => ∃ i : Nat, gg = n - i ∧ i ≤ n ∧ vi = .int .i64 (i : Int) ∧ (bytesS (rs.take i)).length ≤ 1200 ∧ Grew B (.slice none 0 0) (bytesS (rs.take i)) w9 vv wx)
  case atStart => exact ⟨0, rfl, by omega, rfl, by simp [bytesS], HG0.out⟩
  case round =>
    obtain ⟨i, hgg, hi, rfl, hle, hg⟩ := hrel
    obtain ⟨Av, cv, hv⟩ := own_slice hg.1
    subst hv
    have HG := Lib.hid hg
    have HGG := Lib.hid hgg
    have HLE := Lib.hid hle
    clear hg hgg hle HG0
    have HBW : Hid (Below w9.heap.size w9 wr) := HG.out.belowN
    obtain ⟨L, hL⟩ : ∃ L, L = bytesS (rs.take i) := ⟨_, rfl⟩
    have HLD := Lib.hid hL
    rw [← hL] at HG HLE ⊢
    obtain ⟨m, hm⟩ : ∃ m, m = L.length := ⟨_, rfl⟩
    have HM := Lib.hid hm
    have hm12 : m ≤ 1200 := by have := HLE.out; omega
    rw [← hm] at HG ⊢
    clear hL hm
    by_cases hin : i < n
    · have hini : (i : Int) < (n : Int) := by omega
      have hw1 : IntKind.i64.wrap ((i : Int) + 1) = ((i + 1 : Nat) : Int) := by have := HNN.out; rw [IntKind.wrap_i64]; omega
      obtain ⟨r, hr⟩ : ∃ r, rs[i]? = some r := ⟨_, List.getElem?_eq_getElem (by have := HLEN.out; omega)⟩
      obtain ⟨g3, o3, hA3, hg3, h3⟩ := H9.out.at_ (by omega)
      obtain ⟨L3, hv3, hl3, hrg3⟩ := h3 i r hr
      have HFR := Lib.hid (HF.out r (List.mem_of_getElem? hr))
      have HGR := Lib.hid (HGD.out r (List.mem_of_getElem? hr))
      have HSN := Lib.hid (bytesS_snoc hr)
      have HLT := Lib.hid hin
      have HL3 := Lib.hid hl3
      have HV3 := Lib.hid hv3
      have HRG3 : Hid (wr.rangeAt g3 (o3 + i * 16) L3) := below_range hrg3 HBW.out hg3
      have HI3 : Hid ((Try.prog.info? 46).map (·.size) = some L3.length) := by show _ = _; rw [hl3]; exact infoRep
      have HG3 : Hid (g3 < wr.heap.size) := Nat.lt_of_lt_of_le hg3 HBW.out.size
      subst hA3
      clear hr hin hi hg3 h3 hv3 hl3 hrg3
      obtain ⟨Z, hZ⟩ : ∃ Z : Array Value, Z = #[.int .i64 0, .int .u32 0, .int .u32 0, .int .u64 0, .int .u32 0, .int .u32 0, .int .u32 0, .slice none 0 0, .slice none 0 0, .slice none 0 0, .int .i64 0, .int .u32 0, .slice none 0 0, .int .i64 0, .int .i64 0, .slice none 0 0] := ⟨_, rfl⟩
      have HX10 : Hid (Blk (wr.alloc (.cells #[.int .i64 0, .int .u32 0, .int .u32 0, .int .u64 0, .int .u32 0, .int .u32 0, .int .u32 0, .slice none 0 0, .slice none 0 0, .slice none 0 0, .int .i64 0, .int .u32 0, .slice none 0 0, .int .i64 0, .int .i64 0, .slice none 0 0] 46)) wr.heap.size 46 #[.int .i64 0, .int .u32 0, .int .u32 0, .int .u64 0, .int .u32 0, .int .u32 0, .int .u32 0, .slice none 0 0, .slice none 0 0, .slice none 0 0, .int .i64 0, .int .u32 0, .slice none 0 0, .int .i64 0, .int .i64 0, .slice none 0 0]) := Blk.newAt rfl _ _
      have HS3 : Hid (L3.toArray.size = 16) := by show _ = _; rw [List.size_toArray]; exact HL3.out
      have HTH : Hid ((wr.alloc (.cells #[.int .i64 0, .int .u32 0, .int .u32 0, .int .u64 0, .int .u32 0, .int .u32 0, .int .u32 0, .slice none 0 0, .slice none 0 0, .slice none 0 0, .int .i64 0, .int .u32 0, .slice none 0 0, .int .i64 0, .int .i64 0, .slice none 0 0] 46)).there wr.heap.size 0 L3.toArray.size) := by show World.there _ _ _ _; rw [HS3.out]; exact blk_there (l := (#[.int .i64 0, .int .u32 0, .int .u32 0, .int .u64 0, .int .u32 0, .int .u32 0, .int .u32 0, .slice none 0 0, .slice none 0 0, .slice none 0 0, .int .i64 0, .int .u32 0, .slice none 0 0, .int .i64 0, .int .i64 0, .slice none 0 0] : Array Value).toList) HX10.out rfl
      have HON : Hid (L3.toArray.all (·.oneCell') = true) := RepV.one HV3.out
      have HJ : Hid ((Try.prog.info? 46).map (·.size) = some L3.toArray.size) := by show _ = _; rw [HS3.out]; exact infoRep
      have HRA : Hid ((wr.alloc (.cells #[.int .i64 0, .int .u32 0, .int .u32 0, .int .u64 0, .int .u32 0, .int .u32 0, .int .u32 0, .slice none 0 0, .slice none 0 0, .slice none 0 0, .int .i64 0, .int .u32 0, .slice none 0 0, .int .i64 0, .int .i64 0, .slice none 0 0] 46)).rangeAt g3 (o3 + i * 16) L3) := below_range HRG3.out (balloc (Below.refl _ _) _) HG3.out
      clear hZ
      go_upto_region 7 with (first
        | ((with_reducible show wpList _ _ _ (⟨some 22, .load 46 (.tmp 21), _, _, _, _⟩ :: _) _ _); refine wpList_load_mid rfl 46 (.tmp 21) rfl g3 (o3 + i * 16) rfl L3 _ HRG3.out Try.underlying46 rfl HI3.out ?_)
        | ((with_reducible show wpList _ _ _ (⟨none, .store 46 (.tmp 6) (.tmp 22), _, _, _, _⟩ :: _) _ _); refine wpList_store_mid rfl 46 (.tmp 6) (.tmp 22) rfl wr.heap.size 0 L3.toArray rfl rfl HTH.out HJ.out HON.out ?_))
      obtain ⟨gx, hgx⟩ : ∃ gx, gx = wr.heap.size := ⟨_, rfl⟩
      obtain ⟨w10, hw10⟩ : ∃ w10, w10 = World.setCells (wr.alloc (.cells #[.int .i64 0, .int .u32 0, .int .u32 0, .int .u64 0, .int .u32 0, .int .u32 0, .int .u32 0, .slice none 0 0, .slice none 0 0, .slice none 0 0, .int .i64 0, .int .u32 0, .slice none 0 0, .int .i64 0, .int .i64 0, .slice none 0 0] 46)) wr.heap.size 0 L3 := ⟨_, rfl⟩
      have HB10 : Hid (Below wr.heap.size wr w10) := by show Below _ _ _; rw [hw10]; exact below_setCells (balloc (Below.refl _ _) _) (Nat.le_refl _) _ _
      have HX11 : Hid (Blk w10 gx 46 L3.toArray) := by show Blk _ _ _ _; rw [hw10, hgx]; exact blk_setAll (l := (#[.int .i64 0, .int .u32 0, .int .u32 0, .int .u64 0, .int .u32 0, .int .u32 0, .int .u32 0, .slice none 0 0, .slice none 0 0, .slice none 0 0, .int .i64 0, .int .u32 0, .slice none 0 0, .int .i64 0, .int .i64 0, .slice none 0 0] : Array Value).toList) HX10.out (by rw [HL3.out]; rfl)
      rw [← hw10, ← hgx]
      obtain ⟨vd0, hvd0, hvd1⟩ := RepV.body15 HV3.out
      have HVD : Hid (L3.toArray[15]? = some vd0 ∧ SlV w9 vd0 r.body) := ⟨hvd0, hvd1⟩
      clear hvd0 hvd1
      have HV10 : Hid (RepV w10 L3.toArray r) := (HV3.out.below HBW.out).below HB10.out
      have HG10 := Lib.hid (HG.out.call HB10.out)
      have HR10 : Hid (w10.rangeAt gx 0 L3) := blk_range HX11.out
      obtain ⟨t, c, et, ec, ht1, ht2, hc1, hbl, hrs⟩ := report_w HGR.out HFR.out.fit
      have HBL := Lib.hid hbl
      have HT1 : Hid (192 ≤ t ∧ t ≤ 223 ∧ c ≤ 31) := ⟨ht1, ht2, hc1⟩
      have HET := Lib.hid et
      have HEC := Lib.hid ec
      obtain ⟨N, hN⟩ : ∃ N, N = (bodyS r).length := ⟨_, rfl⟩
      have HNE := Lib.hid hN
      have hNl : (N : Int) ≤ 10000000 := by have := bodyS_le HFR.out; omega
      have hmi : (m : Int) ≤ 1200 := by omega
      clear hw10 hgx HX10 HTH HRA HB10 HX11 HG HV3 HRG3 HG3 et ec ht1 ht2 hc1 hbl hrs hN
      go_upto_region 8 with (first
        | ((with_reducible show wpList _ _ _ (⟨some 24, .load 46 (.tmp 6), _, _, _, _⟩ :: _) _ _); refine wpList_load_mid rfl 46 (.tmp 6) rfl gx 0 rfl L3 _ HR10.out Try.underlying46 rfl HI3.out ?_)
        | (go_at_call 37
           refine (told_c r L3.toArray w10 HV10.out HGR.out HFR.out.fit (Nat.le_trans HFR.out.blocks (by decide)) (Nat.le_trans HFR.out.pairs (by decide)) (Nat.le_trans HFR.out.firs (by decide)) vd0 HVD.out.1).mono ?_
           rintro e9 w11 ⟨v9, he, hs9, hb9⟩
           rw [HET.out, HEC.out] at he
           subst he
           have hs11 : ByteRow w11 w10.heap.size v9 (bodyS r) ∨ SlV w9 v9 (bodyS r) := hs9.imp id fun h => by rw [h.1, h.2]; exact HVD.out.2
           obtain ⟨A9, c9, hv9, _, _⟩ : SlV w11 v9 (bodyS r) := told_src HG10.out HBE.out hs11 hb9 (Sv.refl _ _)
           rw [← HNE.out] at hv9
           subst hv9
           have HS11 := Lib.hid hs11
           have HB11 := Lib.hid hb9
           clear hs11
           have HG11 := Lib.hid (HG10.out.call hb9)
           clear hs9 hb9))
      by_cases hbig : 1200 < m + 4 + N
      · have hbi : (1200 : Int) < (m : Int) + 4 + (N : Int) := by omega
        go_upto_region 9 with fail
        go_wp2_with fail
        go_ret2
        have HLN : Hid (1200 < (bytesS rs).length) := by
          show _ < _
          have h1 := bytesS_le rs (i + 1)
          rw [HSN.out, List.length_append, ← HLD.out, oneB_len, ← HNE.out, ← HM.out] at h1
          omega
        refine ⟨_, 4, rfl, .inr (.inl ⟨rfl, ?_, HGD.out, HLN.out⟩), ?_, bcall HB9.out HG11.out.belowN⟩
        · intro e
          have h1 := HN0.out
          have h2 := HLEN.out
          rw [e] at h2
          simp at h2
          omega
        · rw [if_neg (by decide)]
          exact SlV.nil _
      · have hbi : ¬ (1200 : Int) < (m : Int) + 4 + (N : Int) := by omega
        have hor := or128 c HT1.out.2.2
        obtain ⟨X, hX⟩ : ∃ X, X = 128 + c := ⟨_, rfl⟩
        rw [← hX] at hor
        have hXl : X < 256 := by have := HT1.out.2.2; omega
        have htl : t < 256 := by have := HT1.out.2.1; omega
        have hwX : IntKind.u8.wrap (X : Int) = (X : Int) := by rw [IntKind.wrap_u8]; omega
        have hwt : IntKind.u8.wrap (t : Int) = (t : Int) := by rw [IntKind.wrap_u8]; omega
        have HTL := Lib.hid htl
        have HXL := Lib.hid hXl
        have HXE := Lib.hid hX
        clear hX
        have HLIT : Hid ([Value.int .u8 (X : Int), .int .u8 (t : Int)] = ([UInt8.ofNat X, UInt8.ofNat t] : List UInt8).map u8v) := by
          show _ = _
          simp only [List.map_cons, List.map_nil]
          rw [u8v_of hXl, u8v_of htl]
        obtain ⟨gy, hgy⟩ : ∃ gy, gy = w11.heap.size := ⟨_, rfl⟩
        have HGY := Lib.hid hgy
        obtain ⟨w12, hw12⟩ : ∃ w12, w12 = w11.alloc (.cells #[.int .u8 (X : Int), .int .u8 (t : Int)] 5) := ⟨_, rfl⟩
        have HB12 : Hid (Below w11.heap.size w11 w12) := by show Below _ _ _; rw [hw12]; exact balloc (Below.refl _ _) _
        have HY12 : Hid (Blk w12 w11.heap.size 5 #[.int .u8 (X : Int), .int .u8 (t : Int)]) := by show Blk _ _ _ _; rw [hw12]; exact Blk.newAt rfl _ _
        have HG12 := Lib.hid (HG11.out.call HB12.out)
        have HO12 : Hid (World.ownsRow w12 B 5 1 (.slice Av m cv) m (L.map u8v)) := by
          have := HG12.out.1
          rw [← HM.out] at this
          exact this
        have HBS : Hid (B ≤ w12.heap.size) := by show _ ≤ _; rw [HBE.out]; exact HG12.out.2.1.size
        rw [hw12] at HB12 HY12 HG12 HO12 HBS
        clear hgy hw12
        go_upto_region 11 with (first
          | (at_builtin
             refine wpList_append_any _ rfl (.tmp 36) (.tmp 42) _ rfl B 5 iB _ 1 1 Try.underlying22 hiB hz0 hz1 hz2 rfl (by omega) (.slice Av m cv) m (L.map u8v) rfl HO12.out
               _ (some ⟨w11.heap.size, 0, none⟩) 2 2 [.int .u8 (X : Int), .int .u8 (t : Int)] rfl (reads_blk HY12.out rfl) (by simp [Value.oneCell']) (by simp only [maxLen]; omega) (by omega) HBS.out ?_
             intro v13 w13 hown13 hg13 hat13
             obtain ⟨A13, c13, hv13⟩ := own_slice hown13
             subst hv13
             have HG13 : Hid (Grew B (.slice none 0 0) (L ++ [UInt8.ofNat X, UInt8.ofNat t]) w9 (.slice A13 (m + 2) c13) w13) := by
               refine HG12.out.trans (Grew.app (news := [UInt8.ofNat X, UInt8.ofNat t]) (Sv.refl _ _) ?_ hg13 hat13)
               have := hown13
               rw [HLIT.out] at this
               rw [← HM.out]
               exact this
             have HSV13 : Hid (Sv (fun j => (Value.slice Av m cv).ownBlock = some j) w11 w13) := ((Sv.refl _ _).alloc _).grown hg13 fun g e => .inl e
             have HOW13 : Hid (∀ g, (Value.slice A13 (m + 2) c13).ownBlock = some g → (Value.slice Av m cv).ownBlock = some g ∨ w11.heap.size ≤ g) := by
               intro g e
               rcases hat13 with h | h
               · exact .inl (h ▸ e)
               · rw [h] at e
                 injection e with e
                 subst e
                 exact .inr (by simp)
             clear hown13 hg13 hat13))
        obtain ⟨L13, hL13⟩ : ∃ L13, L13 = L ++ [UInt8.ofNat X, UInt8.ofNat t] := ⟨_, rfl⟩
        have HL13 := Lib.hid hL13
        have HN13 : Hid (L13.length = m + 2) := by show _ = _; rw [hL13, List.length_append, HM.out]; rfl
        rw [← hL13] at HG13
        obtain ⟨Q, hQ⟩ : ∃ Q, Q = N / 4 := ⟨_, rfl⟩
        have HQ := Lib.hid hQ
        have hQi : (N : Int) / 4 = (Q : Int) := by omega
        have hwQ : IntKind.u64.wrap (Q : Int) = (Q : Int) := wrap64 (by omega)
        have hQl : Q < 65536000 := by omega
        have HQL := Lib.hid hQl
        clear hL13 hor hXl htl hwX hwt hQ
        go_upto_region 12 with (first
          | (go_at_call 38
             refine (put_c B Q 2 L13 _ w13 HG13.out.1 (by rw [HBE.out]; exact HG13.out.2.1.size) (by have := HN13.out; omega) (by decide) (by have := HQL.out; omega)).mono ?_
             rintro e9 w14 ⟨v14, rfl, hg14⟩
             obtain ⟨A14, c14, hv14⟩ := own_slice hg14.1
             subst hv14
             have HS14 : Hid (SlV w14 (.slice A9 N c9) (bodyS r)) := told_src HG10.out HBE.out HS11.out HB11.out (HSV13.out.trans hg14.2.1 (fun k hk e => by
               rcases HOW13.out k e with h | h
               · exact h
               · omega))
             have HG14 : Hid (Grew B (.slice none 0 0) (L13 ++ beS Q 2) w9 (.slice A14 (L13 ++ beS Q 2).length c14) w14) := HG13.out.trans hg14
             have HO14 : Hid (World.ownsRow w14 B 5 1 (.slice A14 (L13 ++ beS Q 2).length c14) (L13 ++ beS Q 2).length ((L13 ++ beS Q 2).map u8v)) := hg14.1
             obtain ⟨m14, hm⟩ : ∃ m, m = (L13 ++ beS Q 2).length := ⟨_, rfl⟩
             have HM14 : Hid (m14 = m + 4) := by show _ = _; rw [hm, List.length_append, beS_len, HN13.out]
             have HMM := Lib.hid hm
             have hm4 : (m14 : Int) ≤ 2000 := by have := HM14.out; omega
             rw [← hm] at HG14 HO14 ⊢
             clear hg14 hm)
          | (at_builtin
             refine wpList_append_any _ rfl (.tmp 49) (.tmp 50) _ rfl B 5 iB _ 1 1 Try.underlying22 hiB hz0 hz1 hz2 rfl (by omega) (.slice A14 m14 c14) m14 ((L13 ++ beS Q 2).map u8v) rfl HO14.out
               _ A9 N c9 ((bodyS r).map u8v) rfl HS14.out.rd (u8_one _) (by simp only [maxLen]; omega) (by omega) (by rw [HBE.out]; exact HG14.out.2.1.size) ?_
             intro v15 w15 hown15 hg15 hat15
             obtain ⟨A15, c15, hv15⟩ := own_slice hown15
             subst hv15
             have HG15 : Hid (Grew B (.slice none 0 0) (L13 ++ beS Q 2 ++ bodyS r) w9 (.slice A15 (m14 + N) c15) w15) := by
               refine HG14.out.trans (Grew.app (news := bodyS r) (Sv.refl _ _) ?_ hg15 hat15)
               rw [← HNE.out, ← HMM.out]
               exact hown15
             clear hown15 hg15 hat15))
        have HNX : Hid (L13 ++ beS Q 2 ++ bodyS r = bytesS (rs.take (i + 1))) := by
          show _ = _
          rw [HSN.out, HL13.out, HXE.out, HQ.out, HLD.out, HNE.out]
          unfold oneB
          rw [HET.out, HEC.out, Int.toNat_natCast, Int.toNat_natCast]
          simp [List.append_assoc]
        have HLX : Hid ((bytesS (rs.take (i + 1))).length ≤ 1200) := by
          show _ ≤ _
          rw [HSN.out, List.length_append, oneB_len, ← HLD.out, ← HNE.out, ← HM.out]
          omega
        rw [HNX.out] at HG15
        go_wp2_with fail
        go_roundg (n - (i + 1))
        case measure => have := HLT.out; have := HGG.out; omega
        case rel =>
          have hlt := HLT.out
          exact ⟨i + 1, rfl, by omega, by first | rfl | go_num, HLX.out, HG15.out⟩
    · have hini : ¬ (i : Int) < (n : Int) := by omega
      have hie : n = i := by omega
      subst hie
      have HT : Hid (rs.take n = rs) := List.take_of_length_le (by have := HLEN.out; omega)
      clear hin hi
      go_wp2_with fail
      go_ret2
      refine ⟨_, 0, rfl, .inr (.inr ⟨rfl, ?_, HGD.out, ?_⟩), ?_, bcall HB9.out HG.out.belowN⟩
      · intro e
        have h1 := HN0.out
        have h2 := HLEN.out
        rw [e] at h2
        simp at h2
        omega
      · have h1 := HLE.out
        rw [HLD.out, HT.out] at h1
        exact h1
      · rw [if_pos rfl]
        have hs := HG.out.slv
        rw [HLD.out, HT.out] at hs
        exact hs
set_option maxRecDepth 100000 in
set_option maxHeartbeats 3200000 in
theorem bytes0_c (A : Option Addr) (cap : Nat) (w : World) : Calls Try.prog 23 #[.slice A 0 cap] w fun e w' => e = .returned (.tuple #[.slice none 0 0, .int .i64 1]) ∧ w = w' := by
  go_enter Try.func23, Try.ntmps23
  go_wp2_with fail
  go_ret2
  exact ⟨rfl, rfl⟩
theorem bytes_c (rs : List Rep) (A : Option Addr) (n cap : Nat) (w : World) (h : RepsAt w A n rs) (hl : rs.length = n) (hn : n ≤ 100000) (hf : ∀ r ∈ rs, FitM r) :
    Calls Try.prog 23 #[.slice A n cap] w (BytesR rs w) := by
  by_cases h0 : n = 0
  · subst h0
    refine (bytes0_c A cap w).mono ?_
    rintro e w' ⟨rfl, rfl⟩
    exact ⟨_, 1, rfl, .inl ⟨rfl, .inl (List.eq_nil_of_length_eq_zero hl)⟩, by rw [if_neg (by decide)]; exact SlV.nil _, Below.refl _ _⟩
  by_cases hb : ∃ r ∈ rs, ¬ goodS r
  · refine (bytesBad_c rs A n cap w h hl (by omega) (by omega) (fun r hr => ⟨by have := (hf r hr).blocks; omega, (hf r hr).exlo, (hf r hr).exhi⟩) hb).mono ?_
    rintro e w' ⟨rfl, hbw⟩
    exact ⟨_, 1, rfl, .inl ⟨rfl, .inr hb⟩, by rw [if_neg (by decide)]; exact SlV.nil _, hbw⟩
  · exact bytesGood_c rs A n cap w h hl (by omega) hn hf fun r hr => Classical.byContradiction fun hg => hb ⟨r, hr, hg⟩
end Go.Proofs.Ytkfimncbfbbopaa
/- What heavy tells (contract). Conditions: the reports lie in memory, and no list is longer than may be read. -/
set_option linter.unusedVariables false
set_option linter.unusedSimpArgs false
namespace Go.Proofs.Ytkfimncbfbbopaa
open Go.RowKit
attribute [local go_sem ↓] Go.wp_at_zero Go.wp_at_succ

/-- No list of a report is longer than k. -/
def LenLe (k : Nat) (r : Rep) : Prop := r.blocks.length ≤ k ∧ r.pairs.length ≤ k ∧ r.firs.length ≤ k ∧ r.ssrcs.length ≤ k ∧ r.body.length ≤ k
theorem LenLe.mono {k m : Nat} {r : Rep} (h : LenLe k r) (hk : k ≤ m) : LenLe m r := by unfold LenLe at h ⊢; omega
/-- What heavy tells: what is not heavy is short. -/
def HeavyR (rs : List Rep) (w : World) (e : Ending) (w' : World) : Prop := ∃ q : Bool, e = .returned (.bool q) ∧ (q = false → rs.length ≤ 100 ∧ ∀ r ∈ rs, LenLe 1500 r) ∧ Below w.heap.size w w'
theorem RepV.lens {w : World} {L : List Value} {r : Rep} (h : RepV w L.toArray r) : ∃ Ab cb Ap cp Af cf As cs Ad cd, L[7]? = some (.slice Ab r.blocks.length cb) ∧ L[8]? = some (.slice Ap r.pairs.length cp) ∧ L[9]? = some (.slice Af r.firs.length cf) ∧ L[12]? = some (.slice As r.ssrcs.length cs) ∧ L[15]? = some (.slice Ad r.body.length cd) := by
  obtain ⟨vb, vp, vf, vs, vd, e, h1, h2, h3, h4, h5⟩ := h
  have e2 : L = [.int .i64 r.kind, .int .u32 (r.fr : Int), .int .u32 (r.ab : Int), .int .u64 (r.ntp : Int), .int .u32 (r.ts : Int), .int .u32 (r.pk : Int), .int .u32 (r.oc : Int), vb, vp, vf, .int .i64 r.ex, .int .u32 (r.mt : Int), vs, .int .i64 r.ty, .int .i64 r.ct, vd] := by
    have := congrArg Array.toList e
    simpa [repA] using this
  subst e2
  obtain ⟨Ab, cb, rfl, _, _⟩ := h1
  obtain ⟨Ap, cp, rfl, _, _⟩ := h2
  obtain ⟨Af, cf, rfl, _, _⟩ := h3
  obtain ⟨As, cs, rfl, _, _⟩ := h4
  obtain ⟨Ad, cd, rfl, _, _⟩ := h5
  exact ⟨Ab, cb, Ap, cp, Af, cf, As, cs, Ad, cd, rfl, rfl, rfl, rfl, rfl⟩
set_option maxRecDepth 100000 in
set_option maxHeartbeats 6400000 in
theorem heavy_c (rs : List Rep) (A : Option Addr) (n cap : Nat) (w : World) (h : RepsAt w A n rs) (hl : rs.length = n) (hn : n ≤ 140737488355328) (hf : ∀ r ∈ rs, LenLe 140737488355328 r) :
    Calls Try.prog 22 #[.slice A n cap] w (HeavyR rs w) := by
  have HLEN := Lib.hid hl
  have H := Lib.hid h
  have HF := Lib.hid hf
  have hni : (n : Int) ≤ 140737488355328 := by omega
  clear hl h hf hn
  go_enter Try.func22, Try.ntmps22
  go_upto_region 3 with fail
  go_loopg [3, 4] 200 (fun gg v3 v4 wx => ∃ i S : Nat, gg = 200 - i ∧ i ≤ 200 ∧ i ≤ n ∧ v4 = .int .i64 (i : Int) ∧ v3 = .int .i64 (S : Int) ∧ n ≤ S ∧ S ≤ 140737488355328 * (1 + 5 * i) ∧ (∀ (j : Nat) (r : Rep), j < i → rs[j]? = some r → LenLe S r) ∧ Below w.heap.size w wx)
  case atStart => exact ⟨0, n, rfl, by omega, by omega, rfl, rfl, Nat.le_refl _, by omega, fun j r hj => absurd hj (by omega), Below.refl _ _⟩
  case round =>
    obtain ⟨i, S, hgg, hi2, hi, rfl, rfl, hSn, hS, hall, hb⟩ := hrel
    have HGG := Lib.hid hgg
    have HALL := Lib.hid hall
    have HB := Lib.hid hb
    have HSN := Lib.hid hSn
    have HS := Lib.hid hS
    have HI := Lib.hid hi
    have HI2 := Lib.hid hi2
    clear hgg hall hb hSn
    by_cases hin : i < n ∧ i < 200
    · obtain ⟨hin, hi200⟩ := hin
      have hini : (i : Int) < (n : Int) := by omega
      have hin0 : (0 : Int) ≤ (i : Int) := by omega
      have hi2i : (i : Int) < 200 := by omega
      have hw1 : IntKind.i64.wrap ((i : Int) + 1) = ((i + 1 : Nat) : Int) := by rw [IntKind.wrap_i64]; omega
      obtain ⟨r, hr⟩ : ∃ r, rs[i]? = some r := ⟨_, List.getElem?_eq_getElem (by have := HLEN.out; omega)⟩
      obtain ⟨g3, o3, hA3, hg3, h3⟩ := H.out.at_ (by omega)
      obtain ⟨L3, hv3, hl3, hrg3⟩ := h3 i r hr
      subst hA3
      have hrw := below_range hrg3 HB.out hg3
      obtain ⟨Ab, cb, Ap, cp, Af, cf, As, cs, Ad, cd, e7, e8, e9, e12, e15⟩ := hv3.lens
      have c7 : wr.cell? ⟨g3, o3 + i * 16 + 7, none⟩ = some (.slice Ab r.blocks.length cb) := hrw 7 _ e7
      have c8 : wr.cell? ⟨g3, o3 + i * 16 + 8, none⟩ = some (.slice Ap r.pairs.length cp) := hrw 8 _ e8
      have c9 : wr.cell? ⟨g3, o3 + i * 16 + 9, none⟩ = some (.slice Af r.firs.length cf) := hrw 9 _ e9
      have c12 : wr.cell? ⟨g3, o3 + i * 16 + 12, none⟩ = some (.slice As r.ssrcs.length cs) := hrw 12 _ e12
      have c15 : wr.cell? ⟨g3, o3 + i * 16 + 15, none⟩ = some (.slice Ad r.body.length cd) := hrw 15 _ e15
      have HFR : LenLe 140737488355328 r := HF.out r (List.mem_of_getElem? hr)
      unfold LenLe at HFR
      obtain ⟨nb, hnb⟩ : ∃ nb, nb = r.blocks.length := ⟨_, rfl⟩
      obtain ⟨np, hnp⟩ : ∃ np, np = r.pairs.length := ⟨_, rfl⟩
      obtain ⟨nf, hnf⟩ : ∃ nf, nf = r.firs.length := ⟨_, rfl⟩
      obtain ⟨ns, hns⟩ : ∃ ns, ns = r.ssrcs.length := ⟨_, rfl⟩
      obtain ⟨nd, hnd⟩ : ∃ nd, nd = r.body.length := ⟨_, rfl⟩
      rw [← hnb] at c7 HFR
      rw [← hnp] at c8 HFR
      rw [← hnf] at c9 HFR
      rw [← hns] at c12 HFR
      rw [← hnd] at c15 HFR
      obtain ⟨S1, hS1⟩ : ∃ S1, S1 = S + nb := ⟨_, rfl⟩
      obtain ⟨S2, hS2⟩ : ∃ S2, S2 = S1 + np := ⟨_, rfl⟩
      obtain ⟨S3, hS3⟩ : ∃ S3, S3 = S2 + nf := ⟨_, rfl⟩
      obtain ⟨S4, hS4⟩ : ∃ S4, S4 = S3 + ns := ⟨_, rfl⟩
      obtain ⟨S5, hS5⟩ : ∃ S5, S5 = S4 + nd := ⟨_, rfl⟩
      have z1 : IntKind.i64.wrap ((S : Int) + (nb : Int)) = (S1 : Int) := by rw [IntKind.wrap_i64]; omega
      have z2 : IntKind.i64.wrap ((S1 : Int) + (np : Int)) = (S2 : Int) := by rw [IntKind.wrap_i64]; omega
      have z3 : IntKind.i64.wrap ((S2 : Int) + (nf : Int)) = (S3 : Int) := by rw [IntKind.wrap_i64]; omega
      have z4 : IntKind.i64.wrap ((S3 : Int) + (ns : Int)) = (S4 : Int) := by rw [IntKind.wrap_i64]; omega
      have z5 : IntKind.i64.wrap ((S4 : Int) + (nd : Int)) = (S5 : Int) := by rw [IntKind.wrap_i64]; omega
      have HNX : Hid (n ≤ S5 ∧ S5 ≤ 140737488355328 * (1 + 5 * (i + 1))) := ⟨by have := HSN.out; omega, by omega⟩
      have HAX : Hid (∀ (j : Nat) (r : Rep), j < i + 1 → rs[j]? = some r → LenLe S5 r) := by
        intro j x hj hx
        by_cases hji : j < i
        · exact (HALL.out j x hji hx).mono (by omega)
        · have hje : j = i := by omega
          subst hje
          rw [hr] at hx
          injection hx with hx
          subst hx
          unfold LenLe
          omega
      have HLT : Hid (i < n ∧ i < 200) := ⟨hin, hi200⟩
      clear hr hg3 h3 hv3 hl3 hrg3 hrw e7 e8 e9 e12 e15 HFR hnb hnp hnf hns hnd hS1 hS2 hS3 hS4 hS5 hin hi200 hi hi2 hS
      go_upto_region 5 with fail
      go_quiet (fail)
      go_wp2_with fail
      go_roundg (200 - (i + 1))
      case measure => have := HLT.out; have := HGG.out; omega
      case rel =>
        have hlt := HLT.out
        exact ⟨i + 1, S5, rfl, by omega, by omega, by first | rfl | go_num, rfl, HNX.out.1, HNX.out.2, HAX.out, below_drewN HB.out _⟩
    · have hFin : Hid (S ≤ 1500 → n ≤ 100 → rs.length ≤ 100 ∧ ∀ r ∈ rs, LenLe 1500 r) := by
        intro h1 h2
        have := HLEN.out
        refine ⟨by omega, fun r hr => ?_⟩
        obtain ⟨j, hj⟩ := List.getElem?_of_mem hr
        have hjl : j < rs.length := by
          rcases Nat.lt_or_ge j rs.length with h | h
          · exact h
          · rw [List.getElem?_eq_none h] at hj; cases hj
        exact (HALL.out j r (by omega) hj).mono h1
      have hSi : (S : Int) ≤ 140878225843683328 := by have := HS.out; have := HI2.out; omega
      have HNI : Hid (¬ (i < n ∧ i < 200)) := hin
      have hlast : (i : Int) < (n : Int) ∨ ¬ (i : Int) < (n : Int) := Classical.em _
      clear hin hS hi hi2
      by_cases hS15 : (1500 : Int) < (S : Int)
      · rcases hlast with hini | hini
        · have hi2i : ¬ (i : Int) < 200 := by have := HNI.out; omega
          go_wp2_with fail
          go_ret
          exact ⟨true, rfl, (fun h => by cases h), HB.out⟩
        · go_wp2_with fail
          go_ret
          exact ⟨true, rfl, (fun h => by cases h), HB.out⟩
      · rcases hlast with hini | hini
        · have hi2i : ¬ (i : Int) < 200 := by have := HNI.out; omega
          have hbig : (100 : Int) < (n : Int) := by omega
          go_wp2_with fail
          go_ret
          exact ⟨true, rfl, (fun h => by cases h), HB.out⟩
        · by_cases hn1 : (100 : Int) < (n : Int)
          · go_wp2_with fail
            go_ret
            exact ⟨true, rfl, (fun h => by cases h), HB.out⟩
          · have HQ : Hid (S ≤ 1500 ∧ n ≤ 100) := ⟨by omega, by omega⟩
            go_wp2_with fail
            go_ret
            exact ⟨false, rfl, fun _ => hFin.out HQ.out.1 HQ.out.2, HB.out⟩
end Go.Proofs.Ytkfimncbfbbopaa
/- An argument that is a list of reports: it reads as a list of reports, with its reach. Conditions: none. (open_slice_fields, weights_elem began as lines of the guide's copy page.) -/
set_option linter.unusedVariables false
namespace Go.Proofs.Ytkfimncbfbbopaa
open Go.RowKit Go.ChangeShapes Go.WideShapes Go.Deep
section
variable {H : Type} {enc : TypeId × Value → H} {P : Program} {w : World} {base : Nat} {spare : Nat → Bool} {held : Bool}
theorem open_slice_fields {t e : TypeId} {fs : Array Field} {fuel : Nat} {cs : List Value} {x : DataW H × List MemPlace} (ht : P.underlying t = some (.slice e)) (he : P.underlying e = some (.struct fs))
    (hone : oneCellFields P fs = true) (hC : P.cellsOf e = fs.size) (h : DataW.trod enc P w base spare held fuel t cs = some x) :
    (cs = [.slice none 0 0] ∧ x = (.nil, [])) ∨
    ∃ (a : Addr) (len cap m : Nat) (D : Nat → DataW H) (Pl : Nat → List MemPlace), cs = [.slice (some a) len cap] ∧ base ≤ a.block ∧ len ≤ cap ∧ cap ≤ maxLen ∧ m = (if spare a.block then cap else len) ∧
      x = (.slice ((List.range len).map D) ((List.range (m - len)).map fun j => D (len + j)), MemPlace.row a (m * fs.size) ++ (List.range m).flatMap Pl) ∧
      ∀ i, i < m → ∃ (ys : List (DataW H × List MemPlace)) (n : Nat), D i = .agg (ys.map (·.1)) ∧ Pl i = ys.flatMap (·.2) ∧ ys.length = fs.size ∧
        ∀ (j : Nat) (f : Field), fs[j]? = some f → ∃ (v : Value) (y : DataW H × List MemPlace), w.cell? (a.add (i * fs.size + j)) = some v ∧ ys[j]? = some y ∧ DataW.trod enc P w base spare held n f.type [v] = some y := by
  rcases open_slice ht h with h0 | ⟨a, len, cap, m, n, D, Pl, hcs, hb, hl, hm, hmm, hx, hi⟩
  · exact .inl h0
  · refine .inr ⟨a, len, cap, m, D, Pl, hcs, hb, hl, hm, hmm, by rw [hC] at hx; exact hx, fun i him => ?_⟩
    obtain ⟨cs', hc, ht'⟩ := hi i him
    rw [hC] at hc
    obtain ⟨ys, n', hn', hy, hlen, hyl, hf⟩ := DataW.trod_struct he ht'
    obtain ⟨_, hcl, hat⟩ := World.cells?_some hc
    simp only [Prod.mk.injEq] at hy
    refine ⟨ys, n', hy.1, hy.2, hyl, fun j f hj => ?_⟩
    obtain ⟨ho, hk⟩ := hone_of hone j f hj
    have hjl : j < fs.size := (Array.getElem?_eq_some_iff.1 hj).1
    have hcell := hat j hjl
    have hv : cs'[j]? = some (cs'[j]'(by omega)) := List.getElem?_eq_getElem (by omega)
    have h1 := hf j f hj
    rw [ho, hk] at h1
    have hone' : (cs'.drop j).take 1 = [cs'[j]'(by omega)] := by
      rw [List.drop_eq_getElem_cons (by omega)]
      rfl
    rw [hone'] at h1
    have hys : ys[j]? = some (ys[j]'(by omega)) := List.getElem?_eq_getElem (by omega)
    refine ⟨_, _, ?_, hys, h1.trans hys⟩
    rw [← Go.Deep.add_add, hcell, hv]
/-- What an element weighs its slice weighs. -/
theorem weights_elem (e : TypeId) : ∀ (ds : List (DataW H)) (d : DataW H), d ∈ ds → ∀ n ∈ d.weights P e, n ∈ DataW.weightsAll P e ds
  | [], d, h, _, _ => by simp at h
  | d0 :: ds, d, h, n, hn => by
    simp only [DataW.weightsAll, List.mem_append]
    rcases List.mem_cons.1 h with rfl | h
    · exact .inl hn
    · exact .inr (weights_elem e ds d h n hn)
/-- What a list of reports' element reads as: numbers that fit their kinds. -/
def FitE (ks : List IntKind) (e : List Nat) : Prop := e.length = ks.length ∧ ∀ (j : Nat) (k : IntKind) (x : Nat), ks[j]? = some k → e[j]? = some x → (Lit.int k (x : Int)).wf = true
theorem wf_lo {k : IntKind} (hk : k.signed = false) {z : Int} (h : (Lit.int k z).wf = true) : 0 ≤ z := by
  cases k <;> simp [IntKind.signed] at hk <;> simp [Lit.wf, IntKind.min, IntKind.max, IntKind.signed, IntKind.bits] at h <;> omega
theorem open_recs {ks : List IntKind} {t e : TypeId} {fs : Array Field} (ht : P.underlying t = some (.slice e)) (he : P.underlying e = some (.struct fs)) (hone : oneCellFields P fs = true) (hC : P.cellsOf e = fs.size) (hsz : fs.size = ks.length) (hpos : 0 < ks.length)
    (hk : ∀ (j : Nat) (k : IntKind), ks[j]? = some k → ∃ f, fs[j]? = some f ∧ P.underlying f.type = some (.int k)) (hun : ∀ k ∈ ks, k.signed = false) (hby : 0 < P.bytesOf e)
    {v : Value} {d : DataW H} {p : List MemPlace} {n : Nat} (h : DataW.trod enc P w 0 (fun _ => true) true n t [v] = some (d, p)) (hw : ∀ m ∈ d.weights P t, m ≤ reachBytes) :
    ∃ l, SlR w ks v l ∧ l.length ≤ 140737488355328 ∧ ∀ e ∈ l, FitE ks e := by
  rcases open_slice_fields ht he hone hC h with ⟨hcs, hx⟩ | ⟨a, len, cap, m, D, Pl, hcs, _, hl, hm, hmm, hx, hi⟩
  · simp only [List.cons.injEq, and_true] at hcs
    subst hcs
    exact ⟨[], SlR.nil w ks, by simp, by simp⟩
  · simp only [List.cons.injEq, and_true] at hcs
    subst hcs
    simp only [if_true] at hmm
    subst hmm
    simp only [Prod.mk.injEq] at hx
    obtain ⟨hd, hp⟩ := hx
    have hlen : len ≤ 140737488355328 := by
      have := hw (((List.range len).map D).length + ((List.range (m - len)).map fun j => D (len + j)).length |> (· * P.bytesOf e)) (by rw [hd]; simp [DataW.weights, ht])
      simp only [List.length_map, List.length_range] at this
      have h2 : len * 1 ≤ (len + (m - len)) * P.bytesOf e := Nat.mul_le_mul (by omega) hby
      unfold reachBytes at this
      omega
    have key : ∀ i, i < len → ∃ E : List Nat, FitE ks E ∧ ∀ (j : Nat) (u : Value), (List.zipWith numV ks E)[j]? = some u → w.cell? (a.add (i * ks.length + j)) = some u := by
      intro i hin
      obtain ⟨ys, n', hD, hP, hyl, hfs⟩ := hi i (by omega)
      have inner : ∀ j, j < ks.length → ∃ x : Nat, ∃ k, ks[j]? = some k ∧ (Lit.int k (x : Int)).wf = true ∧ w.cell? (a.add (i * ks.length + j)) = some (.int k (x : Int)) := by
        intro j hj
        have hkj : ks[j]? = some (ks[j]'hj) := List.getElem?_eq_getElem hj
        obtain ⟨f, hf, hu⟩ := hk j _ hkj
        obtain ⟨v, y, hc, hy, ht0⟩ := hfs j f hf
        obtain ⟨s, hs, hys, hsw⟩ := DataW.trod_int hu ht0
        simp only [List.cons.injEq, and_true] at hs
        subst hs
        have h0 := wf_lo (hun _ (List.getElem_mem hj)) hsw
        have e1 : ((s.toNat : Nat) : Int) = s := by omega
        refine ⟨s.toNat, _, hkj, by rw [e1]; exact hsw, ?_⟩
        rw [e1, ← hsz]
        exact hc
      obtain ⟨X, hX⟩ := choose_lt (α := Nat) inner
      refine ⟨(List.range ks.length).map X, ⟨by simp, fun j k x hkj hx => ?_⟩, fun j u hu => ?_⟩
      · have hj := (List.getElem?_eq_some_iff.1 hkj).1
        obtain ⟨k', h1, h2, _⟩ := hX j hj
        rw [hkj] at h1
        injection h1 with h1
        subst h1
        rw [List.getElem?_map, List.getElem?_range hj] at hx
        injection hx with hx
        subst hx
        exact h2
      · have hj : j < ks.length := by
          have := (List.getElem?_eq_some_iff.1 hu).1
          rw [List.length_zipWith] at this
          omega
        obtain ⟨k', h1, _, h3⟩ := hX j hj
        rw [List.getElem?_zipWith, h1, List.getElem?_map, List.getElem?_range hj] at hu
        injection hu with hu
        rw [h3, ← hu]
        rfl
    obtain ⟨E, hE⟩ := choose_lt (α := List Nat) key
    have hall : ∀ x ∈ (List.range len).map E, FitE ks x := by
      intro x hx
      obtain ⟨i, hi, rfl⟩ := List.mem_map.1 hx
      exact (hE i (List.mem_range.1 hi)).1
    have hzl : ∀ x ∈ (List.range len).map E, (List.zipWith numV ks x).length = ks.length := fun x hx => by
      rw [List.length_zipWith, (hall x hx).1, Nat.min_self]
    have hrl : ∀ l : List (List Nat), (∀ x ∈ l, (List.zipWith numV ks x).length = ks.length) → (rowC ks l).length = l.length * ks.length := by
      intro l
      induction l with
      | nil => intro _; simp [rowC]
      | cons x l ih =>
        intro hx
        rw [rowC_cons, List.length_append, hx x (by simp), ih (fun y hy => hx y (by simp [hy])), List.length_cons, Nat.succ_mul]
        omega
    have hR := hrl _ hzl
    refine ⟨(List.range len).map E, ⟨some a, m, by simp, by simpa using hl, ?_, fun hn => ⟨a, rfl, ?_, fun q u hq => ?_⟩⟩, by simpa using hlen, hall⟩
    · rw [hR]
    · have hn0 : 0 < len := by simpa using hn
      have h0 := hE 0 hn0
      have hz0 : (List.zipWith numV ks (E 0))[0]? = some ((List.zipWith numV ks (E 0))[0]'(by rw [hzl _ (List.mem_map.2 ⟨0, List.mem_range.2 hn0, rfl⟩)]; exact hpos)) := List.getElem?_eq_getElem _
      have := World.block_lt_of_cell? _ _ (h0.2 0 _ hz0)
      rwa [block_of_add] at this
    · have hql : q < len * ks.length := by
        have := (List.getElem?_eq_some_iff.1 hq).1
        rw [hR] at this
        simpa using this
      have hi : q / ks.length < len := Nat.div_lt_of_lt_mul (by rw [Nat.mul_comm]; exact hql)
      have hj : q % ks.length < ks.length := Nat.mod_lt _ hpos
      have hqe : q / ks.length * ks.length + q % ks.length = q := by rw [Nat.mul_comm]; exact Nat.div_add_mod _ _
      have hei : ((List.range len).map E)[q / ks.length]? = some (E (q / ks.length)) := by rw [List.getElem?_map, List.getElem?_range hi]; rfl
      have hz : (List.zipWith numV ks (E (q / ks.length)))[q % ks.length]? = some ((List.zipWith numV ks (E (q / ks.length)))[q % ks.length]'(by rw [hzl _ (List.mem_of_getElem? hei)]; exact hj)) := List.getElem?_eq_getElem _
      have hra := rowC_at ks _ _ _ hR hei _ _ hz
      rw [hqe, hq] at hra
      injection hra with hra
      rw [hra]
      have := (hE _ hi).2 _ _ hz
      rwa [hqe] at this
/-- A slice of numbers that came in. -/
theorem open_nums {k : IntKind} {t e : TypeId} (ht : P.underlying t = some (.slice e)) (he : P.underlying e = some (.int k)) (hc : P.cellsOf e = 1) (hun : k.signed = false) (hby : 0 < P.bytesOf e)
    {v : Value} {d : DataW H} {p : List MemPlace} {n : Nat} (h : DataW.trod enc P w 0 (fun _ => true) true n t [v] = some (d, p)) (hlt : ∀ x ∈ p, x.block < w.heap.size) (hw : ∀ m ∈ d.weights P t, m ≤ reachBytes) :
    ∃ l, SlR w [k] v l ∧ l.length ≤ 140737488355328 ∧ ∀ e ∈ l, FitE [k] e := by
  obtain ⟨A, len, cap, rfl⟩ := slice_of ht he hc h
  obtain ⟨zs, hzl, hlc, hcm, hreads, hwz, hd⟩ := open_row ht he hc ⟨n, h⟩ hlt
  have h0 : ∀ z ∈ zs, 0 ≤ z := fun z hz => wf_lo hun (hwz z hz)
  have hrow : zs.map (Value.int k) = rowC [k] (zs.map fun z => [z.toNat]) := by
    clear hzl hreads hwz hd
    induction zs with
    | nil => rfl
    | cons z zs ih =>
      rw [List.map_cons, List.map_cons, rowC_cons, ih (fun y hy => h0 y (by simp [hy]))]
      have : ((z.toNat : Nat) : Int) = z := by have := h0 z (by simp); omega
      show _ = [numV k z.toNat] ++ _
      unfold numV
      rw [this]
      rfl
  rw [hrow] at hreads
  refine ⟨zs.map fun z => [z.toNat], ⟨A, cap, by rw [List.length_map, hzl], by rw [List.length_map]; omega, by rw [List.length_map, hzl]; exact hreads⟩, ?_, ?_⟩
  · rw [List.length_map]
    rcases hd with ⟨_, hn0, _⟩ | ⟨rest, rfl, hr⟩
    · omega
    · have := hw ((zs.length + rest.length) * P.bytesOf e) (by simp [DataW.weights, ht, lits])
      have h2 : zs.length * 1 ≤ (zs.length + rest.length) * P.bytesOf e := Nat.mul_le_mul (by omega) hby
      unfold reachBytes at this
      omega
  · intro x hx
    obtain ⟨z, hz, rfl⟩ := List.mem_map.1 hx
    refine ⟨rfl, fun j k' y hk hy => ?_⟩
    match j, hk, hy with
    | 0, hk, hy =>
      simp at hk hy
      subst hk hy
      have : ((z.toNat : Nat) : Int) = z := by have := h0 z hz; omega
      rw [this]
      exact hwz z hz
    | j + 1, hk, _ => simp at hk
end
theorem cellsR : Try.prog.cellsOf 46 = 16 := by kernel_rfl
theorem cellsBk : Try.prog.cellsOf 81 = 7 := by kernel_rfl
theorem cellsPr : Try.prog.cellsOf 57 = 2 := by kernel_rfl
theorem cellsFr : Try.prog.cellsOf 82 = 2 := by kernel_rfl
theorem cellsU3 : Try.prog.cellsOf 33 = 1 := by kernel_rfl
theorem bytesR : Try.prog.bytesOf 46 = 192 := by kernel_rfl
theorem bytesBk : 0 < Try.prog.bytesOf 81 := by decide +kernel
theorem bytesPr : 0 < Try.prog.bytesOf 57 := by decide +kernel
theorem bytesFr : 0 < Try.prog.bytesOf 82 := by decide +kernel
theorem bytesU3 : 0 < Try.prog.bytesOf 33 := by decide +kernel
theorem fitC {e : List Nat} (h : FitE ks7 e) : okC e := by
  obtain ⟨hl, hw⟩ := h
  match e, hl with
  | [a, b, c, d, x, y, z], _ =>
    have h0 := u32_bd (hw 0 .u32 a rfl rfl)
    have h1 := u8_bd (hw 1 .u8 b rfl rfl)
    have h2 := u32_bd (hw 2 .u32 c rfl rfl)
    have h3 := u32_bd (hw 3 .u32 d rfl rfl)
    have h4 := u32_bd (hw 4 .u32 x rfl rfl)
    have h5 := u32_bd (hw 5 .u32 y rfl rfl)
    have h6 := u32_bd (hw 6 .u32 z rfl rfl)
    exact ⟨a, b, c, d, x, y, z, rfl, by omega, by omega, by omega, by omega, by omega, by omega, by omega⟩
theorem fitP {e : List Nat} (h : FitE ksP e) : okP e := by
  obtain ⟨hl, hw⟩ := h
  match e, hl with
  | [a, b], _ =>
    have h0 := u16_bd (hw 0 .u16 a rfl rfl)
    have h1 := u16_bd (hw 1 .u16 b rfl rfl)
    exact ⟨a, b, rfl, by omega, by omega⟩
theorem fitF {e : List Nat} (h : FitE ksF e) : okF e := by
  obtain ⟨hl, hw⟩ := h
  match e, hl with
  | [a, b], _ =>
    have h0 := u32_bd (hw 0 .u32 a rfl rfl)
    have h1 := u8_bd (hw 1 .u8 b rfl rfl)
    exact ⟨a, b, rfl, by omega, by omega⟩
theorem fitQ {e : List Nat} (h : FitE ksS e) : okQ e := by
  obtain ⟨hl, hw⟩ := h
  match e, hl with
  | [a], _ =>
    have h0 := u32_bd (hw 0 .u32 a rfl rfl)
    exact ⟨a, rfl, by omega⟩
theorem nat_of {k : IntKind} {s : Int} (h : 0 ≤ s) : Value.int k s = .int k ((s.toNat : Nat) : Int) := by
  have : ((s.toNat : Nat) : Int) = s := by omega
  rw [this]
/-- What is asked of reports that came in. -/
def CameR (r : Rep) : Prop := FitR r ∧ LenLe 140737488355328 r ∧ -9223372036854775808 ≤ r.ex ∧ r.ex ≤ 9223372036854775807
set_option maxRecDepth 20000 in
set_option maxHeartbeats 3200000 in
theorem open_reports {H : Type} {enc : TypeId × Value → H} {W : World} {A : Option Addr} {n c : Nat} {d : DataW H} {p : List MemPlace}
    (h : DataW.Trod enc Try.prog W 0 (fun _ => true) true 24 (.slice A n c) d p) (hlt : ∀ x ∈ p, x.block < W.heap.size) (hw : ∀ m ∈ d.weights Try.prog 24, m ≤ reachBytes) :
    ∃ rs : List Rep, rs.length = n ∧ n ≤ 140737488355328 ∧ RepsAt W A n rs ∧ ∀ r ∈ rs, CameR r := by
  obtain ⟨fuel, hf⟩ := h
  rcases open_slice_fields Try.underlying24 Try.underlying46 (by kernel_rfl) cellsR hf with ⟨hcs, hx⟩ | ⟨a, len, cap, m, D, Pl, hcs, _, hl, hm, hmm, hx, hi⟩
  · simp [Value.cells] at hcs
    obtain ⟨rfl, rfl, rfl⟩ := hcs
    exact ⟨[], rfl, by omega, ⟨[], Reads.none_, rfl, fun i cs r h1 _ => by simp at h1⟩, by simp⟩
  · simp [Value.cells] at hcs
    obtain ⟨rfl, rfl, rfl⟩ := hcs
    simp only [if_true] at hmm
    subst hmm
    simp only [Prod.mk.injEq] at hx
    obtain ⟨hd, hp⟩ := hx
    have hlen : n ≤ 140737488355328 := by
      have := hw (((List.range n).map D).length + ((List.range (m - n)).map fun j => D (n + j)).length |> (· * Try.prog.bytesOf 46)) (by rw [hd]; simp [DataW.weights, Try.underlying24])
      simp only [List.length_map, List.length_range, bytesR] at this
      unfold reachBytes at this
      omega
    have key : ∀ i, i < n → ∃ E : Array Value × Rep, RepV W E.1 E.2 ∧ CameR E.2 ∧ ∀ (j : Nat) (u : Value), E.1[j]? = some u → W.cell? (a.add (i * 16 + j)) = some u := by
      intro i hin
      obtain ⟨ys, k, hD, hP, hyl, hfs⟩ := hi i (by omega)
      have hpl : ∀ (j : Nat) (y : DataW H × List MemPlace), ys[j]? = some y → ∀ x ∈ y.2, x.block < W.heap.size := fun j y hy x hx => hlt x (by
        rw [hp, List.mem_append]
        right
        rw [List.mem_flatMap]
        refine ⟨i, List.mem_range.2 (by omega), ?_⟩
        rw [hP, List.mem_flatMap]
        exact ⟨y, List.mem_of_getElem? hy, hx⟩)
      have hwt : ∀ (j : Nat) (t : TypeId) (y : DataW H × List MemPlace), ([3, 33, 33, 34, 33, 33, 33, 42, 43, 44, 3, 33, 38, 3, 3, 22] : List TypeId)[j]? = some t → ys[j]? = some y → ∀ m ∈ y.1.weights Try.prog t, m ≤ reachBytes := by
        intro j t y ht hy m hm
        refine hw m ?_
        rw [hd]
        simp only [DataW.weights, Try.underlying24, List.mem_cons, List.mem_append]
        right; left
        refine weights_elem 46 _ (D i) (List.mem_map.2 ⟨i, List.mem_range.2 hin, rfl⟩) m ?_
        rw [hD]
        simp only [DataW.weights, Try.underlying46]
        exact DataW.weights_mem_each (t := t) ht (by rw [List.getElem?_map, hy]; rfl) m hm
      obtain ⟨v0, y0, hc0, hy0, ht0⟩ := hfs 0 _ rfl
      obtain ⟨s0, hs0, _, hw0⟩ := DataW.trod_int Try.underlying3 ht0
      simp only [List.cons.injEq, and_true] at hs0
      subst hs0
      have hb0 := i64_bd hw0
      obtain ⟨v1, y1, hc1, hy1, ht1⟩ := hfs 1 _ rfl
      obtain ⟨s1, hs1, _, hw1⟩ := DataW.trod_int Try.underlying33 ht1
      simp only [List.cons.injEq, and_true] at hs1
      subst hs1
      have hb1 := u32_bd hw1
      rw [nat_of hb1.1] at hc1
      obtain ⟨v2, y2, hc2, hy2, ht2⟩ := hfs 2 _ rfl
      obtain ⟨s2, hs2, _, hw2⟩ := DataW.trod_int Try.underlying33 ht2
      simp only [List.cons.injEq, and_true] at hs2
      subst hs2
      have hb2 := u32_bd hw2
      rw [nat_of hb2.1] at hc2
      obtain ⟨v3, y3, hc3, hy3, ht3⟩ := hfs 3 _ rfl
      obtain ⟨s3, hs3, _, hw3⟩ := DataW.trod_int Try.underlying34 ht3
      simp only [List.cons.injEq, and_true] at hs3
      subst hs3
      have hb3 := u64_bd hw3
      rw [nat_of hb3.1] at hc3
      obtain ⟨v4, y4, hc4, hy4, ht4⟩ := hfs 4 _ rfl
      obtain ⟨s4, hs4, _, hw4⟩ := DataW.trod_int Try.underlying33 ht4
      simp only [List.cons.injEq, and_true] at hs4
      subst hs4
      have hb4 := u32_bd hw4
      rw [nat_of hb4.1] at hc4
      obtain ⟨v5, y5, hc5, hy5, ht5⟩ := hfs 5 _ rfl
      obtain ⟨s5, hs5, _, hw5⟩ := DataW.trod_int Try.underlying33 ht5
      simp only [List.cons.injEq, and_true] at hs5
      subst hs5
      have hb5 := u32_bd hw5
      rw [nat_of hb5.1] at hc5
      obtain ⟨v6, y6, hc6, hy6, ht6⟩ := hfs 6 _ rfl
      obtain ⟨s6, hs6, _, hw6⟩ := DataW.trod_int Try.underlying33 ht6
      simp only [List.cons.injEq, and_true] at hs6
      subst hs6
      have hb6 := u32_bd hw6
      rw [nat_of hb6.1] at hc6
      obtain ⟨v7, y7, hc7, hy7, ht7⟩ := hfs 7 _ rfl
      obtain ⟨lB, hB, hlB, heB⟩ := open_recs (ks := ks7) Try.underlying42 Try.underlying81 (by kernel_rfl) cellsBk rfl (by decide) (fun j k h => by match j, h with | 0, h => injection h with h; subst h; exact ⟨_, rfl, Try.underlying33⟩ | 1, h => injection h with h; subst h; exact ⟨_, rfl, Try.underlying5⟩ | 2, h => injection h with h; subst h; exact ⟨_, rfl, Try.underlying33⟩ | 3, h => injection h with h; subst h; exact ⟨_, rfl, Try.underlying33⟩ | 4, h => injection h with h; subst h; exact ⟨_, rfl, Try.underlying33⟩ | 5, h => injection h with h; subst h; exact ⟨_, rfl, Try.underlying33⟩ | 6, h => injection h with h; subst h; exact ⟨_, rfl, Try.underlying33⟩) (by decide) bytesBk ht7 (fun m hm => hwt 7 42 y7 rfl hy7 m hm)
      obtain ⟨v8, y8, hc8, hy8, ht8⟩ := hfs 8 _ rfl
      obtain ⟨lP, hP', hlP, heP⟩ := open_recs (ks := ksP) Try.underlying43 Try.underlying57 (by kernel_rfl) cellsPr rfl (by decide) (fun j k h => by match j, h with | 0, h => injection h with h; subst h; exact ⟨_, rfl, Try.underlying55⟩ | 1, h => injection h with h; subst h; exact ⟨_, rfl, Try.underlying55⟩) (by decide) bytesPr ht8 (fun m hm => hwt 8 43 y8 rfl hy8 m hm)
      obtain ⟨v9, y9, hc9, hy9, ht9⟩ := hfs 9 _ rfl
      obtain ⟨lF, hF, hlF, heF⟩ := open_recs (ks := ksF) Try.underlying44 Try.underlying82 (by kernel_rfl) cellsFr rfl (by decide) (fun j k h => by match j, h with | 0, h => injection h with h; subst h; exact ⟨_, rfl, Try.underlying33⟩ | 1, h => injection h with h; subst h; exact ⟨_, rfl, Try.underlying5⟩) (by decide) bytesFr ht9 (fun m hm => hwt 9 44 y9 rfl hy9 m hm)
      obtain ⟨v10, y10, hc10, hy10, ht10⟩ := hfs 10 _ rfl
      obtain ⟨s10, hs10, _, hw10⟩ := DataW.trod_int Try.underlying3 ht10
      simp only [List.cons.injEq, and_true] at hs10
      subst hs10
      have hb10 := i64_bd hw10
      obtain ⟨v11, y11, hc11, hy11, ht11⟩ := hfs 11 _ rfl
      obtain ⟨s11, hs11, _, hw11⟩ := DataW.trod_int Try.underlying33 ht11
      simp only [List.cons.injEq, and_true] at hs11
      subst hs11
      have hb11 := u32_bd hw11
      rw [nat_of hb11.1] at hc11
      obtain ⟨v12, y12, hc12, hy12, ht12⟩ := hfs 12 _ rfl
      obtain ⟨lQ, hQ, hlQ, heQ⟩ := open_nums (k := .u32) Try.underlying38 Try.underlying33 cellsU3 rfl bytesU3 ht12 (hpl 12 y12 hy12) (fun m hm => hwt 12 38 y12 rfl hy12 m hm)
      obtain ⟨v13, y13, hc13, hy13, ht13⟩ := hfs 13 _ rfl
      obtain ⟨s13, hs13, _, hw13⟩ := DataW.trod_int Try.underlying3 ht13
      simp only [List.cons.injEq, and_true] at hs13
      subst hs13
      have hb13 := i64_bd hw13
      obtain ⟨v14, y14, hc14, hy14, ht14⟩ := hfs 14 _ rfl
      obtain ⟨s14, hs14, _, hw14⟩ := DataW.trod_int Try.underlying3 ht14
      simp only [List.cons.injEq, and_true] at hs14
      subst hs14
      have hb14 := i64_bd hw14
      obtain ⟨v15, y15, hc15, hy15, ht15⟩ := hfs 15 _ rfl
      obtain ⟨AD, nD, cD, hvD⟩ := slice_of Try.underlying22 Try.underlying5 cells5b ht15
      subst hvD
      obtain ⟨bD, hnD, hrD, hcD, _, hlD⟩ := open_b Try.underlying22 Try.underlying5 cells5b ⟨_, ht15⟩ (hpl 15 y15 hy15)
      have hlD' := hlD bytes5b (fun m hm => hwt 15 22 y15 rfl hy15 m hm)
      have hD' : SlV W (.slice AD nD cD) bD := SlV.of hnD.symm hcD hrD
      refine ⟨(repA s0 s1.toNat s2.toNat s3.toNat s4.toNat s5.toNat s6.toNat v7 v8 v9 s10 s11.toNat v12 s13 s14 (.slice AD nD cD), ⟨s0, s1.toNat, s2.toNat, s3.toNat, s4.toNat, s5.toNat, s6.toNat, lB, lP, lF, s10, s11.toNat, lQ, s13, s14, bD⟩), ⟨v7, v8, v9, v12, _, rfl, hB, hP', hF, hQ, hD'⟩, ?_, ?_⟩
      · exact ⟨⟨by show s1.toNat < _; omega, by show s2.toNat < _; omega, by show s3.toNat < _; omega, by show s4.toNat < _; omega, by show s5.toNat < _; omega, by show s6.toNat < _; omega, by show s11.toNat < _; omega, fun e he => fitC (heB e he), fun e he => fitP (heP e he), fun e he => fitF (heF e he), fun e he => fitQ (heQ e he)⟩,
          ⟨hlB, hlP, hlF, hlQ, by show bD.length ≤ _; omega⟩, hb10.1, hb10.2⟩
      · intro j u hu
        match j, hu with
        | 0, hu => injection hu with hu; rw [← hu]; exact hc0
        | 1, hu => injection hu with hu; rw [← hu]; exact hc1
        | 2, hu => injection hu with hu; rw [← hu]; exact hc2
        | 3, hu => injection hu with hu; rw [← hu]; exact hc3
        | 4, hu => injection hu with hu; rw [← hu]; exact hc4
        | 5, hu => injection hu with hu; rw [← hu]; exact hc5
        | 6, hu => injection hu with hu; rw [← hu]; exact hc6
        | 7, hu => injection hu with hu; rw [← hu]; exact hc7
        | 8, hu => injection hu with hu; rw [← hu]; exact hc8
        | 9, hu => injection hu with hu; rw [← hu]; exact hc9
        | 10, hu => injection hu with hu; rw [← hu]; exact hc10
        | 11, hu => injection hu with hu; rw [← hu]; exact hc11
        | 12, hu => injection hu with hu; rw [← hu]; exact hc12
        | 13, hu => injection hu with hu; rw [← hu]; exact hc13
        | 14, hu => injection hu with hu; rw [← hu]; exact hc14
        | 15, hu => injection hu with hu; rw [← hu]; exact hc15
        | j + 16, hu => exact absurd hu (by simp [repA])
    haveI : Inhabited (Array Value × Rep) := ⟨(#[], rep0)⟩
    obtain ⟨E, hE⟩ := choose_lt (α := Array Value × Rep) key
    have hv : RepsV W ((List.range n).map fun i => (E i).1) ((List.range n).map fun i => (E i).2) := by
      refine ⟨by simp, fun i cs r h1 h2 => ?_⟩
      have hi : i < n := by have := (List.getElem?_eq_some_iff.1 h1).1; simpa using this
      rw [List.getElem?_map, List.getElem?_range hi] at h1 h2
      injection h1 with h1
      injection h2 with h2
      subst h1 h2
      exact (hE i hi).1
    have h16 := hv.all16
    have hcl := cellsL_len _ h16
    rw [List.length_map, List.length_range] at hcl
    refine ⟨(List.range n).map fun i => (E i).2, by simp, hlen, ⟨_, ⟨hcl, fun hn => ⟨a, rfl, ?_, fun q u hq => ?_⟩⟩, hv⟩, ?_⟩
    · have h0 := hE 0 hn
      have hs := h0.1.size
      have := World.block_lt_of_cell? _ _ (h0.2.2 0 _ (Array.getElem?_eq_getElem (by omega)))
      rwa [block_of_add] at this
    · have hql : q < n * 16 := by have := (List.getElem?_eq_some_iff.1 hq).1; rwa [hcl] at this
      have hi : q / 16 < n := by omega
      have hs := (hE _ hi).1.size
      have hei : ((List.range n).map fun i => (E i).1)[q / 16]? = some (E (q / 16)).1 := by rw [List.getElem?_map, List.getElem?_range hi]; rfl
      have hz : (E (q / 16)).1[q % 16]? = some ((E (q / 16)).1[q % 16]'(by omega)) := Array.getElem?_eq_getElem (by omega)
      have hra := cellsL_at _ h16 _ _ hei _ _ hz
      rw [show q / 16 * 16 + q % 16 = q by omega, hq] at hra
      injection hra with hra
      rw [hra]
      have := (hE _ hi).2.2 _ _ hz
      rwa [show q / 16 * 16 + q % 16 = q by omega] at this
    · intro r hr
      obtain ⟨i, hi, rfl⟩ := List.mem_map.1 hr
      exact (hE i (List.mem_range.1 hi)).2.1
end Go.Proofs.Ytkfimncbfbbopaa
