/- Texts of this claim, one behind the other: NackS, NackW, NackR, Has, Lost, LostR, NackL, Row, Pairs. Each says ahead of itself what it proves, and its conditions. -/
import Derived.Test.YtkfimncbfbbopaaGd
import Derived.BigQuiet
/- What Nack and Lost say (plain), and the law of them. No program in sight. -/
set_option linter.unusedVariables false
namespace Go.Proofs.Ytkfimncbfbbopaa
open Go.RowKit

/-- The distance of x behind f, in 16 bits. -/
def dN (x f : Nat) : Nat := (x + 65536 - f) % 65536
def nearN (x f : Nat) : Prop := 1 ≤ dN x f ∧ dN x f ≤ 16
instance (x f : Nat) : Decidable (nearN x f) := inferInstanceAs (Decidable (_ ∧ _))
def stepN (acc : List (Nat × Nat)) (x : Nat) : List (Nat × Nat) :=
  match acc.getLast? with
  | none => acc ++ [(x, 0)]
  | some (f, m) => if nearN x f then acc.dropLast ++ [(f, m ||| 2 ^ (dN x f - 1))] else acc ++ [(x, 0)]
def nackS (xs : List Nat) : List (Nat × Nat) := xs.foldl stepN []
/-- What the mask m names behind f, of the first k bits. -/
def bitsS (f m : Nat) : Nat → List Nat
  | 0 => []
  | k + 1 => bitsS f m k ++ (if m.testBit k then [(f + k + 1) % 65536] else [])
def oneN (p : Nat × Nat) : List Nat := p.1 :: bitsS p.1 p.2 16
def lostS (ps : List (Nat × Nat)) : List Nat := ps.flatMap oneN

theorem nackS_snoc (xs : List Nat) (x : Nat) : nackS (xs ++ [x]) = stepN (nackS xs) x := by simp [nackS, List.foldl_append]
theorem stepN_nil (x : Nat) : stepN [] x = [(x, 0)] := rfl
theorem stepN_snoc (acc : List (Nat × Nat)) (f m x : Nat) : stepN (acc ++ [(f, m)]) x = if nearN x f then acc ++ [(f, m ||| 2 ^ (dN x f - 1))] else acc ++ [(f, m)] ++ [(x, 0)] := by
  simp [stepN]
theorem snoc_cases {α : Type} (l : List α) : l = [] ∨ ∃ a x, l = a ++ [x] := by
  rcases List.eq_nil_or_concat l with h | ⟨a, x, h⟩
  · exact .inl h
  · exact .inr ⟨a, x, by rw [h]; simp⟩
theorem snoc_ind {α : Type} {P : List α → Prop} (h0 : P []) (h1 : ∀ l x, P l → P (l ++ [x])) (l : List α) : P l := by
  have h : ∀ r : List α, P r.reverse := fun r => by
    induction r with
    | nil => exact h0
    | cons x r ih => rw [List.reverse_cons]; exact h1 _ _ ih
  have := h l.reverse
  rwa [List.reverse_reverse] at this
theorem stepN_len (acc : List (Nat × Nat)) (x : Nat) : (stepN acc x).length ≤ acc.length + 1 := by
  rcases snoc_cases acc with rfl | ⟨a, ⟨f, m⟩, rfl⟩
  · simp [stepN_nil]
  · rw [stepN_snoc]; split <;> simp <;> omega
theorem nackS_len (xs : List Nat) : (nackS xs).length ≤ xs.length := by
  refine snoc_ind (P := fun xs => (nackS xs).length ≤ xs.length) ?_ ?_ xs
  · simp [nackS]
  · intro xs x ih; rw [nackS_snoc]; have := stepN_len (nackS xs) x; simp; omega
theorem mem_bitsS (f m z : Nat) : ∀ k, z ∈ bitsS f m k ↔ ∃ i, i < k ∧ m.testBit i = true ∧ z = (f + i + 1) % 65536
  | 0 => by simp [bitsS]
  | k + 1 => by
    rw [bitsS, List.mem_append, mem_bitsS f m z k]
    constructor
    · rintro (⟨i, h1, h2, h3⟩ | h)
      · exact ⟨i, by omega, h2, h3⟩
      · split at h
        · exact ⟨k, by omega, by assumption, by simpa using h⟩
        · simp at h
    · rintro ⟨i, h1, h2, h3⟩
      by_cases hi : i = k
      · subst hi; right; rw [if_pos h2]; simpa using h3
      · left; exact ⟨i, by omega, h2, h3⟩
theorem mem_oneN (f m z : Nat) : z ∈ oneN (f, m) ↔ z = f ∨ ∃ i, i < 16 ∧ m.testBit i = true ∧ z = (f + i + 1) % 65536 := by
  rw [oneN, List.mem_cons, mem_bitsS]
theorem lostS_snoc (ps : List (Nat × Nat)) (p : Nat × Nat) : lostS (ps ++ [p]) = lostS ps ++ oneN p := by simp [lostS]
theorem dN_back {x f : Nat} (hx : x < 65536) (hf : f < 65536) (h : nearN x f) : (f + (dN x f - 1) + 1) % 65536 = x := by
  unfold nearN dN at *
  omega
theorem mem_step {acc : List (Nat × Nat)} {x : Nat} (hx : x < 65536) (ha : ∀ p ∈ acc, p.1 < 65536) (z : Nat) : z ∈ lostS (stepN acc x) ↔ z ∈ lostS acc ∨ z = x := by
  rcases snoc_cases acc with rfl | ⟨a, ⟨f, m⟩, rfl⟩
  · simp [stepN_nil, lostS, mem_oneN]
  · have hf : f < 65536 := ha (f, m) (by simp)
    rw [stepN_snoc]
    split
    · rename_i hn
      rw [lostS_snoc, lostS_snoc, List.mem_append, List.mem_append, mem_oneN, mem_oneN]
      have hd := dN_back hx hf hn
      have hk : dN x f - 1 < 16 := by unfold nearN at hn; omega
      constructor
      · rintro (h | h | ⟨i, h1, h2, h3⟩)
        · exact .inl (.inl h)
        · exact .inl (.inr (.inl h))
        · rw [Nat.testBit_or, Nat.testBit_two_pow] at h2
          by_cases hi : dN x f - 1 = i
          · right; rw [h3, ← hi, hd]
          · exact .inl (.inr (.inr ⟨i, h1, by simpa [hi] using h2, h3⟩))
      · rintro ((h | h | ⟨i, h1, h2, h3⟩) | h)
        · exact .inl h
        · exact .inr (.inl h)
        · exact .inr (.inr ⟨i, h1, by rw [Nat.testBit_or, h2]; rfl, h3⟩)
        · refine .inr (.inr ⟨dN x f - 1, hk, ?_, by rw [hd, h]⟩)
          rw [Nat.testBit_or, Nat.testBit_two_pow]
          simp
    · rw [lostS_snoc (a ++ [(f, m)]), List.mem_append, mem_oneN]
      simp
theorem stepN_head {acc : List (Nat × Nat)} {x : Nat} (hx : x < 65536) (ha : ∀ p ∈ acc, p.1 < 65536 ∧ p.2 < 65536) : ∀ p ∈ stepN acc x, p.1 < 65536 ∧ p.2 < 65536 := by
  rcases snoc_cases acc with rfl | ⟨a, ⟨f, m⟩, rfl⟩
  · simp [stepN_nil, hx]
  · have hf := ha (f, m) (by simp)
    rw [stepN_snoc]
    intro p hp
    split at hp
    · rename_i hn
      rcases List.mem_append.1 hp with h | h
      · exact ha p (by simp [h])
      · simp at h
        subst h
        refine ⟨hf.1, ?_⟩
        have hk : 2 ^ (dN x f - 1) < 2 ^ 16 := Nat.pow_lt_pow_right (by decide) (by unfold nearN at hn; omega)
        exact Nat.or_lt_two_pow (n := 16) hf.2 hk
    · rcases List.mem_append.1 hp with h | h
      · exact ha p h
      · simp at h
        subst h
        exact ⟨hx, by show 0 < 65536; decide⟩
theorem nackS_head {xs : List Nat} (hx : ∀ x ∈ xs, x < 65536) : ∀ p ∈ nackS xs, p.1 < 65536 ∧ p.2 < 65536 := by
  revert hx
  refine snoc_ind (P := fun xs => (∀ x ∈ xs, x < 65536) → ∀ p ∈ nackS xs, p.1 < 65536 ∧ p.2 < 65536) ?_ ?_ xs
  · intro hx; simp [nackS]
  · intro xs x ih hx
    rw [nackS_snoc]
    exact stepN_head (hx x (by simp)) (ih fun y hy => hx y (by simp [hy]))
theorem mem_lost {xs : List Nat} (hx : ∀ x ∈ xs, x < 65536) (z : Nat) : z ∈ lostS (nackS xs) ↔ z ∈ xs := by
  revert hx
  refine snoc_ind (P := fun xs => (∀ x ∈ xs, x < 65536) → (z ∈ lostS (nackS xs) ↔ z ∈ xs)) ?_ ?_ xs
  · intro hx; simp [nackS, lostS]
  · intro xs x ih hx
    have h2 : ∀ y ∈ xs, y < 65536 := fun y hy => hx y (by simp [hy])
    rw [nackS_snoc, mem_step (hx x (by simp)) (fun p hp => (nackS_head h2 p hp).1), ih h2]
    simp
/-- No pair's head lies within 16 behind the one ahead of it. -/
def farN : List (Nat × Nat) → Prop
  | p :: q :: r => ¬ nearN q.1 p.1 ∧ farN (q :: r)
  | _ => True
theorem farN_snoc : ∀ (a : List (Nat × Nat)) (p q : Nat × Nat), farN (a ++ [p]) → ¬ nearN q.1 p.1 → farN (a ++ [p] ++ [q])
  | [], p, q, _, h => ⟨h, trivial⟩
  | [a], p, q, h1, h => ⟨h1.1, h, trivial⟩
  | a :: b :: r, p, q, h1, h => ⟨h1.1, farN_snoc (b :: r) p q h1.2 h⟩
theorem farN_last : ∀ (a : List (Nat × Nat)) (f m m' : Nat), farN (a ++ [(f, m)]) → farN (a ++ [(f, m')])
  | [], _, _, _, _ => trivial
  | [a], f, m, m', h => ⟨h.1, trivial⟩
  | a :: b :: r, f, m, m', h => ⟨h.1, farN_last (b :: r) f m m' h.2⟩
theorem farN_nack (xs : List Nat) : farN (nackS xs) := by
  refine snoc_ind (P := fun xs => farN (nackS xs)) ?_ ?_ xs
  · exact trivial
  · intro xs x ih
    rw [nackS_snoc]
    rcases snoc_cases (nackS xs) with h | ⟨a, ⟨f, m⟩, h⟩
    · rw [h]; exact trivial
    · rw [h] at ih
      rw [h, stepN_snoc]
      split
      · exact farN_last a f m _ ih
      · rename_i hn; exact farN_snoc a _ _ ih hn
theorem farN_at : ∀ (ps : List (Nat × Nat)) (i : Nat) (p q : Nat × Nat), farN ps → ps[i]? = some p → ps[i + 1]? = some q → ¬ nearN q.1 p.1
  | p' :: q' :: r, 0, p, q, h, h1, h2 => by simp at h1 h2; subst h1 h2; exact h.1
  | p' :: q' :: r, i + 1, p, q, h, h1, h2 => farN_at (q' :: r) i p q h.2 (by simpa using h1) (by simpa using h2)
  | [p'], i, p, q, h, h1, h2 => by simp at h2
  | [], i, p, q, h, h1, h2 => by simp at h2
theorem bitsS_len (f m : Nat) : ∀ k, (bitsS f m k).length ≤ k
  | 0 => by simp [bitsS]
  | k + 1 => by rw [bitsS, List.length_append]; have := bitsS_len f m k; split <;> simp <;> omega
theorem oneN_len (p : Nat × Nat) : (oneN p).length ≤ 17 := by rw [oneN, List.length_cons]; have := bitsS_len p.1 p.2 16; omega
theorem lostS_len : ∀ ps : List (Nat × Nat), (lostS ps).length ≤ 17 * ps.length
  | [] => by simp [lostS]
  | p :: ps => by
    have h1 := lostS_len ps
    have h2 := oneN_len p
    show (List.flatMap oneN (p :: ps)).length ≤ _
    rw [List.flatMap_cons, List.length_append, List.length_cons]
    show _ + (lostS ps).length ≤ _
    omega
theorem bitsS_lt (f m : Nat) : ∀ k, ∀ x ∈ bitsS f m k, x < 65536
  | 0 => by simp [bitsS]
  | k + 1 => fun x hx => by
    rw [bitsS] at hx
    rcases List.mem_append.1 hx with h | h
    · exact bitsS_lt f m k x h
    · split at h
      · simp at h; omega
      · simp at h
theorem lostS_lt {ps : List (Nat × Nat)} (h : ∀ p ∈ ps, p.1 < 65536) : ∀ x ∈ lostS ps, x < 65536 := fun x hx => by
  obtain ⟨p, hp, hxp⟩ := List.mem_flatMap.1 hx
  rcases List.mem_cons.1 hxp with rfl | h2
  · exact h p hp
  · exact bitsS_lt _ _ _ x h2
end Go.Proofs.Ytkfimncbfbbopaa
/- What Nack does (contract). Conditions: the numbers lie in memory. -/
set_option linter.unusedVariables false
set_option linter.unusedSimpArgs false
namespace Go.Proofs.Ytkfimncbfbbopaa
open Go.RowKit
attribute [local go_sem ↓] Go.wp_at_zero Go.wp_at_succ

def nV (x : Nat) : Value := .int .u16 (x : Int)
def rowP (ps : List (Nat × Nat)) : List Value := ps.flatMap fun p => [nV p.1, nV p.2]
theorem rowP_len : ∀ ps : List (Nat × Nat), (rowP ps).length = ps.length * 2
  | [] => rfl
  | p :: ps => by
    have := rowP_len ps
    show ([nV p.1, nV p.2] ++ rowP ps).length = _
    simp [this]
    omega
theorem rowP_snoc (a : List (Nat × Nat)) (p : Nat × Nat) : rowP (a ++ [p]) = rowP a ++ [nV p.1, nV p.2] := by simp [rowP]
theorem rowP_at : ∀ (ps : List (Nat × Nat)) (i : Nat) (p : Nat × Nat), ps[i]? = some p → (rowP ps)[i * 2]? = some (nV p.1) ∧ (rowP ps)[i * 2 + 1]? = some (nV p.2)
  | q :: ps, 0, p, h => by simp at h; subst h; exact ⟨rfl, rfl⟩
  | q :: ps, i + 1, p, h => by
    have := rowP_at ps i p (by simpa using h)
    show ([nV q.1, nV q.2] ++ rowP ps)[(i + 1) * 2]? = _ ∧ ([nV q.1, nV q.2] ++ rowP ps)[(i + 1) * 2 + 1]? = _
    rw [show (i + 1) * 2 = i * 2 + 2 by omega, show i * 2 + 2 + 1 = i * 2 + 1 + 2 by omega]
    exact this
  | [], i, p, h => by simp at h
theorem rowP_set (a : List (Nat × Nat)) (f m m' : Nat) : (rowP (a ++ [(f, m)])).set (a.length * 2 + 1) (nV m') = rowP (a ++ [(f, m')]) := by
  rw [rowP_snoc, rowP_snoc, List.set_append_right _ _ (by rw [rowP_len]; omega), rowP_len]
  simp
/-- An own row that is not empty begins at a block's head. -/
theorem own_block {w : World} {B e size n k c : Nat} {A : Option Addr} {xs : List Value} (h : w.ownsRow B e size (.slice A k c) n xs) (hn : 0 < n) : ∃ g, A = some ⟨g, 0, none⟩ ∧ k = n ∧ B ≤ g ∧ g < w.heap.size := by
  rcases h.2 with ⟨h', h0⟩ | ⟨g', cap', cur, h', hb, hg, _⟩
  · omega
  · injection h' with h1 h2 h3
    exact ⟨g', h1, h2, hb, by
      rw [Array.getElem?_eq_some_iff] at hg
      exact hg.1⟩
theorem num_cells {w : World} {B n : Nat} {A : Option Addr} {xs : List Nat} (h : Reads w B 1 A n (xs.map nV)) (hn : 0 < n) : ∃ g o, A = some ⟨g, o, none⟩ ∧ g < B ∧ ∀ (i x : Nat), xs[i]? = some x → w.cell? ⟨g, o + i, none⟩ = some (.int .u16 (x : Int)) := by
  obtain ⟨ad, rfl, hl, hc⟩ := h.2 hn
  have hlen : 0 < xs.length := by have := h.1; rw [List.length_map] at this; omega
  have c0 := hc 0 (nV xs[0]) (by rw [List.getElem?_map, List.getElem?_eq_getElem hlen]; rfl)
  obtain ⟨g, o, rfl⟩ := addr_plain c0
  refine ⟨g, o, rfl, hl, fun i x hx => ?_⟩
  have := hc i (nV x) (by rw [List.getElem?_map, hx]; rfl)
  rwa [Go.WideShapes.add_plain] at this
theorem infoPairZ : (Try.prog.info? 57).map (fun i => (i.zero, i.size, i.bytes)) = some (some (.agg #[.int .u16 0, .int .u16 0]), 2, 4) := by kernel_rfl
theorem shl_u16 : ∀ q, q < 16 → IntKind.u16.wrap (2 ^ min q 16) = ((2 ^ q : Nat) : Int) := by decide
theorem takeN_snoc {α : Type} {xs : List α} {i : Nat} {x : α} (h : xs[i]? = some x) : xs.take (i + 1) = xs.take i ++ [x] := by
  rw [List.take_add_one, h]
  rfl
set_option maxRecDepth 100000 in
set_option maxHeartbeats 12800000 in
theorem nack_c (xs : List Nat) (A : Option Addr) (n cap : Nat) (w : World) (hr : Reads w w.heap.size 1 A n (xs.map nV)) (hx : ∀ x ∈ xs, x < 65536) (hn : n ≤ 300) :
    Calls Try.prog 16 #[.slice A n cap] w fun e w' => ∃ v, e = .returned v ∧ w'.ownsRow w.heap.size 57 2 v (nackS xs).length (rowP (nackS xs)) ∧ Below w.heap.size w w' := by
  obtain ⟨iP, hiP, hzaP, hzbP, hzcP⟩ := info_parts infoPairZ
  have hlen : xs.length = n := by have := hr.1; rw [List.length_map] at this; omega
  have HLEN := Lib.hid hlen
  have HR := Lib.hid hr
  have HXS := Lib.hid hx
  clear hlen hr hx
  go_enter Try.func16, Try.ntmps16
  go_upto_region 3 with fail
  go_loopg [3, 10] n (fun gg v3 v10 wx => ∃ (i k : Nat) (Ao : Option Addr) (co : Nat), gg = n - i ∧ i ≤ n ∧ v10 = .int .i64 (i : Int) ∧ v3 = .slice Ao k co ∧ k = (nackS (xs.take i)).length ∧ k ≤ i ∧
    wx.ownsRow w.heap.size 57 2 (.slice Ao k co) k (rowP (nackS (xs.take i))) ∧ Below w.heap.size w wx)
  case atStart => exact ⟨0, 0, none, 0, by omega, by omega, rfl, rfl, by simp [nackS], by omega, by simpa [nackS, rowP] using World.ownsRow_nil _ _ _ _, Below.refl _ _⟩
  case round =>
    obtain ⟨i, k, Ao, co, hgg, hi, rfl, rfl, hk, hki, ho, hb⟩ := hrel
    have HO := Lib.hid ho
    have HB := Lib.hid hb
    have HK := Lib.hid hk
    have HG := Lib.hid hgg
    clear ho hb hk hgg
    by_cases hin : i < n
    · have hini : (i : Int) < (n : Int) := by omega
      have hw1 : IntKind.i64.wrap ((i : Int) + 1) = ((i + 1 : Nat) : Int) := by rw [IntKind.wrap_i64]; omega
      obtain ⟨x, hxi⟩ : ∃ x, xs[i]? = some x := ⟨xs[i]'(by have := HLEN.out; omega), List.getElem?_eq_getElem _⟩
      have hx65 : x < 65536 := HXS.out x (List.mem_of_getElem? hxi)
      have HTK := Lib.hid (takeN_snoc hxi)
      obtain ⟨g, o, hA, hg, hc⟩ := num_cells HR.out (by omega)
      subst hA
      have ci : wr.cell? ⟨g, o + i, none⟩ = some (.int .u16 (x : Int)) := (HB.out.cell (p := ⟨g, o + i, none⟩) hg).trans (hc i x hxi)
      have HLT := Lib.hid hin
      clear hc hxi hin
      by_cases hk0 : k = 0
      · subst hk0
        have HE : nackS (xs.take i) = [] := List.eq_nil_of_length_eq_zero HK.out.symm
        have HST : Hid (stepN (nackS (xs.take i)) x = nackS (xs.take i) ++ [(x, 0)]) := by show _ = _; rw [HE]; rfl
        clear HE
        have HRE : Hid (Reads (wr.alloc (.cells #[.int .u16 (x : Int), .int .u16 0] 57)) (World.heap (wr.alloc (.cells #[.int .u16 (x : Int), .int .u16 0] 57))).size 2 (some ⟨wr.heap.size, 0, none⟩) 1 [nV x, nV 0]) := reads_blk (n := 1) (size := 2) (Blk.newAt (w := wr) rfl 57 #[.int .u16 (x : Int), .int .u16 0]) rfl
        have HBS : Hid (w.heap.size ≤ (World.heap (wr.alloc (.cells #[.int .u16 (x : Int), .int .u16 0] 57))).size) := Nat.le_trans HB.out.size (by simp)
        have HON := Lib.hid (HO.out.alloc (.cells #[.int .u16 (x : Int), .int .u16 0] 57))
        go_wp2_with
         (at_builtin
          refine wpList_append_any _ rfl (.tmp 43) (.tmp 46) _ rfl w.heap.size 57 iP _ 2 4 Try.underlying43 hiP hzaP hzbP hzcP rfl (by omega) (.slice Ao 0 co) 0 (rowP (nackS (xs.take i))) rfl HON.out
            _ (some ⟨wr.heap.size, 0, none⟩) 1 1 [nV x, nV 0] rfl HRE.out (by simp [nV, Value.oneCell']) (by simp only [maxLen]; omega) (by omega) HBS.out ?_
          intro v10 w10 hown hg10 hv10
          obtain ⟨A10, c10, rfl⟩ := own_slice hown
          have HO10 := Lib.hid hown
          have HG10 := Lib.hid hg10
          clear hown hg10 hv10)
        go_roundg (n - (i + 1))
        case measure => have := HLT.out; have := HG.out; omega
        case rel =>
          have hlt := HLT.out
          have hbw : Below wr.heap.size wr (wr.alloc (.cells #[.int .u16 (x : Int), .int .u16 0] 57)) := balloc (Below.refl _ _) _
          have hsv : Sv (fun j => (Value.slice Ao 0 co).ownBlock = some j) (wr.alloc (.cells #[.int .u16 (x : Int), .int .u16 0] 57)) w10 := (Sv.refl _ _).grown HG10.out (fun g e => .inl e)
          have hlo : ∀ j, (Value.slice Ao 0 co).ownBlock = some j → w.heap.size ≤ j := fun j e => (HO.out.lt j e).1
          refine ⟨i + 1, 0 + 1, A10, c10, rfl, by omega, rfl, rfl, ?_, by omega, ?_, ?_⟩
          · rw [HTK.out, nackS_snoc, HST.out, List.length_append, ← HK.out]; rfl
          · rw [HTK.out, nackS_snoc, HST.out, rowP_snoc]; exact HO10.out
          · exact (HB.out.trans (hbw.mono HB.out.size)).trans (hsv.toBelow hlo HBS.out)
      · have hkp : 0 < k := by omega
        have hkw : IntKind.i64.wrap ((k : Int) - 1) = ((k - 1 : Nat) : Int) := by rw [IntKind.wrap_i64]; omega
        obtain ⟨j, hj⟩ : ∃ j, j = k - 1 := ⟨_, rfl⟩
        rw [← hj] at hkw
        have hj0 : (0 : Int) ≤ (j : Int) := by omega
        have hjk : (j : Int) < (k : Int) := by omega
        have HJ : Hid (k = j + 1) := by show _ = _; omega
        rcases snoc_cases (nackS (xs.take i)) with hnil | ⟨a, ⟨f, m⟩, hsn⟩
        · have := HK.out; rw [hnil] at this; exact absurd this hk0
        have hal : a.length = j := by have := HK.out; rw [hsn, List.length_append] at this; simp at this; omega
        obtain ⟨gA, hA, hke, hgA, hgL⟩ := own_block HO.out hkp
        subst hA
        have hfm := nackS_head (xs := xs.take i) (fun y hy => HXS.out y (List.mem_of_mem_take hy)) (f, m) (by rw [hsn]; simp)
        obtain ⟨hf65, hm65⟩ : f < 65536 ∧ m < 65536 := hfm
        have hat := rowP_at (nackS (xs.take i)) j (f, m) (by rw [hsn, List.getElem?_append_right (by omega), hal]; simp)
        have cf : wr.cell? ⟨gA, j * 2, none⟩ = some (.int .u16 (f : Int)) := (HO.out.cellAt (j * 2) (by omega)).trans hat.1
        have cm : wr.cell? ⟨gA, j * 2 + 1, none⟩ = some (.int .u16 (m : Int)) := (HO.out.cellAt (j * 2 + 1) (by omega)).trans hat.2
        have hfz := HO.out.frozenAt (j * 2 + 1)
        obtain ⟨d, hd⟩ : ∃ d, d = dN x f := ⟨_, rfl⟩
        have hdw : IntKind.u16.wrap ((x : Int) - (f : Int)) = (d : Int) := by rw [hd, dN, IntKind.wrap_u16]; omega
        have HSN := Lib.hid hsn
        have HAL := Lib.hid hal
        have HD := Lib.hid hd
        clear hsn hat hke hgA hal hk0 hkp hj
        by_cases hnear : 1 ≤ d ∧ d ≤ 16
        · have HST : Hid (stepN (nackS (xs.take i)) x = a ++ [(f, m ||| 2 ^ (d - 1))]) := by
            show _ = _
            rw [HSN.out, stepN_snoc, if_pos (by rw [nearN, ← HD.out]; exact hnear), ← HD.out]
          have hd1 : (1 : Int) ≤ (d : Int) := by omega
          have hd2 : (d : Int) ≤ 16 := by omega
          have hdq : IntKind.u16.wrap ((d : Int) - 1) = ((d - 1 : Nat) : Int) := by rw [IntKind.wrap_u16]; omega
          obtain ⟨q, hq⟩ : ∃ q, q = d - 1 := ⟨_, rfl⟩
          rw [← hq] at hdq
          have HQ := Lib.hid hq
          have HQ16 : Hid (q < 16) := by show _ < _; omega
          obtain ⟨P, hP⟩ : ∃ P, P = 2 ^ q := ⟨_, rfl⟩
          have hP65 : P < 65536 := by rw [hP]; exact Nat.pow_lt_pow_right (a := 2) (n := 16) (by decide) HQ16.out
          have hsh : IntKind.u16.wrap (2 ^ min q 16) = (P : Int) := by rw [hP]; exact shl_u16 q HQ16.out
          have hor := u16_or_nat m P hm65 hP65
          obtain ⟨M, hM⟩ : ∃ M, M = m ||| P := ⟨_, rfl⟩
          rw [← hM] at hor
          have HM : Hid (m ||| 2 ^ (d - 1) = M) := by show _ = _; rw [hM, hP, hq]
          clear hd hnear hq hP hM
          go_wp2_with fail
          go_roundg (n - (i + 1))
          case measure => have := HLT.out; have := HG.out; omega
          case rel =>
            have hlt := HLT.out
            have hge : w.heap.size ≤ gA := (HO.out.lt gA rfl).1
            have hrow := (HO.out.stored (j * 2 + 1) (.int .u16 (M : Int))).1
            refine ⟨i + 1, k, some ⟨gA, 0, none⟩, co, rfl, by omega, rfl, rfl, ?_, by omega, ?_, ?_⟩
            · rw [HTK.out, nackS_snoc, HST.out, List.length_append, HAL.out]; exact HJ.out
            · rw [HTK.out, nackS_snoc, HST.out, HM.out, ← rowP_set a f m M, ← HSN.out, HAL.out]; exact hrow
            · exact bset HB.out (p := ⟨gA, j * 2 + 1, none⟩) hge _
        · have HST : Hid (stepN (nackS (xs.take i)) x = nackS (xs.take i) ++ [(x, 0)]) := by
            show _ = _
            rw [HSN.out, stepN_snoc, if_neg (by rw [nearN, ← HD.out]; exact hnear)]
          clear hd
          by_cases hd0 : 1 ≤ d
          · have hd1 : (1 : Int) ≤ (d : Int) := by omega
            have hd2 : ¬ (d : Int) ≤ 16 := by omega
            clear hnear hd0
            have HRE : Hid (Reads (wr.alloc (.cells #[.int .u16 (x : Int), .int .u16 0] 57)) (World.heap (wr.alloc (.cells #[.int .u16 (x : Int), .int .u16 0] 57))).size 2 (some ⟨wr.heap.size, 0, none⟩) 1 [nV x, nV 0]) := reads_blk (n := 1) (size := 2) (Blk.newAt (w := wr) rfl 57 #[.int .u16 (x : Int), .int .u16 0]) rfl
            have HBS : Hid (w.heap.size ≤ (World.heap (wr.alloc (.cells #[.int .u16 (x : Int), .int .u16 0] 57))).size) := Nat.le_trans HB.out.size (by simp)
            have HON := Lib.hid (HO.out.alloc (.cells #[.int .u16 (x : Int), .int .u16 0] 57))
            go_wp2_with
             (at_builtin
              refine wpList_append_any _ rfl (.tmp 43) (.tmp 46) _ rfl w.heap.size 57 iP _ 2 4 Try.underlying43 hiP hzaP hzbP hzcP rfl (by omega) (.slice (some ⟨gA, 0, none⟩) k co) k (rowP (nackS (xs.take i))) rfl HON.out
                _ (some ⟨wr.heap.size, 0, none⟩) 1 1 [nV x, nV 0] rfl HRE.out (by simp [nV, Value.oneCell']) (by simp only [maxLen]; omega) (by omega) HBS.out ?_
              intro v10 w10 hown hg10 hv10
              obtain ⟨A10, c10, rfl⟩ := own_slice hown
              have HO10 := Lib.hid hown
              have HG10 := Lib.hid hg10
              clear hown hg10 hv10)
            go_roundg (n - (i + 1))
            case measure => have := HLT.out; have := HG.out; omega
            case rel =>
              have hlt := HLT.out
              have hbw : Below wr.heap.size wr (wr.alloc (.cells #[.int .u16 (x : Int), .int .u16 0] 57)) := balloc (Below.refl _ _) _
              have hsv : Sv (fun j => (Value.slice (some ⟨gA, 0, none⟩) k co).ownBlock = some j) (wr.alloc (.cells #[.int .u16 (x : Int), .int .u16 0] 57)) w10 := (Sv.refl _ _).grown HG10.out (fun g e => .inl e)
              have hlo : ∀ j, (Value.slice (some ⟨gA, 0, none⟩) k co).ownBlock = some j → w.heap.size ≤ j := fun j e => (HO.out.lt j e).1
              refine ⟨i + 1, k + 1, A10, c10, rfl, by omega, rfl, rfl, ?_, by omega, ?_, ?_⟩
              · rw [HTK.out, nackS_snoc, HST.out, List.length_append, ← HK.out]; rfl
              · rw [HTK.out, nackS_snoc, HST.out, rowP_snoc]; exact HO10.out
              · exact (HB.out.trans (hbw.mono HB.out.size)).trans (hsv.toBelow hlo HBS.out)
          · have hd1 : ¬ (1 : Int) ≤ (d : Int) := by omega
            clear hnear hd0
            have HRE : Hid (Reads (wr.alloc (.cells #[.int .u16 (x : Int), .int .u16 0] 57)) (World.heap (wr.alloc (.cells #[.int .u16 (x : Int), .int .u16 0] 57))).size 2 (some ⟨wr.heap.size, 0, none⟩) 1 [nV x, nV 0]) := reads_blk (n := 1) (size := 2) (Blk.newAt (w := wr) rfl 57 #[.int .u16 (x : Int), .int .u16 0]) rfl
            have HBS : Hid (w.heap.size ≤ (World.heap (wr.alloc (.cells #[.int .u16 (x : Int), .int .u16 0] 57))).size) := Nat.le_trans HB.out.size (by simp)
            have HON := Lib.hid (HO.out.alloc (.cells #[.int .u16 (x : Int), .int .u16 0] 57))
            go_wp2_with
             (at_builtin
              refine wpList_append_any _ rfl (.tmp 43) (.tmp 46) _ rfl w.heap.size 57 iP _ 2 4 Try.underlying43 hiP hzaP hzbP hzcP rfl (by omega) (.slice (some ⟨gA, 0, none⟩) k co) k (rowP (nackS (xs.take i))) rfl HON.out
                _ (some ⟨wr.heap.size, 0, none⟩) 1 1 [nV x, nV 0] rfl HRE.out (by simp [nV, Value.oneCell']) (by simp only [maxLen]; omega) (by omega) HBS.out ?_
              intro v10 w10 hown hg10 hv10
              obtain ⟨A10, c10, rfl⟩ := own_slice hown
              have HO10 := Lib.hid hown
              have HG10 := Lib.hid hg10
              clear hown hg10 hv10)
            go_roundg (n - (i + 1))
            case measure => have := HLT.out; have := HG.out; omega
            case rel =>
              have hlt := HLT.out
              have hbw : Below wr.heap.size wr (wr.alloc (.cells #[.int .u16 (x : Int), .int .u16 0] 57)) := balloc (Below.refl _ _) _
              have hsv : Sv (fun j => (Value.slice (some ⟨gA, 0, none⟩) k co).ownBlock = some j) (wr.alloc (.cells #[.int .u16 (x : Int), .int .u16 0] 57)) w10 := (Sv.refl _ _).grown HG10.out (fun g e => .inl e)
              have hlo : ∀ j, (Value.slice (some ⟨gA, 0, none⟩) k co).ownBlock = some j → w.heap.size ≤ j := fun j e => (HO.out.lt j e).1
              refine ⟨i + 1, k + 1, A10, c10, rfl, by omega, rfl, rfl, ?_, by omega, ?_, ?_⟩
              · rw [HTK.out, nackS_snoc, HST.out, List.length_append, ← HK.out]; rfl
              · rw [HTK.out, nackS_snoc, HST.out, rowP_snoc]; exact HO10.out
              · exact (HB.out.trans (hbw.mono HB.out.size)).trans (hsv.toBelow hlo HBS.out)
    · have hini : ¬ (i : Int) < (n : Int) := by omega
      have hie : i = n := by omega
      subst hie
      have HT : Hid (xs.take i = xs) := List.take_of_length_le (by rw [HLEN.out]; exact Nat.le_refl _)
      clear hin hi
      go_wp2_with fail
      go_ret
      have hk := HK.out
      have ho := HO.out
      rw [HT.out] at hk ho
      exact ⟨_, rfl, hk ▸ ho, HB.out⟩
end Go.Proofs.Ytkfimncbfbbopaa
/- What the reference's Nack does (contract). Conditions: the numbers lie in memory. -/
set_option linter.unusedVariables false
set_option linter.unusedSimpArgs false
namespace Go.Proofs.Ytkfimncbfbbopaa
open Go.RowKit
attribute [local go_sem ↓] Go.wp_at_zero Go.wp_at_succ

theorem infoPairQ : (Try.prog.info? 58).map (fun i => (i.zero, i.size, i.bytes)) = some (some (.agg #[.int .u16 0, .int .u16 0]), 2, 4) := by kernel_rfl
set_option maxRecDepth 100000 in
set_option maxHeartbeats 12800000 in
theorem nackR_c (xs : List Nat) (A : Option Addr) (n cap : Nat) (w : World) (hr : Reads w w.heap.size 1 A n (xs.map nV)) (hx : ∀ x ∈ xs, x < 65536) (hn : n ≤ 300) :
    Calls Try.prog 18 #[.slice A n cap] w fun e w' => ∃ v, e = .returned v ∧ w'.ownsRow w.heap.size 58 2 v (nackS xs).length (rowP (nackS xs)) ∧ Below w.heap.size w w' := by
  obtain ⟨iP, hiP, hzaP, hzbP, hzcP⟩ := info_parts infoPairQ
  have hlen : xs.length = n := by have := hr.1; rw [List.length_map] at this; omega
  have HLEN := Lib.hid hlen
  have HR := Lib.hid hr
  have HXS := Lib.hid hx
  clear hlen hr hx
  go_enter Try.func18, Try.ntmps18
  go_upto_region 3 with fail
  go_loopg [3, 4] n (fun gg v3 v4 wx => ∃ (i k : Nat) (Ao : Option Addr) (co : Nat), gg = n - i ∧ i ≤ n ∧ v4 = .int .i64 (i : Int) ∧ v3 = .slice Ao k co ∧ k = (nackS (xs.take i)).length ∧ k ≤ i ∧
    wx.ownsRow w.heap.size 58 2 (.slice Ao k co) k (rowP (nackS (xs.take i))) ∧ Below w.heap.size w wx)
  case atStart => exact ⟨0, 0, none, 0, by omega, by omega, rfl, rfl, by simp [nackS], by omega, by simpa [nackS, rowP] using World.ownsRow_nil _ _ _ _, Below.refl _ _⟩
  case round =>
    obtain ⟨i, k, Ao, co, hgg, hi, rfl, rfl, hk, hki, ho, hb⟩ := hrel
    have HO := Lib.hid ho
    have HB := Lib.hid hb
    have HK := Lib.hid hk
    have HG := Lib.hid hgg
    clear ho hb hk hgg
    by_cases hin : i < n
    · have hini : (i : Int) < (n : Int) := by omega
      have hw1 : IntKind.i64.wrap ((i : Int) + 1) = ((i + 1 : Nat) : Int) := by rw [IntKind.wrap_i64]; omega
      obtain ⟨x, hxi⟩ : ∃ x, xs[i]? = some x := ⟨xs[i]'(by have := HLEN.out; omega), List.getElem?_eq_getElem _⟩
      have hx65 : x < 65536 := HXS.out x (List.mem_of_getElem? hxi)
      have HTK := Lib.hid (takeN_snoc hxi)
      obtain ⟨g, o, hA, hg, hc⟩ := num_cells HR.out (by omega)
      subst hA
      have ci : wr.cell? ⟨g, o + i, none⟩ = some (.int .u16 (x : Int)) := (HB.out.cell (p := ⟨g, o + i, none⟩) hg).trans (hc i x hxi)
      have HLT := Lib.hid hin
      clear hc hxi hin
      by_cases hk0 : k = 0
      · subst hk0
        have HE : nackS (xs.take i) = [] := List.eq_nil_of_length_eq_zero HK.out.symm
        have HST : Hid (stepN (nackS (xs.take i)) x = nackS (xs.take i) ++ [(x, 0)]) := by show _ = _; rw [HE]; rfl
        clear HE
        have HRE : Hid (Reads (wr.alloc (.cells #[.int .u16 (x : Int), .int .u16 0] 58)) (World.heap (wr.alloc (.cells #[.int .u16 (x : Int), .int .u16 0] 58))).size 2 (some ⟨wr.heap.size, 0, none⟩) 1 [nV x, nV 0]) := reads_blk (n := 1) (size := 2) (Blk.newAt (w := wr) rfl 58 #[.int .u16 (x : Int), .int .u16 0]) rfl
        have HBS : Hid (w.heap.size ≤ (World.heap (wr.alloc (.cells #[.int .u16 (x : Int), .int .u16 0] 58))).size) := Nat.le_trans HB.out.size (by simp)
        have HON := Lib.hid (HO.out.alloc (.cells #[.int .u16 (x : Int), .int .u16 0] 58))
        go_wp2_with
         (at_builtin
          refine wpList_append_any _ rfl (.tmp 47) (.tmp 53) _ rfl w.heap.size 58 iP _ 2 4 Try.underlying36 hiP hzaP hzbP hzcP rfl (by omega) (.slice Ao 0 co) 0 (rowP (nackS (xs.take i))) rfl HON.out
            _ (some ⟨wr.heap.size, 0, none⟩) 1 1 [nV x, nV 0] rfl HRE.out (by simp [nV, Value.oneCell']) (by simp only [maxLen]; omega) (by omega) HBS.out ?_
          intro v10 w10 hown hg10 hv10
          obtain ⟨A10, c10, rfl⟩ := own_slice hown
          have HO10 := Lib.hid hown
          have HG10 := Lib.hid hg10
          clear hown hg10 hv10)
        go_roundg (n - (i + 1))
        case measure => have := HLT.out; have := HG.out; omega
        case rel =>
          have hlt := HLT.out
          have hbw : Below wr.heap.size wr (wr.alloc (.cells #[.int .u16 (x : Int), .int .u16 0] 58)) := balloc (Below.refl _ _) _
          have hsv : Sv (fun j => (Value.slice Ao 0 co).ownBlock = some j) (wr.alloc (.cells #[.int .u16 (x : Int), .int .u16 0] 58)) w10 := (Sv.refl _ _).grown HG10.out (fun g e => .inl e)
          have hlo : ∀ j, (Value.slice Ao 0 co).ownBlock = some j → w.heap.size ≤ j := fun j e => (HO.out.lt j e).1
          refine ⟨i + 1, 0 + 1, A10, c10, rfl, by omega, rfl, rfl, ?_, by omega, ?_, ?_⟩
          · rw [HTK.out, nackS_snoc, HST.out, List.length_append, ← HK.out]; rfl
          · rw [HTK.out, nackS_snoc, HST.out, rowP_snoc]; exact HO10.out
          · exact (HB.out.trans (hbw.mono HB.out.size)).trans (hsv.toBelow hlo HBS.out)
      · have hkp : 0 < k := by omega
        have hkw : IntKind.i64.wrap ((k : Int) - 1) = ((k - 1 : Nat) : Int) := by rw [IntKind.wrap_i64]; omega
        obtain ⟨j, hj⟩ : ∃ j, j = k - 1 := ⟨_, rfl⟩
        rw [← hj] at hkw
        have hj0 : (0 : Int) ≤ (j : Int) := by omega
        have hjk : (j : Int) < (k : Int) := by omega
        have HJ : Hid (k = j + 1) := by show _ = _; omega
        rcases snoc_cases (nackS (xs.take i)) with hnil | ⟨a, ⟨f, m⟩, hsn⟩
        · have := HK.out; rw [hnil] at this; exact absurd this hk0
        have hal : a.length = j := by have := HK.out; rw [hsn, List.length_append] at this; simp at this; omega
        obtain ⟨gA, hA, hke, hgA, hgL⟩ := own_block HO.out hkp
        subst hA
        have hfm := nackS_head (xs := xs.take i) (fun y hy => HXS.out y (List.mem_of_mem_take hy)) (f, m) (by rw [hsn]; simp)
        obtain ⟨hf65, hm65⟩ : f < 65536 ∧ m < 65536 := hfm
        have hat := rowP_at (nackS (xs.take i)) j (f, m) (by rw [hsn, List.getElem?_append_right (by omega), hal]; simp)
        have cf : wr.cell? ⟨gA, j * 2, none⟩ = some (.int .u16 (f : Int)) := (HO.out.cellAt (j * 2) (by omega)).trans hat.1
        have cm : wr.cell? ⟨gA, j * 2 + 1, none⟩ = some (.int .u16 (m : Int)) := (HO.out.cellAt (j * 2 + 1) (by omega)).trans hat.2
        have hfz := HO.out.frozenAt (j * 2 + 1)
        obtain ⟨d, hd⟩ : ∃ d, d = dN x f := ⟨_, rfl⟩
        have hdw : IntKind.u16.wrap ((x : Int) - (f : Int)) = (d : Int) := by rw [hd, dN, IntKind.wrap_u16]; omega
        have HSN := Lib.hid hsn
        have HAL := Lib.hid hal
        have HD := Lib.hid hd
        clear hsn hat hke hgA hal hk0 hkp hj
        clear hd
        go_upto_region 7 with fail
        go_quiet (fail)
        clear hdw
        obtain ⟨wq, hwq⟩ : ∃ wq, wq = wr.drewN nq := ⟨_, rfl⟩
        rw [← hwq]
        replace HB : Hid (Below w.heap.size w wq) := by rw [hwq]; exact below_drewN HB.out _
        replace HO : Hid (wq.ownsRow w.heap.size 58 2 (.slice (some ⟨gA, 0, none⟩) k co) k (rowP (nackS (xs.take i)))) := by rw [hwq]; exact HO.out
        replace ci : wq.cell? ⟨g, o + i, none⟩ = some (.int .u16 (x : Int)) := by rw [hwq]; exact ci
        replace cm : wq.cell? ⟨gA, j * 2 + 1, none⟩ = some (.int .u16 (m : Int)) := by rw [hwq]; exact cm
        replace hfz : wq.frozen? ⟨gA, j * 2 + 1, none⟩ = false := by rw [hwq]; exact hfz
        clear hwq cf
        by_cases hnear : 1 ≤ d ∧ d ≤ 16
        · have HST : Hid (stepN (nackS (xs.take i)) x = a ++ [(f, m ||| 2 ^ (d - 1))]) := by
            show _ = _
            rw [HSN.out, stepN_snoc, if_pos (by rw [nearN, ← HD.out]; exact hnear), ← HD.out]
          have hd1 : (1 : Int) ≤ (d : Int) := by omega
          have hd2 : (d : Int) ≤ 16 := by omega
          have hdq : IntKind.u16.wrap ((d : Int) - 1) = ((d - 1 : Nat) : Int) := by rw [IntKind.wrap_u16]; omega
          obtain ⟨q, hq⟩ : ∃ q, q = d - 1 := ⟨_, rfl⟩
          rw [← hq] at hdq
          have HQ := Lib.hid hq
          have HQ16 : Hid (q < 16) := by show _ < _; omega
          obtain ⟨P, hP⟩ : ∃ P, P = 2 ^ q := ⟨_, rfl⟩
          have hP65 : P < 65536 := by rw [hP]; exact Nat.pow_lt_pow_right (a := 2) (n := 16) (by decide) HQ16.out
          have hsh : IntKind.u16.wrap (2 ^ min q 16) = (P : Int) := by rw [hP]; exact shl_u16 q HQ16.out
          have hor := u16_or_nat m P hm65 hP65
          obtain ⟨M, hM⟩ : ∃ M, M = m ||| P := ⟨_, rfl⟩
          rw [← hM] at hor
          have HM : Hid (m ||| 2 ^ (d - 1) = M) := by show _ = _; rw [hM, hP, hq]
          clear hnear hq hP hM
          go_wp2_with fail
          go_roundg (n - (i + 1))
          case measure => have := HLT.out; have := HG.out; omega
          case rel =>
            have hlt := HLT.out
            have hge : w.heap.size ≤ gA := (HO.out.lt gA rfl).1
            have hrow := (HO.out.stored (j * 2 + 1) (.int .u16 (M : Int))).1
            refine ⟨i + 1, k, some ⟨gA, 0, none⟩, co, rfl, by omega, rfl, rfl, ?_, by omega, ?_, ?_⟩
            · rw [HTK.out, nackS_snoc, HST.out, List.length_append, HAL.out]; exact HJ.out
            · rw [HTK.out, nackS_snoc, HST.out, HM.out, ← rowP_set a f m M, ← HSN.out, HAL.out]; exact hrow
            · exact bset HB.out (p := ⟨gA, j * 2 + 1, none⟩) hge _
        · have HST : Hid (stepN (nackS (xs.take i)) x = nackS (xs.take i) ++ [(x, 0)]) := by
            show _ = _
            rw [HSN.out, stepN_snoc, if_neg (by rw [nearN, ← HD.out]; exact hnear)]
          by_cases hd0 : 1 ≤ d
          · have hd1 : (1 : Int) ≤ (d : Int) := by omega
            have hd2 : ¬ (d : Int) ≤ 16 := by omega
            clear hnear hd0
            have HRE : Hid (Reads (wq.alloc (.cells #[.int .u16 (x : Int), .int .u16 0] 58)) (World.heap (wq.alloc (.cells #[.int .u16 (x : Int), .int .u16 0] 58))).size 2 (some ⟨wq.heap.size, 0, none⟩) 1 [nV x, nV 0]) := reads_blk (n := 1) (size := 2) (Blk.newAt (w := wq) rfl 58 #[.int .u16 (x : Int), .int .u16 0]) rfl
            have HBS : Hid (w.heap.size ≤ (World.heap (wq.alloc (.cells #[.int .u16 (x : Int), .int .u16 0] 58))).size) := Nat.le_trans HB.out.size (by simp)
            have HON := Lib.hid (HO.out.alloc (.cells #[.int .u16 (x : Int), .int .u16 0] 58))
            go_wp2_with
             (at_builtin
              refine wpList_append_any _ rfl (.tmp 47) (.tmp 53) _ rfl w.heap.size 58 iP _ 2 4 Try.underlying36 hiP hzaP hzbP hzcP rfl (by omega) (.slice (some ⟨gA, 0, none⟩) k co) k (rowP (nackS (xs.take i))) rfl HON.out
                _ (some ⟨wq.heap.size, 0, none⟩) 1 1 [nV x, nV 0] rfl HRE.out (by simp [nV, Value.oneCell']) (by simp only [maxLen]; omega) (by omega) HBS.out ?_
              intro v10 w10 hown hg10 hv10
              obtain ⟨A10, c10, rfl⟩ := own_slice hown
              have HO10 := Lib.hid hown
              have HG10 := Lib.hid hg10
              clear hown hg10 hv10)
            go_roundg (n - (i + 1))
            case measure => have := HLT.out; have := HG.out; omega
            case rel =>
              have hlt := HLT.out
              have hbw : Below wq.heap.size wq (wq.alloc (.cells #[.int .u16 (x : Int), .int .u16 0] 58)) := balloc (Below.refl _ _) _
              have hsv : Sv (fun j => (Value.slice (some ⟨gA, 0, none⟩) k co).ownBlock = some j) (wq.alloc (.cells #[.int .u16 (x : Int), .int .u16 0] 58)) w10 := (Sv.refl _ _).grown HG10.out (fun g e => .inl e)
              have hlo : ∀ j, (Value.slice (some ⟨gA, 0, none⟩) k co).ownBlock = some j → w.heap.size ≤ j := fun j e => (HO.out.lt j e).1
              refine ⟨i + 1, k + 1, A10, c10, rfl, by omega, rfl, rfl, ?_, by omega, ?_, ?_⟩
              · rw [HTK.out, nackS_snoc, HST.out, List.length_append, ← HK.out]; rfl
              · rw [HTK.out, nackS_snoc, HST.out, rowP_snoc]; exact HO10.out
              · exact (HB.out.trans (hbw.mono HB.out.size)).trans (hsv.toBelow hlo HBS.out)
          · have hd1 : ¬ (1 : Int) ≤ (d : Int) := by omega
            clear hnear hd0
            have HRE : Hid (Reads (wq.alloc (.cells #[.int .u16 (x : Int), .int .u16 0] 58)) (World.heap (wq.alloc (.cells #[.int .u16 (x : Int), .int .u16 0] 58))).size 2 (some ⟨wq.heap.size, 0, none⟩) 1 [nV x, nV 0]) := reads_blk (n := 1) (size := 2) (Blk.newAt (w := wq) rfl 58 #[.int .u16 (x : Int), .int .u16 0]) rfl
            have HBS : Hid (w.heap.size ≤ (World.heap (wq.alloc (.cells #[.int .u16 (x : Int), .int .u16 0] 58))).size) := Nat.le_trans HB.out.size (by simp)
            have HON := Lib.hid (HO.out.alloc (.cells #[.int .u16 (x : Int), .int .u16 0] 58))
            go_wp2_with
             (at_builtin
              refine wpList_append_any _ rfl (.tmp 47) (.tmp 53) _ rfl w.heap.size 58 iP _ 2 4 Try.underlying36 hiP hzaP hzbP hzcP rfl (by omega) (.slice (some ⟨gA, 0, none⟩) k co) k (rowP (nackS (xs.take i))) rfl HON.out
                _ (some ⟨wq.heap.size, 0, none⟩) 1 1 [nV x, nV 0] rfl HRE.out (by simp [nV, Value.oneCell']) (by simp only [maxLen]; omega) (by omega) HBS.out ?_
              intro v10 w10 hown hg10 hv10
              obtain ⟨A10, c10, rfl⟩ := own_slice hown
              have HO10 := Lib.hid hown
              have HG10 := Lib.hid hg10
              clear hown hg10 hv10)
            go_roundg (n - (i + 1))
            case measure => have := HLT.out; have := HG.out; omega
            case rel =>
              have hlt := HLT.out
              have hbw : Below wq.heap.size wq (wq.alloc (.cells #[.int .u16 (x : Int), .int .u16 0] 58)) := balloc (Below.refl _ _) _
              have hsv : Sv (fun j => (Value.slice (some ⟨gA, 0, none⟩) k co).ownBlock = some j) (wq.alloc (.cells #[.int .u16 (x : Int), .int .u16 0] 58)) w10 := (Sv.refl _ _).grown HG10.out (fun g e => .inl e)
              have hlo : ∀ j, (Value.slice (some ⟨gA, 0, none⟩) k co).ownBlock = some j → w.heap.size ≤ j := fun j e => (HO.out.lt j e).1
              refine ⟨i + 1, k + 1, A10, c10, rfl, by omega, rfl, rfl, ?_, by omega, ?_, ?_⟩
              · rw [HTK.out, nackS_snoc, HST.out, List.length_append, ← HK.out]; rfl
              · rw [HTK.out, nackS_snoc, HST.out, rowP_snoc]; exact HO10.out
              · exact (HB.out.trans (hbw.mono HB.out.size)).trans (hsv.toBelow hlo HBS.out)
    · have hini : ¬ (i : Int) < (n : Int) := by omega
      have hie : i = n := by omega
      subst hie
      have HT : Hid (xs.take i = xs) := List.take_of_length_le (by rw [HLEN.out]; exact Nat.le_refl _)
      clear hin hi
      go_wp2_with fail
      go_ret
      have hk := HK.out
      have ho := HO.out
      rw [HT.out] at hk ho
      exact ⟨_, rfl, hk ▸ ho, HB.out⟩
end Go.Proofs.Ytkfimncbfbbopaa
/- has, and Numbers over two lists that are the same (contracts). Conditions: the numbers lie in memory. -/
set_option linter.unusedVariables false
set_option linter.unusedSimpArgs false
namespace Go.Proofs.Ytkfimncbfbbopaa
open Go.RowKit
attribute [local go_sem ↓] Go.wp_at_zero Go.wp_at_succ

theorem eq_u16 {a b : Nat} (h : ¬ a = b) : ((a : Int) == (b : Int)) = false := by
  have : ¬ (a : Int) = (b : Int) := by omega
  simpa using this
set_option maxRecDepth 100000 in
set_option maxHeartbeats 12800000 in
theorem has_c (xs : List Nat) (x : Nat) (A : Option Addr) (n cap : Nat) (w : World) (hr : Reads w w.heap.size 1 A n (xs.map nV)) (hn : n ≤ 10000) (hmem : x ∈ xs) :
    Calls Try.prog 21 #[.slice A n cap, .int .u16 (x : Int)] w fun e w' => e = .returned (.bool true) ∧ w = w' := by
  have hlen : xs.length = n := by have := hr.1; rw [List.length_map] at this; omega
  have HLEN := Lib.hid hlen
  have HR := Lib.hid hr
  have HM := Lib.hid hmem
  clear hlen hr hmem
  go_enter Try.func21, Try.ntmps21
  go_upto_region 2 with fail
  go_loopg [5] n (fun gg v5 wx => ∃ i : Nat, gg = n - i ∧ i ≤ n ∧ v5 = .int .i64 (i : Int) ∧ w = wx ∧ x ∉ xs.take i)
  case atStart => exact ⟨0, by omega, by omega, rfl, rfl, by simp⟩
  case round =>
    obtain ⟨i, hgg, hi, rfl, rfl, hno⟩ := hrel
    have HNO := Lib.hid hno
    have HG := Lib.hid hgg
    clear hno hgg
    by_cases hin : i < n
    · have hini : (i : Int) < (n : Int) := by omega
      have hw1 : IntKind.i64.wrap ((i : Int) + 1) = ((i + 1 : Nat) : Int) := by rw [IntKind.wrap_i64]; omega
      obtain ⟨y, hyi⟩ : ∃ y, xs[i]? = some y := ⟨xs[i]'(by have := HLEN.out; omega), List.getElem?_eq_getElem _⟩
      obtain ⟨g, o, hA, hg, hc⟩ := num_cells HR.out (by omega)
      subst hA
      have ci := hc i y hyi
      have HTK := Lib.hid (takeN_snoc hyi)
      have HLT := Lib.hid hin
      clear hc hyi hin
      by_cases hxy : y = x
      · subst hxy
        go_wp2_with fail
        go_ret
        exact ⟨rfl, rfl⟩
      · have hq := eq_u16 hxy
        have HXY := Lib.hid hxy
        clear hxy
        go_wp2_with fail
        go_roundg (n - (i + 1))
        case measure => have := HLT.out; have := HG.out; omega
        case rel =>
          have hlt := HLT.out
          refine ⟨i + 1, rfl, by omega, rfl, rfl, ?_⟩
          rw [HTK.out]
          intro h
          rcases List.mem_append.1 h with h | h
          · exact HNO.out h
          · simp at h; exact HXY.out h.symm
    · have hno := HNO.out
      rw [List.take_of_length_le (by have := HLEN.out; omega)] at hno
      exact absurd HM.out hno
set_option maxRecDepth 100000 in
set_option maxHeartbeats 12800000 in
theorem numbers_c (xs : List Nat) (A A2 : Option Addr) (n cap cap2 : Nat) (w : World) (hr : Reads w w.heap.size 1 A n (xs.map nV)) (hr2 : Reads w w.heap.size 1 A2 n (xs.map nV)) (hn : n ≤ 10000) :
    Calls Try.prog 19 #[.slice A n cap, .slice A2 n cap2] w fun e w' => e = .returned (.bool true) ∧ Below w.heap.size w w' := by
  have hlen : xs.length = n := by have := hr.1; rw [List.length_map] at this; omega
  have HLEN := Lib.hid hlen
  have HR := Lib.hid hr
  have HR2 := Lib.hid hr2
  clear hlen hr hr2
  go_enter Try.func19, Try.ntmps19
  go_upto_region 4 with fail
  go_loopg [5] n (fun gg v5 wx => ∃ i : Nat, gg = n - i ∧ i ≤ n ∧ v5 = .int .i64 (i : Int) ∧ Below w.heap.size w wx)
  case atStart => exact ⟨0, by omega, by omega, rfl, Below.refl _ _⟩
  case round =>
    obtain ⟨i, hgg, hi, rfl, hb⟩ := hrel
    have HB := Lib.hid hb
    have HG := Lib.hid hgg
    clear hgg hb
    by_cases hin : i < n
    · have hini : (i : Int) < (n : Int) := by omega
      have hw1 : IntKind.i64.wrap ((i : Int) + 1) = ((i + 1 : Nat) : Int) := by rw [IntKind.wrap_i64]; omega
      obtain ⟨y, hyi⟩ : ∃ y, xs[i]? = some y := ⟨xs[i]'(by have := HLEN.out; omega), List.getElem?_eq_getElem _⟩
      obtain ⟨g, o, hA, hg, hc⟩ := num_cells HR.out (by omega)
      obtain ⟨g2, o2, hA2, hg2, hc2⟩ := num_cells HR2.out (by omega)
      subst hA hA2
      have ci : wr.cell? ⟨g, o + i, none⟩ = some (.int .u16 (y : Int)) := (HB.out.cell (p := ⟨g, o + i, none⟩) hg).trans (hc i y hyi)
      have ci2 : wr.cell? ⟨g2, o2 + i, none⟩ = some (.int .u16 (y : Int)) := (HB.out.cell (p := ⟨g2, o2 + i, none⟩) hg2).trans (hc2 i y hyi)
      have HLT := Lib.hid hin
      clear hc hc2 hyi hin
      go_upto_region 6 with fail
      go_quiet (fail)
      go_wp2_with fail
      go_roundg (n - (i + 1))
      case measure => have := HLT.out; have := HG.out; omega
      case rel =>
        have hlt := HLT.out
        exact ⟨i + 1, rfl, by omega, rfl, below_drewN HB.out _⟩
    · have hini : ¬ (i : Int) < (n : Int) := by omega
      go_wp2_with fail
      go_ret
      exact ⟨rfl, HB.out⟩
end Go.Proofs.Ytkfimncbfbbopaa
/- What Lost does (contract). Conditions: the pairs lie in memory. -/
set_option linter.unusedVariables false
set_option linter.unusedSimpArgs false
namespace Go.Proofs.Ytkfimncbfbbopaa
open Go.RowKit
attribute [local go_sem ↓] Go.wp_at_zero Go.wp_at_succ

theorem pair_cells {w : World} {B n : Nat} {A : Option Addr} {ps : List (Nat × Nat)} (h : Reads w B 2 A n (rowP ps)) (hn : 0 < n) : ∃ g o, A = some ⟨g, o, none⟩ ∧ g < B ∧ ∀ (i f m : Nat), ps[i]? = some (f, m) → w.cell? ⟨g, o + i * 2, none⟩ = some (.int .u16 (f : Int)) ∧ w.cell? ⟨g, o + i * 2 + 1, none⟩ = some (.int .u16 (m : Int)) := by
  obtain ⟨ad, rfl, hl, hc⟩ := h.2 hn
  have hlen : 0 < ps.length := by have := h.1; rw [rowP_len] at this; omega
  have c0 := hc 0 (nV ps[0].1) (by have := (rowP_at ps 0 ps[0] (List.getElem?_eq_getElem hlen)).1; simpa using this)
  obtain ⟨g, o, rfl⟩ := addr_plain c0
  refine ⟨g, o, rfl, hl, fun i f m hi => ?_⟩
  have := rowP_at ps i (f, m) hi
  have h1 := hc (i * 2) _ this.1
  have h2 := hc (i * 2 + 1) _ this.2
  rw [Go.WideShapes.add_plain] at h1 h2
  exact ⟨h1, h2⟩
theorem info16 : (Try.prog.info? 55).map (fun i => (i.zero, i.size, i.bytes)) = some (some (.int .u16 0), 1, 2) := by kernel_rfl
theorem shr_bit (m j : Nat) : ((m / 2 ^ j) &&& 1) = if m.testBit j then 1 else 0 := by
  rw [← Nat.shiftRight_eq_div_pow, Nat.and_one_is_mod]
  have : m.testBit j = (1 &&& (m >>> j) != 0) := rfl
  rw [this, Nat.and_comm, Nat.and_one_is_mod]
  rcases Nat.mod_two_eq_zero_or_one (m >>> j) with h | h <;> simp [h]
set_option maxRecDepth 100000 in
set_option maxHeartbeats 12800000 in
theorem lost_c (ps : List (Nat × Nat)) (A : Option Addr) (n cap : Nat) (w : World) (hr : Reads w w.heap.size 2 A n (rowP ps)) (hx : ∀ p ∈ ps, p.1 < 65536 ∧ p.2 < 65536) (hn : n ≤ 300) :
    Calls Try.prog 17 #[.slice A n cap] w fun e w' => ∃ v, e = .returned v ∧ w'.ownsRow w.heap.size 55 1 v (lostS ps).length ((lostS ps).map nV) ∧ Below w.heap.size w w' := by
  obtain ⟨iU, hiU, hzaU, hzbU, hzcU⟩ := info_parts info16
  have hlen : ps.length = n := by have := hr.1; rw [rowP_len] at this; omega
  have HLEN := Lib.hid hlen
  have HR := Lib.hid hr
  have HXS := Lib.hid hx
  clear hlen hr hx
  go_enter Try.func17, Try.ntmps17
  go_upto_region 3 with fail
  go_loopg [3, 9] n (fun gg v3 v9 wx => ∃ (i k : Nat) (Ao : Option Addr) (co : Nat), gg = n - i ∧ i ≤ n ∧ v9 = .int .i64 (i : Int) ∧ v3 = .slice Ao k co ∧ k = (lostS (ps.take i)).length ∧ k ≤ 17 * i ∧
    wx.ownsRow w.heap.size 55 1 (.slice Ao k co) k ((lostS (ps.take i)).map nV) ∧ Below w.heap.size w wx)
  case atStart => exact ⟨0, 0, none, 0, by omega, by omega, rfl, rfl, by simp [lostS], by omega, by simpa [lostS] using World.ownsRow_nil _ _ _ _, Below.refl _ _⟩
  case round =>
    obtain ⟨i, k, Ao, co, hgg, hi, rfl, rfl, hk, hki, ho, hb⟩ := hrel
    have HO := Lib.hid ho
    have HB := Lib.hid hb
    have HK := Lib.hid hk
    have HG := Lib.hid hgg
    clear ho hb hk hgg
    by_cases hin : i < n
    · have hini : (i : Int) < (n : Int) := by omega
      have hw1 : IntKind.i64.wrap ((i : Int) + 1) = ((i + 1 : Nat) : Int) := by rw [IntKind.wrap_i64]; omega
      obtain ⟨⟨f, m⟩, hpi⟩ : ∃ p, ps[i]? = some p := ⟨ps[i]'(by have := HLEN.out; omega), List.getElem?_eq_getElem _⟩
      obtain ⟨hf65, hm65⟩ : f < 65536 ∧ m < 65536 := HXS.out (f, m) (List.mem_of_getElem? hpi)
      have HTK := Lib.hid (takeN_snoc hpi)
      obtain ⟨g, o, hA, hg, hc⟩ := pair_cells HR.out (by omega)
      subst hA
      have cf : wr.cell? ⟨g, o + i * 2, none⟩ = some (.int .u16 (f : Int)) := (HB.out.cell (p := ⟨g, o + i * 2, none⟩) hg).trans (hc i f m hpi).1
      have cm : wr.cell? ⟨g, o + i * 2 + 1, none⟩ = some (.int .u16 (m : Int)) := (HB.out.cell (p := ⟨g, o + i * 2 + 1, none⟩) hg).trans (hc i f m hpi).2
      have HLT := Lib.hid hin
      clear hc hpi hin
      go_upto_region 5 with fail
      obtain ⟨gx, hgx⟩ : ∃ gx, gx = wr.heap.size := ⟨_, rfl⟩
      obtain ⟨w1, hw1'⟩ : ∃ w1, w1 = wr.alloc (.cells #[.int .u16 (f : Int), .int .u16 (m : Int)] 57) := ⟨_, rfl⟩
      rw [← hw1', ← hgx]
      have HX1 : Hid (Blk w1 gx 57 #[.int .u16 (f : Int), .int .u16 (m : Int)]) := by rw [hw1']; exact Blk.newAt hgx _ _
      have HB1 : Hid (Below w.heap.size w w1) := by rw [hw1']; exact balloc HB.out _
      have HO1 : Hid (w1.ownsRow w.heap.size 55 1 (.slice Ao k co) k ((lostS (ps.take i)).map nV)) := by rw [hw1']; exact HO.out.alloc _
      have HGX : Hid (w.heap.size ≤ gx) := by rw [hgx]; exact HB.out.size
      clear hw1' hgx cf cm HB HO
      have k0 : w1.cell? ⟨gx, 0, none⟩ = some (.int .u16 (f : Int)) := HX1.out.cell 0
      have HRE : Hid (Reads (w1.alloc (.cells #[.int .u16 (f : Int)] 55)) (World.heap (w1.alloc (.cells #[.int .u16 (f : Int)] 55))).size 1 (some ⟨w1.heap.size, 0, none⟩) 1 [nV f]) := reads_blk (n := 1) (size := 1) (Blk.newAt (w := w1) rfl 55 #[.int .u16 (f : Int)]) rfl
      have HBS : Hid (w.heap.size ≤ (World.heap (w1.alloc (.cells #[.int .u16 (f : Int)] 55))).size) := Nat.le_trans HB1.out.size (by simp)
      have HON := Lib.hid (HO1.out.alloc (.cells #[.int .u16 (f : Int)] 55))
      go_upto_region 7 with (first
        | (at_builtin
           refine wpList_append_any _ rfl (.tmp 13) (.tmp 16) _ rfl w.heap.size 55 iU _ 1 2 Try.underlying48 hiU hzaU hzbU hzcU rfl (by omega) (.slice Ao k co) k ((lostS (ps.take i)).map nV) rfl HON.out
             _ (some ⟨w1.heap.size, 0, none⟩) 1 1 [nV f] rfl HRE.out (by simp [nV, Value.oneCell']) (by simp only [maxLen]; omega) (by omega) HBS.out ?_
           intro v2 w2 hown hg hv
           obtain ⟨A2, c2, rfl⟩ := own_slice hown
           have HO2 := Lib.hid hown
           have HG2 := Lib.hid hg
           clear hown hg hv))
      have hsv : Sv (fun j => (Value.slice Ao k co).ownBlock = some j) (w1.alloc (.cells #[.int .u16 (f : Int)] 55)) w2 := (Sv.refl _ _).grown HG2.out (fun g e => .inl e)
      have hlo : ∀ j, (Value.slice Ao k co).ownBlock = some j → w.heap.size ≤ j := fun j e => (HO1.out.lt j e).1
      have HX2 : Hid (Blk w2 gx 57 #[.int .u16 (f : Int), .int .u16 (m : Int)]) := Blk.grown (Blk.alloc HX1.out _) HG2.out (Ne.symm (own_blk_ne HO1.out HX1.out (by decide)))
      have HB2 : Hid (Below w.heap.size w w2) := (balloc HB1.out _).trans (hsv.toBelow hlo HBS.out)
      clear hsv hlo k0 HX1 HB1 HO1 HRE HBS HON HG2
      go_loopg [3, 18] 16 (fun gg v3 v18 wx => ∃ (j k2 : Nat) (Aj : Option Addr) (cj : Nat), gg = 16 - j ∧ j ≤ 16 ∧ v18 = .int .u16 (j : Int) ∧ v3 = .slice Aj k2 cj ∧ k2 = (lostS (ps.take i) ++ f :: bitsS f m j).length ∧ k2 ≤ k + 1 + j ∧
        wx.ownsRow w.heap.size 55 1 (.slice Aj k2 cj) k2 ((lostS (ps.take i) ++ f :: bitsS f m j).map nV) ∧ Blk wx gx 57 #[.int .u16 (f : Int), .int .u16 (m : Int)] ∧ Below w.heap.size w wx)
      case atStart =>
        refine ⟨0, k + 1, A2, c2, rfl, by omega, rfl, rfl, ?_, by omega, ?_, HX2.out, HB2.out⟩
        · rw [List.length_append, ← HK.out]; rfl
        · rw [List.map_append]; exact HO2.out
      case round =>
        obtain ⟨j, k2, Aj, cj, hgg, hj, rfl, rfl, hk2, hkj, ho, hx, hb⟩ := hrel
        have HOJ := Lib.hid ho
        have HBJ := Lib.hid hb
        have HXJ := Lib.hid hx
        have HKJ := Lib.hid hk2
        have HGJ := Lib.hid hgg
        clear ho hb hx hk2 hgg
        by_cases hj16 : j < 16
        · have hji : (j : Int) < 16 := by omega
          have hjw : IntKind.u16.wrap ((j : Int) + 1) = ((j + 1 : Nat) : Int) := by rw [IntKind.wrap_u16]; omega
          have kf : wr.cell? ⟨gx, 0, none⟩ = some (.int .u16 (f : Int)) := HXJ.out.cell 0
          have km : wr.cell? ⟨gx, 1, none⟩ = some (.int .u16 (m : Int)) := HXJ.out.cell 1
          obtain ⟨S, hS⟩ : ∃ S, S = m / 2 ^ j := ⟨_, rfl⟩
          have hS65 : S < 65536 := by rw [hS]; exact Nat.lt_of_le_of_lt (Nat.div_le_self _ _) hm65
          have hsh : (m : Int) / 2 ^ j = (S : Int) := by rw [hS, Int.natCast_ediv, Int.natCast_pow]; rfl
          have hand : bits .and .u16 (S : Int) 1 = ((S &&& 1 : Nat) : Int) := u16_and_nat S 1 hS65 (by decide)
          have hbit : S &&& 1 = if m.testBit j then 1 else 0 := by rw [hS]; exact shr_bit m j
          have HJ := Lib.hid hj16
          clear hj16 hS
          cases hT : m.testBit j with
          | true =>
            rw [hT, if_pos rfl] at hbit
            rw [hbit] at hand
            replace hand : bits .and .u16 (S : Int) 1 = 1 := hand
            have HBI : Hid (bitsS f m (j + 1) = bitsS f m j ++ [(f + j + 1) % 65536]) := by show _ = _; rw [bitsS, if_pos hT]
            obtain ⟨x, hx⟩ : ∃ x, x = (f + j + 1) % 65536 := ⟨_, rfl⟩
            rw [← hx] at HBI
            obtain ⟨q1, hq1⟩ : ∃ q1, q1 = (f + j) % 65536 := ⟨_, rfl⟩
            have hwa : IntKind.u16.wrap ((f : Int) + (j : Int)) = (q1 : Int) := by rw [IntKind.wrap_u16]; omega
            have hwb : IntKind.u16.wrap ((q1 : Int) + 1) = (x : Int) := by rw [IntKind.wrap_u16]; omega
            clear hx hq1 hT hbit
            have HRE : Hid (Reads (wr.alloc (.cells #[.int .u16 (x : Int)] 55)) (World.heap (wr.alloc (.cells #[.int .u16 (x : Int)] 55))).size 1 (some ⟨wr.heap.size, 0, none⟩) 1 [nV x]) := reads_blk (n := 1) (size := 1) (Blk.newAt (w := wr) rfl 55 #[.int .u16 (x : Int)]) rfl
            have HBS : Hid (w.heap.size ≤ (World.heap (wr.alloc (.cells #[.int .u16 (x : Int)] 55))).size) := Nat.le_trans HBJ.out.size (by simp)
            have HON := Lib.hid (HOJ.out.alloc (.cells #[.int .u16 (x : Int)] 55))
            go_wp2_with
             (at_builtin
              refine wpList_append_any _ rfl (.tmp 27) (.tmp 33) _ rfl w.heap.size 55 iU _ 1 2 Try.underlying48 hiU hzaU hzbU hzcU rfl (by omega) (.slice Aj k2 cj) k2 ((lostS (ps.take i) ++ f :: bitsS f m j).map nV) rfl HON.out
                _ (some ⟨wr.heap.size, 0, none⟩) 1 1 [nV x] rfl HRE.out (by simp [nV, Value.oneCell']) (by simp only [maxLen]; omega) (by omega) HBS.out ?_
              intro v3 w3 hown hg hv
              obtain ⟨A3, c3, rfl⟩ := own_slice hown
              have HO3 := Lib.hid hown
              have HG3 := Lib.hid hg
              clear hown hg hv)
            go_roundg (16 - (j + 1))
            case measure => have := HJ.out; have := HGJ.out; omega
            case rel =>
              have hj16 := HJ.out
              have hsv : Sv (fun j => (Value.slice Aj k2 cj).ownBlock = some j) (wr.alloc (.cells #[.int .u16 (x : Int)] 55)) w3 := (Sv.refl _ _).grown HG3.out (fun g e => .inl e)
              have hlo : ∀ j, (Value.slice Aj k2 cj).ownBlock = some j → w.heap.size ≤ j := fun j e => (HOJ.out.lt j e).1
              refine ⟨j + 1, k2 + 1, A3, c3, rfl, by omega, rfl, rfl, ?_, by omega, ?_, ?_, ?_⟩
              · rw [HBI.out, ← List.cons_append, ← List.append_assoc, List.length_append, ← HKJ.out]; rfl
              · rw [HBI.out, ← List.cons_append, ← List.append_assoc, List.map_append]; exact HO3.out
              · exact Blk.grown (Blk.alloc HXJ.out _) HG3.out (Ne.symm (own_blk_ne HOJ.out HXJ.out (by decide)))
              · exact (balloc HBJ.out _).trans (hsv.toBelow hlo HBS.out)
          | false =>
            rw [hT, if_neg (by decide)] at hbit
            rw [hbit] at hand
            replace hand : bits .and .u16 (S : Int) 1 = 0 := hand
            have HBI : Hid (bitsS f m (j + 1) = bitsS f m j) := by show _ = _; rw [bitsS, if_neg (by rw [hT]; decide), List.append_nil]
            clear hT hbit
            go_wp2_with fail
            go_roundg (16 - (j + 1))
            case measure => have := HJ.out; have := HGJ.out; omega
            case rel =>
              have hj16 := HJ.out
              exact ⟨j + 1, k2, Aj, cj, rfl, by omega, rfl, rfl, by rw [HBI.out]; exact HKJ.out, by omega, by rw [HBI.out]; exact HOJ.out, HXJ.out, HBJ.out⟩
        · have hji : ¬ (j : Int) < 16 := by omega
          have HJE : Hid (j = 16) := by show _ = _; omega
          clear hj16
          go_wp2_with fail
          go_roundg (n - (i + 1))
          case measure => have := HLT.out; have := HG.out; omega
          case rel =>
            have hlt := HLT.out
            have hL : lostS (ps.take (i + 1)) = lostS (ps.take i) ++ f :: bitsS f m j := by rw [HTK.out, lostS_snoc, HJE.out]; rfl
            exact ⟨i + 1, k2, Aj, cj, rfl, by omega, rfl, rfl, by rw [hL]; exact HKJ.out, by omega, by rw [hL]; exact HOJ.out, HBJ.out⟩
    · have hini : ¬ (i : Int) < (n : Int) := by omega
      have hie : i = n := by omega
      subst hie
      have HT : Hid (ps.take i = ps) := List.take_of_length_le (by rw [HLEN.out]; exact Nat.le_refl _)
      clear hin hi
      go_wp2_with fail
      go_ret
      have hk := HK.out
      have ho := HO.out
      rw [HT.out] at hk ho
      exact ⟨_, rfl, hk ▸ ho, HB.out⟩
end Go.Proofs.Ytkfimncbfbbopaa
/- What the reference's Lost does (contract). Conditions: the pairs lie in memory. -/
set_option linter.unusedVariables false
set_option linter.unusedSimpArgs false
namespace Go.Proofs.Ytkfimncbfbbopaa
open Go.RowKit
attribute [local go_sem ↓] Go.wp_at_zero Go.wp_at_succ

set_option maxRecDepth 100000 in
set_option maxHeartbeats 12800000 in
theorem lostR_c (ps : List (Nat × Nat)) (A : Option Addr) (n cap : Nat) (w : World) (hr : Reads w w.heap.size 2 A n (rowP ps)) (hx : ∀ p ∈ ps, p.1 < 65536 ∧ p.2 < 65536) (hn : n ≤ 300) :
    Calls Try.prog 20 #[.slice A n cap] w fun e w' => ∃ v, e = .returned v ∧ w'.ownsRow w.heap.size 55 1 v (lostS ps).length ((lostS ps).map nV) ∧ Below w.heap.size w w' := by
  obtain ⟨iU, hiU, hzaU, hzbU, hzcU⟩ := info_parts info16
  have hlen : ps.length = n := by have := hr.1; rw [rowP_len] at this; omega
  have HLEN := Lib.hid hlen
  have HR := Lib.hid hr
  have HXS := Lib.hid hx
  clear hlen hr hx
  go_enter Try.func20, Try.ntmps20
  go_upto_region 3 with fail
  go_loopg [3, 4] n (fun gg v3 v4 wx => ∃ (i k : Nat) (Ao : Option Addr) (co : Nat), gg = n - i ∧ i ≤ n ∧ v4 = .int .i64 (i : Int) ∧ v3 = .slice Ao k co ∧ k = (lostS (ps.take i)).length ∧ k ≤ 17 * i ∧
    wx.ownsRow w.heap.size 55 1 (.slice Ao k co) k ((lostS (ps.take i)).map nV) ∧ Below w.heap.size w wx)
  case atStart => exact ⟨0, 0, none, 0, by omega, by omega, rfl, rfl, by simp [lostS], by omega, by simpa [lostS] using World.ownsRow_nil _ _ _ _, Below.refl _ _⟩
  case round =>
    obtain ⟨i, k, Ao, co, hgg, hi, rfl, rfl, hk, hki, ho, hb⟩ := hrel
    have HO := Lib.hid ho
    have HB := Lib.hid hb
    have HK := Lib.hid hk
    have HG := Lib.hid hgg
    clear ho hb hk hgg
    by_cases hin : i < n
    · have hini : (i : Int) < (n : Int) := by omega
      have hw1 : IntKind.i64.wrap ((i : Int) + 1) = ((i + 1 : Nat) : Int) := by rw [IntKind.wrap_i64]; omega
      obtain ⟨⟨f, m⟩, hpi⟩ : ∃ p, ps[i]? = some p := ⟨ps[i]'(by have := HLEN.out; omega), List.getElem?_eq_getElem _⟩
      obtain ⟨hf65, hm65⟩ : f < 65536 ∧ m < 65536 := HXS.out (f, m) (List.mem_of_getElem? hpi)
      have HTK := Lib.hid (takeN_snoc hpi)
      obtain ⟨g, o, hA, hg, hc⟩ := pair_cells HR.out (by omega)
      subst hA
      have cf : wr.cell? ⟨g, o + i * 2, none⟩ = some (.int .u16 (f : Int)) := (HB.out.cell (p := ⟨g, o + i * 2, none⟩) hg).trans (hc i f m hpi).1
      have cm : wr.cell? ⟨g, o + i * 2 + 1, none⟩ = some (.int .u16 (m : Int)) := (HB.out.cell (p := ⟨g, o + i * 2 + 1, none⟩) hg).trans (hc i f m hpi).2
      have HLT := Lib.hid hin
      have HC := Lib.hid (hc i f m hpi)
      have HGW := Lib.hid hg
      clear hc hpi hin
      clear cm
      have HRE : Hid (Reads (wr.alloc (.cells #[.int .u16 (f : Int)] 55)) (World.heap (wr.alloc (.cells #[.int .u16 (f : Int)] 55))).size 1 (some ⟨wr.heap.size, 0, none⟩) 1 [nV f]) := reads_blk (n := 1) (size := 1) (Blk.newAt (w := wr) rfl 55 #[.int .u16 (f : Int)]) rfl
      have HBS : Hid (w.heap.size ≤ (World.heap (wr.alloc (.cells #[.int .u16 (f : Int)] 55))).size) := Nat.le_trans HB.out.size (by simp)
      have HON := Lib.hid (HO.out.alloc (.cells #[.int .u16 (f : Int)] 55))
      go_upto_region 7 with (first
        | (at_builtin
           refine wpList_append_any _ rfl (.tmp 12) (.tmp 18) _ rfl w.heap.size 55 iU _ 1 2 Try.underlying48 hiU hzaU hzbU hzcU rfl (by omega) (.slice Ao k co) k ((lostS (ps.take i)).map nV) rfl HON.out
             _ (some ⟨wr.heap.size, 0, none⟩) 1 1 [nV f] rfl HRE.out (by simp [nV, Value.oneCell']) (by simp only [maxLen]; omega) (by omega) HBS.out ?_
           intro v2 w2 hown hg hv
           obtain ⟨A2, c2, rfl⟩ := own_slice hown
           have HO2 := Lib.hid hown
           have HG2 := Lib.hid hg
           clear hown hg hv))
      have hsv : Sv (fun j => (Value.slice Ao k co).ownBlock = some j) (wr.alloc (.cells #[.int .u16 (f : Int)] 55)) w2 := (Sv.refl _ _).grown HG2.out (fun g e => .inl e)
      have hlo : ∀ j, (Value.slice Ao k co).ownBlock = some j → w.heap.size ≤ j := fun j e => (HO.out.lt j e).1
      have HB2 : Hid (Below w.heap.size w w2) := (balloc HB.out _).trans (hsv.toBelow hlo HBS.out)
      clear hsv hlo HB HO HRE HBS HON HG2 cf
      go_loopg [3, 5] 16 (fun gg v3 v5 wx => ∃ (j k2 : Nat) (Aj : Option Addr) (cj : Nat), gg = 16 - j ∧ j ≤ 16 ∧ v5 = .int .i64 (j : Int) ∧ v3 = .slice Aj k2 cj ∧ k2 = (lostS (ps.take i) ++ f :: bitsS f m j).length ∧ k2 ≤ k + 1 + j ∧
        wx.ownsRow w.heap.size 55 1 (.slice Aj k2 cj) k2 ((lostS (ps.take i) ++ f :: bitsS f m j).map nV) ∧ Below w.heap.size w wx)
      case atStart =>
        refine ⟨0, k + 1, A2, c2, rfl, by omega, rfl, rfl, ?_, by omega, ?_, HB2.out⟩
        · rw [List.length_append, ← HK.out]; rfl
        · rw [List.map_append]; exact HO2.out
      case round =>
        obtain ⟨j, k2, Aj, cj, hgg, hj, rfl, rfl, hk2, hkj, ho, hb⟩ := hrel
        have HOJ := Lib.hid ho
        have HBJ := Lib.hid hb
        have HKJ := Lib.hid hk2
        have HGJ := Lib.hid hgg
        clear ho hb hk2 hgg
        by_cases hj16 : j < 16
        · have hji : (j : Int) < 16 := by omega
          have hjw : IntKind.i64.wrap ((j : Int) + 1) = ((j + 1 : Nat) : Int) := by rw [IntKind.wrap_i64]; omega
          have hjc : IntKind.u64.wrap (j : Int) = (j : Int) := by rw [IntKind.wrap_u64]; omega
          have hjd : IntKind.u16.wrap (j : Int) = (j : Int) := by rw [IntKind.wrap_u16]; omega
          have hj0 : ¬ (j : Int) < 0 := by omega
          have kf : wr.cell? ⟨g, o + i * 2, none⟩ = some (.int .u16 (f : Int)) := (HBJ.out.cell (p := ⟨g, o + i * 2, none⟩) HGW.out).trans HC.out.1
          have km : wr.cell? ⟨g, o + i * 2 + 1, none⟩ = some (.int .u16 (m : Int)) := (HBJ.out.cell (p := ⟨g, o + i * 2 + 1, none⟩) HGW.out).trans HC.out.2
          obtain ⟨S, hS⟩ : ∃ S, S = m / 2 ^ j := ⟨_, rfl⟩
          have hS65 : S < 65536 := by rw [hS]; exact Nat.lt_of_le_of_lt (Nat.div_le_self _ _) hm65
          have hsh : (m : Int) / 2 ^ j = (S : Int) := by rw [hS, Int.natCast_ediv, Int.natCast_pow]; rfl
          have hand : bits .and .u16 (S : Int) 1 = ((S &&& 1 : Nat) : Int) := u16_and_nat S 1 hS65 (by decide)
          have hbit : S &&& 1 = if m.testBit j then 1 else 0 := by rw [hS]; exact shr_bit m j
          have HJ := Lib.hid hj16
          clear hj16 hS
          cases hT : m.testBit j with
          | true =>
            rw [hT, if_pos rfl] at hbit
            rw [hbit] at hand
            replace hand : bits .and .u16 (S : Int) 1 = 1 := hand
            have HBI : Hid (bitsS f m (j + 1) = bitsS f m j ++ [(f + j + 1) % 65536]) := by show _ = _; rw [bitsS, if_pos hT]
            obtain ⟨x, hx⟩ : ∃ x, x = (f + j + 1) % 65536 := ⟨_, rfl⟩
            rw [← hx] at HBI
            obtain ⟨q1, hq1⟩ : ∃ q1, q1 = (f + j) % 65536 := ⟨_, rfl⟩
            have hwa : IntKind.u16.wrap ((f : Int) + (j : Int)) = (q1 : Int) := by rw [IntKind.wrap_u16]; omega
            have hwb : IntKind.u16.wrap ((q1 : Int) + 1) = (x : Int) := by rw [IntKind.wrap_u16]; omega
            clear hx hq1 hT hbit
            have HRE : Hid (Reads (wr.alloc (.cells #[.int .u16 (x : Int)] 55)) (World.heap (wr.alloc (.cells #[.int .u16 (x : Int)] 55))).size 1 (some ⟨wr.heap.size, 0, none⟩) 1 [nV x]) := reads_blk (n := 1) (size := 1) (Blk.newAt (w := wr) rfl 55 #[.int .u16 (x : Int)]) rfl
            have HBS : Hid (w.heap.size ≤ (World.heap (wr.alloc (.cells #[.int .u16 (x : Int)] 55))).size) := Nat.le_trans HBJ.out.size (by simp)
            have HON := Lib.hid (HOJ.out.alloc (.cells #[.int .u16 (x : Int)] 55))
            go_wp2_with
             (at_builtin
              refine wpList_append_any _ rfl (.tmp 34) (.tmp 44) _ rfl w.heap.size 55 iU _ 1 2 Try.underlying48 hiU hzaU hzbU hzcU rfl (by omega) (.slice Aj k2 cj) k2 ((lostS (ps.take i) ++ f :: bitsS f m j).map nV) rfl HON.out
                _ (some ⟨wr.heap.size, 0, none⟩) 1 1 [nV x] rfl HRE.out (by simp [nV, Value.oneCell']) (by simp only [maxLen]; omega) (by omega) HBS.out ?_
              intro v3 w3 hown hg hv
              obtain ⟨A3, c3, rfl⟩ := own_slice hown
              have HO3 := Lib.hid hown
              have HG3 := Lib.hid hg
              clear hown hg hv)
            go_roundg (16 - (j + 1))
            case measure => have := HJ.out; have := HGJ.out; omega
            case rel =>
              have hj16 := HJ.out
              have hsv : Sv (fun j => (Value.slice Aj k2 cj).ownBlock = some j) (wr.alloc (.cells #[.int .u16 (x : Int)] 55)) w3 := (Sv.refl _ _).grown HG3.out (fun g e => .inl e)
              have hlo : ∀ j, (Value.slice Aj k2 cj).ownBlock = some j → w.heap.size ≤ j := fun j e => (HOJ.out.lt j e).1
              refine ⟨j + 1, k2 + 1, A3, c3, rfl, by omega, rfl, rfl, ?_, by omega, ?_, ?_⟩
              · rw [HBI.out, ← List.cons_append, ← List.append_assoc, List.length_append, ← HKJ.out]; rfl
              · rw [HBI.out, ← List.cons_append, ← List.append_assoc, List.map_append]; exact HO3.out
              · exact (balloc HBJ.out _).trans (hsv.toBelow hlo HBS.out)
          | false =>
            rw [hT, if_neg (by decide)] at hbit
            rw [hbit] at hand
            replace hand : bits .and .u16 (S : Int) 1 = 0 := hand
            have HBI : Hid (bitsS f m (j + 1) = bitsS f m j) := by show _ = _; rw [bitsS, if_neg (by rw [hT]; decide), List.append_nil]
            clear hT hbit
            go_wp2_with fail
            go_roundg (16 - (j + 1))
            case measure => have := HJ.out; have := HGJ.out; omega
            case rel =>
              have hj16 := HJ.out
              exact ⟨j + 1, k2, Aj, cj, rfl, by omega, rfl, rfl, by rw [HBI.out]; exact HKJ.out, by omega, by rw [HBI.out]; exact HOJ.out, HBJ.out⟩
        · have hji : ¬ (j : Int) < 16 := by omega
          have HJE : Hid (j = 16) := by show _ = _; omega
          clear hj16
          go_wp2_with fail
          go_roundg (n - (i + 1))
          case measure => have := HLT.out; have := HG.out; omega
          case rel =>
            have hlt := HLT.out
            have hL : lostS (ps.take (i + 1)) = lostS (ps.take i) ++ f :: bitsS f m j := by rw [HTK.out, lostS_snoc, HJE.out]; rfl
            exact ⟨i + 1, k2, Aj, cj, rfl, by omega, rfl, rfl, by rw [hL]; exact HKJ.out, by omega, by rw [hL]; exact HOJ.out, HBJ.out⟩
    · have hini : ¬ (i : Int) < (n : Int) := by omega
      have hie : i = n := by omega
      subst hie
      have HT : Hid (ps.take i = ps) := List.take_of_length_le (by rw [HLEN.out]; exact Nat.le_refl _)
      clear hin hi
      go_wp2_with fail
      go_ret
      have hk := HK.out
      have ho := HO.out
      rw [HT.out] at hk ho
      exact ⟨_, rfl, hk ▸ ho, HB.out⟩
end Go.Proofs.Ytkfimncbfbbopaa
/- The law RtcpNack (its walk). Conditions: the numbers lie in memory. -/
set_option linter.unusedVariables false
set_option linter.unusedSimpArgs false
namespace Go.Proofs.Ytkfimncbfbbopaa
open Go.RowKit
attribute [local go_sem ↓] Go.wp_at_zero Go.wp_at_succ

theorem near_no {x f : Nat} (h : ¬ nearN x f) : dN x f = 0 ∨ 16 < dN x f := by unfold nearN at h; omega
set_option maxRecDepth 100000 in
set_option maxHeartbeats 12800000 in
theorem nackLaw_c (xs : List Nat) (A : Option Addr) (n cap : Nat) (w : World) (hr : Reads w w.heap.size 1 A n (xs.map nV)) (hx : ∀ x ∈ xs, x < 65536) (hn2 : n < 9223372036854775808) :
    Calls Try.prog 5 #[.slice A n cap] w fun e w' => e = .returned (.bool true) ∧ Below w.heap.size w w' := by
  have hlen : xs.length = n := by have := hr.1; rw [List.length_map] at this; omega
  have HLEN := Lib.hid hlen
  have HR := Lib.hid hr
  have HXS := Lib.hid hx
  clear hlen hr hx
  go_enter Try.func5, Try.ntmps5
  by_cases h3 : 300 < n
  · have h3i : (300 : Int) < (n : Int) := by omega
    clear h3
    go_wp2_with (first
      | (go_at_call 9
         refine (awake_c _).mono ?_
         rintro e0 w0 ⟨rfl, hb0⟩
         have HB0 := Lib.hid hb0
         clear hb0))
    go_ret
    exact ⟨rfl, HB0.out⟩
  have h3i : ¬ (300 : Int) < (n : Int) := by omega
  have hn : n ≤ 300 := by omega
  have HN := Lib.hid hn
  obtain ⟨ps, hps⟩ : ∃ ps, ps = nackS xs := ⟨_, rfl⟩
  obtain ⟨k, hk⟩ : ∃ k, k = ps.length := ⟨_, rfl⟩
  obtain ⟨ls, hls⟩ : ∃ ls, ls = lostS ps := ⟨_, rfl⟩
  obtain ⟨l, hl⟩ : ∃ l, l = ls.length := ⟨_, rfl⟩
  have HKN : Hid (k ≤ n) := by have := nackS_len xs; show _ ≤ _; rw [hk, hps, ← HLEN.out]; exact this
  have HLN : Hid (l ≤ 5100) := by have := lostS_len ps; have := HKN.out; show _ ≤ _; rw [hl, hls]; omega
  have HP65 : Hid (∀ p ∈ ps, p.1 < 65536 ∧ p.2 < 65536) := by rw [hps]; exact nackS_head HXS.out
  have HPS := Lib.hid hps
  have HK := Lib.hid hk
  have HLS := Lib.hid hls
  have HL := Lib.hid hl
  have hkl : ¬ (n : Int) < (k : Int) := by have := HKN.out; omega
  have hkl2 : decide (n < k) = false := by have := HKN.out; simp; omega
  have h3j : decide ((300 : Int) < (n : Int)) = false := by simp; omega
  clear hps hk hls hl h3 hn
  go_upto_region 10 with (first
    | (go_at_call 9
       refine (awake_c _).mono ?_
       rintro e0 w0 ⟨rfl, hb0⟩
       have HB0 := Lib.hid hb0
       clear hb0)
    | (go_at_call 16
       refine (nack_c xs A n cap w0 ((HR.out.below HB0.out).more HB0.out.size) HXS.out HN.out).mono ?_
       rintro e1 w1 ⟨v1, rfl, ho1, hb1⟩
       rw [← HPS.out, ← HK.out] at ho1
       obtain ⟨Ap, cp, rfl⟩ := own_slice ho1
       have HO1 := Lib.hid (Reads.of_own ho1)
       have HB1 : Hid (Below w.heap.size w w1) := bcall HB0.out hb1
       clear ho1 hb1)
    | (go_at_call 17
       refine (lost_c ps Ap k cp w1 HO1.out HP65.out (by have := HKN.out; have := HN.out; omega)).mono ?_
       rintro e2 w2 ⟨v2, rfl, ho2, hb2⟩
       rw [← HLS.out, ← HL.out] at ho2
       obtain ⟨Al, cl, rfl⟩ := own_slice ho2
       have HO2 := Lib.hid (Reads.of_own ho2)
       have HB2 : Hid (Below w.heap.size w w2) := bcall HB1.out hb2
       have HP2 : Hid (Reads w2 w2.heap.size 2 Ap k (rowP ps)) := (HO1.out.below hb2).more hb2.size
       clear ho2 hb2)
    | (go_at_call 18
       refine (nackR_c xs A n cap w2 ((HR.out.below HB2.out).more HB2.out.size) HXS.out HN.out).mono ?_
       rintro e3 w3 ⟨v3, rfl, ho3, hb3⟩
       rw [← HPS.out, ← HK.out] at ho3
       obtain ⟨Aq, cq, rfl⟩ := own_slice ho3
       have HO3 := Lib.hid (Reads.of_own ho3)
       have HB3 : Hid (Below w.heap.size w w3) := bcall HB2.out hb3
       have HP3 : Hid (Reads w3 w3.heap.size 2 Ap k (rowP ps)) := (HP2.out.below hb3).more hb3.size
       have HL3 : Hid (Reads w3 w3.heap.size 1 Al l (ls.map nV)) := (HO2.out.below hb3).more hb3.size
       clear ho3 hb3)
    | (go_at_call 20
       refine (lostR_c ps Aq k cq w3 HO3.out HP65.out (by have := HKN.out; have := HN.out; omega)).mono ?_
       rintro e4 w4 ⟨v4, rfl, ho4, hb4⟩
       rw [← HLS.out, ← HL.out] at ho4
       obtain ⟨Am, cm, rfl⟩ := own_slice ho4
       have HO4 := Lib.hid (Reads.of_own ho4)
       have HB4 : Hid (Below w.heap.size w w4) := bcall HB3.out hb4
       have HP4 : Hid (Reads w4 w4.heap.size 2 Ap k (rowP ps)) := (HP3.out.below hb4).more hb4.size
       have HQ4 : Hid (Reads w4 w4.heap.size 2 Aq k (rowP ps)) := (HO3.out.below hb4).more hb4.size
       have HL4 : Hid (Reads w4 w4.heap.size 1 Al l (ls.map nV)) := (HL3.out.below hb4).more hb4.size
       clear ho4 hb4)
    | (go_at_call 19
       refine (numbers_c ls Al Am l cl cm w4 HL4.out HO4.out (by have := HLN.out; omega)).mono ?_
       rintro e5 w5 ⟨rfl, hb5⟩
       have HB5 : Hid (Below w.heap.size w w5) := bcall HB4.out hb5
       have HP5 : Hid (Reads w5 w5.heap.size 2 Ap k (rowP ps)) := (HP4.out.below hb5).more hb5.size
       have HQ5 : Hid (Reads w5 w5.heap.size 2 Aq k (rowP ps)) := (HQ4.out.below hb5).more hb5.size
       have HL5 : Hid (Reads w5 w5.heap.size 1 Al l (ls.map nV)) := (HL4.out.below hb5).more hb5.size
       clear hb5))
  clear HB0 HO1 HB1 HO2 HB2 HP2 HO3 HB3 HP3 HL3 HO4 HB4 HP4 HQ4 HL4
  have HR5 : Hid (Reads w5 w5.heap.size 1 A n (xs.map nV)) := (HR.out.below HB5.out).more HB5.out.size
  go_upto_region 11 with fail
  go_loopg [6] n (fun gg v6 wx => ∃ i : Nat, gg = n - i ∧ i ≤ n ∧ v6 = .int .i64 (i : Int) ∧ w5 = wx)
  case atStart => exact ⟨0, by omega, by omega, rfl, rfl⟩
  case round =>
    obtain ⟨i, hgg, hi, rfl, rfl⟩ := hrel
    have HG := Lib.hid hgg
    clear hgg
    by_cases hin : i < n
    · have hini : (i : Int) < (n : Int) := by omega
      have hw1 : IntKind.i64.wrap ((i : Int) + 1) = ((i + 1 : Nat) : Int) := by rw [IntKind.wrap_i64]; omega
      obtain ⟨x, hxi⟩ : ∃ x, xs[i]? = some x := ⟨xs[i]'(by have := HLEN.out; omega), List.getElem?_eq_getElem _⟩
      have HXM : Hid (x ∈ ls) := by show _ ∈ _; rw [HLS.out, HPS.out, mem_lost HXS.out]; exact List.mem_of_getElem? hxi
      obtain ⟨g, o, hA, hg, hc⟩ := num_cells HR5.out (by omega)
      subst hA
      have ci := hc i x hxi
      have HLT := Lib.hid hin
      clear hc hxi hin
      go_wp2_with (first
        | (go_at_call 21
           refine (has_c ls x Al l cl _ HL5.out (by have := HLN.out; omega) HXM.out).mono ?_
           rintro e6 w6 ⟨rfl, rfl⟩))
      go_roundg (n - (i + 1))
      case measure => have := HLT.out; have := HG.out; omega
      case rel =>
        have hlt := HLT.out
        exact ⟨i + 1, rfl, by omega, rfl, rfl⟩
    · have hini : ¬ (i : Int) < (n : Int) := by omega
      clear hin
      go_upto_region 16 with fail
      go_loopg [7] l (fun gg v7 wx => ∃ j : Nat, gg = l - j ∧ j ≤ l ∧ v7 = .int .i64 (j : Int) ∧ w5 = wx)
      case atStart => exact ⟨0, by omega, by omega, rfl, rfl⟩
      case round =>
        obtain ⟨j, hgj, hj, rfl, rfl⟩ := hrel
        have HGJ := Lib.hid hgj
        clear hgj
        by_cases hjl : j < l
        · have hji : (j : Int) < (l : Int) := by omega
          have hw1 : IntKind.i64.wrap ((j : Int) + 1) = ((j + 1 : Nat) : Int) := by have := HLN.out; rw [IntKind.wrap_i64]; omega
          obtain ⟨x, hxi⟩ : ∃ x, ls[j]? = some x := ⟨ls[j]'(by have := HL.out; omega), List.getElem?_eq_getElem _⟩
          have HXM : Hid (x ∈ xs) := by show _ ∈ _; rw [← mem_lost HXS.out, ← HPS.out, ← HLS.out]; exact List.mem_of_getElem? hxi
          obtain ⟨g, o, hA, hg, hc⟩ := num_cells HL5.out (by omega)
          subst hA
          have ci := hc j x hxi
          have HLT := Lib.hid hjl
          clear hc hxi hjl
          go_wp2_with (first
            | (go_at_call 21
               refine (has_c xs x A n cap _ HR5.out (by have := HN.out; omega) HXM.out).mono ?_
               rintro e6 w6 ⟨rfl, rfl⟩))
          go_roundg (l - (j + 1))
          case measure => have := HLT.out; have := HGJ.out; omega
          case rel =>
            have hlt := HLT.out
            exact ⟨j + 1, rfl, by omega, rfl, rfl⟩
        · have hji : ¬ (j : Int) < (l : Int) := by omega
          clear hjl
          go_upto_region 21 with fail
          go_loopg [8] k (fun gg v8 wx => ∃ q : Nat, gg = k - q ∧ q ≤ k ∧ v8 = .int .i64 (q : Int) ∧ Below w5.heap.size w5 wx)
          case atStart => exact ⟨0, by omega, by omega, rfl, Below.refl _ _⟩
          case round =>
            obtain ⟨q, hgq, hq, rfl, hbq⟩ := hrel
            have HGQ := Lib.hid hgq
            have HBQ := Lib.hid hbq
            clear hgq hbq
            have hw1 : IntKind.i64.wrap ((q : Int) + 1) = ((q + 1 : Nat) : Int) := by have := HKN.out; rw [IntKind.wrap_i64]; omega
            by_cases hqk : q + 1 < k
            · have hqi : ((q + 1 : Nat) : Int) < (k : Int) := by omega
              obtain ⟨⟨f, m⟩, hp1⟩ : ∃ p, ps[q]? = some p := ⟨ps[q]'(by have := HK.out; omega), List.getElem?_eq_getElem _⟩
              obtain ⟨⟨f2, m2⟩, hp2⟩ : ∃ p, ps[q + 1]? = some p := ⟨ps[q + 1]'(by have := HK.out; omega), List.getElem?_eq_getElem _⟩
              have hfar : ¬ nearN f2 f := farN_at ps q (f, m) (f2, m2) (by rw [HPS.out]; exact farN_nack xs) hp1 hp2
              have hf65 := (HP65.out (f, m) (List.mem_of_getElem? hp1)).1
              have hf265 := (HP65.out (f2, m2) (List.mem_of_getElem? hp2)).1
              obtain ⟨g, o, hA, hg, hc⟩ := pair_cells HP5.out (by omega)
              obtain ⟨g2, o2, hA2, hg2, hc2⟩ := pair_cells HQ5.out (by omega)
              subst hA hA2
              have cf : wr.cell? ⟨g, o + q * 2, none⟩ = some (.int .u16 (f : Int)) := (HBQ.out.cell (p := ⟨g, o + q * 2, none⟩) hg).trans (hc q f m hp1).1
              have cm : wr.cell? ⟨g, o + q * 2 + 1, none⟩ = some (.int .u16 (m : Int)) := (HBQ.out.cell (p := ⟨g, o + q * 2 + 1, none⟩) hg).trans (hc q f m hp1).2
              have cf2 : wr.cell? ⟨g, o + (q + 1) * 2, none⟩ = some (.int .u16 (f2 : Int)) := (HBQ.out.cell (p := ⟨g, o + (q + 1) * 2, none⟩) hg).trans (hc (q + 1) f2 m2 hp2).1
              have df : wr.cell? ⟨g2, o2 + q * 2, none⟩ = some (.int .u16 (f : Int)) := (HBQ.out.cell (p := ⟨g2, o2 + q * 2, none⟩) hg2).trans (hc2 q f m hp1).1
              have dm : wr.cell? ⟨g2, o2 + q * 2 + 1, none⟩ = some (.int .u16 (m : Int)) := (HBQ.out.cell (p := ⟨g2, o2 + q * 2 + 1, none⟩) hg2).trans (hc2 q f m hp1).2
              obtain ⟨d, hd⟩ : ∃ d, d = dN f2 f := ⟨_, rfl⟩
              have hdw : IntKind.u16.wrap ((f2 : Int) - (f : Int)) = (d : Int) := by rw [hd, dN, IntKind.wrap_u16]; omega
              have hdd := near_no hfar
              rw [← hd] at hdd
              have HLT := Lib.hid hqk
              clear hc hc2 hp1 hp2 hfar hd hqk
              go_upto_region 23 with fail
              go_quiet (fail)
              obtain ⟨wq, hwq⟩ : ∃ wq, wq = wr.drewN nq := ⟨_, rfl⟩
              rw [← hwq]
              have HBW : Hid (Below w5.heap.size w5 wq) := by rw [hwq]; exact below_drewN HBQ.out _
              replace cf : wq.cell? ⟨g, o + q * 2, none⟩ = some (.int .u16 (f : Int)) := by rw [hwq]; exact cf
              replace cm : wq.cell? ⟨g, o + q * 2 + 1, none⟩ = some (.int .u16 (m : Int)) := by rw [hwq]; exact cm
              replace df : wq.cell? ⟨g2, o2 + q * 2, none⟩ = some (.int .u16 (f : Int)) := by rw [hwq]; exact df
              replace dm : wq.cell? ⟨g2, o2 + q * 2 + 1, none⟩ = some (.int .u16 (m : Int)) := by rw [hwq]; exact dm
              clear hwq cf2 hdw
              rcases hdd with hd0 | hd16
              · subst hd0
                go_upto_region 24 with fail
                go_quiet (fail)
                go_wp2_with fail
                go_roundg (k - (q + 1))
                case measure => have := HLT.out; have := HGQ.out; omega
                case rel =>
                  have hlt := HLT.out
                  exact ⟨q + 1, rfl, by omega, rfl, below_drewN HBW.out _⟩
              · have hd1 : decide ((1 : Int) ≤ (d : Int)) = true := by simp; omega
                have hd2 : decide ((d : Int) ≤ 16) = false := by simp; omega
                have hd3 : (1 : Int) ≤ (d : Int) := by omega
                have hd4 : ¬ (d : Int) ≤ 16 := by omega
                clear hd16
                go_upto_region 24 with fail
                go_quiet (fail)
                go_wp2_with fail
                go_roundg (k - (q + 1))
                case measure => have := HLT.out; have := HGQ.out; omega
                case rel =>
                  have hlt := HLT.out
                  exact ⟨q + 1, rfl, by omega, rfl, below_drewN HBW.out _⟩
            · have hqi : ¬ ((q + 1 : Nat) : Int) < (k : Int) := by omega
              clear hqk
              go_wp2_with fail
              go_ret
              exact ⟨rfl, HB5.out.trans (HBQ.out.mono HB5.out.size)⟩
end Go.Proofs.Ytkfimncbfbbopaa
/- Rows of structs of numbers: where an element's cells lie; help.Pairs (contract). Conditions: as each says. -/
set_option linter.unusedVariables false
set_option linter.unusedSimpArgs false
namespace Go.Proofs.Ytkfimncbfbbopaa
open Go.RowKit
attribute [local go_sem ↓] Go.wp_at_zero Go.wp_at_succ

theorem rowC_cons (ks : List IntKind) (e : List Nat) (l : List (List Nat)) : rowC ks (e :: l) = List.zipWith numV ks e ++ rowC ks l := by simp [rowC]
theorem rowC_le (ks : List IntKind) : ∀ l : List (List Nat), (rowC ks l).length ≤ l.length * ks.length
  | [] => by simp [rowC]
  | e :: l => by
    have h1 := rowC_le ks l
    rw [rowC_cons, List.length_append, List.length_zipWith, List.length_cons, Nat.succ_mul]
    omega
theorem rowC_all (ks : List IntKind) : ∀ l : List (List Nat), (rowC ks l).length = l.length * ks.length → ∀ e ∈ l, (List.zipWith numV ks e).length = ks.length
  | [], _ => by simp
  | e :: l, h => by
    have h1 := rowC_le ks l
    rw [rowC_cons, List.length_append, List.length_zipWith, List.length_cons, Nat.succ_mul] at h
    intro x hx
    rcases List.mem_cons.1 hx with rfl | hx
    · rw [List.length_zipWith]; omega
    · exact rowC_all ks l (by omega) x hx
theorem rowC_at (ks : List IntKind) : ∀ (l : List (List Nat)) (i : Nat) (e : List Nat), (rowC ks l).length = l.length * ks.length → l[i]? = some e → ∀ (j : Nat) (u : Value), (List.zipWith numV ks e)[j]? = some u → (rowC ks l)[i * ks.length + j]? = some u
  | [], i, e, _, h, _, _, _ => by simp at h
  | x :: l, i, e, hl, h, j, u, hu => by
    have hx := rowC_all ks (x :: l) hl x (by simp)
    have hl2 : (rowC ks l).length = l.length * ks.length := by
      rw [rowC_cons, List.length_append, hx, List.length_cons, Nat.succ_mul] at hl
      omega
    rw [rowC_cons]
    match i, h with
    | 0, h =>
      simp at h
      subst h
      rw [Nat.zero_mul, Nat.zero_add, List.getElem?_append_left (by rw [List.getElem?_eq_some_iff] at hu; exact hu.1)]
      exact hu
    | i + 1, h =>
      rw [List.getElem?_append_right (by rw [hx, Nat.succ_mul]; omega), hx, Nat.succ_mul, show i * ks.length + ks.length + j - ks.length = i * ks.length + j by omega]
      exact rowC_at ks l i e hl2 (by simpa using h) j u hu
/-- Where the cells of a list's elements lie. -/
theorem SlR.cells {w : World} {ks : List IntKind} {A : Option Addr} {n c : Nat} {l : List (List Nat)} (h : SlR w ks (.slice A n c) l) (hn : 0 < n) (hk : 0 < ks.length) :
    n = l.length ∧ ∃ g o, A = some ⟨g, o, none⟩ ∧ g < w.heap.size ∧ ∀ (i : Nat) (e : List Nat), l[i]? = some e → (List.zipWith numV ks e).length = ks.length ∧ ∀ (j : Nat) (u : Value), (List.zipWith numV ks e)[j]? = some u → w.cell? ⟨g, o + (i * ks.length + j), none⟩ = some u := by
  obtain ⟨A', c', e, hc, hr⟩ := h
  injection e with e1 e2 e3
  subst e1 e2 e3
  refine ⟨rfl, ?_⟩
  obtain ⟨ad, rfl, hlt, hcell⟩ := hr.2 hn
  have hall := rowC_all ks l hr.1
  have h0 : ∃ e0, l[0]? = some e0 := ⟨l[0], List.getElem?_eq_getElem hn⟩
  obtain ⟨e0, he0⟩ := h0
  have hl0 := hall e0 (List.mem_of_getElem? he0)
  obtain ⟨u0, hu0⟩ : ∃ u0, (List.zipWith numV ks e0)[0]? = some u0 := ⟨(List.zipWith numV ks e0)[0]'(by omega), List.getElem?_eq_getElem _⟩
  have c0 := hcell 0 u0 (by have := rowC_at ks l 0 e0 hr.1 he0 0 u0 hu0; simpa using this)
  obtain ⟨g, o, rfl⟩ := addr_plain c0
  refine ⟨g, o, rfl, hlt, fun i e he => ⟨hall e (List.mem_of_getElem? he), fun j u hu => ?_⟩⟩
  have := hcell (i * ks.length + j) u (rowC_at ks l i e hr.1 he j u hu)
  rwa [Go.WideShapes.add_plain] at this
theorem two_of {ks : List IntKind} {k1 k2 : IntKind} (hk : ks = [k1, k2]) {e : List Nat} (h : (List.zipWith numV ks e).length = ks.length) : ∃ a b r, e = a :: b :: r := by
  subst hk
  match e, h with
  | a :: b :: r, _ => exact ⟨a, b, r, rfl⟩
  | [a], h => simp at h
  | [], h => simp at h
theorem same_s {a b : List UInt8} {r : Bool} (hr : (a == b) = r) {A D : Option Addr} {n m c d : Nat} {w : World} (ha : SlV w (.slice A n c) a) (hb : SlV w (.slice D m d) b) :
    Calls Try.prog 24 #[.slice A n c, .slice D m d] w fun e w' => e = .returned (.bool r) ∧ w = w' := by
  subst hr
  obtain ⟨A1, c1, e1, _, h1⟩ := ha
  obtain ⟨A2, c2, e2, _, h2⟩ := hb
  injection e1 with x1 x2 x3
  injection e2 with y1 y2 y3
  subst x1 x2 x3 y1 y2 y3
  exact same_c h1 h2
end Go.Proofs.Ytkfimncbfbbopaa
/- help.Pairs (contract). Conditions: the pairs lie in memory. -/
set_option linter.unusedVariables false
set_option linter.unusedSimpArgs false
namespace Go.Proofs.Ytkfimncbfbbopaa
open Go.RowKit
attribute [local go_sem ↓] Go.wp_at_zero Go.wp_at_succ

set_option maxRecDepth 100000 in
set_option maxHeartbeats 12800000 in
theorem pairs_c (l : List (List Nat)) (A : Option Addr) (n cap : Nat) (w : World) (h : SlR w ksP (.slice A n cap) l) (hn : n ≤ 100000) :
    Calls Try.prog 34 #[.slice A n cap] w fun e w' => ∃ v, e = .returned v ∧ w'.ownsRow w.heap.size 58 2 v n (rowC ksP l) ∧ Below w.heap.size w w' := by
  obtain ⟨iP, hiP, hzaP, hzbP, hzcP⟩ := info_parts infoPairQ
  have hlen : l.length = n := by obtain ⟨_, _, e, _⟩ := h; injection e with _ e; exact e.symm
  have HLEN := Lib.hid hlen
  have H := Lib.hid h
  clear hlen h
  go_enter Try.func34, Try.ntmps34
  go_upto_region 3 with fail
  go_loopg [3, 4] n (fun gg v3 v4 wx => ∃ (i : Nat) (Ao : Option Addr) (co : Nat), gg = n - i ∧ i ≤ n ∧ v4 = .int .i64 (i : Int) ∧ v3 = .slice Ao i co ∧
    wx.ownsRow w.heap.size 58 2 (.slice Ao i co) i (rowC ksP (l.take i)) ∧ Below w.heap.size w wx)
  case atStart => exact ⟨0, none, 0, by omega, by omega, rfl, rfl, by simpa [rowC] using World.ownsRow_nil _ _ _ _, Below.refl _ _⟩
  case round =>
    obtain ⟨i, Ao, co, hgg, hi, rfl, rfl, ho, hb⟩ := hrel
    have HO := Lib.hid ho
    have HB := Lib.hid hb
    have HG := Lib.hid hgg
    clear ho hb hgg
    by_cases hin : i < n
    · have hini : (i : Int) < (n : Int) := by omega
      have hw1 : IntKind.i64.wrap ((i : Int) + 1) = ((i + 1 : Nat) : Int) := by rw [IntKind.wrap_i64]; omega
      obtain ⟨e, hei⟩ : ∃ e, l[i]? = some e := ⟨l[i]'(by have := HLEN.out; omega), List.getElem?_eq_getElem _⟩
      obtain ⟨hz, g, o, hA, hg, hc⟩ := SlR.cells H.out (by omega) (by decide)
      subst hA
      obtain ⟨hel, hcc⟩ := hc i e hei
      obtain ⟨a, b, r, he⟩ := two_of (ks := ksP) rfl hel
      have HTK : Hid (rowC ksP (l.take (i + 1)) = rowC ksP (l.take i) ++ [numV .u16 a, numV .u16 b]) := by
        show _ = _
        rw [takeN_snoc hei, rowC_append, rowC_one, he]
        rfl
      have ca : wr.cell? ⟨g, o + i * 2, none⟩ = some (.int .u16 (a : Int)) := (HB.out.cell (p := ⟨g, o + i * 2, none⟩) hg).trans (hcc 0 _ (by rw [he]; rfl))
      have cb : wr.cell? ⟨g, o + i * 2 + 1, none⟩ = some (.int .u16 (b : Int)) := (HB.out.cell (p := ⟨g, o + i * 2 + 1, none⟩) hg).trans (hcc 1 _ (by rw [he]; rfl))
      have HLT := Lib.hid hin
      clear hc hcc hei hin he hel hz
      have HRE : Hid (Reads (wr.alloc (.cells #[.int .u16 (a : Int), .int .u16 (b : Int)] 58)) (World.heap (wr.alloc (.cells #[.int .u16 (a : Int), .int .u16 (b : Int)] 58))).size 2 (some ⟨wr.heap.size, 0, none⟩) 1 [numV .u16 a, numV .u16 b]) := reads_blk (n := 1) (size := 2) (Blk.newAt (w := wr) rfl 58 #[.int .u16 (a : Int), .int .u16 (b : Int)]) rfl
      have HBS : Hid (w.heap.size ≤ (World.heap (wr.alloc (.cells #[.int .u16 (a : Int), .int .u16 (b : Int)] 58))).size) := Nat.le_trans HB.out.size (by simp)
      have HON := Lib.hid (HO.out.alloc (.cells #[.int .u16 (a : Int), .int .u16 (b : Int)] 58))
      go_wp2_with
       (at_builtin
        refine wpList_append_any _ rfl (.tmp 11) (.tmp 16) _ rfl w.heap.size 58 iP _ 2 4 Try.underlying36 hiP hzaP hzbP hzcP rfl (by omega) (.slice Ao i co) i (rowC ksP (l.take i)) rfl HON.out
          _ (some ⟨wr.heap.size, 0, none⟩) 1 1 [numV .u16 a, numV .u16 b] rfl HRE.out (by simp [numV, Value.oneCell']) (by simp only [maxLen]; omega) (by omega) HBS.out ?_
        intro v10 w10 hown hg10 hv10
        obtain ⟨A10, c10, rfl⟩ := own_slice hown
        have HO10 := Lib.hid hown
        have HG10 := Lib.hid hg10
        clear hown hg10 hv10)
      go_roundg (n - (i + 1))
      case measure => have := HLT.out; have := HG.out; omega
      case rel =>
        have hlt := HLT.out
        have hsv : Sv (fun j => (Value.slice Ao i co).ownBlock = some j) (wr.alloc (.cells #[.int .u16 (a : Int), .int .u16 (b : Int)] 58)) w10 := (Sv.refl _ _).grown HG10.out (fun g e => .inl e)
        have hlo : ∀ j, (Value.slice Ao i co).ownBlock = some j → w.heap.size ≤ j := fun j e => (HO.out.lt j e).1
        refine ⟨i + 1, A10, c10, rfl, by omega, rfl, rfl, ?_, ?_⟩
        · rw [HTK.out]; exact HO10.out
        · exact (balloc HB.out _).trans (hsv.toBelow hlo HBS.out)
    · have hini : ¬ (i : Int) < (n : Int) := by omega
      have hie : i = n := by omega
      subst hie
      have HT : Hid (l.take i = l) := List.take_of_length_le (by rw [HLEN.out]; exact Nat.le_refl _)
      clear hin hi
      go_wp2_with fail
      go_ret
      have ho := HO.out
      rw [HT.out] at ho
      exact ⟨_, rfl, ho, HB.out⟩
end Go.Proofs.Ytkfimncbfbbopaa
