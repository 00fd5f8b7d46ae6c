/- Notes as plain data: which may be, their bytes, reading them. No program in sight. -/
import Derived.Test.YtmaemfjepdicfaaMem
set_option linter.unusedVariables false
namespace Go.Proofs.Ytmaemfjepdicfaa

structure NoteD where
  kind : Int
  room : Int
  slot : Int
  epoch : Int
  n : Int
  m : Int
  bs : List UInt8
def NoteD.zero : NoteD := ⟨0, 0, 0, 0, 0, 0, []⟩

/-- What a kind's fields go to. -/
structure Bnd where
  room : Int
  slot : Int
  epoch : Int
  n : Int
  m : Int
  least : Int
  most : Int
  ok : Bool
def bnd (k : Int) : Bnd :=
  if k = 1 then ⟨3, 0, 0, 0, 0, 0, 0, true⟩
  else if k = 2 then ⟨0, 0, 0, 0, 0, 0, 0, true⟩
  else if k = 3 then ⟨0, 7, 0, 0, 0, 0, 0, true⟩
  else if k = 4 then ⟨0, 0, 0, 2, 65535, 4, 4, true⟩
  else if k = 5 then ⟨0, 7, 0, 3, 7, 0, 0, true⟩
  else if k = 6 then ⟨0, 7, 0, 0, 0, 0, 0, true⟩
  else if k = 7 then ⟨0, 7, 65535, 31, 0, 1, 200, true⟩
  else if k = 8 then ⟨0, 0, 65535, 0, 0, 0, 0, true⟩
  else if k = 9 then ⟨0, 0, 0, 0, 0, 0, 0, true⟩
  else if k = 17 then ⟨3, 7, 65535, 255, 65535, 8, 8, true⟩
  else if k = 18 then ⟨0, 0, 0, 13, 9, 0, 0, true⟩
  else if k = 19 then ⟨0, 7, 65535, 255, 63, 0, 0, true⟩
  else if k = 20 then ⟨0, 7, 65535, 255, 0, 0, 0, true⟩
  else if k = 21 then ⟨0, 7, 65535, 31, 0, 1, 200, true⟩
  else if k = 22 then ⟨0, 0, 65535, 0, 0, 0, 0, true⟩
  else if k = 23 then ⟨0, 0, 0, 0, 0, 0, 0, true⟩
  else if k = 24 then ⟨0, 7, 0, 0, 0, 4, 4, true⟩
  else ⟨0, 0, 0, 0, 0, 0, 0, false⟩
def isKind (k : Int) : Prop := k = 1 ∨ k = 2 ∨ k = 3 ∨ k = 4 ∨ k = 5 ∨ k = 6 ∨ k = 7 ∨ k = 8 ∨ k = 9 ∨ k = 17 ∨ k = 18 ∨ k = 19 ∨ k = 20 ∨ k = 21 ∨ k = 22 ∨ k = 23 ∨ k = 24

def wB (x most : Int) : Bool := decide (0 ≤ x) && decide (x ≤ most)
def okAt (n i : Nat) (a : UInt8) : Bool := if n.testBit i then decide (a.toNat ≤ 63) else a == 255
def allAt (n : Nat) : Nat → List UInt8 → Bool
  | _, [] => true
  | i, a :: l => okAt n i a && allAt n (i + 1) l
theorem allAt_snoc (n : Nat) : ∀ (l : List UInt8) (i : Nat) (a : UInt8), allAt n i (l ++ [a]) = (allAt n i l && okAt n (i + l.length) a)
  | [], i, a => by simp [allAt]
  | b :: l, i, a => by
    rw [List.cons_append, allAt, allAt, allAt_snoc n l (i + 1) a, Bool.and_assoc]
    simp only [List.length_cons]
    rw [show i + 1 + l.length = i + (l.length + 1) by omega]
def goodB (d : NoteD) : Bool :=
  let b := bnd d.kind
  b.ok && wB d.room b.room && wB d.slot b.slot && wB d.epoch b.epoch && wB d.n b.n && wB d.m b.m && decide (b.least ≤ d.bs.length) && decide ((d.bs.length : Int) ≤ b.most)
def goodK (d : NoteD) : Bool :=
  if d.kind = 17 then allAt d.n.toNat 0 d.bs && decide (d.epoch ≤ d.m) && d.n.toNat.testBit d.slot.toNat
  else if d.kind = 18 then decide (1 ≤ d.n)
  else if d.kind = 19 then d.n.toNat.testBit d.slot.toNat
  else if d.kind = 20 then !d.n.toNat.testBit d.slot.toNat
  else true
def good (d : NoteD) : Bool := goodB d && goodK d

/-- The reference's letters of a kind: r 114, s 115, e 101, n 110, m 109, b 98, - 45. -/
def fieldsS (k : Int) : List UInt8 :=
  if k = 1 then [114]
  else if k = 2 ∨ k = 9 ∨ k = 23 then [45]
  else if k = 3 ∨ k = 6 then [115]
  else if k = 4 then [110, 109, 98]
  else if k = 5 then [115, 110, 109]
  else if k = 7 ∨ k = 21 then [115, 101, 110, 98]
  else if k = 8 ∨ k = 22 then [101]
  else if k = 17 then [114, 115, 101, 110, 109, 98]
  else if k = 18 then [110, 109]
  else if k = 19 then [115, 101, 110, 109]
  else if k = 20 then [115, 101, 110]
  else if k = 24 then [115, 98]
  else []
def inB (x lo hi : Int) : Bool := decide (lo ≤ x) && decide (x ≤ hi)
def mine (d : NoteD) : Bool := d.n.toNat.testBit d.slot.toNat
def goodR1 (d : NoteD) : Bool :=
  !(fieldsS d.kind).isEmpty && inB d.room 0 3 && inB d.slot 0 7 && inB d.epoch 0 65535 && inB d.n 0 65535 && inB d.m 0 65535 && decide (d.bs.length ≤ 200)
def goodR2 (d : NoteD) : Bool :=
  ((fieldsS d.kind).contains 114 || decide (d.room = 0)) && ((fieldsS d.kind).contains 115 || decide (d.slot = 0)) && ((fieldsS d.kind).contains 101 || decide (d.epoch = 0)) &&
  ((fieldsS d.kind).contains 110 || decide (d.n = 0)) && ((fieldsS d.kind).contains 109 || decide (d.m = 0)) && ((fieldsS d.kind).contains 98 || decide (d.bs.length = 0))
def seatsS (d : NoteD) : Bool := decide (d.bs.length = 8) && allAt d.n.toNat 0 d.bs
def goodR3 (d : NoteD) : Bool :=
  if d.kind = 4 then decide (d.n < 3) && decide (d.bs.length = 4)
  else if d.kind = 5 then decide (d.n < 4) && decide (d.m < 8)
  else if d.kind = 7 ∨ d.kind = 21 then decide (d.n < 32) && decide (0 < d.bs.length)
  else if d.kind = 17 then decide (d.n < 256) && mine d && decide (d.epoch ≤ d.m) && seatsS d
  else if d.kind = 18 then inB d.n 1 13 && decide (d.m ≤ 9)
  else if d.kind = 19 then decide (d.n < 256) && mine d && decide (d.m ≤ 63)
  else if d.kind = 20 then decide (d.n < 256) && !mine d
  else if d.kind = 24 then decide (d.bs.length = 4)
  else true
theorem good_ref (d : NoteD) : (goodR1 d && goodR2 d && goodR3 d) = good d := by
  by_cases hk : isKind d.kind
  · obtain ⟨k, r, s, e, n, m, bs⟩ := d
    simp only [isKind] at hk
    rcases hk with rfl | rfl | rfl | rfl | rfl | rfl | rfl | rfl | rfl | rfl | rfl | rfl | rfl | rfl | rfl | rfl | rfl <;>
      (simp only [good, goodB, goodK, goodR1, goodR2, goodR3, bnd, fieldsS, inB, wB, mine, seatsS]
       generalize bs.length = L
       generalize allAt n.toNat 0 bs = p
       generalize n.toNat.testBit s.toNat = q
       rw [Bool.eq_iff_iff]
       cases p <;> cases q <;> simp <;> omega)
  · simp only [isKind, not_or] at hk
    obtain ⟨h1, h2, h3, h4, h5, h6, h7, h8, h9, h17, h18, h19, h20, h21, h22, h23, h24⟩ := hk
    have e1 : fieldsS d.kind = [] := by simp [fieldsS, h1, h2, h3, h4, h5, h6, h7, h8, h9, h17, h18, h19, h20, h21, h22, h23, h24]
    have e2 : (bnd d.kind).ok = false := by simp [bnd, h1, h2, h3, h4, h5, h6, h7, h8, h9, h17, h18, h19, h20, h21, h22, h23, h24]
    simp [goodR1, good, goodB, e1, e2]

/-- A good note's numbers fit. -/
theorem good_fit {d : NoteD} (h : good d = true) : 0 ≤ d.kind ∧ d.kind ≤ 24 ∧ 0 ≤ d.room ∧ d.room ≤ 3 ∧ 0 ≤ d.slot ∧ d.slot ≤ 7 ∧ 0 ≤ d.epoch ∧ d.epoch ≤ 65535 ∧ 0 ≤ d.n ∧ d.n ≤ 65535 ∧ 0 ≤ d.m ∧ d.m ≤ 65535 ∧ d.bs.length ≤ 200 := by
  have hk : isKind d.kind := by
    rcases Classical.em (isKind d.kind) with hk | hk
    · exact hk
    · simp only [isKind, not_or] at hk
      obtain ⟨h1, h2, h3, h4, h5, h6, h7, h8, h9, h17, h18, h19, h20, h21, h22, h23, h24⟩ := hk
      have e2 : (bnd d.kind).ok = false := by simp [bnd, h1, h2, h3, h4, h5, h6, h7, h8, h9, h17, h18, h19, h20, h21, h22, h23, h24]
      simp [good, goodB, e2] at h
  rw [← good_ref] at h
  simp only [Bool.and_eq_true, goodR1, inB, decide_eq_true_eq] at h
  simp only [isKind] at hk
  omega

def be16 (x : Int) : List UInt8 := [UInt8.ofNat (x.toNat / 256), UInt8.ofNat x.toNat]
def bytesS (d : NoteD) : List UInt8 :=
  [UInt8.ofNat d.kind.toNat, UInt8.ofNat d.room.toNat, UInt8.ofNat d.slot.toNat] ++ be16 d.epoch ++ be16 d.n ++ be16 d.m ++ be16 d.bs.length ++ d.bs
def twoS (bs : List UInt8) (i : Nat) : Int := ((bs.getD i 0).toNat * 256 + (bs.getD (i + 1) 0).toNat : Nat)
def headS (bs : List UInt8) : NoteD := ⟨((bs.getD 0 0).toNat : Int), ((bs.getD 1 0).toNat : Int), ((bs.getD 2 0).toNat : Int), twoS bs 3, twoS bs 5, twoS bs 7, bs.drop 11⟩
def errS (bs : List UInt8) : Nat :=
  if bs.length < 11 then 3
  else if 200 < twoS bs 9 then 4
  else if (bs.length : Int) - 11 < twoS bs 9 then 3
  else if twoS bs 9 < (bs.length : Int) - 11 then 2
  else if good (headS bs) then 0 else 2
def noteS (bs : List UInt8) : NoteD := if errS bs = 0 then headS bs else NoteD.zero

theorem bytesS_len (d : NoteD) : (bytesS d).length = 11 + d.bs.length := by simp [bytesS, be16]; omega
theorem u8_val (x : Nat) : (UInt8.ofNat x).toNat = x % 256 := by simp
theorem two_be (x : Int) (h0 : 0 ≤ x) (h1 : x ≤ 65535) : (((UInt8.ofNat (x.toNat / 256)).toNat * 256 + (UInt8.ofNat x.toNat).toNat : Nat) : Int) = x := by
  rw [u8_val, u8_val]; omega
/-- Behind a good note's bytes whatever follows: its head reads back. -/
theorem head_back {d : NoteD} (h : good d = true) (more : List UInt8) :
    headS (bytesS d ++ more) = { d with bs := d.bs ++ more } ∧ twoS (bytesS d ++ more) 9 = d.bs.length := by
  have f := good_fit h
  obtain ⟨k, r, s, e, n, m, bs⟩ := d
  simp only at f
  constructor
  · simp only [headS, bytesS, be16, twoS, List.cons_append, List.nil_append, List.getD_cons_zero, List.getD_cons_succ, List.drop_succ_cons, List.drop_zero]
    rw [two_be e (by omega) (by omega), two_be n (by omega) (by omega), two_be m (by omega) (by omega), u8_val, u8_val, u8_val]
    congr 1 <;> omega
  · simp only [bytesS, be16, twoS, List.cons_append, List.nil_append, List.getD_cons_zero, List.getD_cons_succ]
    rw [two_be _ (by omega) (by omega)]
theorem err_back {d : NoteD} (h : good d = true) : errS (bytesS d) = 0 ∧ noteS (bytesS d) = d := by
  obtain ⟨h1, h2⟩ := head_back h []
  rw [List.append_nil] at h1 h2
  have hl := bytesS_len d
  have f := good_fit h
  have e : errS (bytesS d) = 0 := by
    rw [errS, if_neg (by omega), h2, if_neg (by omega), if_neg (by omega), if_neg (by omega), h1]
    simp [h]
  refine ⟨e, ?_⟩
  rw [noteS, if_pos e, h1, List.append_nil]
theorem err_more {d : NoteD} (h : good d = true) (more : List UInt8) (hm : more ≠ []) : errS (bytesS d ++ more) = 2 := by
  obtain ⟨h1, h2⟩ := head_back h more
  have hl := bytesS_len d
  have f := good_fit h
  have hp : 0 < more.length := by cases more with | nil => exact absurd rfl hm | cons => simp
  have hl2 : (bytesS d ++ more).length = 11 + d.bs.length + more.length := by rw [List.length_append, hl]
  rw [errS, if_neg (by omega), h2, if_neg (by omega), if_neg (by omega), if_pos (by omega)]
theorem getD_take (l : List UInt8) (c i : Nat) (h : i < c) : (l.take c).getD i 0 = l.getD i 0 := by
  simp only [List.getD, List.getElem?_take, h, if_true]
theorem err_cut {d : NoteD} (h : good d = true) (c : Nat) (hc : c < (bytesS d).length) : errS ((bytesS d).take c) = 3 := by
  obtain ⟨h1, h2⟩ := head_back h []
  rw [List.append_nil] at h1 h2
  have hl := bytesS_len d
  have f := good_fit h
  have hl2 : ((bytesS d).take c).length = c := by rw [List.length_take]; omega
  by_cases h11 : c < 11
  · rw [errS, if_pos (by omega)]
  · have h3 : twoS ((bytesS d).take c) 9 = d.bs.length := by rw [twoS, getD_take _ _ _ (by omega), getD_take _ _ _ (by omega)]; exact h2
    rw [errS, if_neg (by omega), h3, if_neg (by omega), if_pos (by omega)]
theorem note_good {bs : List UInt8} (h : errS bs = 0) : good (noteS bs) = true ∧ bytesS (noteS bs) = bs := by
  have hn : noteS bs = headS bs := by rw [noteS, if_pos h]
  rw [hn]
  have h0 := h
  simp only [errS] at h0
  split at h0
  · omega
  rename_i h11
  split at h0
  · omega
  split at h0
  · omega
  split at h0
  · omega
  rename_i ha hb hc
  split at h0
  · rename_i hg
    refine ⟨hg, ?_⟩
    obtain ⟨b0, t0, rfl⟩ := List.exists_cons_of_length_pos (l := bs) (by omega)
    obtain ⟨b1, t1, rfl⟩ := List.exists_cons_of_length_pos (l := t0) (by simp only [List.length_cons] at h11; omega)
    obtain ⟨b2, t2, rfl⟩ := List.exists_cons_of_length_pos (l := t1) (by simp only [List.length_cons] at h11; omega)
    obtain ⟨b3, t3, rfl⟩ := List.exists_cons_of_length_pos (l := t2) (by simp only [List.length_cons] at h11; omega)
    obtain ⟨b4, t4, rfl⟩ := List.exists_cons_of_length_pos (l := t3) (by simp only [List.length_cons] at h11; omega)
    obtain ⟨b5, t5, rfl⟩ := List.exists_cons_of_length_pos (l := t4) (by simp only [List.length_cons] at h11; omega)
    obtain ⟨b6, t6, rfl⟩ := List.exists_cons_of_length_pos (l := t5) (by simp only [List.length_cons] at h11; omega)
    obtain ⟨b7, t7, rfl⟩ := List.exists_cons_of_length_pos (l := t6) (by simp only [List.length_cons] at h11; omega)
    obtain ⟨b8, t8, rfl⟩ := List.exists_cons_of_length_pos (l := t7) (by simp only [List.length_cons] at h11; omega)
    obtain ⟨b9, t9, rfl⟩ := List.exists_cons_of_length_pos (l := t8) (by simp only [List.length_cons] at h11; omega)
    obtain ⟨b10, t10, rfl⟩ := List.exists_cons_of_length_pos (l := t9) (by simp only [List.length_cons] at h11; omega)
    simp only [headS, bytesS, twoS, be16, List.getD_cons_zero, List.getD_cons_succ, List.drop_succ_cons, List.drop_zero, List.length_cons] at *
    have hr : ((b9.toNat * 256 + b10.toNat : Nat) : Int) = t10.length := by omega
    have q : ∀ a b : UInt8, UInt8.ofNat ((((a.toNat * 256 + b.toNat : Nat) : Int)).toNat / 256) = a ∧ UInt8.ofNat (((a.toNat * 256 + b.toNat : Nat) : Int)).toNat = b := by
      intro a b
      have := a.toNat_lt; have := b.toNat_lt
      constructor <;> (apply UInt8.toNat_inj.1; rw [u8_val]; omega)
    have q1 : ∀ a : UInt8, UInt8.ofNat ((a.toNat : Int)).toNat = a := by intro a; simp
    simp only [q1, (q _ _).1, (q _ _).2, ← hr, List.cons_append, List.nil_append]
  · omega
end Go.Proofs.Ytmaemfjepdicfaa
