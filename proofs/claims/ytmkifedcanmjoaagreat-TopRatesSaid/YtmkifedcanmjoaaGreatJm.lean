/- Texts of this claim, one behind the other: RoomS, NPlain, DeskS. Each says ahead of itself what it proves, and its conditions. -/
import Derived.Test.YtmkifedcanmjoaaGreatProg
import Derived.Test.YtmkifedcanmjoaaGreatJa
/- Rooms as plain data: slots, epochs, who comes and goes. No program in sight. -/
set_option linter.unusedVariables false
namespace Go.Proofs.YtmkifedcanmjoaaGreat

/-- Eight slots: which are used, by which address. -/
structure Tb where
  used : List Bool
  addr : List Int
/-- Which epoch is there, which is to come. -/
structure Ks where
  epoch : Int
  opn : Bool
  next : Int
  need : Int
  hv : Int
  born : Int
structure Rm where
  t : Tb
  k : Ks
  seen : List Int
  since : List Int
  over : Bool
def tb0 : Tb := ⟨List.replicate 8 false, List.replicate 8 0⟩
def ks0 (e : Int) : Ks := ⟨e, false, 0, 0, 0, 0⟩
def rm0 (e : Int) : Rm := ⟨tb0, ks0 e, List.replicate 8 0, List.replicate 8 0, false⟩
def adrB (a : Int) : Bool := decide (0 ≤ a) && decide (a ≤ 63)
def sltB (i : Int) : Bool := decide (0 ≤ i) && decide (i < 8)
def usedAt (t : Tb) (i : Nat) : Bool := t.used.getD i false
def addrAt (t : Tb) (i : Nat) : Int := t.addr.getD i 0
/-- The first slot of an address, from a place on. -/
def findFrom (t : Tb) (a : Int) : Nat → Nat → Option Nat
  | 0, _ => none
  | f + 1, i => if usedAt t i && (a == addrAt t i) then some i else findFrom t a f (i + 1)
def findT (t : Tb) (a : Int) : Option Nat := findFrom t a 8 0
def findN (t : Tb) (a : Int) : Int := match findT t a with | some i => (i : Int) | none => 0
def okAt (t : Tb) (i : Nat) : Bool := if usedAt t i then (findN t (addrAt t i) == (i : Int)) && adrB (addrAt t i) else addrAt t i == 0
def goodFrom (t : Tb) : Nat → Nat → Bool
  | 0, _ => true
  | f + 1, i => okAt t i && goodFrom t f (i + 1)
def goodT (t : Tb) : Bool := goodFrom t 8 0
def idxFrom (l : List Bool) (b : Bool) : Nat → Nat → Option Nat
  | 0, _ => none
  | f + 1, i => if l.getD i false == b then some i else idxFrom l b f (i + 1)
def idxT (l : List Bool) (b : Bool) : Option Nat := idxFrom l b 8 0
def putT (t : Tb) (i : Nat) (u : Bool) (a : Int) : Tb := ⟨t.used.set i u, t.addr.set i a⟩
def takeT (t : Tb) (a : Int) : Tb × Int × Int :=
  if !goodT t || !adrB a then (t, 0, 1)
  else if (findT t a).isSome then (t, 0, 7)
  else match idxT t.used false with
    | none => (t, 0, 5)
    | some i => (putT t i true a, (i : Int), 0)
def freeT (t : Tb) (i : Int) : Tb × Int :=
  if !goodT t || !sltB i then (t, 1)
  else if !usedAt t i.toNat then (t, 6)
  else (putT t i.toNat false 0, 0)
def maskFrom (t : Tb) : Nat → Nat → Nat → Nat
  | 0, _, m => m
  | f + 1, i, m => maskFrom t f (i + 1) (if usedAt t i then m ||| 2 ^ i else m)
def maskT (t : Tb) : Nat := if goodT t then maskFrom t 8 0 0 else 0
def goodK (s : Ks) : Bool :=
  if decide (s.epoch < 0) || decide (65535 < s.epoch) then false
  else if !s.opn then (s.next == 0) && (s.need == 0) && (s.hv == 0) && (s.born == 0)
  else decide (s.epoch < s.next) && decide (s.next ≤ 65535) && decide (1 ≤ s.need) && decide (s.need ≤ 255) && (decide (0 ≤ s.hv) && decide (s.hv.toNat &&& s.need.toNat = s.hv.toNat)) && (s.hv != s.need)
def comingK (s : Ks) : Int := if s.opn then s.next else s.epoch
def raiseK (s : Ks) (need now : Int) : Ks × Int :=
  if !goodK s || decide (need < 0) || decide (255 < need) then (s, 1)
  else if 65535 < comingK s + 1 then (s, 11)
  else if need = 0 then (ks0 (comingK s + 1), 0)
  else (⟨s.epoch, true, comingK s + 1, need, 0, now⟩, 0)
def bitK (x : Int) (i : Nat) : Bool := x.toNat.testBit i
def joinK (s : Ks) (i : Int) : Ks × Int :=
  if !goodK s || !sltB i then (s, 1)
  else if !s.opn then (s, 0)
  else if bitK s.need i.toNat then (s, 7)
  else (⟨s.epoch, s.opn, s.next, ((s.need.toNat ||| 2 ^ i.toNat : Nat) : Int), s.hv, s.born⟩, 0)
/-- What is left of a number below 2^62 without b's bits. -/
def exN (a b : Nat) : Nat := a &&& (18446744073709551615 - b)
def lateK (s : Ks) (now : Int) : Int :=
  if !goodK s || !s.opn || decide (now < s.born) || decide (now - s.born < 200) then 0 else ((exN s.need.toNat s.hv.toNat : Nat) : Int)
def sinceAt (r : Rm) (i : Nat) : Int := r.since.getD i 0
def seenAt (r : Rm) (i : Nat) : Int := r.seen.getD i 0
def okR (r : Rm) (i : Nat) : Bool :=
  !((!usedAt r.t i && ((seenAt r i != 0) || (sinceAt r i != 0))) || decide (sinceAt r i < 0) || decide (r.k.epoch < sinceAt r i))
def okFrom (r : Rm) : Nat → Nat → Bool
  | 0, _ => true
  | f + 1, i => okR r i && okFrom r f (i + 1)
def goodR (r : Rm) : Bool :=
  goodT r.t && goodK r.k && okFrom r 8 0 && (!r.k.opn || decide (r.k.need.toNat &&& maskT r.t = r.k.need.toNat)) && (!r.over || maskT r.t == 0)
/-- One of a slot goes. -/
def goneR (r : Rm) (i : Nat) (now : Int) : Rm :=
  let t := (freeT r.t i).1
  let k := raiseK r.k (maskT t) now
  if k.2 = 0 then ⟨t, k.1, r.seen.set i 0, r.since.set i 0, r.over⟩ else { rm0 r.k.epoch with over := true }
def joinR (r : Rm) (a now : Int) : Rm × Int × Int :=
  if !goodR r then (r, 0, 1)
  else if r.over then (r, 0, 12)
  else if (takeT r.t a).2.2 ≠ 0 then (r, 0, (takeT r.t a).2.2)
  else if (joinK r.k (takeT r.t a).2.1).2 ≠ 0 then (r, 0, (joinK r.k (takeT r.t a).2.1).2)
  else (⟨(takeT r.t a).1, (joinK r.k (takeT r.t a).2.1).1, r.seen.set (takeT r.t a).2.1.toNat now, r.since.set (takeT r.t a).2.1.toNat (joinK r.k (takeT r.t a).2.1).1.epoch, r.over⟩, (takeT r.t a).2.1, 0)
/-- The slot of one that is there, and the error. -/
def findR (r : Rm) (a : Int) : Nat × Int :=
  if !goodR r then (0, 1) else match findT r.t a with | some i => (i, 0) | none => (0, 6)
def leaveR (r : Rm) (a now : Int) : Rm × Int := if (findR r a).2 ≠ 0 then (r, (findR r a).2) else (goneR r (findR r a).1 now, 0)
def silentB (r : Rm) (i : Nat) (now : Int) : Bool := decide (seenAt r i ≤ now) && decide (500 ≤ now - seenAt r i)
def tickFrom (was : Rm) (late now : Int) : Nat → Nat → Rm → Rm
  | 0, _, r => r
  | f + 1, i, r => tickFrom was late now f (i + 1) (if usedAt was.t i && !r.over && (silentB was i now || bitK late i) then goneR r i now else r)
def goneL (was r : Rm) : List Int := ((List.range 8).filter fun i => usedAt was.t i && !usedAt r.t i).map fun i : Nat => (i : Int)
def tickR (r : Rm) (now : Int) : Rm × List Int :=
  if !goodR r then (r, []) else
  let q := tickFrom r (lateK r.k now) now 8 0 r
  (q, goneL r q)
/-- k come, one after the other. -/
def comeR : Nat → Rm
  | 0 => rm0 65535
  | k + 1 => (joinR (comeR k) (k : Int) 0).1
theorem come_ok : ∀ k : Nat, k < 8 → (joinR (comeR k) (k : Int) 0).2.2 = 0 := by decide +kernel
def endR : Rm := { rm0 65535 with over := true }
def eqR (a b : Rm) : Bool := a.t.used == b.t.used && a.t.addr == b.t.addr && a.k.epoch == b.k.epoch && a.k.opn == b.k.opn && a.k.next == b.k.next && a.k.need == b.k.need && a.k.hv == b.k.hv && a.k.born == b.k.born && a.seen == b.seen && a.since == b.since && a.over == b.over
theorem eqR_eq {a b : Rm} (h : eqR a b = true) : a = b := by
  obtain ⟨⟨u, v⟩, ⟨e1, e2, e3, e4, e5, e6⟩, s1, s2, o⟩ := a
  obtain ⟨⟨u', v'⟩, ⟨e1', e2', e3', e4', e5', e6'⟩, s1', s2', o'⟩ := b
  simp only [eqR, Bool.and_eq_true, beq_iff_eq] at h
  obtain ⟨⟨⟨⟨⟨⟨⟨⟨⟨⟨rfl, rfl⟩, rfl⟩, rfl⟩, rfl⟩, rfl⟩, rfl⟩, rfl⟩, rfl⟩, rfl⟩, rfl⟩ := h
  rfl
theorem leave_ok : ∀ k : Nat, k < 8 → ∀ a : Nat, a < k + 1 → (findR (comeR (k + 1)) (a : Int)) = (a, 0) := by decide +kernel
theorem gone_mask : ∀ k : Nat, k < 8 → ∀ a : Nat, a < k + 1 → (!goodK (comeR (k + 1)).k || decide (((maskT (freeT (comeR (k + 1)).t (a : Int)).1 : Nat) : Int) < 0) || decide (255 < ((maskT (freeT (comeR (k + 1)).t (a : Int)).1 : Nat) : Int))) = false ∧ comingK (comeR (k + 1)).k = 65535 ∧ (comeR (k + 1)).k.epoch = 65535 := by decide +kernel
/-- Whoever goes takes the room with it. -/
theorem leave_end {k a : Nat} (hk : k < 8) (ha : a < k + 1) (now : Int) : leaveR (comeR (k + 1)) (a : Int) now = (endR, 0) := by
  have h1 := leave_ok k hk a ha
  obtain ⟨h2, h3, h4⟩ := gone_mask k hk a ha
  unfold leaveR
  rw [h1]
  show (goneR (comeR (k + 1)) a now, (0 : Int)) = _
  unfold goneR raiseK
  simp only [h2, h3, h4]
  rfl
theorem end_join (now : Int) : (joinR endR 9 now).2.2 = 12 := by
  have h : goodR endR = true := by decide +kernel
  unfold joinR
  rw [h]
  rfl
theorem tick_end : ∀ k : Nat, k < 8 → (eqR (tickR (comeR (k + 1)) 10000).1 endR && ((tickR (comeR (k + 1)) 10000).2.length == k + 1)) = true := by decide +kernel
theorem raise_end : ∀ k : Nat, k < 8 → (raiseK (comeR (k + 1)).k 1 0).2 = 11 := by decide +kernel
end Go.Proofs.YtmkifedcanmjoaaGreat
/- Notes as plain data: which may be, their bytes, reading them. No program in sight. -/
set_option linter.unusedVariables false
namespace Go.Proofs.YtmkifedcanmjoaaGreat.Nt

structure NoteD where
  kind : Int
  room : Int
  slot : Int
  epoch : Int
  n : Int
  m : Int
  bs : List UInt8
def NoteD.zero : NoteD := ⟨0, 0, 0, 0, 0, 0, []⟩

/-- What a kind's fields go to. -/
structure Bnd where
  room : Int
  slot : Int
  epoch : Int
  n : Int
  m : Int
  least : Int
  most : Int
  ok : Bool
def bnd (k : Int) : Bnd :=
  if k = 1 then ⟨3, 0, 0, 0, 0, 0, 0, true⟩
  else if k = 2 then ⟨0, 0, 0, 0, 0, 0, 0, true⟩
  else if k = 3 then ⟨0, 7, 0, 0, 0, 0, 0, true⟩
  else if k = 4 then ⟨0, 0, 0, 2, 65535, 4, 4, true⟩
  else if k = 5 then ⟨0, 7, 0, 3, 7, 0, 0, true⟩
  else if k = 6 then ⟨0, 7, 0, 0, 0, 0, 0, true⟩
  else if k = 7 then ⟨0, 7, 65535, 31, 0, 1, 200, true⟩
  else if k = 8 then ⟨0, 0, 65535, 0, 0, 0, 0, true⟩
  else if k = 9 then ⟨0, 0, 0, 0, 0, 0, 0, true⟩
  else if k = 17 then ⟨3, 7, 65535, 255, 65535, 8, 8, true⟩
  else if k = 18 then ⟨0, 0, 0, 13, 9, 0, 0, true⟩
  else if k = 19 then ⟨0, 7, 65535, 255, 63, 0, 0, true⟩
  else if k = 20 then ⟨0, 7, 65535, 255, 0, 0, 0, true⟩
  else if k = 21 then ⟨0, 7, 65535, 31, 0, 1, 200, true⟩
  else if k = 22 then ⟨0, 0, 65535, 0, 0, 0, 0, true⟩
  else if k = 23 then ⟨0, 0, 0, 0, 0, 0, 0, true⟩
  else if k = 24 then ⟨0, 7, 0, 0, 0, 4, 4, true⟩
  else ⟨0, 0, 0, 0, 0, 0, 0, false⟩
def isKind (k : Int) : Prop := k = 1 ∨ k = 2 ∨ k = 3 ∨ k = 4 ∨ k = 5 ∨ k = 6 ∨ k = 7 ∨ k = 8 ∨ k = 9 ∨ k = 17 ∨ k = 18 ∨ k = 19 ∨ k = 20 ∨ k = 21 ∨ k = 22 ∨ k = 23 ∨ k = 24

def wB (x most : Int) : Bool := decide (0 ≤ x) && decide (x ≤ most)
def okAt (n i : Nat) (a : UInt8) : Bool := if n.testBit i then decide (a.toNat ≤ 63) else a == 255
def allAt (n : Nat) : Nat → List UInt8 → Bool
  | _, [] => true
  | i, a :: l => okAt n i a && allAt n (i + 1) l
theorem allAt_snoc (n : Nat) : ∀ (l : List UInt8) (i : Nat) (a : UInt8), allAt n i (l ++ [a]) = (allAt n i l && okAt n (i + l.length) a)
  | [], i, a => by simp [allAt]
  | b :: l, i, a => by
    rw [List.cons_append, allAt, allAt, allAt_snoc n l (i + 1) a, Bool.and_assoc]
    simp only [List.length_cons]
    rw [show i + 1 + l.length = i + (l.length + 1) by omega]
def goodB (d : NoteD) : Bool :=
  let b := bnd d.kind
  b.ok && wB d.room b.room && wB d.slot b.slot && wB d.epoch b.epoch && wB d.n b.n && wB d.m b.m && decide (b.least ≤ d.bs.length) && decide ((d.bs.length : Int) ≤ b.most)
def goodK (d : NoteD) : Bool :=
  if d.kind = 17 then allAt d.n.toNat 0 d.bs && decide (d.epoch ≤ d.m) && d.n.toNat.testBit d.slot.toNat
  else if d.kind = 18 then decide (1 ≤ d.n)
  else if d.kind = 19 then d.n.toNat.testBit d.slot.toNat
  else if d.kind = 20 then !d.n.toNat.testBit d.slot.toNat
  else true
def good (d : NoteD) : Bool := goodB d && goodK d

/-- The reference's letters of a kind: r 114, s 115, e 101, n 110, m 109, b 98, - 45. -/
def fieldsS (k : Int) : List UInt8 :=
  if k = 1 then [114]
  else if k = 2 ∨ k = 9 ∨ k = 23 then [45]
  else if k = 3 ∨ k = 6 then [115]
  else if k = 4 then [110, 109, 98]
  else if k = 5 then [115, 110, 109]
  else if k = 7 ∨ k = 21 then [115, 101, 110, 98]
  else if k = 8 ∨ k = 22 then [101]
  else if k = 17 then [114, 115, 101, 110, 109, 98]
  else if k = 18 then [110, 109]
  else if k = 19 then [115, 101, 110, 109]
  else if k = 20 then [115, 101, 110]
  else if k = 24 then [115, 98]
  else []
def inB (x lo hi : Int) : Bool := decide (lo ≤ x) && decide (x ≤ hi)
def mine (d : NoteD) : Bool := d.n.toNat.testBit d.slot.toNat
def goodR1 (d : NoteD) : Bool :=
  !(fieldsS d.kind).isEmpty && inB d.room 0 3 && inB d.slot 0 7 && inB d.epoch 0 65535 && inB d.n 0 65535 && inB d.m 0 65535 && decide (d.bs.length ≤ 200)
def goodR2 (d : NoteD) : Bool :=
  ((fieldsS d.kind).contains 114 || decide (d.room = 0)) && ((fieldsS d.kind).contains 115 || decide (d.slot = 0)) && ((fieldsS d.kind).contains 101 || decide (d.epoch = 0)) &&
  ((fieldsS d.kind).contains 110 || decide (d.n = 0)) && ((fieldsS d.kind).contains 109 || decide (d.m = 0)) && ((fieldsS d.kind).contains 98 || decide (d.bs.length = 0))
def seatsS (d : NoteD) : Bool := decide (d.bs.length = 8) && allAt d.n.toNat 0 d.bs
def goodR3 (d : NoteD) : Bool :=
  if d.kind = 4 then decide (d.n < 3) && decide (d.bs.length = 4)
  else if d.kind = 5 then decide (d.n < 4) && decide (d.m < 8)
  else if d.kind = 7 ∨ d.kind = 21 then decide (d.n < 32) && decide (0 < d.bs.length)
  else if d.kind = 17 then decide (d.n < 256) && mine d && decide (d.epoch ≤ d.m) && seatsS d
  else if d.kind = 18 then inB d.n 1 13 && decide (d.m ≤ 9)
  else if d.kind = 19 then decide (d.n < 256) && mine d && decide (d.m ≤ 63)
  else if d.kind = 20 then decide (d.n < 256) && !mine d
  else if d.kind = 24 then decide (d.bs.length = 4)
  else true
theorem good_ref (d : NoteD) : (goodR1 d && goodR2 d && goodR3 d) = good d := by
  by_cases hk : isKind d.kind
  · obtain ⟨k, r, s, e, n, m, bs⟩ := d
    simp only [isKind] at hk
    rcases hk with rfl | rfl | rfl | rfl | rfl | rfl | rfl | rfl | rfl | rfl | rfl | rfl | rfl | rfl | rfl | rfl | rfl <;>
      (simp only [good, goodB, goodK, goodR1, goodR2, goodR3, bnd, fieldsS, inB, wB, mine, seatsS]
       generalize bs.length = L
       generalize allAt n.toNat 0 bs = p
       generalize n.toNat.testBit s.toNat = q
       rw [Bool.eq_iff_iff]
       cases p <;> cases q <;> simp <;> omega)
  · simp only [isKind, not_or] at hk
    obtain ⟨h1, h2, h3, h4, h5, h6, h7, h8, h9, h17, h18, h19, h20, h21, h22, h23, h24⟩ := hk
    have e1 : fieldsS d.kind = [] := by simp [fieldsS, h1, h2, h3, h4, h5, h6, h7, h8, h9, h17, h18, h19, h20, h21, h22, h23, h24]
    have e2 : (bnd d.kind).ok = false := by simp [bnd, h1, h2, h3, h4, h5, h6, h7, h8, h9, h17, h18, h19, h20, h21, h22, h23, h24]
    simp [goodR1, good, goodB, e1, e2]

/-- A good note's numbers fit. -/
theorem good_fit {d : NoteD} (h : good d = true) : 0 ≤ d.kind ∧ d.kind ≤ 24 ∧ 0 ≤ d.room ∧ d.room ≤ 3 ∧ 0 ≤ d.slot ∧ d.slot ≤ 7 ∧ 0 ≤ d.epoch ∧ d.epoch ≤ 65535 ∧ 0 ≤ d.n ∧ d.n ≤ 65535 ∧ 0 ≤ d.m ∧ d.m ≤ 65535 ∧ d.bs.length ≤ 200 := by
  have hk : isKind d.kind := by
    rcases Classical.em (isKind d.kind) with hk | hk
    · exact hk
    · simp only [isKind, not_or] at hk
      obtain ⟨h1, h2, h3, h4, h5, h6, h7, h8, h9, h17, h18, h19, h20, h21, h22, h23, h24⟩ := hk
      have e2 : (bnd d.kind).ok = false := by simp [bnd, h1, h2, h3, h4, h5, h6, h7, h8, h9, h17, h18, h19, h20, h21, h22, h23, h24]
      simp [good, goodB, e2] at h
  rw [← good_ref] at h
  simp only [Bool.and_eq_true, goodR1, inB, decide_eq_true_eq] at h
  simp only [isKind] at hk
  omega

def be16 (x : Int) : List UInt8 := [UInt8.ofNat (x.toNat / 256), UInt8.ofNat x.toNat]
def bytesS (d : NoteD) : List UInt8 :=
  [UInt8.ofNat d.kind.toNat, UInt8.ofNat d.room.toNat, UInt8.ofNat d.slot.toNat] ++ be16 d.epoch ++ be16 d.n ++ be16 d.m ++ be16 d.bs.length ++ d.bs
def twoS (bs : List UInt8) (i : Nat) : Int := ((bs.getD i 0).toNat * 256 + (bs.getD (i + 1) 0).toNat : Nat)
def headS (bs : List UInt8) : NoteD := ⟨((bs.getD 0 0).toNat : Int), ((bs.getD 1 0).toNat : Int), ((bs.getD 2 0).toNat : Int), twoS bs 3, twoS bs 5, twoS bs 7, bs.drop 11⟩
def errS (bs : List UInt8) : Nat :=
  if bs.length < 11 then 3
  else if 200 < twoS bs 9 then 4
  else if (bs.length : Int) - 11 < twoS bs 9 then 3
  else if twoS bs 9 < (bs.length : Int) - 11 then 2
  else if good (headS bs) then 0 else 2
def noteS (bs : List UInt8) : NoteD := if errS bs = 0 then headS bs else NoteD.zero

theorem bytesS_len (d : NoteD) : (bytesS d).length = 11 + d.bs.length := by simp [bytesS, be16]; omega
theorem u8_val (x : Nat) : (UInt8.ofNat x).toNat = x % 256 := by simp
theorem two_be (x : Int) (h0 : 0 ≤ x) (h1 : x ≤ 65535) : (((UInt8.ofNat (x.toNat / 256)).toNat * 256 + (UInt8.ofNat x.toNat).toNat : Nat) : Int) = x := by
  rw [u8_val, u8_val]; omega
/-- Behind a good note's bytes whatever follows: its head reads back. -/
theorem head_back {d : NoteD} (h : good d = true) (more : List UInt8) :
    headS (bytesS d ++ more) = { d with bs := d.bs ++ more } ∧ twoS (bytesS d ++ more) 9 = d.bs.length := by
  have f := good_fit h
  obtain ⟨k, r, s, e, n, m, bs⟩ := d
  simp only at f
  constructor
  · simp only [headS, bytesS, be16, twoS, List.cons_append, List.nil_append, List.getD_cons_zero, List.getD_cons_succ, List.drop_succ_cons, List.drop_zero]
    rw [two_be e (by omega) (by omega), two_be n (by omega) (by omega), two_be m (by omega) (by omega), u8_val, u8_val, u8_val]
    congr 1 <;> omega
  · simp only [bytesS, be16, twoS, List.cons_append, List.nil_append, List.getD_cons_zero, List.getD_cons_succ]
    rw [two_be _ (by omega) (by omega)]
theorem err_back {d : NoteD} (h : good d = true) : errS (bytesS d) = 0 ∧ noteS (bytesS d) = d := by
  obtain ⟨h1, h2⟩ := head_back h []
  rw [List.append_nil] at h1 h2
  have hl := bytesS_len d
  have f := good_fit h
  have e : errS (bytesS d) = 0 := by
    rw [errS, if_neg (by omega), h2, if_neg (by omega), if_neg (by omega), if_neg (by omega), h1]
    simp [h]
  refine ⟨e, ?_⟩
  rw [noteS, if_pos e, h1, List.append_nil]
theorem err_more {d : NoteD} (h : good d = true) (more : List UInt8) (hm : more ≠ []) : errS (bytesS d ++ more) = 2 := by
  obtain ⟨h1, h2⟩ := head_back h more
  have hl := bytesS_len d
  have f := good_fit h
  have hp : 0 < more.length := by cases more with | nil => exact absurd rfl hm | cons => simp
  have hl2 : (bytesS d ++ more).length = 11 + d.bs.length + more.length := by rw [List.length_append, hl]
  rw [errS, if_neg (by omega), h2, if_neg (by omega), if_neg (by omega), if_pos (by omega)]
theorem getD_take (l : List UInt8) (c i : Nat) (h : i < c) : (l.take c).getD i 0 = l.getD i 0 := by
  simp only [List.getD, List.getElem?_take, h, if_true]
theorem err_cut {d : NoteD} (h : good d = true) (c : Nat) (hc : c < (bytesS d).length) : errS ((bytesS d).take c) = 3 := by
  obtain ⟨h1, h2⟩ := head_back h []
  rw [List.append_nil] at h1 h2
  have hl := bytesS_len d
  have f := good_fit h
  have hl2 : ((bytesS d).take c).length = c := by rw [List.length_take]; omega
  by_cases h11 : c < 11
  · rw [errS, if_pos (by omega)]
  · have h3 : twoS ((bytesS d).take c) 9 = d.bs.length := by rw [twoS, getD_take _ _ _ (by omega), getD_take _ _ _ (by omega)]; exact h2
    rw [errS, if_neg (by omega), h3, if_neg (by omega), if_pos (by omega)]
theorem note_good {bs : List UInt8} (h : errS bs = 0) : good (noteS bs) = true ∧ bytesS (noteS bs) = bs := by
  have hn : noteS bs = headS bs := by rw [noteS, if_pos h]
  rw [hn]
  have h0 := h
  simp only [errS] at h0
  split at h0
  · omega
  rename_i h11
  split at h0
  · omega
  split at h0
  · omega
  split at h0
  · omega
  rename_i ha hb hc
  split at h0
  · rename_i hg
    refine ⟨hg, ?_⟩
    obtain ⟨b0, t0, rfl⟩ := List.exists_cons_of_length_pos (l := bs) (by omega)
    obtain ⟨b1, t1, rfl⟩ := List.exists_cons_of_length_pos (l := t0) (by simp only [List.length_cons] at h11; omega)
    obtain ⟨b2, t2, rfl⟩ := List.exists_cons_of_length_pos (l := t1) (by simp only [List.length_cons] at h11; omega)
    obtain ⟨b3, t3, rfl⟩ := List.exists_cons_of_length_pos (l := t2) (by simp only [List.length_cons] at h11; omega)
    obtain ⟨b4, t4, rfl⟩ := List.exists_cons_of_length_pos (l := t3) (by simp only [List.length_cons] at h11; omega)
    obtain ⟨b5, t5, rfl⟩ := List.exists_cons_of_length_pos (l := t4) (by simp only [List.length_cons] at h11; omega)
    obtain ⟨b6, t6, rfl⟩ := List.exists_cons_of_length_pos (l := t5) (by simp only [List.length_cons] at h11; omega)
    obtain ⟨b7, t7, rfl⟩ := List.exists_cons_of_length_pos (l := t6) (by simp only [List.length_cons] at h11; omega)
    obtain ⟨b8, t8, rfl⟩ := List.exists_cons_of_length_pos (l := t7) (by simp only [List.length_cons] at h11; omega)
    obtain ⟨b9, t9, rfl⟩ := List.exists_cons_of_length_pos (l := t8) (by simp only [List.length_cons] at h11; omega)
    obtain ⟨b10, t10, rfl⟩ := List.exists_cons_of_length_pos (l := t9) (by simp only [List.length_cons] at h11; omega)
    simp only [headS, bytesS, twoS, be16, List.getD_cons_zero, List.getD_cons_succ, List.drop_succ_cons, List.drop_zero, List.length_cons] at *
    have hr : ((b9.toNat * 256 + b10.toNat : Nat) : Int) = t10.length := by omega
    have q : ∀ a b : UInt8, UInt8.ofNat ((((a.toNat * 256 + b.toNat : Nat) : Int)).toNat / 256) = a ∧ UInt8.ofNat (((a.toNat * 256 + b.toNat : Nat) : Int)).toNat = b := by
      intro a b
      have := a.toNat_lt; have := b.toNat_lt
      constructor <;> (apply UInt8.toNat_inj.1; rw [u8_val]; omega)
    have q1 : ∀ a : UInt8, UInt8.ofNat ((a.toNat : Int)).toNat = a := by intro a; simp
    simp only [q1, (q _ _).1, (q _ _).2, ← hr, List.cons_append, List.nil_append]
  · omega
end Go.Proofs.YtmkifedcanmjoaaGreat.Nt
/- A desk as plain data: halls, posts, draws, counts; what it tells. No program in sight. -/
set_option linter.unusedVariables false
namespace Go.Proofs.YtmkifedcanmjoaaGreat

structure CastD where
  any : Bool
  now : Int
  want : Int
structure TurnD where
  any : Bool
  seq : Int
  ts : Int
  dts : Int
  frame : Int
  dframe : Int
  at_ : Int
structure LaneD where
  ssrc : Int
  sp : Int
  tp : Int
  cast : CastD
  turn : TurnD
  refs : List Int
  ring : List (Int × List UInt8)
  broken : Bool
structure TmplD where
  sp : Int
  tp : Int
  dti : List Int
  diffs : List Int
  chains : List Int
structure StrcD where
  off : Int
  tgt : Int
  tmpl : List TmplD
  chains : Int
  prot : List Int
  sizes : List (Int × Int)
structure StrmD where
  shown : Bool
  ssrc : Int
  rate : Int
  st : StrcD
  active : Int
  seqs : List Int
structure HallD where
  r : Rm
  strm : List StrmD
  lanes : List (Option LaneD)
structure OutD where
  adr : Int
  kind : Int
  b : List UInt8
structure DeskD where
  halls : List HallD
  now : Int
  draws : List Int
  posts : List (List OutD)
  counts : List Int
def strc0 : StrcD := ⟨0, 0, [], 0, [], []⟩
def strm0 : StrmD := ⟨false, 0, 0, strc0, 0, []⟩
def hall0 : HallD := ⟨rm0 0, List.replicate 24 strm0, List.replicate 64 none⟩
def desk0 : DeskD := ⟨List.replicate 4 hall0, 0, [], List.replicate 64 [], List.replicate 11 0⟩
def DeskD.hall (D : DeskD) (i : Nat) : HallD := D.halls.getD i hall0
def DeskD.setHall (D : DeskD) (i : Nat) (h : HallD) : DeskD := { D with halls := D.halls.set i h }
def DeskD.post (D : DeskD) (a : Nat) : List OutD := D.posts.getD a []
def DeskD.setPost (D : DeskD) (a : Nat) (l : List OutD) : DeskD := { D with posts := D.posts.set a l }
def HallD.str (h : HallD) (s j : Nat) : StrmD := h.strm.getD (3 * s + j) strm0
def HallD.lane (h : HallD) (t2 fr : Nat) : Option LaneD := h.lanes.getD (8 * t2 + fr) none
def DeskD.setRoom (D : DeskD) (i : Nat) (r : Rm) : DeskD := D.setHall i { D.hall i with r := r }
def DeskD.count (D : DeskD) (i : Nat) : DeskD := { D with counts := D.counts.set i (IntKind.i64.wrap (D.counts.getD i 0 + 1)) }
def tellD (D : DeskD) (a : Nat) (k : Int) (b : List UInt8) : DeskD :=
  if (D.post a).length < 32 then D.setPost a (D.post a ++ [⟨a, k, b⟩]) else D.count 10
def sayD (D : DeskD) (a : Nat) (n : Nt.NoteD) : DeskD := if Nt.good n then tellD D a 2 (Nt.bytesS n) else D
def noD (D : DeskD) (a : Nat) (e kind : Int) : DeskD := sayD D a ⟨18, 0, 0, 0, e, kind, []⟩
/-- All of a room but one are told a note, from slot i on. -/
def allFrom (r : Rm) (but : Int) (n : Nt.NoteD) : Nat → Nat → DeskD → DeskD
  | 0, _, D => D
  | f + 1, i, D => allFrom r but n f (i + 1) (if usedAt r.t i && ((i : Int) != but) then sayD D (addrAt r.t i).toNat n else D)
def allD (D : DeskD) (h : Nat) (but : Int) (n : Nt.NoteD) : DeskD := allFrom (D.hall h).r but n 8 0 D
def FindB (t : Tb) (a : Int) : Option Nat := if goodT t then findT t a else none
def whereFrom (D : DeskD) (a : Int) : Nat → Nat → Option (Nat × Nat)
  | 0, _ => none
  | f + 1, i => match FindB (D.hall i).r.t a with | some s => some (i, s) | none => whereFrom D a f (i + 1)
def whereD (D : DeskD) (a : Int) : Option (Nat × Nat) := whereFrom D a 4 0
def aliveR (r : Rm) (a now : Int) : Rm × Int := if (findR r a).2 ≠ 0 then (r, (findR r a).2) else ({ r with seen := r.seen.set (findR r a).1 now }, 0)
def heardD (D : DeskD) (i : Nat) (a : Int) : DeskD := D.setRoom i (aliveR (D.hall i).r a D.now).1
def addrB (t : Tb) (i : Nat) : UInt8 := if usedAt t i then UInt8.ofNat (addrAt t i).toNat else 255
def addrsB (t : Tb) : List UInt8 := (List.range 8).map (addrB t)
def joinD (D : DeskD) (a : Nat) (n : Nt.NoteD) : DeskD × Int :=
  let h := n.room.toNat
  let j := joinR (D.hall h).r a D.now
  if j.2.2 ≠ 0 then (D, j.2.2) else
  let D1 := D.setRoom h j.1
  let mask : Int := maskT j.1.t
  let D2 := sayD D1 a ⟨17, n.room, j.2.1, j.1.k.epoch, mask, comingK j.1.k, addrsB j.1.t⟩
  (allD D2 h j.2.1 ⟨19, 0, j.2.1, j.1.k.epoch, mask, a, []⟩, 0)
/-- What a good note does, said by one who is in (where), or in no room; sd: what a member says. -/
def noteR (sd : DeskD → Nat → Nat → Nt.NoteD → DeskD × Int) (D : DeskD) (a : Nat) (n : Nt.NoteD) : Option (Nat × Nat) → DeskD
  | none => if n.kind = 1 then (if (joinD D a n).2 ≠ 0 then noD (joinD D a n).1 a (joinD D a n).2 n.kind else (joinD D a n).1) else noD D a 6 n.kind
  | some p => if n.kind = 1 then noD (heardD D p.1 a) a 7 n.kind else (if (sd (heardD D p.1 a) p.1 p.2 n).2 ≠ 0 then noD (sd (heardD D p.1 a) p.1 p.2 n).1 a (sd (heardD D p.1 a) p.1 p.2 n).2 n.kind else (sd (heardD D p.1 a) p.1 p.2 n).1)
def noteD (sd : DeskD → Nat → Nat → Nt.NoteD → DeskD × Int) (D : DeskD) (a : Nat) (b : List UInt8) : DeskD :=
  if Nt.errS b ≠ 0 then noD D a (Nt.errS b) 0
  else if 9 < (Nt.noteS b).kind then noD D a 1 0
  else noteR sd D a (Nt.noteS b) (whereD D a)
def takenD (D : DeskD) (a n : Nat) : DeskD × List OutD := (D.setPost a ((D.post a).drop n), (D.post a).take n)
end Go.Proofs.YtmkifedcanmjoaaGreat
