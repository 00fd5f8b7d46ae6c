/- Texts of this claim, one behind the other: Desk, Cast. Each says ahead of itself what it proves, and its conditions. -/
import Derived.Test.YtmkifedcanmjoaaGreatJb
import Derived.Test.YtmkifedcanmjoaaGreatJm
import Derived.Test.YtmkifedcanmjoaaGreatJo
/- A desk in memory: which blocks are whose (labels), frames by label, posts, counts, lanes, streams. Conditions: none. -/
set_option linter.unusedVariables false
set_option linter.unusedSimpArgs false
namespace Go.Proofs.YtmkifedcanmjoaaGreat
open Go.RowKit

/-- Whose a block is: what may turn has a name ('temp': a call's own); all else is 'other' and never turns. -/
inductive Comp where
  | other
  | temp
  | desk
  | draws
  | post (a : Nat)
  | counts
  | lane (i t2 fr : Nat)
abbrev Lab := Nat → Comp
def lab0 : Lab := fun _ => .other
/-- Only blocks of X turn; labels of what was there stay; what is not there yet is no one's. -/
structure Stp (X : Comp → Prop) (L L' : Lab) (w w' : World) : Prop where
  sv : Sv (fun k => X (L k)) w w'
  old : ∀ k, k < w.heap.size → L' k = L k
  top : ∀ k, w'.heap.size ≤ k → L' k = .other
/-- A slice over a block that never turns. -/
def Ot (L : Lab) (v : Value) : Prop := ∀ g, v.ownBlock = some g → L g = .other
section
variable {X Y : Comp → Prop} {L L' L'' : Lab} {w w' w'' : World}
theorem Stp.trans (h : Stp X L L' w w') (h' : Stp X L' L'' w' w'') : Stp X L L'' w w'' :=
  ⟨h.sv.trans h'.sv (fun k hk hx => by rw [h.old k hk] at hx; exact hx), fun k hk => (h'.old k (Nat.lt_of_lt_of_le hk h.sv.size)).trans (h.old k hk), h'.top⟩
theorem Stp.mono (h : Stp X L L' w w') (hx : ∀ c, X c → Y c) : Stp Y L L' w w' := ⟨h.sv.mono fun k _ hk => hx _ hk, h.old, h.top⟩
theorem Stp.below (hb : Below w.heap.size w w') (ht : ∀ k, w.heap.size ≤ k → L k = .other) : Stp X L L w w' := ⟨Sv.of_below hb, fun _ _ => rfl, fun k hk => ht k (Nat.le_trans hb.size hk)⟩
theorem Stp.size (h : Stp X L L' w w') : w.heap.size ≤ w'.heap.size := h.sv.size
theorem Stp.heap (h : Stp X L L' w w') {k : Nat} (hk : k < w.heap.size) (hx : ¬ X (L k)) : w'.heap[k]? = w.heap[k]? := h.sv.block k hk hx
theorem Stp.blk (h : Stp X L L' w w') {g : Nat} {t : TypeId} {cs : Array Value} (hb : Blk w g t cs) (hx : ¬ X (L g)) : Blk w' g t cs := (h.heap hb.lt hx).trans hb
theorem Stp.reads (h : Stp X L L' w w') {size n : Nat} {A : Option Addr} {xs : List Value} (hr : Reads w w.heap.size size A n xs) (hA : ∀ ad, A = some ad → ¬ X (L ad.block)) : Reads w' w'.heap.size size A n xs := h.sv.reads hr hA
theorem Stp.ot (h : Stp X L L' w w') {v : Value} (ho : Ot L v) (hv : ∀ g, v.ownBlock = some g → g < w.heap.size) : Ot L' v := fun g hg => (h.old g (hv g hg)).trans (ho g hg)
end

/-- v is a slice of bytes that reads b and never turns. -/
def ByV (L : Lab) (w : World) (v : Value) (b : List UInt8) : Prop := SlV w v b ∧ (∀ g, v.ownBlock = some g → L g = .other ∧ g < w.heap.size)
/-- v is a slice of numbers of kind k that reads l and never turns. -/
def NumV (k : IntKind) (L : Lab) (w : World) (v : Value) (l : List Int) : Prop :=
  (∃ A c, v = .slice A l.length c ∧ l.length ≤ c ∧ c ≤ maxLen ∧ Reads w w.heap.size 1 A l.length (l.map (Value.int k))) ∧ (∀ g, v.ownBlock = some g → L g = .other ∧ g < w.heap.size)
/-- The cells of templates. -/
def TmplC (L : Lab) (w : World) : List TmplD → List Value → Prop
  | [], xs => xs = []
  | t :: ts, xs => ∃ x y z r, xs = .int .i64 t.sp :: .int .i64 t.tp :: x :: y :: z :: r ∧ NumV .i64 L w x t.dti ∧ NumV .i64 L w y t.diffs ∧ NumV .i64 L w z t.chains ∧ TmplC L w ts r
def TmplV (L : Lab) (w : World) (v : Value) (ts : List TmplD) : Prop :=
  (∃ A c xs, v = .slice A ts.length c ∧ ts.length ≤ c ∧ c ≤ maxLen ∧ Reads w w.heap.size 5 A ts.length xs ∧ TmplC L w ts xs) ∧ (∀ g, v.ownBlock = some g → L g = .other ∧ g < w.heap.size)
def SizesV (L : Lab) (w : World) (v : Value) (l : List (Int × Int)) : Prop :=
  (∃ A c, v = .slice A l.length c ∧ l.length ≤ c ∧ c ≤ maxLen ∧ Reads w w.heap.size 2 A l.length (l.flatMap fun p => [.int .i64 p.1, .int .i64 p.2])) ∧ (∀ g, v.ownBlock = some g → L g = .other ∧ g < w.heap.size)
section
variable {X : Comp → Prop} {L L' : Lab} {w w' : World} {v : Value}
theorem Stp.own (h : Stp X L L' w w') (ho : ∀ g, v.ownBlock = some g → L g = .other ∧ g < w.heap.size) : ∀ g, v.ownBlock = some g → L' g = .other ∧ g < w'.heap.size :=
  fun g hg => ⟨(h.old g (ho g hg).2).trans (ho g hg).1, Nat.lt_of_lt_of_le (ho g hg).2 h.size⟩
theorem ByV.stp {b : List UInt8} (h : ByV L w v b) (hs : Stp X L L' w w') (hx : ¬ X .other) : ByV L' w' v b := by
  obtain ⟨⟨A, c, rfl, hc, hr⟩, ho⟩ := h
  exact ⟨⟨A, c, rfl, hc, hs.reads hr fun ad e => by subst e; rw [(ho ad.block rfl).1]; exact hx⟩, hs.own ho⟩
theorem NumV.stp {k : IntKind} {l : List Int} (h : NumV k L w v l) (hs : Stp X L L' w w') (hx : ¬ X .other) : NumV k L' w' v l := by
  obtain ⟨⟨A, c, rfl, hc, hm, hr⟩, ho⟩ := h
  exact ⟨⟨A, c, rfl, hc, hm, hs.reads hr fun ad e => by subst e; rw [(ho ad.block rfl).1]; exact hx⟩, hs.own ho⟩
theorem TmplC.stp (hs : Stp X L L' w w') (hx : ¬ X .other) : ∀ (ts : List TmplD) (xs : List Value), TmplC L w ts xs → TmplC L' w' ts xs
  | [], _, h => h
  | t :: ts, _, ⟨x, y, z, r, e, h3, h4, h5, h6⟩ => ⟨x, y, z, r, e, h3.stp hs hx, h4.stp hs hx, h5.stp hs hx, TmplC.stp hs hx ts r h6⟩
theorem TmplV.stp {ts : List TmplD} (h : TmplV L w v ts) (hs : Stp X L L' w w') (hx : ¬ X .other) : TmplV L' w' v ts := by
  obtain ⟨⟨A, c, xs, rfl, hc, hm, hr, ht⟩, ho⟩ := h
  exact ⟨⟨A, c, xs, rfl, hc, hm, hs.reads hr fun ad e => by subst e; rw [(ho ad.block rfl).1]; exact hx, TmplC.stp hs hx ts xs ht⟩, hs.own ho⟩
theorem SizesV.stp {l : List (Int × Int)} (h : SizesV L w v l) (hs : Stp X L L' w w') (hx : ¬ X .other) : SizesV L' w' v l := by
  obtain ⟨⟨A, c, rfl, hc, hm, hr⟩, ho⟩ := h
  exact ⟨⟨A, c, rfl, hc, hm, hs.reads hr fun ad e => by subst e; rw [(ho ad.block rfl).1]; exact hx⟩, hs.own ho⟩
end

/-- The cells of a structure: six of them. -/
def StrcC (L : Lab) (w : World) (f : Nat → Option Value) (s : StrcD) : Prop :=
  f 0 = some (.int .i64 s.off) ∧ f 1 = some (.int .i64 s.tgt) ∧ (∃ v, f 2 = some v ∧ TmplV L w v s.tmpl) ∧ f 3 = some (.int .i64 s.chains) ∧ (∃ v, f 4 = some v ∧ NumV .i64 L w v s.prot) ∧ (∃ v, f 5 = some v ∧ SizesV L w v s.sizes)
/-- The cells of a stream: eleven of them. -/
def StrmC (L : Lab) (w : World) (f : Nat → Option Value) (s : StrmD) : Prop :=
  f 0 = some (.bool s.shown) ∧ f 1 = some (.int .u32 s.ssrc) ∧ f 2 = some (.int .i64 s.rate) ∧ StrcC L w (fun k => f (3 + k)) s.st ∧ f 9 = some (.int .u32 s.active) ∧ (∃ v, f 10 = some v ∧ NumV .u16 L w v s.seqs)
section
variable {X : Comp → Prop} {L L' : Lab} {w w' : World}
theorem StrcC.stp {f : Nat → Option Value} {s : StrcD} (h : StrcC L w f s) (hs : Stp X L L' w w') (hx : ¬ X .other) : StrcC L' w' f s := by
  obtain ⟨h1, h2, ⟨v1, h3, h4⟩, h5, ⟨v2, h6, h7⟩, ⟨v3, h8, h9⟩⟩ := h
  exact ⟨h1, h2, ⟨v1, h3, h4.stp hs hx⟩, h5, ⟨v2, h6, h7.stp hs hx⟩, ⟨v3, h8, h9.stp hs hx⟩⟩
theorem StrmC.stp {f : Nat → Option Value} {s : StrmD} (h : StrmC L w f s) (hs : Stp X L L' w w') (hx : ¬ X .other) : StrmC L' w' f s := by
  obtain ⟨h1, h2, h3, h4, h5, ⟨v3, h8, h9⟩⟩ := h
  exact ⟨h1, h2, h3, h4.stp hs hx, h5, ⟨v3, h8, h9.stp hs hx⟩⟩
end

/-- The cells of what waits. -/
def OutsC (L : Lab) (w : World) : List OutD → List Value → Prop
  | [], xs => xs = []
  | o :: os, xs => ∃ v r, xs = .int .i64 o.adr :: .int .i64 o.kind :: v :: r ∧ ByV L w v o.b ∧ OutsC L w os r
/-- Bytes under numbers: a ring's cells. -/
def RingC (L : Lab) (w : World) : List (Int × List UInt8) → List Value → Prop
  | [], xs => xs = []
  | o :: os, xs => ∃ v r, xs = .int .u16 o.1 :: v :: r ∧ ByV L w v o.2 ∧ RingC L w os r
section
variable {X : Comp → Prop} {L L' : Lab} {w w' : World}
theorem OutsC.stp (hs : Stp X L L' w w') (hx : ¬ X .other) : ∀ (os : List OutD) (xs : List Value), OutsC L w os xs → OutsC L' w' os xs
  | [], _, h => h
  | o :: os, _, ⟨v, r, e, h3, h4⟩ => ⟨v, r, e, h3.stp hs hx, OutsC.stp hs hx os r h4⟩
theorem OutsC.len : ∀ (os : List OutD) (xs : List Value), OutsC L w os xs → xs.length = os.length * 3
  | [], _, h => by rw [h]; rfl
  | o :: os, _, ⟨v, r, e, _, h⟩ => by have := OutsC.len os r h; rw [e]; simp only [List.length_cons]; omega
theorem OutsC.append : ∀ (os : List OutD) (xs : List Value), OutsC L w os xs → ∀ (os2 : List OutD) (xs2 : List Value), OutsC L w os2 xs2 → OutsC L w (os ++ os2) (xs ++ xs2)
  | [], _, h, _, _, h2 => by rw [h]; exact h2
  | o :: os, _, ⟨v, r, e, h3, h⟩, os2, xs2, h4 => ⟨v, r ++ xs2, by rw [e]; rfl, h3, OutsC.append os r h os2 xs2 h4⟩
theorem OutsC.one : ∀ (os : List OutD) (xs : List Value), OutsC L w os xs → ∀ u ∈ xs, u.oneCell' = true
  | [], _, h => by rw [h]; intro u hu; cases hu
  | o :: os, _, ⟨v, r, e, ⟨⟨A, c, h3, _⟩, _⟩, h4⟩ => by
    rw [e]
    intro u hu
    simp only [List.mem_cons] at hu
    rcases hu with rfl | rfl | rfl | hu
    · rfl
    · rfl
    · rw [h3]; rfl
    · exact OutsC.one os r h4 u hu
theorem RingC.stp (hs : Stp X L L' w w') (hx : ¬ X .other) : ∀ (os : List (Int × List UInt8)) (xs : List Value), RingC L w os xs → RingC L' w' os xs
  | [], _, h => h
  | o :: os, _, ⟨v, r, e, h3, h4⟩ => ⟨v, r, e, h3.stp hs hx, RingC.stp hs hx os r h4⟩
end

/-- A post: its block, its row, what waits. -/
structure PostM (L : Lab) (w : World) (a p : Nat) (l : List OutD) : Prop where
  lab : L p = .post a
  mem : ∃ v xs, Blk w p 153 #[.int .i64 32, v] ∧ Row w 44 3 v l.length xs ∧ (∀ g, v.ownBlock = some g → L g = .post a) ∧ OutsC L w l xs
/-- The counters. -/
structure CountsM (L : Lab) (w : World) (p : Nat) (l : List Int) : Prop where
  lab : L p = .counts
  mem : ∃ q, Blk w p 151 #[.slice (some ⟨q, 0, none⟩) 11 11] ∧ L q = .counts ∧ Blk w q 213 (l.map (Value.int .i64)).toArray ∧ l.length = 11
def turnL (t : TurnD) : List Value := [.bool t.any, .int .u16 t.seq, .int .u32 t.ts, .int .u32 t.dts, .int .u16 t.frame, .int .u16 t.dframe, .int .i64 t.at_]
/-- A lane: its block, its ring. -/
structure LaneM (L : Lab) (w : World) (i t2 fr p : Nat) (l : LaneD) : Prop where
  lab : L p = .lane i t2 fr
  mem : ∃ vr q vg xs, Blk w p 292 (([.int .u32 l.ssrc, .int .i64 l.sp, .int .i64 l.tp, .bool l.cast.any, .int .i64 l.cast.now, .int .i64 l.cast.want] : List Value) ++ turnL l.turn ++ [vr, .pointer (some ⟨q, 0, none⟩), .bool l.broken]).toArray ∧
    NumV .u16 L w vr l.refs ∧ L q = .lane i t2 fr ∧ Blk w q 353 #[vg] ∧ Row w 351 2 vg l.ring.length xs ∧ (∀ g, vg.ownBlock = some g → L g = .lane i t2 fr) ∧ RingC L w l.ring xs
section
variable {X : Comp → Prop} {L L' : Lab} {w w' : World} {a i t2 fr p : Nat}
theorem PostM.stp {l : List OutD} (h : PostM L w a p l) (hs : Stp X L L' w w') (hx : ¬ X .other) (hp : ¬ X (.post a)) : PostM L' w' a p l := by
  obtain ⟨h0, v, xs, h1, h2, h3, h4⟩ := h
  refine ⟨(hs.old p h1.lt).trans h0, v, xs, hs.blk h1 (by rw [h0]; exact hp), h2.sv hs.sv (fun g hg => by rw [h3 g hg]; exact hp), fun g hg => (hs.old g (h2.lt hg)).trans (h3 g hg), OutsC.stp hs hx _ _ h4⟩
theorem CountsM.stp {l : List Int} (h : CountsM L w p l) (hs : Stp X L L' w w') (hp : ¬ X .counts) : CountsM L' w' p l := by
  obtain ⟨h0, q, h1, h2, h3, h4⟩ := h
  exact ⟨(hs.old p h1.lt).trans h0, q, hs.blk h1 (by rw [h0]; exact hp), (hs.old q h3.lt).trans h2, hs.blk h3 (by rw [h2]; exact hp), h4⟩
theorem LaneM.stp {l : LaneD} (h : LaneM L w i t2 fr p l) (hs : Stp X L L' w w') (hx : ¬ X .other) (hp : ¬ X (.lane i t2 fr)) : LaneM L' w' i t2 fr p l := by
  obtain ⟨h0, vr, q, vg, xs, h1, h2, h3, h4, h5, h6, h7⟩ := h
  refine ⟨(hs.old p h1.lt).trans h0, vr, q, vg, xs, hs.blk h1 (by rw [h0]; exact hp), h2.stp hs hx, (hs.old q h4.lt).trans h3, hs.blk h4 (by rw [h3]; exact hp), h5.sv hs.sv (fun g hg => by rw [h6 g hg]; exact hp), fun g hg => (hs.old g (h5.lt hg)).trans (h6 g hg), RingC.stp hs hx _ _ h7⟩
end

/-- Where posts and lanes lie. -/
structure Ptrs where
  post : Nat → Nat
  lane : Nat → Nat → Nat → Nat
  counts : Nat
/-- The cells of a desk. -/
structure DeskC (L : Lab) (w : World) (P : Ptrs) (C : List Value) (D : DeskD) : Prop where
  len : C.length = 1535
  halls : D.halls.length = 4
  posts : D.posts.length = 64
  wr : ∀ i, i < 4 → WR (D.hall i).r
  room : ∀ i, i < 4 → ∀ j, j < 39 → C[367 * i + j]? = (rL (D.hall i).r)[j]?
  strms : ∀ i, i < 4 → (D.hall i).strm.length = 24
  strm : ∀ i, i < 4 → ∀ s, s < 8 → ∀ j, j < 3 → StrmC L w (fun k => C[367 * i + 39 + 33 * s + 11 * j + k]?) ((D.hall i).str s j)
  laness : ∀ i, i < 4 → (D.hall i).lanes.length = 64
  lane : ∀ i, i < 4 → ∀ t2, t2 < 8 → ∀ fr, fr < 8 → match (D.hall i).lane t2 fr with
    | none => C[367 * i + 303 + 8 * t2 + fr]? = some (.pointer none)
    | some l => C[367 * i + 303 + 8 * t2 + fr]? = some (.pointer (some ⟨P.lane i t2 fr, 0, none⟩)) ∧ LaneM L w i t2 fr (P.lane i t2 fr) l
  now : C[1468]? = some (.int .i64 D.now)
  nowB : 0 ≤ D.now ∧ D.now < 2305843009213693952
  draws : ∃ v, C[1469]? = some v ∧ Row w 32 1 v D.draws.length (D.draws.map (Value.int .u32)) ∧ (∀ g, v.ownBlock = some g → L g = .draws)
  post : ∀ a, a < 64 → C[1470 + a]? = some (.pointer (some ⟨P.post a, 0, none⟩)) ∧ PostM L w a (P.post a) (D.post a)
  counts : C[1534]? = some (.pointer (some ⟨P.counts, 0, none⟩)) ∧ CountsM L w P.counts D.counts
  few : ∀ a, a < 64 → (D.post a).length ≤ 32
  tg : ∀ i, i < 4 → goodT (D.hall i).r.t = true
/-- A desk. -/
structure DeskM (L : Lab) (w : World) (g : Nat) (P : Ptrs) (D : DeskD) : Prop where
  lab : L g = .desk
  top : ∀ k, w.heap.size ≤ k → L k = .other
  mem : ∃ C, Blk w g 113 C.toArray ∧ DeskC L w P C D
theorem DeskC.stp {X : Comp → Prop} {L L' : Lab} {w w' : World} {P : Ptrs} {C : List Value} {D : DeskD} (h : DeskC L w P C D) (hs : Stp X L L' w w') (hx : ∀ c, c ≠ .temp → ¬ X c) : DeskC L' w' P C D where
  len := h.len
  halls := h.halls
  posts := h.posts
  wr := h.wr
  room := h.room
  strms := h.strms
  strm := fun i hi s hs' j hj => (h.strm i hi s hs' j hj).stp hs (hx _ (by simp))
  laness := h.laness
  lane := fun i hi t2 ht fr hf => by
    have h1 := h.lane i hi t2 ht fr hf
    cases hl : (D.hall i).lane t2 fr with
    | none => rw [hl] at h1; exact h1
    | some l => rw [hl] at h1; exact ⟨h1.1, h1.2.stp hs (hx _ (by simp)) (hx _ (by simp))⟩
  now := h.now
  nowB := h.nowB
  draws := by
    obtain ⟨v, h1, h2, h3⟩ := h.draws
    exact ⟨v, h1, h2.sv hs.sv (fun g hg => by rw [h3 g hg]; exact hx _ (by simp)), fun g hg => (hs.old g (h2.lt hg)).trans (h3 g hg)⟩
  post := fun a ha => ⟨(h.post a ha).1, (h.post a ha).2.stp hs (hx _ (by simp)) (hx _ (by simp))⟩
  counts := ⟨h.counts.1, h.counts.2.stp hs (hx _ (by simp))⟩
  few := h.few
  tg := h.tg
/-- A step that turns none of its parts leaves a desk as it is. -/
theorem DeskM.stp {X : Comp → Prop} {L L' : Lab} {w w' : World} {g : Nat} {P : Ptrs} {D : DeskD} (h : DeskM L w g P D) (hs : Stp X L L' w w') (hx : ∀ c, c ≠ .temp → ¬ X c) : DeskM L' w' g P D := by
  obtain ⟨h1, h2, C, h3, h4⟩ := h
  exact ⟨(hs.old g h3.lt).trans h1, hs.top, C, hs.blk h3 (by rw [h1]; exact hx _ (by simp)), h4.stp hs hx⟩
def noX : Comp → Prop := fun _ => False
def mutX : Comp → Prop := fun c => c ≠ .other ∧ c ≠ .temp
def tmpX : Comp → Prop := fun c => c = .temp
theorem DeskM.below {L : Lab} {w w' : World} {g : Nat} {P : Ptrs} {D : DeskD} (h : DeskM L w g P D) (hb : Below w.heap.size w w') : DeskM L w' g P D :=
  h.stp (X := noX) (Stp.below hb h.top) (fun _ _ h => h)
theorem DeskM.lt {L : Lab} {w : World} {g : Nat} {P : Ptrs} {D : DeskD} (h : DeskM L w g P D) : g < w.heap.size := by
  obtain ⟨_, _, C, h3, _⟩ := h
  exact h3.lt
end Go.Proofs.YtmkifedcanmjoaaGreat
/- cast.source, Good, runs, Lacks, Ask (contracts). Conditions: none. -/
set_option linter.unusedVariables false
set_option linter.unusedSimpArgs false
namespace Go.Proofs.YtmkifedcanmjoaaGreat
open Go.RowKit
attribute [local go_sem ↓] Go.wp_at_zero Go.wp_at_succ
def srcB (i : Int) : Bool := decide (0 ≤ i) && decide (i < 3)
def goodC (c : CastD) : Bool := srcB c.now && srcB c.want && (c.any || decide (c.now = 0))
def runsC (c : CastD) (i : Int) : Bool := c.any && decide (c.now = i)
def lacksC (c : CastD) : Int × Bool := if !goodC c || runsC c c.want then (0, false) else (c.want, true)
def askC (c : CastD) (i : Int) : CastD × Int := if !goodC c || !srcB i then (c, 1) else ({ c with want := i }, 0)
def castL (c : CastD) : List Value := [.bool c.any, .int .i64 c.now, .int .i64 c.want]
set_option maxRecDepth 100000 in
set_option maxHeartbeats 3200000 in
theorem csrc_c (a : Int) (w : World) :
    Calls Tryz.prog 206 #[.int .i64 a] w fun e w' => e = .returned (.bool (srcB a)) ∧ w' = w := by
  go_enter Tryz.func206, Tryz.ntmps206
  by_cases h1 : 0 ≤ a
  · by_cases h2 : a < 3
    · go_wp2_with fail
      go_ret
      refine ⟨?_, rfl⟩
      unfold srcB
      rw [decide_eq_true h1, decide_eq_true h2]
      rfl
    · go_wp2_with fail
      go_ret
      refine ⟨?_, rfl⟩
      unfold srcB
      rw [decide_eq_true h1, decide_eq_false (by omega)]
      rfl
  · go_wp2_with fail
    go_ret
    refine ⟨?_, rfl⟩
    unfold srcB
    rw [decide_eq_false (by omega)]
    rfl
set_option maxRecDepth 100000 in
set_option maxHeartbeats 3200000 in
theorem goodC_c (c : CastD) (w : World) :
    Calls Tryz.prog 205 #[.agg (castL c).toArray] w fun e w' => e = .returned (.bool (goodC c)) ∧ Below w.heap.size w w' := by
  obtain ⟨any, now, want⟩ := c
  show Calls _ _ #[.agg #[.bool any, .int .i64 now, .int .i64 want]] _ _
  obtain ⟨b1, h1⟩ : ∃ b, b = srcB now := ⟨_, rfl⟩
  obtain ⟨b2, h2⟩ : ∃ b, b = srcB want := ⟨_, rfl⟩
  have HC1 : Hid (∀ wx, Calls Tryz.prog 206 #[.int .i64 now] wx fun e w' => e = .returned (.bool b1) ∧ w' = wx) := fun wx => by rw [h1]; exact csrc_c _ _
  have HC2 : Hid (∀ wx, Calls Tryz.prog 206 #[.int .i64 want] wx fun e w' => e = .returned (.bool b2) ∧ w' = wx) := fun wx => by rw [h2]; exact csrc_c _ _
  have hres : goodC ⟨any, now, want⟩ = (b1 && b2 && (any || decide (now = 0))) := by rw [h1, h2]; rfl
  rw [hres]
  clear hres h1 h2
  go_enter Tryz.func205, Tryz.ntmps205
  go_upto_region 1 with fail
  go_wp2_with fail
  refine (HC1.out _).mono ?_
  rintro e0 w0 ⟨rfl, rfl⟩
  cases b1
  · go_wp2_with fail
    go_ret
    exact ⟨rfl, balloc (Below.refl _ _) _⟩
  · go_wp2_with fail
    refine (HC2.out _).mono ?_
    rintro e0 w0 ⟨rfl, rfl⟩
    cases b2
    · go_wp2_with fail
      go_ret
      exact ⟨rfl, balloc (Below.refl _ _) _⟩
    · cases any
      · by_cases h : now = 0
        · subst h
          go_wp2_with fail
          go_ret
          exact ⟨rfl, balloc (Below.refl _ _) _⟩
        · go_wp2_with fail
          go_ret
          exact ⟨by simp [h], balloc (Below.refl _ _) _⟩
      · go_wp2_with fail
        go_ret
        exact ⟨rfl, balloc (Below.refl _ _) _⟩
set_option maxRecDepth 100000 in
set_option maxHeartbeats 3200000 in
theorem runsC_c (c : CastD) (i : Int) (w : World) :
    Calls Tryz.prog 217 #[.agg (castL c).toArray, .int .i64 i] w fun e w' => e = .returned (.bool (runsC c i)) ∧ Below w.heap.size w w' := by
  obtain ⟨any, now, want⟩ := c
  show Calls _ _ #[.agg #[.bool any, .int .i64 now, .int .i64 want], _] _ _
  go_enter Tryz.func217, Tryz.ntmps217
  cases any
  · go_wp2_with fail
    go_ret
    exact ⟨rfl, balloc (Below.refl _ _) _⟩
  · by_cases h : now = i
    · subst h
      go_wp2_with fail
      go_ret
      exact ⟨by simp [runsC], balloc (Below.refl _ _) _⟩
    · go_wp2_with fail
      go_ret
      exact ⟨by simp [runsC, h], balloc (Below.refl _ _) _⟩
set_option maxRecDepth 100000 in
set_option maxHeartbeats 3200000 in
theorem lacksC_c (c : CastD) (w : World) :
    Calls Tryz.prog 204 #[.agg (castL c).toArray] w fun e w' => e = .returned (.tuple #[.int .i64 (lacksC c).1, .bool (lacksC c).2]) ∧ Below w.heap.size w w' := by
  obtain ⟨b1, h1⟩ : ∃ b, b = goodC c := ⟨_, rfl⟩
  obtain ⟨b2, h2⟩ : ∃ b, b = runsC c c.want := ⟨_, rfl⟩
  have HC1 : Hid (∀ wx, Calls Tryz.prog 205 #[.agg (castL c).toArray] wx fun e w' => e = .returned (.bool b1) ∧ Below wx.heap.size wx w') := fun wx => by rw [h1]; exact goodC_c _ _
  have HC2 : Hid (∀ wx, Calls Tryz.prog 217 #[.agg (castL c).toArray, .int .i64 c.want] wx fun e w' => e = .returned (.bool b2) ∧ Below wx.heap.size wx w') := fun wx => by rw [h2]; exact runsC_c _ _ _
  have hres : lacksC c = (if !b1 || b2 then (0, false) else (c.want, true)) := by rw [h1, h2]; rfl
  rw [hres]
  clear hres h1 h2
  obtain ⟨any, now, want⟩ := c
  change Hid (∀ wx, Calls _ _ #[.agg #[.bool any, .int .i64 now, .int .i64 want]] wx _) at HC1
  change Hid (∀ wx, Calls _ _ #[.agg #[.bool any, .int .i64 now, .int .i64 want], .int .i64 want] wx _) at HC2
  show Calls _ _ #[.agg #[.bool any, .int .i64 now, .int .i64 want]] _ _
  obtain ⟨g, hg⟩ : ∃ g, g = w.heap.size := ⟨_, rfl⟩
  obtain ⟨w1, hw1⟩ : ∃ w1, w1 = w.alloc (.cells #[.bool any, .int .i64 now, .int .i64 want] 287) := ⟨_, rfl⟩
  have HB1 : Hid (Blk w1 g 287 #[.bool any, .int .i64 now, .int .i64 want]) := by show Blk _ _ _ _; rw [hw1, hg]; exact Blk.newAt rfl _ _
  have HE1 : Hid (Below w.heap.size w w1) := by show Below _ _ _; rw [hw1]; exact balloc (Below.refl _ _) _
  go_enter Tryz.func204, Tryz.ntmps204
  go_upto_region 1 with fail
  rw [← hw1, ← hg]
  clear hw1 hg
  have q0 := HB1.out.cell 0
  have q1 := HB1.out.cell 1
  have q2 := HB1.out.cell 2
  go_wp2_with fail
  refine (HC1.out _).mono ?_
  rintro e0 w2 ⟨rfl, hb⟩
  clear q0 q1 q2
  have HB2 : Hid (Blk w2 g 287 #[.bool any, .int .i64 now, .int .i64 want]) := HB1.out.below hb
  have HE2 : Hid (Below w.heap.size w w2) := bcall HE1.out hb
  clear hb
  have q0 := HB2.out.cell 0
  have q1 := HB2.out.cell 1
  have q2 := HB2.out.cell 2
  cases b1
  · go_wp2_with fail
    go_ret2
    exact ⟨rfl, HE2.out⟩
  · go_wp2_with fail
    refine (HC2.out _).mono ?_
    rintro e0 w3 ⟨rfl, hb⟩
    clear q0 q1 q2
    have HB3 : Hid (Blk w3 g 287 #[.bool any, .int .i64 now, .int .i64 want]) := HB2.out.below hb
    have HE3 : Hid (Below w.heap.size w w3) := bcall HE2.out hb
    clear hb
    have q2 := HB3.out.cell 2
    cases b2
    · go_wp2_with fail
      go_ret2
      exact ⟨rfl, HE3.out⟩
    · go_wp2_with fail
      go_ret2
      exact ⟨rfl, HE3.out⟩
end Go.Proofs.YtmkifedcanmjoaaGreat
