/- Texts of this claim, one behind the other: SaidS, LaneW. Each says ahead of itself what it proves, and its conditions. -/
import Derived.Test.YtmkifedcanmjoaaGreatJq
import Derived.Test.YtmkifedcanmjoaaGreatJx
/- What a member says (show, want), what reports do, as plain data. No program in sight. -/
set_option linter.unusedVariables false
set_option linter.unusedSimpArgs false
namespace Go.Proofs.YtmkifedcanmjoaaGreat

/-- From whom the lane to a member comes that has an SSRC. -/
def laneIs (h : HallD) (t2 : Nat) (x : Int) (i : Nat) : Bool := match h.lane t2 i with | none => false | some l => l.ssrc == x
def laneFrom (h : HallD) (t2 : Nat) (x : Int) : Nat → Nat → Option Nat
  | 0, _ => none
  | f + 1, i => if laneIs h t2 x i then some i else laneFrom h t2 x f (i + 1)
def laneS (h : HallD) (t2 : Nat) (x : Int) : Option Nat := laneFrom h t2 x 8 0
/-- Which stream of a member has an SSRC. -/
def srcIs (h : HallD) (s : Nat) (x : Int) (j : Nat) : Bool := (h.str s j).shown && ((h.str s j).ssrc == x)
def srcFrom (h : HallD) (s : Nat) (x : Int) : Nat → Nat → Option Nat
  | 0, _ => none
  | f + 1, j => if srcIs h s x j then some j else srcFrom h s x f (j + 1)
def srcS (h : HallD) (s : Nat) (x : Int) : Option Nat := srcFrom h s x 3 0
def be4 (x : Nat) : List UInt8 := [UInt8.ofNat (x / 16777216), UInt8.ofNat (x / 65536), UInt8.ofNat (x / 256), UInt8.ofNat x]
def de4 (b : List UInt8) : Nat := (b.getD 0 0).toNat * 16777216 + (b.getD 1 0).toNat * 65536 + (b.getD 2 0).toNat * 256 + (b.getD 3 0).toNat
/-- A lost picture, as bytes. -/
def pliB (fr ab : Nat) : List UInt8 := [129, 206, 0, 2] ++ be4 fr ++ be4 ab
def keyFrameD (D : DeskD) (i fr j : Nat) (x : Int) : DeskD :=
  if ((D.hall i).str fr j).shown then tellD D (addrAt (D.hall i).r.t fr).toNat 1 (pliB x.toNat ((D.hall i).str fr j).ssrc.toNat) else D
def askedD (D : DeskD) (i t2 fr : Nat) : DeskD :=
  match (D.hall i).lane t2 fr with
  | none => D
  | some l => if (lacksC l.cast).2 then keyFrameD D i fr (lacksC l.cast).1.toNat l.ssrc else if l.cast.any then keyFrameD D i fr l.cast.now.toNat l.ssrc else D
def lacksD (D : DeskD) (i t2 fr : Nat) : DeskD :=
  match (D.hall i).lane t2 fr with
  | none => D
  | some l => if (lacksC l.cast).2 then askedD D i t2 fr else D
/-- The first draw that no lane to a member has. -/
def freeFrom (h : HallD) (t2 : Nat) : List Int → Nat → Option Nat
  | [], _ => none
  | x :: xs, k => if (laneS h t2 x).isSome then freeFrom h t2 xs (k + 1) else some k
def freeS (D : DeskD) (i t2 : Nat) : Option Nat := freeFrom (D.hall i) t2 D.draws 0
def lane0 (x : Int) : LaneD := ⟨x, 3, 7, ⟨false, 0, 0⟩, ⟨false, 0, 0, 0, 0, 0, 0⟩, [], [], false⟩
def limL (l : LaneD) (sp tp : Int) : LaneD := { l with sp := sp, tp := tp }
def showS (D : DeskD) (i s : Nat) (n : Nt.NoteD) : StrmD :=
  let o := (D.hall i).str s n.n.toNat
  let x : Int := de4 n.bs
  { (if o.shown && (o.ssrc == x) then o else { strm0 with shown := true, ssrc := x }) with rate := n.m }
def showD (D : DeskD) (i s : Nat) (n : Nt.NoteD) : DeskD × Int :=
  match srcS (D.hall i) s (de4 n.bs : Int) with
  | some j => if (j : Int) = n.n then (D.setStrm i s n.n.toNat (showS D i s n), 0) else (D, 7)
  | none => (D.setStrm i s n.n.toNat (showS D i s n), 0)
/-- A lane is limited, and asks for what it lacks. -/
def limD (D : DeskD) (i s sl : Nat) (l : LaneD) (n m : Int) : DeskD := lacksD (D.setLane i s sl (some (limL l n m))) i s sl
def newD (D : DeskD) (i s sl k : Nat) : DeskD :=
  let x := D.draws.getD k 0
  sayD (({ D with draws := D.draws.eraseIdx k } : DeskD).setLane i s sl (some (lane0 x))) (addrAt (D.hall i).r.t s).toNat ⟨24, 0, sl, 0, 0, 0, be4 x.toNat⟩
def wantD (D : DeskD) (i s : Nat) (n : Nt.NoteD) : DeskD × Int :=
  if !usedAt (D.hall i).r.t n.slot.toNat then (D, 6)
  else if n.slot = s then (D, 1)
  else match (D.hall i).lane s n.slot.toNat with
    | some l => (limD D i s n.slot.toNat l n.n n.m, 0)
    | none => match freeS D i s with
      | none => (D, 5)
      | some k => (limD (newD D i s n.slot.toNat k) i s n.slot.toNat (lane0 (D.draws.getD k 0)) n.n n.m, 0)
def saidD (D : DeskD) (i s : Nat) (n : Nt.NoteD) : DeskD × Int := if n.kind = 4 then showD D i s n else if n.kind = 5 then wantD D i s n else (D, 0)
/-- The rates of a member's streams; of one that is not shown, less than nothing. -/
def rateOf (s : StrmD) : Int := if s.shown then s.rate else -1
def ratesS (h : HallD) (fr : Nat) : List Int := [rateOf (h.str fr 0), rateOf (h.str fr 1), rateOf (h.str fr 2)]
/-- The greatest place whose rate fits: best, least so far. -/
def pickFrom (q : Int) : List Int → Int → Int → Int → Int × Int
  | [], _, b, l => (b, l)
  | r :: rs, k, b, l => if r < 0 then pickFrom q rs (k + 1) b l else pickFrom q rs (k + 1) (if r ≤ q then k else b) (if l < 0 then k else l)
def pickS (rate : Nat) (rs : List Int) : Int :=
  let p := pickFrom ((rate / 10000 : Nat) : Int) rs 0 (-1) (-1)
  max (max p.1 p.2) 0
def roomD (D : DeskD) (i s : Nat) (x : Int) (rate : Nat) : DeskD :=
  match laneS (D.hall i) s x with
  | none => D.count 4
  | some fr => match (D.hall i).lane s fr with
    | none => D
    | some l => lacksD (D.setLane i s fr (some { l with cast := (askC l.cast (pickS rate (ratesS (D.hall i) fr))).1 })) i s fr

structure WS (s : StrmD) : Prop where
  lo : 0 ≤ s.ssrc
  hi : s.ssrc < 4294967296
  rlo : -9223372036854775808 ≤ s.rate
  rhi : s.rate ≤ 9223372036854775807
structure WL (l : LaneD) : Prop where
  lo : 0 ≤ l.ssrc
  hi : l.ssrc < 4294967296
  good : goodC l.cast = true
/-- Numbers that fit. -/
structure Wd (D : DeskD) : Prop where
  strm : ∀ i, i < 4 → ∀ s, s < 8 → ∀ j, j < 3 → WS ((D.hall i).str s j)
  lane : ∀ i, i < 4 → ∀ a, a < 8 → ∀ b, b < 8 → ∀ l, (D.hall i).lane a b = some l → WL l
  draws : ∀ x ∈ D.draws, 0 ≤ x ∧ x < 4294967296
theorem WS.zero : WS strm0 := ⟨by decide, by decide, by decide, by decide⟩
theorem WL.new {x : Int} (h0 : 0 ≤ x) (h1 : x < 4294967296) : WL (lane0 x) := ⟨h0, h1, rfl⟩
theorem lacks_src {c : CastD} (h : (lacksC c).2 = true) : 0 ≤ (lacksC c).1 ∧ (lacksC c).1 < 3 ∧ goodC c = true := by
  unfold lacksC at h ⊢
  split
  · rename_i hc; rw [if_pos hc] at h; cases h
  · rename_i hc
    have hg : goodC c = true := by cases hg : goodC c <;> simp_all
    unfold goodC srcB at hg
    simp only [Bool.and_eq_true, decide_eq_true_eq] at hg
    exact ⟨hg.1.2.1, hg.1.2.2, by unfold goodC srcB; simp [hg]⟩
theorem good_now {c : CastD} (h : goodC c = true) : 0 ≤ c.now ∧ c.now < 3 := by
  unfold goodC srcB at h
  simp only [Bool.and_eq_true, decide_eq_true_eq] at h
  exact h.1.1
theorem laneFrom_some {h : HallD} {t2 : Nat} {x : Int} : ∀ (f i : Nat) {k : Nat}, laneFrom h t2 x f i = some k → i ≤ k ∧ k < i + f ∧ laneIs h t2 x k = true
  | 0, _, _, e => by cases e
  | f + 1, i, k, e => by
    unfold laneFrom at e
    split at e
    · injection e with e; subst e; exact ⟨by omega, by omega, by assumption⟩
    · have := laneFrom_some f (i + 1) e; exact ⟨by omega, by omega, this.2.2⟩
theorem laneS_some {h : HallD} {t2 : Nat} {x : Int} {k : Nat} (e : laneS h t2 x = some k) : k < 8 ∧ ∃ l, h.lane t2 k = some l ∧ l.ssrc = x := by
  have h1 := laneFrom_some 8 0 e
  refine ⟨by omega, ?_⟩
  have h2 := h1.2.2
  unfold laneIs at h2
  split at h2
  · cases h2
  · rename_i l hl; exact ⟨l, hl, by simpa using h2⟩
theorem srcFrom_some {h : HallD} {s : Nat} {x : Int} : ∀ (f i : Nat) {k : Nat}, srcFrom h s x f i = some k → i ≤ k ∧ k < i + f
  | 0, _, _, e => by cases e
  | f + 1, i, k, e => by
    unfold srcFrom at e
    split at e
    · injection e with e; subst e; exact ⟨by omega, by omega⟩
    · have := srcFrom_some f (i + 1) e; exact ⟨by omega, by omega⟩
theorem freeFrom_some {h : HallD} {t2 : Nat} : ∀ (l : List Int) (i : Nat) {k : Nat}, freeFrom h t2 l i = some k → i ≤ k ∧ k < i + l.length
  | [], _, _, e => by cases e
  | x :: xs, i, k, e => by
    unfold freeFrom at e
    split at e
    · have := freeFrom_some xs (i + 1) e; rw [List.length_cons]; exact ⟨by omega, by omega⟩
    · injection e with e; subst e; rw [List.length_cons]; exact ⟨by omega, by omega⟩
end Go.Proofs.YtmkifedcanmjoaaGreat
/- lane.SSRC, Lacks, Runs, Limit, Ask, New, ring.New (contracts); a lane in memory that turns. Conditions: as each says. -/
set_option linter.unusedVariables false
set_option linter.unusedSimpArgs false
namespace Go.Proofs.YtmkifedcanmjoaaGreat
open Go.RowKit
attribute [local go_sem ↓] Go.wp_at_zero Go.wp_at_succ
def laneL (l : LaneD) (vr : Value) (q : Nat) : List Value := ([.int .u32 l.ssrc, .int .i64 l.sp, .int .i64 l.tp, .bool l.cast.any, .int .i64 l.cast.now, .int .i64 l.cast.want] : List Value) ++ turnL l.turn ++ [vr, .pointer (some ⟨q, 0, none⟩), .bool l.broken]
section
variable {L : Lab} {w w' : World} {i t2 fr p : Nat} {l : LaneD}
/-- A lane's block, and what is a lane where only this block has turned. -/
theorem LaneM.open_ (h : LaneM L w i t2 fr p l) (ht : ∀ k, w.heap.size ≤ k → L k = .other) : ∃ vr q, vr.oneCell' = true ∧ Blk w p 292 (laneL l vr q).toArray ∧ ∀ (w' : World) (l' : LaneD), l'.refs = l.refs → l'.ring = l.ring → Sv (fun k => k = p) w w' → Blk w' p 292 (laneL l' vr q).toArray → LaneM L w' i t2 fr p l' := by
  obtain ⟨h0, vr, q, vg, xs, h1, h2, h3, h4, h5, h6, h7⟩ := h
  refine ⟨vr, q, ?_, h1, fun w' l' e1 e2 hs hb => ⟨h0, vr, q, vg, xs, hb, ?_, h3, ?_, ?_, ?_, ?_⟩⟩
  · obtain ⟨⟨A, c, rfl, _⟩, _⟩ := h2
    rfl
  · have hst : Stp (fun c => c = .lane i t2 fr) L L w w' := ⟨hs.mono fun k _ hk => by rw [hk]; exact h0, fun _ _ => rfl, fun k hk => ht k (Nat.le_trans hs.size hk)⟩
    rw [e1]
    exact h2.stp hst (by simp)
  · exact (hs.block q h4.lt (fun e => by subst e; rw [show Blk w q _ _ = (_ = _) from rfl] at h4 h1; rw [h1] at h4; injection h4 with h4; injection h4 with _ h4 _; revert h4; decide)).trans h4
  · rw [e2]
    refine h5.keep fun k hk => hs.block k (h5.lt hk) fun e => ?_
    subst e
    obtain ⟨cs, hcs⟩ := h5.blk hk
    rw [show Blk w k _ _ = (_ = _) from rfl] at hcs h1
    rw [h1] at hcs
    injection hcs with hcs
    injection hcs with _ hcs _
    revert hcs
    decide
  · exact h6
  · have hst : Stp (fun c => c = .lane i t2 fr) L L w w' := ⟨hs.mono fun k _ hk => by rw [hk]; exact h0, fun _ _ => rfl, fun k hk => ht k (Nat.le_trans hs.size hk)⟩
    rw [e2]
    exact RingC.stp hst (by simp) _ _ h7
end
set_option maxRecDepth 100000 in
set_option maxHeartbeats 3200000 in
theorem ssrc_c {L : Lab} {w : World} {i t2 fr p : Nat} {l : LaneD} (h : LaneM L w i t2 fr p l) :
    Calls Tryz.prog 104 #[.pointer (some ⟨p, 0, none⟩)] w fun e w' => e = .returned (.int .u32 l.ssrc) ∧ w' = w := by
  obtain ⟨h0, vr, q, vg, xs, h1, _⟩ := h
  have k0 : w.cell? ⟨p, 0, none⟩ = some (.int .u32 l.ssrc) := h1.cell 0
  obtain ⟨x, hx⟩ : ∃ x, x = l.ssrc := ⟨_, rfl⟩
  rw [← hx] at k0 ⊢
  clear h0 h1 hx
  go_enter Tryz.func104, Tryz.ntmps104
  go_wp2_with fail
  go_ret
  exact ⟨rfl, rfl⟩
set_option maxRecDepth 100000 in
set_option maxHeartbeats 3200000 in
theorem llacks_c {L : Lab} {w : World} {i t2 fr p : Nat} {l : LaneD} (h : LaneM L w i t2 fr p l) :
    Calls Tryz.prog 165 #[.pointer (some ⟨p, 0, none⟩)] w fun e w' => e = .returned (.tuple #[.int .i64 (lacksC l.cast).1, .bool (lacksC l.cast).2]) ∧ Below w.heap.size w w' := by
  obtain ⟨h0, vr, q, vg, xs, h1, _⟩ := h
  obtain ⟨T, hT⟩ : ∃ T, T = castL l.cast := ⟨_, rfl⟩
  have HTF : Hid (FitL 287 T) := by show FitL _ _; rw [hT]; exact fitC _
  have HRG : Hid (w.rangeAt p 3 T) := blk_mid h1 3 T fun j v hv => by
    rw [hT] at hv
    rcases j with _ | _ | _ | j
    · exact hv
    · exact hv
    · exact hv
    · simp [castL] at hv
  have HLC := Lib.hid (lacksC_c l.cast w)
  obtain ⟨x, hx⟩ : ∃ x, x = lacksC l.cast := ⟨_, rfl⟩
  rw [← hx] at HLC ⊢
  rw [← hT] at HLC
  clear h0 h1 hx hT
  go_enter Tryz.func165, Tryz.ntmps165
  go_wp2_with (first
    | ((with_reducible show wpList _ _ _ (⟨some 7, .load _ (.tmp 6), _, _, _, _⟩ :: _) _ _); refine wpList_load_mid rfl 287 (.tmp 6) rfl p 3 rfl T _ HRG.out Tryz.underlying287 rfl HTF.out.info ?_))
  refine HLC.out.mono ?_
  rintro e0 w1 ⟨rfl, hb⟩
  have HB := Lib.hid hb
  clear hb
  go_wp2_with fail
  go_ret2
  exact ⟨rfl, HB.out⟩
set_option maxRecDepth 100000 in
set_option maxHeartbeats 3200000 in
theorem lruns_c {L : Lab} {w : World} {i t2 fr p : Nat} {l : LaneD} (h : LaneM L w i t2 fr p l) :
    Calls Tryz.prog 166 #[.pointer (some ⟨p, 0, none⟩)] w fun e w' => e = .returned (.tuple #[.int .i64 l.cast.now, .bool l.cast.any]) ∧ Below w.heap.size w w' := by
  obtain ⟨h0, vr, q, vg, xs, h1, _⟩ := h
  have k3 : w.cell? ⟨p, 3, none⟩ = some (.bool l.cast.any) := h1.cell 3
  have k4 : w.cell? ⟨p, 4, none⟩ = some (.int .i64 l.cast.now) := h1.cell 4
  obtain ⟨x, hx⟩ : ∃ x, x = l.cast.any := ⟨_, rfl⟩
  obtain ⟨y, hy⟩ : ∃ y, y = l.cast.now := ⟨_, rfl⟩
  rw [← hx] at k3 ⊢
  rw [← hy] at k4 ⊢
  clear h0 h1 hx hy
  go_enter Tryz.func166, Tryz.ntmps166
  go_upto_region 1 with fail
  go_quiet (fail)
  go_wp2_with fail
  go_ret2
  exact ⟨rfl, by first | exact Below.refl _ _ | exact bdrew (Below.refl _ _) | exact below_drewN (Below.refl _ _) _⟩
set_option maxRecDepth 100000 in
set_option maxHeartbeats 3200000 in
/-- Limits that may be. -/
theorem limit_c {w : World} {p q : Nat} {l : LaneD} {vr : Value} (h1 : Blk w p 292 (laneL l vr q).toArray) (sp tp : Int) (hs0 : 0 ≤ sp) (hs : sp ≤ 3) (ht0 : 0 ≤ tp) (ht : tp ≤ 7) :
    Calls Tryz.prog 161 #[.pointer (some ⟨p, 0, none⟩), .int .i64 sp, .int .i64 tp] w fun e w' => e = .returned (.int .i64 0) ∧ Sv (fun k => k = p) w w' ∧ w'.heap.size = w.heap.size ∧ Blk w' p 292 (laneL (limL l sp tp) vr q).toArray := by
  have k1 : w.cell? ⟨p, 1, none⟩ = some (.int .i64 l.sp) := h1.cell 1
  have k2 : w.cell? ⟨p, 2, none⟩ = some (.int .i64 l.tp) := h1.cell 2
  have f1 := h1.frozen 1
  have f2 := h1.frozen 2
  have HB := Lib.hid h1
  obtain ⟨x, hx⟩ : ∃ x, x = l.sp := ⟨_, rfl⟩
  obtain ⟨y, hy⟩ : ∃ y, y = l.tp := ⟨_, rfl⟩
  rw [← hx] at k1
  rw [← hy] at k2
  have a1 : ¬ sp < 0 := by omega
  have a2 : ¬ 3 < sp := by omega
  have a3 : ¬ tp < 0 := by omega
  have a4 : ¬ 7 < tp := by omega
  clear h1 hx hy hs0 hs ht0 ht
  go_enter Tryz.func161, Tryz.ntmps161
  go_wp2_with fail
  go_ret
  refine ⟨rfl, ((Sv.refl (fun k => k = p) w).set (p := ⟨p, 1, none⟩) (.inl rfl) _).set (p := ⟨p, 2, none⟩) (.inl rfl) _, by rw [World.size_setCell, World.size_setCell], ?_⟩
  exact (HB.out.set_ 1 _).set_ 2 _
set_option maxRecDepth 100000 in
set_option maxHeartbeats 3200000 in
theorem ringNew_c (w : World) : Calls Tryz.prog 203 #[] w fun e w' => e = .returned (.pointer (some ⟨w.heap.size, 0, none⟩)) ∧ w' = w.alloc (.cells #[.slice none 0 0] 353) := by
  go_enter Tryz.func203, Tryz.ntmps203
  go_wp2_with fail
  go_ret
  exact ⟨rfl, rfl⟩
set_option maxRecDepth 100000 in
set_option maxHeartbeats 3200000 in
theorem laneNew_c (x : Int) (w : World) : Calls Tryz.prog 160 #[.int .u32 x] w fun e w' => e = .returned (.pointer (some ⟨w.heap.size + 1, 0, none⟩)) ∧ Below w.heap.size w w' ∧ w'.heap.size = w.heap.size + 2 ∧ Blk w' w.heap.size 353 #[.slice none 0 0] ∧ Blk w' (w.heap.size + 1) 292 (laneL (lane0 x) (.slice none 0 0) w.heap.size).toArray := by
  go_enter Tryz.func160, Tryz.ntmps160
  go_wp2_with fail
  refine (ringNew_c w).mono ?_
  rintro e0 w1 ⟨rfl, rfl⟩
  go_wp2_with fail
  go_ret
  obtain ⟨h1, h2, h3⟩ := two_blks w 353 292 #[.slice none 0 0] (laneL (lane0 x) (.slice none 0 0) w.heap.size).toArray
  refine ⟨by simp, h3, by simp, h1, h2⟩
set_option maxRecDepth 100000 in
set_option maxHeartbeats 6400000 in
theorem lask_c {w : World} {p q : Nat} {l : LaneD} {vr : Value} (h1 : Blk w p 292 (laneL l vr q).toArray) (i : Int) :
    Calls Tryz.prog 122 #[.pointer (some ⟨p, 0, none⟩), .int .i64 i] w fun e w' => e = .returned (.int .i64 (askC l.cast i).2) ∧ Sv (fun k => k = p) w w' ∧ Blk w' p 292 (laneL { l with cast := (askC l.cast i).1 } vr q).toArray := by
  obtain ⟨T, hT⟩ : ∃ T, T = castL l.cast := ⟨_, rfl⟩
  obtain ⟨U, hU⟩ : ∃ U, U = castL (askC l.cast i).1 := ⟨_, rfl⟩
  have HTF : Hid (FitL 287 T) := by show FitL _ _; rw [hT]; exact fitC _
  have HUF : Hid (FitL 287 U) := by show FitL _ _; rw [hU]; exact fitC _
  have HUL : Hid (U.length = 3) := by show _ = _; rw [hU]; rfl
  obtain ⟨A, hA⟩ : ∃ A : List Value, A = [.int .u32 l.ssrc, .int .i64 l.sp, .int .i64 l.tp] := ⟨_, rfl⟩
  obtain ⟨Z, hZ⟩ : ∃ Z : List Value, Z = turnL l.turn ++ [vr, .pointer (some ⟨q, 0, none⟩), .bool l.broken] := ⟨_, rfl⟩
  have e1 : laneL l vr q = A ++ T ++ Z := by rw [hA, hT, hZ]; rfl
  have e2 : laneL { l with cast := (askC l.cast i).1 } vr q = A ++ U ++ Z := by rw [hA, hU, hZ]; rfl
  have hTL : T.length = 3 := by rw [hT]; rfl
  have HAL : Hid (A.length = 3) := by show _ = _; rw [hA]; rfl
  rw [e1] at h1
  rw [e2]
  have HBP := Lib.hid h1
  have HTL := Lib.hid hTL
  have HAC := Lib.hid (askC_c l.cast i w)
  obtain ⟨er, her⟩ : ∃ er, er = (askC l.cast i).2 := ⟨_, rfl⟩
  rw [← her] at HAC ⊢
  rw [← hT, ← hU] at HAC
  clear h1 hT hU hA hZ e1 e2 hTL her
  have HRG : Hid (w.rangeAt p 3 T) := blk_part HBP.out HAL.out
  go_enter Tryz.func122, Tryz.ntmps122
  go_wp2_with (first
    | ((with_reducible show wpList _ _ _ (⟨some 11, .load _ (.tmp 10), _, _, _, _⟩ :: _) _ _); refine wpList_load_mid rfl 287 (.tmp 10) rfl p 3 rfl T _ HRG.out Tryz.underlying287 rfl HTF.out.info ?_))
  refine HAC.out.mono ?_
  rintro e0 w1 ⟨rfl, hb⟩
  have HB1 := Lib.hid hb
  have HP1 : Hid (Blk w1 p 292 (A ++ T ++ Z).toArray) := HBP.out.below hb
  clear hb HRG HAC
  go_upto_region 2 with (first
    | ((with_reducible show wpList _ _ _ (⟨none, .store _ (.tmp 5) _, _, _, _, _⟩ :: _) _ _); refine wpList_store_mid rfl 287 (.tmp 5) (.tmp 14) rfl w1.heap.size 0 U.toArray rfl rfl (there_new w1 287 #[.bool false, .int .i64 0, .int .i64 0] _ (by show U.length ≤ 3; rw [HUL.out]; exact Nat.le_refl _)) HUF.out.infos HUF.out.one ?_))
  obtain ⟨b, hb⟩ : ∃ b, b = w1.heap.size := ⟨_, rfl⟩
  obtain ⟨w2, hw2⟩ : ∃ w2, w2 = (w1.alloc (.cells #[.bool false, .int .i64 0, .int .i64 0] 287)).setCells w1.heap.size 0 U := ⟨_, rfl⟩
  have hpb : p ≠ w1.heap.size := fun e => by have := HP1.out.lt; omega
  have HP2 : Hid (Blk w2 p 292 (A ++ T ++ Z).toArray) := by show Blk _ _ _ _; rw [hw2]; exact blk_farS (HP1.out.alloc _) hpb _ _
  have HX2 : Hid (Blk w2 b 287 U.toArray) := by
    show Blk _ _ _ _
    rw [hw2, hb]
    exact blk_setAll (l := [.bool false, .int .i64 0, .int .i64 0]) (Blk.new w1 _ _) (by rw [HUL.out]; rfl)
  have HB2 : Hid (Below w.heap.size w w2) := by show Below _ _ _; rw [hw2]; exact below_setCells (balloc HB1.out _) HB1.out.size _ _
  rw [← hw2, ← hb]
  clear hw2 hb hpb HP1 HB1
  have HRU : Hid (w2.rangeAt b 0 U) := blk_range HX2.out
  have HTH : Hid (w2.there p 3 U.toArray.size) := blk_there HP2.out 3 _ (by show 3 + U.length ≤ _; simp only [List.length_append, HAL.out, HTL.out, HUL.out]; omega)
  go_wp2_with (first
    | ((with_reducible show wpList _ _ _ (⟨some 17, .load _ (.tmp 5), _, _, _, _⟩ :: _) _ _); refine wpList_load_mid rfl 287 (.tmp 5) rfl b 0 rfl U _ HRU.out Tryz.underlying287 rfl HUF.out.info ?_)
    | ((with_reducible show wpList _ _ _ (⟨none, .store _ (.tmp 19) _, _, _, _, _⟩ :: _) _ _); refine wpList_store_mid rfl 287 (.tmp 19) (.tmp 17) rfl p 3 U.toArray rfl rfl HTH.out HUF.out.infos HUF.out.one ?_))
  go_ret
  refine ⟨rfl, ?_, blk_setPart HP2.out (by rw [HUL.out, HTL.out]) HAL.out⟩
  exact Sv.setCells (M := fun k => k = p) (Sv.of_below HB2.out) (.inl rfl) _ _
section
variable {L : Lab} {w w' : World} {g : Nat} {P : Ptrs} {D : DeskD} {i t2 fr : Nat}
def laneX (i t2 fr : Nat) : Comp → Prop := fun c => c = .desk ∨ c = .lane i t2 fr
theorem laneX_mut {i t2 fr : Nat} : ∀ c, laneX i t2 fr c → mutX c := fun c h => by
  rcases h with rfl | rfl <;> exact ⟨by simp, by simp⟩
theorem DeskM.lane_ (h : DeskM L w g P D) (hi : i < 4) (ht : t2 < 8) (hf : fr < 8) {l : LaneD} (hl : (D.hall i).lane t2 fr = some l) : w.cell? ⟨g, 367 * i + 303 + 8 * t2 + fr, none⟩ = some (.pointer (some ⟨P.lane i t2 fr, 0, none⟩)) ∧ LaneM L w i t2 fr (P.lane i t2 fr) l := by
  obtain ⟨h1, h2, C, h3, h4⟩ := h
  have := h4.lane i hi t2 ht fr hf
  rw [hl] at this
  rw [h3.cell, List.getElem?_toArray]
  exact this
theorem DeskM.noLane_ (h : DeskM L w g P D) (hi : i < 4) (ht : t2 < 8) (hf : fr < 8) (hl : (D.hall i).lane t2 fr = none) : w.cell? ⟨g, 367 * i + 303 + 8 * t2 + fr, none⟩ = some (.pointer none) := by
  obtain ⟨h1, h2, C, h3, h4⟩ := h
  have := h4.lane i hi t2 ht fr hf
  rw [hl] at this
  rw [h3.cell, List.getElem?_toArray]
  exact this
/-- A lane has turned, in its own block alone. -/
theorem DeskM.turnLane (h : DeskM L w g P D) (hi : i < 4) (ht : t2 < 8) (hf : fr < 8) {l l' : LaneD} (hl : (D.hall i).lane t2 fr = some l) (hs : Sv (fun k => k = P.lane i t2 fr) w w') (hm : LaneM L w' i t2 fr (P.lane i t2 fr) l') :
    DeskM L w' g (P.setLane i t2 fr (P.lane i t2 fr)) (D.setLane i t2 fr (some l')) ∧ Stp (laneX i t2 fr) L L w w' := by
  have h0 := h.lane_ hi ht hf hl
  have hne : g ≠ P.lane i t2 fr := fun e => by have h1 := h.lab; rw [e, h0.2.lab] at h1; cases h1
  have hst : Stp (laneX i t2 fr) L L w w' := ⟨hs.mono fun k _ hk => .inr (by rw [hk]; exact h0.2.lab), fun _ _ => rfl, fun k hk => h.top k (Nat.le_trans hs.size hk)⟩
  refine ⟨?_, hst⟩
  obtain ⟨h1, h2, C, h3, h4⟩ := h
  have hc := h0.1
  rw [h3.cell, List.getElem?_toArray] at hc
  have hd := h4.putLane hi ht hf hst (some l') (P.lane i t2 fr) _ ⟨rfl, hm⟩
  have hset : C.set (367 * i + 303 + 8 * t2 + fr) (.pointer (some ⟨P.lane i t2 fr, 0, none⟩)) = C := by
    apply List.ext_getElem?
    intro k
    rw [List.getElem?_set]
    split
    · rename_i e; subst e
      rw [if_pos (by have := h4.len; omega), hc]
    · rfl
  rw [hset] at hd
  exact ⟨h1, hst.top, C, (hs.block g h3.lt hne).trans h3, hd⟩
end
end Go.Proofs.YtmkifedcanmjoaaGreat
