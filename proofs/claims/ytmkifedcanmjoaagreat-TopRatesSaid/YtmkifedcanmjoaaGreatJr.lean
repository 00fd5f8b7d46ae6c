/- Texts of this claim, one behind the other: Dw, DNew0, PostA, Count, Dput, Tell. Each says ahead of itself what it proves, and its conditions. -/
import Derived.Test.YtmkifedcanmjoaaGreatJp
import Derived.Test.YtmkifedcanmjoaaGreatJq
import Derived.Test.YtmkifedcanmjoaaGreatJe
import Derived.OwnWalk
import Derived.Laws.LoneSync
/- What a call of the desk has made beside a desk, known whole. Conditions: none. -/
set_option linter.unusedVariables false
set_option linter.unusedSimpArgs false
namespace Go.Proofs.YtmkifedcanmjoaaGreat
open Go.RowKit
/-- The world behind some steps of a call: only X has turned, a desk, the call's own blocks. -/
structure DW (X : Comp → Prop) (w0 : World) (L0 : Lab) (w : World) (L : Lab) (g : Nat) (P : Ptrs) (D : DeskD) (bs : List Bk) : Prop where
  stp : Stp X L0 L w0 w
  dm : DeskM L w g P D
  ms : Ms w0.heap.size w bs
  tmp : ∀ b ∈ bs, L b.1 = .temp
def tempAt (L : Lab) (k : Nat) : Lab := fun j => if j = k then .temp else L j
section
variable {X : Comp → Prop} {w0 w w' : World} {L0 L L' : Lab} {g : Nat} {P P' : Ptrs} {D D' : DeskD} {bs : List Bk}
theorem DW.start (X : Comp → Prop) (h : DeskM L w g P D) : DW X w L w L g P D [] := ⟨⟨Sv.refl _ _, fun _ _ => rfl, h.top⟩, h, trivial, fun _ h => by cases h⟩
theorem DW.top (h : DW X w0 L0 w L g P D bs) : ∀ k, w.heap.size ≤ k → L k = .other := h.dm.top
theorem DW.size (h : DW X w0 L0 w L g P D bs) : w0.heap.size ≤ w.heap.size := h.stp.size
theorem Stp.thenBelow (h : Stp X L0 L w0 w) (hb : Below w.heap.size w w') : Stp X L0 L w0 w' := h.trans (Stp.below hb h.top)
theorem DW.call (h : DW X w0 L0 w L g P D bs) (hb : Below w.heap.size w w') : DW X w0 L0 w' L g P D bs := ⟨h.stp.thenBelow hb, h.dm.below hb, h.ms.call hb, h.tmp⟩
theorem DW.drew (h : DW X w0 L0 w L g P D bs) : DW X w0 L0 w.drew L g P D bs := h.call (bdrew (Below.refl _ _))
theorem DW.drewN (h : DW X w0 L0 w L g P D bs) (n : Nat) : DW X w0 L0 (w.drewN n) L g P D bs := h.call (below_drewN (Below.refl _ _) n)
/-- A call that turns parts of the desk. -/
theorem DW.step (h : DW X w0 L0 w L g P D bs) (hs : Stp X L L' w w') (hd : DeskM L' w' g P' D') (ht : ¬ X .temp) : DW X w0 L0 w' L' g P' D' bs :=
  ⟨h.stp.trans hs, hd, h.ms.keep fun b hb => hs.heap (h.ms.get hb).2.lt (by rw [h.tmp b hb]; exact ht), fun b hb => (hs.old b.1 (h.ms.get hb).2.lt).trans (h.tmp b hb)⟩
theorem DW.mono {Y : Comp → Prop} (h : DW X w0 L0 w L g P D bs) (hx : ∀ c, X c → Y c) : DW Y w0 L0 w L g P D bs := ⟨h.stp.mono hx, h.dm, h.ms, h.tmp⟩
/-- A block of the call's own. -/
theorem DW.alloc (h : DW X w0 L0 w L g P D bs) (t : TypeId) (l : List Value) : DW X w0 L0 (w.alloc (.cells l.toArray t)) (tempAt L w.heap.size) g P D ((w.heap.size, t, l) :: bs) := by
  have hs : Stp noX L (tempAt L w.heap.size) w (w.alloc (.cells l.toArray t)) :=
    ⟨Sv.of_below (balloc (Below.refl _ _) _), fun k hk => by unfold tempAt; rw [if_neg (by omega)], fun k hk => by
      rw [World.size_alloc] at hk
      unfold tempAt
      rw [if_neg (by omega)]
      exact h.top k (by omega)⟩
  refine ⟨h.stp.trans (hs.mono fun _ h => h.elim), h.dm.stp hs (fun _ _ h => h), h.ms.alloc h.size t l, fun b hb => ?_⟩
  rcases List.mem_cons.1 hb with rfl | hb
  · unfold tempAt; rw [if_pos rfl]
  · have := (h.ms.get hb).2.lt
    unfold tempAt
    rw [if_neg (by omega)]
    exact h.tmp b hb
theorem DW.turn {q : Nat} {t : TypeId} {l l' : List Value} {pre post : List Bk} (h : DW X w0 L0 w L g P D (pre ++ (q, t, l) :: post)) (hb : Blk w' q t l'.toArray) (hk : ∀ k, k ≠ q → w'.heap[k]? = w.heap[k]?) (hbel : Below q w w') (hsz : w'.heap.size = w.heap.size) : DW X w0 L0 w' L g P D (pre ++ (q, t, l') :: post) := by
  have hm : (q, t, l) ∈ pre ++ (q, t, l) :: post := by simp
  have hq := (h.ms.get hm).1
  have hs : Stp tmpX L L w w' := ⟨⟨hbel.os, hbel.tape, hbel.output, hbel.size, fun k hk1 hk2 => hk k fun e => hk2 (by rw [e]; exact h.tmp _ hm)⟩, fun _ _ => rfl, fun k hk1 => h.top k (by omega)⟩
  refine ⟨⟨⟨hbel.os.trans h.stp.sv.os, hbel.tape.trans h.stp.sv.tape, hbel.output.trans h.stp.sv.output, by rw [hsz]; exact h.size, fun k hk1 hk2 => ?_⟩, h.stp.old, hs.top⟩, h.dm.stp hs (fun c hc hx => hc hx), h.ms.turn hb hk, fun b hb => ?_⟩
  · have hq' : w0.heap.size ≤ q := hq
    rw [hk k (by omega)]
    exact h.stp.sv.block k hk1 hk2
  · rcases List.mem_append.1 hb with hb | hb
    · exact h.tmp b (List.mem_append.2 (.inl hb))
    · rcases List.mem_cons.1 hb with rfl | hb
      · exact h.tmp (q, t, l) hm
      · exact h.tmp b (List.mem_append.2 (.inr (List.mem_cons_of_mem _ hb)))
theorem size_setCells (g : Nat) : ∀ (vs : List Value) (w : World) (o : Nat), (w.setCells g o vs).heap.size = w.heap.size
  | [], _, _ => rfl
  | v :: vs, w, o => (size_setCells g vs (w.setCell ⟨g, o, none⟩ v) (o + 1)).trans (World.size_setCell ..)
theorem below_setCells' (g : Nat) (vs : List Value) (w : World) (o : Nat) : Below g w (w.setCells g o vs) := by
  have h := Sv.setCells (M := fun k => k = g) (Sv.refl _ w) (g := g) (.inl rfl) vs o
  refine ⟨h.os, h.tape, h.output, h.size, fun k hk => heap_setCells w g vs o k (by omega)⟩
theorem DW.set {q : Nat} {t : TypeId} {l l' : List Value} {pre post : List Bk} (h : DW X w0 L0 w L g P D (pre ++ (q, t, l) :: post)) (hl : l'.length = l.length) : DW X w0 L0 (w.setCells q 0 l') L g P D (pre ++ (q, t, l') :: post) := by
  have hm : (q, t, l) ∈ pre ++ (q, t, l) :: post := by simp
  exact h.turn (blk_setAll (h.ms.get hm).2 hl) (heap_setCells w q l' 0) (below_setCells' q l' w 0) (size_setCells q l' w 0)
theorem DW.set1 {q : Nat} {t : TypeId} {l : List Value} {pre post : List Bk} (h : DW X w0 L0 w L g P D (pre ++ (q, t, l) :: post)) (i : Nat) (v : Value) : DW X w0 L0 (w.setCell ⟨q, i, none⟩ v) L g P D (pre ++ (q, t, l.set i v) :: post) := by
  have hm : (q, t, l) ∈ pre ++ (q, t, l) :: post := by simp
  refine h.turn ?_ (fun k hk => heap_setCells w q [v] i k hk) (below_setCells' q [v] w i) (size_setCells q [v] w i)
  have := Blk.set_ (h.ms.get hm).2 i v
  rw [List.setIfInBounds_toArray] at this
  exact this
theorem DW.newset (h : DW X w0 L0 w L g P D bs) (t : TypeId) (Z : Array Value) (l : List Value) (hl : l.length = Z.size) : DW X w0 L0 ((w.alloc (.cells Z t)).setCells w.heap.size 0 l) (tempAt L w.heap.size) g P D ((w.heap.size, t, l) :: bs) := by
  have h1 := h.alloc t Z.toList
  rw [Array.toArray_toList] at h1
  exact DW.set (pre := []) h1 (by rw [hl, Array.length_toList])
theorem DW.get {q : Nat} {t : TypeId} {l : List Value} (h : DW X w0 L0 w L g P D bs) (hb : (q, t, l) ∈ bs) : w0.heap.size ≤ q ∧ Blk w q t l.toArray := h.ms.get hb
theorem DW.blk {q : Nat} {t : TypeId} {l : List Value} (h : DW X w0 L0 w L g P D bs) (hb : (q, t, l) ∈ bs) : Blk w q t l.toArray := (h.get hb).2
theorem DW.range {q : Nat} {t : TypeId} {l : List Value} (h : DW X w0 L0 w L g P D bs) (hb : (q, t, l) ∈ bs) : w.rangeAt q 0 l := blk_range (h.blk hb)
theorem DW.part {q : Nat} {t : TypeId} {l : List Value} (h : DW X w0 L0 w L g P D bs) (hb : (q, t, l) ∈ bs) (o : Nat) (m : List Value) (hm : ∀ j v, m[j]? = some v → l[o + j]? = some v) : w.rangeAt q o m := blk_mid (h.blk hb) o m hm
theorem DW.there {q : Nat} {t : TypeId} {l : List Value} (h : DW X w0 L0 w L g P D bs) (hb : (q, t, l) ∈ bs) (o n : Nat) (hn : o + n ≤ l.length) : w.there q o n := blk_there (h.blk hb) o n hn
theorem DW.cell {q : Nat} {t : TypeId} {l : List Value} (h : DW X w0 L0 w L g P D bs) (hb : (q, t, l) ∈ bs) (i : Nat) : w.cell? ⟨q, i, none⟩ = l[i]? := by rw [Blk.cell (h.blk hb), List.getElem?_toArray]
theorem DW.frozen {q : Nat} {t : TypeId} {l : List Value} (h : DW X w0 L0 w L g P D bs) (hb : (q, t, l) ∈ bs) (i : Nat) : w.frozen? ⟨q, i, none⟩ = false := Blk.frozen (h.blk hb) i
theorem DW.dcell (h : DW X w0 L0 w L g P D bs) : ∃ C, Blk w g 113 C.toArray ∧ DeskC L w P C D := h.dm.mem
theorem Stp.ot_ {v : Value} {b : List UInt8} (h : Stp X L0 L w0 w) (hv : ByV L0 w0 v b) (hx : ¬ X .other) : ByV L w v b := hv.stp h hx
end
end Go.Proofs.YtmkifedcanmjoaaGreat
/- post.NewCounts, post.New, a desk's zero (contracts). Conditions: none. -/
set_option linter.unusedVariables false
set_option linter.unusedSimpArgs false
namespace Go.Proofs.YtmkifedcanmjoaaGreat
open Go.RowKit
attribute [local go_sem ↓] Go.wp_at_zero Go.wp_at_succ
theorem infoA64 : (Tryz.prog.info? 213).map (fun i => (i.zero, i.size, i.bytes)) = some (some (.agg #[.int .i64 0]), 1, 8) := by kernel_rfl
theorem make_counts (w : World) : (Instr.makeSlice 149 (.int .i64 11) (.int .i64 11)).run Tryz.prog w = .ok (.slice (some ⟨w.heap.size, 0, none⟩) 11 11) (w.alloc (.cells ((List.replicate 11 (0 : Int)).map (Value.int .i64)).toArray 213)) := by
  obtain ⟨i, hi, hz0, hz1, hz2⟩ := info_parts infoA64
  have h := run_makeSlice (P := Tryz.prog) w 149 213 i _ Tryz.underlying149 hi hz0 .i64 .i64 11 11 (by decide) (by decide) (by rw [hz1]; decide) (by rw [hz2]; decide) (by decide)
  rw [hz1] at h
  have e : madeCells (Value.agg #[Value.int IntKind.i64 0]).cells (Int.toNat 11 * 1) = ((List.replicate 11 (0 : Int)).map (Value.int .i64)).toArray := by kernel_rfl
  rw [e] at h
  exact h
set_option maxRecDepth 100000 in
theorem newCounts_c (w : World) : Calls Tryz.prog 23 #[.int .i64 11] w fun e w' => ∃ p q, e = .returned (.pointer (some ⟨p, 0, none⟩)) ∧ w.heap.size ≤ q ∧ q < p ∧ Blk w' p 151 #[.slice (some ⟨q, 0, none⟩) 11 11] ∧ Blk w' q 213 ((List.replicate 11 (0 : Int)).map (Value.int .i64)).toArray ∧ Below w.heap.size w w' := by
  have hmk := make_counts w
  obtain ⟨Z, hZ⟩ : ∃ Z, Z = ((List.replicate 11 (0 : Int)).map (Value.int .i64)).toArray := ⟨_, rfl⟩
  rw [← hZ] at hmk ⊢
  clear hZ
  go_enter Tryz.func23, Tryz.ntmps23
  go_wp2_with fail
  go_ret
  obtain ⟨h1, h2, h3⟩ := two_blks w 213 151 Z #[.slice (some ⟨w.heap.size, 0, none⟩) 11 11]
  exact ⟨w.heap.size + 1, w.heap.size, rfl, Nat.le_refl _, by omega, h2, h1, h3⟩
theorem postNew_c (w : World) : Calls Tryz.prog 24 #[.int .i64 32] w fun e w' => ∃ p, e = .returned (.pointer (some ⟨p, 0, none⟩)) ∧ p = w.heap.size ∧ Blk w' p 153 #[.int .i64 32, .slice none 0 0] ∧ Below w.heap.size w w' := by
  go_enter Tryz.func24, Tryz.ntmps24
  go_wp2
  go_ret
  exact ⟨_, rfl, rfl, Blk.new _ _ _, balloc (Below.refl _ _) _⟩
/-- A desk's cells at its beginning. -/
def strmL0 : List Value := [.bool false, .int .u32 0, .int .i64 0, .int .i64 0, .int .i64 0, .slice none 0 0, .int .i64 0, .slice none 0 0, .slice none 0 0, .int .u32 0, .slice none 0 0]
def hallL0 : List Value := rL (rm0 0) ++ ((List.replicate 24 strmL0).flatten ++ List.replicate 64 (.pointer none))
def deskH : List Value := (List.replicate 4 hallL0).flatten ++ [.int .i64 0, .slice none 0 0]
def deskL0 : List Value := deskH ++ (List.replicate 64 (.pointer none) ++ [.pointer none])
theorem infoD : (Tryz.prog.info? 113).map (fun i => (i.zero, i.size)) = some (some (.agg deskL0.toArray), 1535) := by kernel_rfl
theorem deskH_len : deskH.length = 1470 := by kernel_rfl
theorem fill_desk (v : Value) (hv : v.cells = #[v]) (cs : Array Value) (hc : cs.size = 1535) : Instr.fill (fun x => ([(0, 1468), (1468, 1), (1469, 1), (1470, 64), (1534, 1)] : List (Nat × Nat))[x]?) cs [(4, v)] = some (cs.setIfInBounds 1534 v) := by
  simp [Instr.fill, hv, hc]
theorem build_desk (w : World) (p : Nat) : (Instr.build 113 #[(4, .pointer (some ⟨p, 0, none⟩))]).run Tryz.prog w = .ok (.agg (deskL0.toArray.setIfInBounds 1534 (.pointer (some ⟨p, 0, none⟩)))) w := by
  obtain ⟨i, hi, hz⟩ : ∃ i, Tryz.prog.info? 113 = some i ∧ i.zero = some (.agg deskL0.toArray) := by
    have h := infoD
    cases hi : Tryz.prog.info? 113 with
    | none => rw [hi] at h; cases h
    | some i =>
      rw [hi] at h
      simp only [Option.map_some, Option.some.injEq, Prod.mk.injEq] at h
      exact ⟨i, rfl, h.1⟩
  have hz1 : (zeroValue 113).run Tryz.prog w = .ok (.agg deskL0.toArray) w := by simp [zeroValue, typeInfo, hi, hz]
  have hlen : deskL0.toArray.size = 1535 := by kernel_rfl
  obtain ⟨Z, hZ⟩ : ∃ Z, Z = deskL0.toArray := ⟨_, rfl⟩
  rw [← hZ] at hz1 hlen ⊢
  clear hZ hz hi
  have sz : ∀ (t : TypeId) (n : Nat), (Tryz.prog.info? t).map (·.size) = some n → ∀ wx : World, (sizeOf t).run Tryz.prog wx = .ok n wx := fun t n h wx => by
    cases hi : Tryz.prog.info? t with
    | none => rw [hi] at h; cases h
    | some i =>
      rw [hi] at h
      simp only [Option.map_some, Option.some.injEq] at h
      simp [sizeOf, typeInfo, hi, h]
  have s1 := sz 109 1468 (by kernel_rfl)
  have s2 := sz 2 1 (by kernel_rfl)
  have s3 := sz 33 1 (by kernel_rfl)
  have s4 := sz 111 64 (by kernel_rfl)
  have s5 := sz 93 1 (by kernel_rfl)
  have hf := fill_desk (.pointer (some ⟨p, 0, none⟩)) rfl Z hlen
  clear sz hlen
  simp [Instr.build, Sem.run_bind, hz1, run_underlying Tryz.underlying113, Result.andThen, s1, s2, s3, s4, s5, Value.cells, hf]
end Go.Proofs.YtmkifedcanmjoaaGreat
/- post.Post.Add (contract). Conditions: what is added reads. -/
set_option linter.unusedVariables false
set_option linter.unusedSimpArgs false
namespace Go.Proofs.YtmkifedcanmjoaaGreat
open Go.RowKit
attribute [local go_sem ↓] Go.wp_at_zero Go.wp_at_succ
theorem infoOut : (Tryz.prog.info? 44).map (fun i => (i.zero, i.size, i.bytes)) = some (some (.agg #[.int .i64 0, .int .i64 0, .slice none 0 0]), 3, 40) := by kernel_rfl
def postX (a : Nat) : Comp → Prop := fun c => c = .post a
/-- Labels where a block has come to a post. -/
def labTo (L : Lab) (v : Value) (c : Comp) : Lab := fun k => if some k = v.ownBlock then c else L k
theorem Blk.ne_ {w : World} {g h : Nat} {t u : TypeId} {C D : Array Value} (h1 : Blk w g t C) (h2 : Blk w h u D) (hn : t ≠ u) : g ≠ h := fun e => by
  subst e
  unfold Blk at h1 h2
  rw [h1] at h2
  injection h2 with h2
  injection h2 with _ h3
  exact hn h3
/-- What Add leaves, whatever way the row grew. -/
theorem post_grown {L : Lab} {w0 W W2 : World} {a p : Nat} {l : List OutD} {v v' vb : Value} {xs : List Value} {o : OutD}
    (hlab : L p = .post a) (hp : Blk w0 p 153 #[.int .i64 32, v]) (hr : Row w0 44 3 v l.length xs) (hown : ∀ g, v.ownBlock = some g → L g = .post a) (ho : OutsC L w0 l xs)
    (hb : ByV L w0 vb o.b) (htop : ∀ k, w0.heap.size ≤ k → L k = .other) (hbel : Below w0.heap.size w0 W)
    (hrow : Row W2 44 3 v' (l.length + 1) (xs ++ [.int .i64 o.adr, .int .i64 o.kind, vb])) (hg : W.grownBy W2 v.ownBlock) (hat : v'.ownBlock = v.ownBlock ∨ v'.ownBlock = some W.heap.size) :
    ∃ L', PostM L' (W2.setCell ⟨p, 1, none⟩ v') a p (l ++ [o]) ∧ Stp (postX a) L L' w0 (W2.setCell ⟨p, 1, none⟩ v') := by
  have hpo : ∀ g, v.ownBlock = some g → p ≠ g := fun g hg1 => by
    obtain ⟨cs, hbk⟩ := hr.blk hg1
    exact hp.ne_ hbk (by decide)
  have hW : Blk W p 153 #[.int .i64 32, v] := hp.below hbel
  have hW2 : Blk W2 p 153 #[.int .i64 32, v] := hW.grown hg (fun e => hpo p e.symm rfl)
  have hW3 : Blk (W2.setCell ⟨p, 1, none⟩ v') p 153 #[.int .i64 32, v'] := Blk.set_ hW2 1 v'
  have hs : Stp (postX a) L (labTo L v' (.post a)) w0 (W2.setCell ⟨p, 1, none⟩ v') := by
    refine ⟨⟨hg.os.trans hbel.os, hg.tape.trans hbel.tape, hg.output.trans hbel.output, ?_, fun k hk hx => ?_⟩, fun k hk => ?_, fun k hk => ?_⟩
    · rw [World.size_setCell]; exact Nat.le_trans hbel.size hg.size
    · have h1 : k ≠ p := fun e => hx (by rw [e]; exact hlab)
      have h2 : some k ≠ v.ownBlock := fun e => hx (hown k e.symm)
      rw [Below.heap_setCell W2 _ v' k (by exact h1), hg.block k (Nat.lt_of_lt_of_le hk hbel.size) h2]
      exact hbel.block k hk
    · unfold labTo
      split
      · rename_i e
        rcases hat with hat | hat
        · rw [hat] at e
          exact (hown k e.symm).symm
        · rw [hat] at e
          injection e with e
          have := hbel.size
          omega
      · rfl
    · rw [World.size_setCell] at hk
      unfold labTo
      rw [if_neg (fun e => by have := hrow.lt e.symm; omega)]
      exact htop k (by have := hbel.size; have := hg.size; omega)
  have hrow3 : Row (W2.setCell ⟨p, 1, none⟩ v') 44 3 v' (l ++ [o]).length (xs ++ [.int .i64 o.adr, .int .i64 o.kind, vb]) := by
    rw [List.length_append]
    refine hrow.sv (M := fun k => k = p) (w' := W2.setCell ⟨p, 1, none⟩ v') (Sv.set (M := fun k => k = p) (p := ⟨p, 1, none⟩) (Sv.refl _ _) (.inl rfl) v') fun g hg1 e => ?_
    subst e
    obtain ⟨cs, hbk⟩ := hrow.blk hg1
    exact hW2.ne_ hbk (by decide) rfl
  have hx : ¬ postX a .other := by unfold postX; simp
  refine ⟨_, ⟨?_, v', _, hW3, hrow3, fun g hg1 => ?_, OutsC.append _ _ (OutsC.stp hs hx _ _ ho) _ _ ⟨vb, [], rfl, hb.stp hs hx, rfl⟩⟩, hs⟩
  · exact (hs.old p hp.lt).trans hlab
  · unfold labTo; rw [if_pos hg1.symm]
set_option maxRecDepth 100000 in
set_option maxHeartbeats 6400000 in
theorem postAdd_c (L : Lab) (w : World) (a p : Nat) (l : List OutD) (o : OutD) (vb : Value) (hm : PostM L w a p l) (hb : ByV L w vb o.b) (htop : ∀ k, w.heap.size ≤ k → L k = .other) (hl : l.length ≤ 32) :
    Calls Tryz.prog 153 #[.pointer (some ⟨p, 0, none⟩), .agg #[.int .i64 o.adr, .int .i64 o.kind, vb]] w fun e w' => e = .returned (.bool (decide (l.length < 32))) ∧
      ∃ L', PostM L' w' a p (if l.length < 32 then l ++ [o] else l) ∧ Stp (postX a) L L' w w' := by
  obtain ⟨iO, hiO, hz0, hz1, hz2⟩ := info_parts infoOut
  obtain ⟨hlab, v, xs, hp, hr, hown, ho⟩ := hm
  obtain ⟨Av, cv, rfl, hcv⟩ := hr.form
  obtain ⟨Ab, cb, ebb, _, _⟩ := hb.1
  subst ebb
  obtain ⟨n, hn⟩ : ∃ n, n = l.length := ⟨_, rfl⟩
  have HRES : Hid (∀ e w', (e = Ending.returned (.bool (decide (n < 32))) ∧ ∃ L', PostM L' w' a p (if n < 32 then l ++ [o] else l) ∧ Stp (postX a) L L' w w') → (e = Ending.returned (.bool (decide (l.length < 32))) ∧ ∃ L', PostM L' w' a p (if l.length < 32 then l ++ [o] else l) ∧ Stp (postX a) L L' w w')) := fun e w' h => by rw [hn] at h; exact h
  have HP := Lib.hid hp
  have HR : Hid (Row w 44 3 (.slice Av n cv) n xs) := by show Row _ _ _ _ _ _; rw [hn]; exact hr
  have HN := Lib.hid hn
  rw [← hn] at hl hr
  have HO := Lib.hid hown
  have HOS := Lib.hid ho
  have HBY := Lib.hid hb
  have HTOP := Lib.hid htop
  have HLAB := Lib.hid hlab
  rw [← hn] at HP HO
  obtain ⟨ad, had⟩ : ∃ ad, ad = o.adr := ⟨_, rfl⟩
  obtain ⟨kd, hkd⟩ : ∃ kd, kd = o.kind := ⟨_, rfl⟩
  have HAD : Hid (([.int .i64 ad, .int .i64 kd, .slice Ab o.b.length cb] : List Value) = [.int .i64 o.adr, .int .i64 o.kind, .slice Ab o.b.length cb]) := by show _ = _; rw [had, hkd]
  obtain ⟨nb, hnb⟩ : ∃ nb, nb = o.b.length := ⟨_, rfl⟩
  rw [← hnb] at HAD HBY
  rw [← had, ← hkd, ← hnb]
  obtain ⟨gb, hgb⟩ : ∃ gb, gb = w.heap.size := ⟨_, rfl⟩
  obtain ⟨w1, hw1⟩ : ∃ w1, w1 = w.alloc (.cells #[.int .i64 ad, .int .i64 kd, .slice Ab nb cb] 44) := ⟨_, rfl⟩
  have HM1 : Hid (MW w w1 [(gb, 44, [.int .i64 ad, .int .i64 kd, .slice Ab nb cb])]) := by show MW _ _ _; rw [hw1, hgb]; exact (MW.start w).alloc _ [_, _, _]
  clear hn hp hr hown ho hb htop hlab had hkd hnb hcv
  refine Calls.mono ?_ HRES.out
  go_enter Tryz.func153, Tryz.ntmps153
  go_upto_region 1 with fail
  rw [← hw1, ← hgb]
  clear hw1 hgb
  have ckp := (HP.out.below HM1.out.bel).cell 1
  have ckq := (HP.out.below HM1.out.bel).cell 0
  by_cases h32 : n < 32
  · have h32i : (n : Int) < 32 := by omega
    go_quiet (fail)
    go_upto_region 3 with fail
    obtain ⟨w2, hw2⟩ : ∃ w2, w2 = w1.drewN nq := ⟨_, rfl⟩
    have HM2 : Hid (MW w w2 [(gb, 44, [.int .i64 ad, .int .i64 kd, .slice Ab nb cb])]) := by show MW _ _ _; rw [hw2]; exact HM1.out.drewN nq
    rw [← hw2]
    clear hw2 ckp ckq HM1
    obtain ⟨w3, hw3⟩ : ∃ w3, w3 = w2.drew := ⟨_, rfl⟩
    have HM3 : Hid (MW w w3 [(gb, 44, [.int .i64 ad, .int .i64 kd, .slice Ab nb cb])]) := by show MW _ _ _; rw [hw3]; exact HM2.out.drew
    refine wp_region_held_drew (S := (fun w' => Blk w' gb 44 #[.int .i64 ad, .int .i64 kd, .slice Ab nb cb])) (by kernel_rfl) (by rw [← hw3]; exact (HM3.out.blk (.head _))) (fun hHeld => ?_)
    rw [← hw3] at hHeld ⊢
    have HM2 : Hid (MW w w3 [(gb, 44, [.int .i64 ad, .int .i64 kd, .slice Ab nb cb])]) := HM3
    clear hw3
    refine wpAnyH_takeAt (i := 0) (v := (.pointer (some ⟨p, 0, none⟩))) rfl (by kernel_rfl) (by kernel_rfl) (by kernel_rfl) (fun _ _ _ h => h) rfl (Or.inl ⟨by rfl, fun w' hS => ?_⟩) hHeld ?_
    · go_simp
    simp only [List.set_cons_zero, List.set_cons_succ]
    refine wpAnyH_takeAt (i := 1) (v := (.pointer (some ⟨p, 0, none⟩))) rfl (by kernel_rfl) (by kernel_rfl) (by kernel_rfl) (fun _ _ _ h => h) rfl (Or.inl ⟨by rfl, fun w' hS => ?_⟩) hHeld ?_
    · go_simp
    simp only [List.set_cons_zero, List.set_cons_succ]
    refine wpAnyH_takeAt (i := 2) (v := (.pointer (some ⟨p, 0, none⟩))) rfl (by kernel_rfl) (by kernel_rfl) (by kernel_rfl) (fun _ _ _ h => h) rfl (Or.inl ⟨by rfl, fun w' hS => ?_⟩) hHeld ?_
    · go_simp
    simp only [List.set_cons_zero, List.set_cons_succ]
    refine wpAnyH_takeAt (i := 3) (v := (.pointer (some ⟨p, 1, none⟩))) rfl (by kernel_rfl) (by kernel_rfl) (by kernel_rfl) (fun _ _ _ h => h) rfl (Or.inl ⟨by rfl, fun w' hS => ?_⟩) hHeld ?_
    · go_simp
    simp only [List.set_cons_zero, List.set_cons_succ]
    refine wpAnyH_takeAt (i := 5) (v := (.agg #[.int .i64 ad, .int .i64 kd, .slice Ab nb cb])) rfl (by kernel_rfl) (by kernel_rfl) (by kernel_rfl) (fun _ _ _ h => h) rfl (Or.inl ⟨by rfl, fun w' hS => ?_⟩) hHeld ?_
    · have q0 := Blk.cell hS 0
      have q1 := Blk.cell hS 1
      have q2 := Blk.cell hS 2
      go_simp
    simp only [List.set_cons_zero, List.set_cons_succ]
    refine wpAnyH_ready (rs := [4, 6]) (by kernel_rfl) (by simp) (AllReadyH.cons rfl (fun K' hK => ?_) (AllReadyH.cons rfl (fun K' hK => ?_) AllReadyH.nil))
    · have ckv : w3.cell? ⟨p, 1, none⟩ = some (.slice Av n cv) := (HP.out.below HM3.out.bel).cell 1
      go_simp
      clear ckv
      refine hK.out _ _ (HM3.out.blk (.head _)) (fun hHeld' => ?_)
      clear hK hHeld 
      have hHeld := hHeld'
      clear hHeld'
      refine wpAnyH_ready (rs := [6]) (by kernel_rfl) (by simp) (AllReadyH.cons rfl (fun K' hK => ?_) AllReadyH.nil)
      have q0 := HM3.out.cell (.head _) 0
      have q1 := HM3.out.cell (.head _) 1
      have q2 := HM3.out.cell (.head _) 2
      go_simp
      clear q0 q1 q2
      obtain ⟨gs4, hgs4⟩ : ∃ gs4, gs4 = w3.heap.size := ⟨_, rfl⟩
      obtain ⟨w4, hw4⟩ : ∃ w4, w4 = w3.alloc (.cells #[.int .i64 ad, .int .i64 kd, .slice Ab nb cb] 44) := ⟨_, rfl⟩
      have HM4 : Hid (MW w w4 [(gs4, 44, [.int .i64 ad, .int .i64 kd, .slice Ab nb cb]), (gb, 44, [.int .i64 ad, .int .i64 kd, .slice Ab nb cb])]) := by show MW _ _ _; rw [hw4, hgs4]; exact HM3.out.alloc 44 [.int .i64 ad, .int .i64 kd, .slice Ab nb cb]
      rw [← hw4, ← hgs4]
      clear hw4 hgs4
      refine hK.out _ _ (HM4.out.blk (.tail _ (.head _))) (fun hHeld' => ?_)
      clear hK hHeld 
      have hHeld := hHeld'
      clear hHeld'
      refine wpAnyH_ready (rs := [7]) (by kernel_rfl) (by simp) (AllReadyH.cons rfl (fun K' hK => ?_) AllReadyH.nil)
      rw [if_pos (by rfl)]
      refine wp_append_row _ (.tmp 19) (.tmp 21) _ (by rfl) 44 iO _ 3 40 Tryz.underlying40 hiO hz0 hz1 hz2 rfl (.slice Av n cv) n xs (by rfl) (HR.out.below HM4.out.bel) (.slice (some ⟨gs4, 0, none⟩) 1 1) 1 [.int .i64 ad, .int .i64 kd, .slice Ab nb cb] (by rfl)
        (Src.ofReads _ Tryz.underlying40 (B := w4.heap.size) ⟨rfl, fun _ => ⟨_, rfl, (HM4.out.blk (.head _)).lt, fun j u hu => by
          rw [Go.WideShapes.add_plain, Nat.zero_add, HM4.out.cell (.head _) j]
          exact hu⟩⟩ (by intro u hu; simp only [List.mem_cons, List.not_mem_nil, or_false] at hu; rcases hu with rfl | rfl | rfl <;> rfl)) (by simp only [maxLen]; omega) (by omega) ?_
      intro v2 w5 hrow2 hg2 hat2
      have HBK : Hid (Blk w5 gb 44 #[.int .i64 ad, .int .i64 kd, .slice Ab nb cb]) := by
        show Blk _ _ _ _
        refine (HM4.out.blk (.tail _ (.head _))).grown hg2 (fun e => ?_)
        have h1 := HR.out.lt e.symm
        have h2 := HM4.out.le (.tail _ (.head _))
        omega
      have HGR := Lib.hid (post_grown (o := o) HLAB.out HP.out (by rw [← HN.out]; exact HR.out) HO.out HOS.out HBY.out HTOP.out HM4.out.bel (v := .slice Av n cv) (v' := v2) (W := w4) (W2 := w5) (by rw [← HN.out, ← HAD.out]; exact hrow2) hg2 hat2)
      obtain ⟨A2, c2, rfl, _⟩ := hrow2.form
      have HPW : Hid (Blk w5 p 153 #[.int .i64 32, .slice Av n cv]) := by
        show Blk _ _ _ _
        refine (HP.out.below HM4.out.bel).grown hg2 (fun e => ?_)
        obtain ⟨cs, hbk⟩ := HR.out.blk e.symm
        exact HP.out.ne_ hbk (by decide) rfl
      clear hrow2 hg2 hat2
      refine hK.out _ _ HBK.out (fun hHeld' => ?_)
      clear hK hHeld 
      have hHeld := hHeld'
      clear hHeld'
      refine wpAnyH_takeAt (i := 8) (v := (.pointer (some ⟨p, 0, none⟩))) rfl (by kernel_rfl) (by kernel_rfl) (by kernel_rfl) (fun _ _ _ h => h) rfl (Or.inl ⟨by rfl, fun w' hS => ?_⟩) hHeld ?_
      · go_simp
      simp only [List.set_cons_zero, List.set_cons_succ]
      refine wpAnyH_takeAt (i := 9) (v := (.pointer (some ⟨p, 1, none⟩))) rfl (by kernel_rfl) (by kernel_rfl) (by kernel_rfl) (fun _ _ _ h => h) rfl (Or.inl ⟨by rfl, fun w' hS => ?_⟩) hHeld ?_
      · go_simp
      simp only [List.set_cons_zero, List.set_cons_succ]
      refine wpAnyH_ready (rs := [10]) (by kernel_rfl) (by simp) (AllReadyH.cons rfl (fun K' hK => ?_) AllReadyH.nil)
      have ckw : w5.cell? ⟨p, 1, none⟩ = some (.slice Av n cv) := HPW.out.cell 1
      have fkw : w5.frozen? ⟨p, 1, none⟩ = false := HPW.out.frozen 1
      go_simp
      have HBF : Hid (Blk (w5.setCell ⟨p, 1, none⟩ (.slice A2 (n + 1) c2)) gb 44 #[.int .i64 ad, .int .i64 kd, .slice Ab nb cb]) := HBK.out.far (by show gb ≠ p; have h1 := HM2.out.le (.head _); have h2 := HP.out.lt; omega) _
      refine hK.out _ _ HBF.out (fun hHeld' => ?_)
      clear hK hHeld 
      have hHeld := hHeld'
      clear hHeld'
      refine wpAnyH_done (by kernel_rfl) ?_ _
      go_wp2_with fail
      go_ret
      exact ⟨by simp [h32], HGR.out⟩
    · have q0 := HM3.out.cell (.head _) 0
      have q1 := HM3.out.cell (.head _) 1
      have q2 := HM3.out.cell (.head _) 2
      go_simp
      clear q0 q1 q2
      obtain ⟨gs4, hgs4⟩ : ∃ gs4, gs4 = w3.heap.size := ⟨_, rfl⟩
      obtain ⟨w4, hw4⟩ : ∃ w4, w4 = w3.alloc (.cells #[.int .i64 ad, .int .i64 kd, .slice Ab nb cb] 44) := ⟨_, rfl⟩
      have HM4 : Hid (MW w w4 [(gs4, 44, [.int .i64 ad, .int .i64 kd, .slice Ab nb cb]), (gb, 44, [.int .i64 ad, .int .i64 kd, .slice Ab nb cb])]) := by show MW _ _ _; rw [hw4, hgs4]; exact HM3.out.alloc 44 [.int .i64 ad, .int .i64 kd, .slice Ab nb cb]
      rw [← hw4, ← hgs4]
      clear hw4 hgs4
      refine hK.out _ _ (HM4.out.blk (.tail _ (.head _))) (fun hHeld' => ?_)
      clear hK hHeld 
      have hHeld := hHeld'
      clear hHeld'
      refine wpAnyH_ready (rs := [4]) (by kernel_rfl) (by simp) (AllReadyH.cons rfl (fun K' hK => ?_) AllReadyH.nil)
      have ckv : w4.cell? ⟨p, 1, none⟩ = some (.slice Av n cv) := (HP.out.below HM4.out.bel).cell 1
      go_simp
      clear ckv
      refine hK.out _ _ (HM4.out.blk (.tail _ (.head _))) (fun hHeld' => ?_)
      clear hK hHeld 
      have hHeld := hHeld'
      clear hHeld'
      refine wpAnyH_ready (rs := [7]) (by kernel_rfl) (by simp) (AllReadyH.cons rfl (fun K' hK => ?_) AllReadyH.nil)
      rw [if_pos (by rfl)]
      refine wp_append_row _ (.tmp 19) (.tmp 21) _ (by rfl) 44 iO _ 3 40 Tryz.underlying40 hiO hz0 hz1 hz2 rfl (.slice Av n cv) n xs (by rfl) (HR.out.below HM4.out.bel) (.slice (some ⟨gs4, 0, none⟩) 1 1) 1 [.int .i64 ad, .int .i64 kd, .slice Ab nb cb] (by rfl)
        (Src.ofReads _ Tryz.underlying40 (B := w4.heap.size) ⟨rfl, fun _ => ⟨_, rfl, (HM4.out.blk (.head _)).lt, fun j u hu => by
          rw [Go.WideShapes.add_plain, Nat.zero_add, HM4.out.cell (.head _) j]
          exact hu⟩⟩ (by intro u hu; simp only [List.mem_cons, List.not_mem_nil, or_false] at hu; rcases hu with rfl | rfl | rfl <;> rfl)) (by simp only [maxLen]; omega) (by omega) ?_
      intro v2 w5 hrow2 hg2 hat2
      have HBK : Hid (Blk w5 gb 44 #[.int .i64 ad, .int .i64 kd, .slice Ab nb cb]) := by
        show Blk _ _ _ _
        refine (HM4.out.blk (.tail _ (.head _))).grown hg2 (fun e => ?_)
        have h1 := HR.out.lt e.symm
        have h2 := HM4.out.le (.tail _ (.head _))
        omega
      have HGR := Lib.hid (post_grown (o := o) HLAB.out HP.out (by rw [← HN.out]; exact HR.out) HO.out HOS.out HBY.out HTOP.out HM4.out.bel (v := .slice Av n cv) (v' := v2) (W := w4) (W2 := w5) (by rw [← HN.out, ← HAD.out]; exact hrow2) hg2 hat2)
      obtain ⟨A2, c2, rfl, _⟩ := hrow2.form
      have HPW : Hid (Blk w5 p 153 #[.int .i64 32, .slice Av n cv]) := by
        show Blk _ _ _ _
        refine (HP.out.below HM4.out.bel).grown hg2 (fun e => ?_)
        obtain ⟨cs, hbk⟩ := HR.out.blk e.symm
        exact HP.out.ne_ hbk (by decide) rfl
      clear hrow2 hg2 hat2
      refine hK.out _ _ HBK.out (fun hHeld' => ?_)
      clear hK hHeld 
      have hHeld := hHeld'
      clear hHeld'
      refine wpAnyH_takeAt (i := 8) (v := (.pointer (some ⟨p, 0, none⟩))) rfl (by kernel_rfl) (by kernel_rfl) (by kernel_rfl) (fun _ _ _ h => h) rfl (Or.inl ⟨by rfl, fun w' hS => ?_⟩) hHeld ?_
      · go_simp
      simp only [List.set_cons_zero, List.set_cons_succ]
      refine wpAnyH_takeAt (i := 9) (v := (.pointer (some ⟨p, 1, none⟩))) rfl (by kernel_rfl) (by kernel_rfl) (by kernel_rfl) (fun _ _ _ h => h) rfl (Or.inl ⟨by rfl, fun w' hS => ?_⟩) hHeld ?_
      · go_simp
      simp only [List.set_cons_zero, List.set_cons_succ]
      refine wpAnyH_ready (rs := [10]) (by kernel_rfl) (by simp) (AllReadyH.cons rfl (fun K' hK => ?_) AllReadyH.nil)
      have ckw : w5.cell? ⟨p, 1, none⟩ = some (.slice Av n cv) := HPW.out.cell 1
      have fkw : w5.frozen? ⟨p, 1, none⟩ = false := HPW.out.frozen 1
      go_simp
      have HBF : Hid (Blk (w5.setCell ⟨p, 1, none⟩ (.slice A2 (n + 1) c2)) gb 44 #[.int .i64 ad, .int .i64 kd, .slice Ab nb cb]) := HBK.out.far (by show gb ≠ p; have h1 := HM2.out.le (.head _); have h2 := HP.out.lt; omega) _
      refine hK.out _ _ HBF.out (fun hHeld' => ?_)
      clear hK hHeld 
      have hHeld := hHeld'
      clear hHeld'
      refine wpAnyH_done (by kernel_rfl) ?_ _
      go_wp2_with fail
      go_ret
      exact ⟨by simp [h32], HGR.out⟩
  · have h32i : ¬ (n : Int) < 32 := by omega
    go_quiet (fail)
    go_wp2_with fail
    go_ret
    have HMq := (HM1.out.drewN nq).bel
    exact ⟨by simp [h32], L, ⟨HLAB.out, _, xs, (HP.out.below HMq), by rw [← HN.out]; exact HR.out.below HMq, HO.out, OutsC.stp (Stp.below (X := noX) HMq HTOP.out) (fun h => h) _ _ HOS.out⟩, Stp.below HMq HTOP.out⟩
end Go.Proofs.YtmkifedcanmjoaaGreat
/- post.Counts.One (contract). Conditions: the counters lie in memory. -/
set_option linter.unusedVariables false
set_option linter.unusedSimpArgs false
namespace Go.Proofs.YtmkifedcanmjoaaGreat
open Go.RowKit
attribute [local go_sem ↓] Go.wp_at_zero Go.wp_at_succ
theorem addInt_c (q i : Nat) (x : Int) (w : World) (hc : w.cell? ⟨q, i, none⟩ = some (.int .i64 x)) (hf : w.frozen? ⟨q, i, none⟩ = false) :
    Calls Tryz.prog 87 #[.pointer (some ⟨q, i, none⟩), .int .i64 1] w fun e w' => e = .returned (.int .i64 (IntKind.i64.wrap (x + 1))) ∧ w' = w.setCell ⟨q, i, none⟩ (.int .i64 (IntKind.i64.wrap (x + 1))) := by
  obtain ⟨s, hs⟩ : ∃ s, s = IntKind.i64.wrap (x + 1) := ⟨_, rfl⟩
  have hadd := run_call_add (P := Tryz.prog) Tryz.func118 (by kernel_rfl) (by kernel_rfl) (by kernel_rfl) .i64 (by kernel_rfl) (y := 1) (s := s) hc hf (by rw [hs]; simp [go_sem])
  rw [← hs]
  clear hs
  go_enter Tryz.func87, Tryz.ntmps87
  go_wp2
  go_ret
  exact ⟨rfl, rfl⟩
def cntX : Comp → Prop := fun c => c = .counts
set_option maxRecDepth 100000 in
theorem one_c (L : Lab) (w : World) (p i : Nat) (l : List Int) (hm : CountsM L w p l) (hi : i < 11) (htop : ∀ k, w.heap.size ≤ k → L k = .other) :
    Calls Tryz.prog 51 #[.pointer (some ⟨p, 0, none⟩), .int .i64 (i : Int)] w fun e w' => e = .returned (.tuple #[]) ∧ CountsM L w' p (l.set i (IntKind.i64.wrap (l.getD i 0 + 1))) ∧ Stp cntX L L w w' := by
  obtain ⟨h0, q, h1, h2, h3, h4⟩ := hm
  obtain ⟨x, hx⟩ : ∃ x, x = l.getD i 0 := ⟨_, rfl⟩
  have hc : w.cell? ⟨q, i, none⟩ = some (.int .i64 x) := by
    rw [h3.cell i, List.getElem?_toArray, List.getElem?_map, hx, List.getD_eq_getElem?_getD, List.getElem?_eq_getElem (by omega)]
    rfl
  have hf : w.frozen? ⟨q, i, none⟩ = false := h3.frozen i
  have ck := h1.cell 0
  have H1 := Lib.hid h1
  have H2 := Lib.hid h2
  have H3 := Lib.hid h3
  have H4 := Lib.hid h4
  have H0 := Lib.hid h0
  have HT := Lib.hid htop
  have HX := Lib.hid hx
  have hi0 : (0 : Int) ≤ (i : Int) := by omega
  have hi1 : (i : Int) < 11 := by omega
  have HADD := Lib.hid (addInt_c q i x w hc hf)
  clear h1 h2 h3 h4 h0 htop hx hc hf
  rw [← HX.out]
  go_enter Tryz.func51, Tryz.ntmps51
  go_wp2_with fail
  refine HADD.out.mono ?_
  rintro e0 w2 ⟨rfl, rfl⟩
  go_wp2_with fail
  go_end0
  obtain ⟨s, hs⟩ : ∃ s, s = IntKind.i64.wrap (x + 1) := ⟨_, rfl⟩
  rw [← hs]
  have hst : Stp cntX L L w (w.setCell ⟨q, i, none⟩ (.int .i64 s)) := ⟨(Sv.refl _ _).set (.inl H2.out) _, fun _ _ => rfl, fun k hk => HT.out k (by rw [World.size_setCell] at hk; exact hk)⟩
  refine ⟨rfl, ⟨H0.out, q, H1.out.far (H1.out.ne_ H3.out (by decide)) _, H2.out, ?_, by rw [List.length_set]; exact H4.out⟩, hst⟩
  have := Blk.set_ H3.out i (.int .i64 s)
  rw [List.setIfInBounds_toArray, ← List.map_set] at this
  exact this
end Go.Proofs.YtmkifedcanmjoaaGreat
/- A desk of which one part has turned. Conditions: none. -/
set_option linter.unusedVariables false
set_option linter.unusedSimpArgs false
namespace Go.Proofs.YtmkifedcanmjoaaGreat
open Go.RowKit
theorem ByV.ofRow {L : Lab} {w : World} {B : Nat} {v : Value} {b : List UInt8} (h : ByteRow w B v b) (top : ∀ k, B ≤ k → L k = .other) : ByV L w v b :=
  ⟨SlV.own h, fun g hg => ⟨top g (h.lt g hg).1, (h.lt g hg).2⟩⟩
theorem set_getD_self {α : Type} (l : List α) (a : Nat) (d : α) : l.set a (l.getD a d) = l := by
  rw [List.getD_eq_getElem?_getD]
  by_cases h : a < l.length
  · rw [List.getElem?_eq_getElem h]; simp
  · rw [List.set_eq_of_length_le (by omega)]
theorem DeskD.setPost_self (D : DeskD) (a : Nat) : D.setPost a (D.post a) = D := by
  unfold DeskD.setPost DeskD.post
  rw [set_getD_self]
theorem DeskD.post_set (D : DeskD) (a b : Nat) (l : List OutD) (ha : a < D.posts.length) : (D.setPost a l).post b = if a = b then l else D.post b := by
  unfold DeskD.setPost DeskD.post
  rw [getD_set_]
  by_cases h : a = b
  · rw [if_pos ⟨h, ha⟩, if_pos h]
  · rw [if_neg (fun e => h e.1), if_neg h]
section
variable {L L' : Lab} {w w' : World} {g : Nat} {P : Ptrs} {C : List Value} {D : DeskD}
theorem DeskC.putPost {a : Nat} (h : DeskC L w P C D) (ha : a < 64) (hs : Stp (postX a) L L' w w') {l : List OutD} (hp : PostM L' w' a (P.post a) l) (hl : l.length ≤ 32) : DeskC L' w' P C (D.setPost a l) where
  len := h.len
  halls := h.halls
  posts := by show (D.posts.set a l).length = 64; rw [List.length_set]; exact h.posts
  wr := h.wr
  room := h.room
  strms := h.strms
  strm := fun i hi s hs' j hj => (h.strm i hi s hs' j hj).stp hs (by unfold postX; simp)
  laness := h.laness
  lane := fun i hi t2 ht fr hf => by
    have h1 := h.lane i hi t2 ht fr hf
    cases hl : (D.hall i).lane t2 fr with
    | none => rw [hl] at h1; show (match (D.hall i).lane t2 fr with | none => _ | some l => _); rw [hl]; exact h1
    | some l => rw [hl] at h1; show (match (D.hall i).lane t2 fr with | none => _ | some l => _); rw [hl]; exact ⟨h1.1, h1.2.stp hs (by unfold postX; simp) (by unfold postX; simp)⟩
  now := h.now
  nowB := h.nowB
  draws := by
    obtain ⟨v, h1, h2, h3⟩ := h.draws
    exact ⟨v, h1, h2.sv hs.sv (fun g hg => by rw [h3 g hg]; unfold postX; simp), fun g hg => (hs.old g (h2.lt hg)).trans (h3 g hg)⟩
  post := fun b hb => by
    rw [DeskD.post_set _ _ _ _ (by rw [h.posts]; exact ha)]
    by_cases e : a = b
    · subst e
      rw [if_pos rfl]
      exact ⟨(h.post a hb).1, hp⟩
    · rw [if_neg e]
      exact ⟨(h.post b hb).1, (h.post b hb).2.stp hs (by unfold postX; simp) (by unfold postX; simp; omega)⟩
  counts := ⟨h.counts.1, h.counts.2.stp hs (by unfold postX; simp)⟩
  few := fun b hb => by
    rw [DeskD.post_set _ _ _ _ (by rw [h.posts]; exact ha)]
    by_cases e : a = b
    · rw [if_pos e]; exact hl
    · rw [if_neg e]; exact h.few b hb
  tg := h.tg
theorem DeskC.putCounts (h : DeskC L w P C D) (hs : Stp cntX L L' w w') {l : List Int} (hc : CountsM L' w' P.counts l) : DeskC L' w' P C { D with counts := l } where
  len := h.len
  halls := h.halls
  posts := h.posts
  wr := h.wr
  room := h.room
  strms := h.strms
  strm := fun i hi s hs' j hj => (h.strm i hi s hs' j hj).stp hs (by unfold cntX; simp)
  laness := h.laness
  lane := fun i hi t2 ht fr hf => by
    have h1 := h.lane i hi t2 ht fr hf
    cases hl : (D.hall i).lane t2 fr with
    | none => rw [hl] at h1; show (match (D.hall i).lane t2 fr with | none => _ | some l => _); rw [hl]; exact h1
    | some l => rw [hl] at h1; show (match (D.hall i).lane t2 fr with | none => _ | some l => _); rw [hl]; exact ⟨h1.1, h1.2.stp hs (by unfold cntX; simp) (by unfold cntX; simp)⟩
  now := h.now
  nowB := h.nowB
  draws := by
    obtain ⟨v, h1, h2, h3⟩ := h.draws
    exact ⟨v, h1, h2.sv hs.sv (fun g hg => by rw [h3 g hg]; unfold cntX; simp), fun g hg => (hs.old g (h2.lt hg)).trans (h3 g hg)⟩
  post := fun b hb => ⟨(h.post b hb).1, (h.post b hb).2.stp hs (by unfold cntX; simp) (by unfold cntX; simp)⟩
  counts := ⟨h.counts.1, hc⟩
  few := h.few
  tg := h.tg
theorem DeskM.putPost {a : Nat} (h : DeskM L w g P D) (ha : a < 64) (hs : Stp (postX a) L L' w w') {l : List OutD} (hp : PostM L' w' a (P.post a) l) (hl : l.length ≤ 32) : DeskM L' w' g P (D.setPost a l) := by
  obtain ⟨h1, h2, C, h3, h4⟩ := h
  exact ⟨(hs.old g h3.lt).trans h1, hs.top, C, hs.blk h3 (by rw [h1]; unfold postX; simp), h4.putPost ha hs hp hl⟩
theorem DeskM.putCounts (h : DeskM L w g P D) (hs : Stp cntX L L' w w') {l : List Int} (hc : CountsM L' w' P.counts l) : DeskM L' w' g P { D with counts := l } := by
  obtain ⟨h1, h2, C, h3, h4⟩ := h
  exact ⟨(hs.old g h3.lt).trans h1, hs.top, C, hs.blk h3 (by rw [h1]; unfold cntX; simp), h4.putCounts hs hc⟩
theorem DeskM.cell (h : DeskM L w g P D) : ∃ C, (∀ i, w.cell? ⟨g, i, none⟩ = C[i]?) ∧ (∀ i, w.frozen? ⟨g, i, none⟩ = false) ∧ DeskC L w P C D := by
  obtain ⟨h1, h2, C, h3, h4⟩ := h
  exact ⟨C, fun i => by rw [h3.cell, List.getElem?_toArray], fun i => h3.frozen i, h4⟩
theorem DeskM.postAt (h : DeskM L w g P D) {a : Nat} (ha : a < 64) : w.cell? ⟨g, 1470 + a, none⟩ = some (.pointer (some ⟨P.post a, 0, none⟩)) ∧ PostM L w a (P.post a) (D.post a) := by
  obtain ⟨C, h1, _, h2⟩ := h.cell
  exact ⟨by rw [h1]; exact (h2.post a ha).1, (h2.post a ha).2⟩
theorem DeskM.countsAt (h : DeskM L w g P D) : w.cell? ⟨g, 1534, none⟩ = some (.pointer (some ⟨P.counts, 0, none⟩)) ∧ CountsM L w P.counts D.counts := by
  obtain ⟨C, h1, _, h2⟩ := h.cell
  exact ⟨by rw [h1]; exact h2.counts.1, h2.counts.2⟩
theorem DeskM.few (h : DeskM L w g P D) {a : Nat} (ha : a < 64) : (D.post a).length ≤ 32 := by
  obtain ⟨C, h1, _, h2⟩ := h.cell
  exact h2.few a ha
theorem DeskM.count_c (h : DeskM L w g P D) {i : Nat} (hi : i < 11) : Calls Tryz.prog 51 #[.pointer (some ⟨P.counts, 0, none⟩), .int .i64 (i : Int)] w fun e w' => e = .returned (.tuple #[]) ∧ DeskM L w' g P (D.count i) ∧ Stp cntX L L w w' := by
  refine (one_c L w P.counts i D.counts h.countsAt.2 hi h.top).mono ?_
  rintro e w' ⟨rfl, h1, h2⟩
  exact ⟨rfl, h.putCounts h2 h1, h2⟩
end
end Go.Proofs.YtmkifedcanmjoaaGreat
/- desk.tell (contract). Conditions: the bytes read. -/
set_option linter.unusedVariables false
set_option linter.unusedSimpArgs false
namespace Go.Proofs.YtmkifedcanmjoaaGreat
open Go.RowKit
attribute [local go_sem ↓] Go.wp_at_zero Go.wp_at_succ
def tellX (a : Nat) : Comp → Prop := fun c => c = .post a ∨ c = .counts
--WALK
set_option maxRecDepth 100000 in
set_option maxHeartbeats 6400000 in
theorem tell_c {L : Lab} {w : World} {g : Nat} {P : Ptrs} {D : DeskD} (hd : DeskM L w g P D) {a : Nat} (ha : a < 64) (k : Int) {vb : Value} {b : List UInt8} (hb : ByV L w vb b) (hl : b.length ≤ 140737488355328) :
    Calls Tryz.prog 102 #[.pointer (some ⟨g, 0, none⟩), .int .i64 (a : Int), .int .i64 k, vb] w fun e w' => e = .returned (.tuple #[]) ∧ ∃ L', DeskM L' w' g P (tellD D a k b) ∧ Stp (tellX a) L L' w w' := by
  obtain ⟨hbs, hbo⟩ := hb
  obtain ⟨A, c, rfl, hc, hr⟩ := hbs
  obtain ⟨n, hn⟩ : ∃ n, n = b.length := ⟨_, rfl⟩
  have HSV : Hid (SlV w (.slice A n c) b) := ⟨A, c, by rw [hn], hc, hr⟩
  have HN := Lib.hid hn
  have HD := Lib.hid hd
  have HLN : Hid (n ≤ 140737488355328) := by show n ≤ _; rw [hn]; exact hl
  obtain ⟨p, hp⟩ : ∃ p, p = P.post a := ⟨_, rfl⟩
  have HPE := Lib.hid hp
  obtain ⟨l, hll⟩ : ∃ l, l = D.post a := ⟨_, rfl⟩
  have HLE := Lib.hid hll
  have ha0 : (0 : Int) ≤ (a : Int) := by omega
  have ha1 : (a : Int) < 64 := by omega
  have HA := Lib.hid ha
  obtain ⟨res, hres⟩ : ∃ res, res = tellD D a k b := ⟨_, rfl⟩
  have HRE : Hid (res = if l.length < 32 then D.setPost a (l ++ [⟨a, k, b⟩]) else D.count 10) := by show _ = _; rw [hres, hll]; rfl
  rw [← hres, ← hn]
  clear hd hbo hc hr hn hl hp hll ha hres
  go_enter Tryz.func102, Tryz.ntmps102
  go_upto_region 0 with fail
  have HM0 : Hid (DeskM L w g P D) := HD.out
  obtain ⟨w1, hw1⟩ : ∃ w1, w1 = w.drew := ⟨_, rfl⟩
  have HM1 : Hid (DeskM L w1 g P D) := by show DeskM _ _ _ _ _; rw [hw1]; exact HD.out.below (bdrew (Below.refl _ _))
  have HB1 : Hid (Below w.heap.size w w1) := by show Below _ _ _; rw [hw1]; exact bdrew (Below.refl _ _)
  have HC1 : Hid (w1.cell? ⟨g, 1470 + a, none⟩ = some (.pointer (some ⟨p, 0, none⟩))) := by show _ = _; rw [HPE.out]; exact (HM1.out.postAt HA.out).1
  refine wp_region_held_drew (S := (fun w' => w'.cell? ⟨g, 1470 + a, none⟩ = some (.pointer (some ⟨p, 0, none⟩)))) (by kernel_rfl) (by rw [← hw1]; exact HC1.out) (fun hHeld => ?_)
  rw [← hw1] at hHeld ⊢
  clear hw1
  refine wpAnyH_takeAt (i := 0) (v := (.pointer (some ⟨g, 0, none⟩))) rfl (by kernel_rfl) (by kernel_rfl) (by kernel_rfl) (fun _ _ _ h => h) rfl (Or.inl ⟨by rfl, fun w' hS => ?_⟩) hHeld ?_
  · go_simp
  simp only [List.set_cons_zero, List.set_cons_succ]
  refine wpAnyH_takeAt (i := 1) (v := (.int .i64 (a : Int))) rfl (by kernel_rfl) (by kernel_rfl) (by kernel_rfl) (fun _ _ _ h => h) rfl (Or.inl ⟨by rfl, fun w' hS => ?_⟩) hHeld ?_
  · go_simp
  simp only [List.set_cons_zero, List.set_cons_succ]
  refine wpAnyH_takeAt (i := 2) (v := (.pointer (some ⟨g, 0, none⟩))) rfl (by kernel_rfl) (by kernel_rfl) (by kernel_rfl) (fun _ _ _ h => h) rfl (Or.inl ⟨by rfl, fun w' hS => ?_⟩) hHeld ?_
  · go_simp
  simp only [List.set_cons_zero, List.set_cons_succ]
  refine wpAnyH_takeAt (i := 3) (v := (.pointer (some ⟨g, 1470, none⟩))) rfl (by kernel_rfl) (by kernel_rfl) (by kernel_rfl) (fun _ _ _ h => h) rfl (Or.inl ⟨by rfl, fun w' hS => ?_⟩) hHeld ?_
  · go_simp
  simp only [List.set_cons_zero, List.set_cons_succ]
  refine wpAnyH_takeAt (i := 4) (v := (.pointer (some ⟨g, 1470 + a, none⟩))) rfl (by kernel_rfl) (by kernel_rfl) (by kernel_rfl) (fun _ _ _ h => h) rfl (Or.inl ⟨by rfl, fun w' hS => ?_⟩) hHeld ?_
  · go_simp
  simp only [List.set_cons_zero, List.set_cons_succ]
  refine wpAnyH_takeAt (i := 5) (v := (.pointer (some ⟨p, 0, none⟩))) rfl (by kernel_rfl) (by kernel_rfl) (by kernel_rfl) (fun _ _ _ h => h) rfl (Or.inl ⟨by rfl, fun w' hS => ?_⟩) hHeld ?_
  · have q0 : w'.cell? ⟨g, 1470 + a, none⟩ = _ := hS
    go_simp
  simp only [List.set_cons_zero, List.set_cons_succ]
  refine wpAnyH_takeAt (i := 6) (v := (.int .i64 (a : Int))) rfl (by kernel_rfl) (by kernel_rfl) (by kernel_rfl) (fun _ _ _ h => h) rfl (Or.inl ⟨by rfl, fun w' hS => ?_⟩) hHeld ?_
  · go_simp
  simp only [List.set_cons_zero, List.set_cons_succ]
  refine wpAnyH_takeAt (i := 7) (v := (.int .i64 k)) rfl (by kernel_rfl) (by kernel_rfl) (by kernel_rfl) (fun _ _ _ h => h) rfl (Or.inl ⟨by rfl, fun w' hS => ?_⟩) hHeld ?_
  · go_simp
  simp only [List.set_cons_zero, List.set_cons_succ]
  refine wpAnyH_takeAt (i := 8) (v := (.slice A n c)) rfl (by kernel_rfl) (by kernel_rfl) (by kernel_rfl) (fun _ _ _ h => h) rfl (Or.inl ⟨by rfl, fun w' hS => ?_⟩) hHeld ?_
  · go_simp
  simp only [List.set_cons_zero, List.set_cons_succ]
  refine wpAnyH_ready (rs := [9]) (by kernel_rfl) (by simp) (AllReadyH.cons rfl (fun K' hK => ?_) AllReadyH.nil)
  go_simp
  go_at_call 78
  refine (clone_o b A n c w1 (HSV.out.below HB1.out) HLN.out).mono ?_
  rintro e0 w2 ⟨A2, c2, rfl, hrow, hbq⟩
  have HM2 : Hid (DeskM L w2 g P D) := HM1.out.below hbq
  have HB2 : Hid (Below w.heap.size w w2) := bcall HB1.out hbq
  have HBY2 : Hid (ByV L w2 (.slice A2 n c2) b) := ByV.ofRow hrow HM1.out.top
  have HC2 : Hid (w2.cell? ⟨g, 1470 + a, none⟩ = some (.pointer (some ⟨p, 0, none⟩))) := by show _ = _; rw [HPE.out]; exact (HM2.out.postAt HA.out).1
  clear hrow hbq
  go_wp2_with fail
  refine hK.out _ _ HC2.out (fun hHeld' => ?_)
  clear hK hHeld 
  have hHeld := hHeld'
  clear hHeld'
  refine wpAnyH_takeAt (i := 10) (v := (.agg #[.int .i64 (a : Int), .int .i64 k, .slice A2 n c2])) rfl (by kernel_rfl) (by kernel_rfl) (by kernel_rfl) (fun _ _ _ h => h) rfl (Or.inl ⟨by rfl, fun w' hS => ?_⟩) hHeld ?_
  · go_simp
  simp only [List.set_cons_zero, List.set_cons_succ]
  refine wpAnyH_ready (rs := [11]) (by kernel_rfl) (by simp) (AllReadyH.cons rfl (fun K' hK => ?_) AllReadyH.nil)
  go_simp
  go_at_call 153
  refine (postAdd_c L w2 a p l ⟨a, k, b⟩ (.slice A2 n c2) (by rw [HPE.out, HLE.out]; exact (HM2.out.postAt HA.out).2) HBY2.out HM2.out.top (by rw [HLE.out]; exact HM2.out.few HA.out)).mono ?_
  rintro e0 w3 ⟨rfl, L3, hpm, hst⟩
  have HPL : Hid ((if l.length < 32 then l ++ [⟨a, k, b⟩] else l).length ≤ 32) := by
    show _ ≤ _
    have := HM2.out.few HA.out
    rw [← HLE.out] at this
    split
    · rw [List.length_append]; show _ + 1 ≤ 32; omega
    · exact this
  have HM3 : Hid (DeskM L3 w3 g P (D.setPost a (if l.length < 32 then l ++ [⟨a, k, b⟩] else l))) := HM2.out.putPost HA.out hst (by rw [← HPE.out]; exact hpm) HPL.out
  have HS3 : Hid (Stp (tellX a) L L3 w w3) := (Stp.below HB2.out HD.out.top).trans (hst.mono fun c h => .inl h)
  have HC3 : Hid (w3.cell? ⟨g, 1470 + a, none⟩ = some (.pointer (some ⟨p, 0, none⟩))) := by show _ = _; rw [HPE.out]; exact (HM3.out.postAt HA.out).1
  clear hpm hst
  go_wp2_with fail
  refine hK.out _ _ HC3.out (fun hHeld' => ?_)
  clear hK hHeld 
  have hHeld := hHeld'
  clear hHeld'
  refine wpAnyH_takeAt (i := 12) (v := (.bool (!decide (l.length < 32)))) rfl (by kernel_rfl) (by kernel_rfl) (by kernel_rfl) (fun _ _ _ h => h) rfl (Or.inl ⟨by rfl, fun w' hS => ?_⟩) hHeld ?_
  · go_simp
  simp only [List.set_cons_zero, List.set_cons_succ]
  refine wpAnyH_done (by kernel_rfl) ?_ _
  by_cases h32 : l.length < 32
  · have HV : Hid (res = D.setPost a (l ++ [⟨a, k, b⟩])) := by show _ = _; rw [HRE.out, if_pos h32]
    rw [if_pos h32] at HM3
    have hdc : decide (l.length < 32) = true := decide_eq_true h32
    rw [hdc]
    go_wp2_with fail
    go_end0
    exact ⟨rfl, L3, by rw [HV.out]; exact HM3.out, HS3.out⟩
  · have HV : Hid (res = D.count 10) := by show _ = _; rw [HRE.out, if_neg h32]
    rw [if_neg h32, HLE.out, DeskD.setPost_self] at HM3
    have hdc : decide (l.length < 32) = false := decide_eq_false h32
    rw [hdc]
    have ckc := HM3.out.countsAt.1
    go_wp2_with fail
    refine (HM3.out.count_c (i := 10) (by decide)).mono ?_
    rintro e0 w4 ⟨rfl, hd4, hs4⟩
    have HM4 := Lib.hid hd4
    have HS4 : Hid (Stp (tellX a) L L3 w w4) := HS3.out.trans (hs4.mono fun c h => .inr h)
    clear hd4 hs4 ckc
    go_wp2_with fail
    go_end0
    exact ⟨rfl, L3, by rw [HV.out]; exact HM4.out, HS4.out⟩
end Go.Proofs.YtmkifedcanmjoaaGreat
