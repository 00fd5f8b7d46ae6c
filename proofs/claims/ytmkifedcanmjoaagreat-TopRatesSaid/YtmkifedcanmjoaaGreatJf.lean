/- Texts of this claim, one behind the other: QTells, QPut, QBlkW, QAppStr, QTold, QByt. Each says ahead of itself what it proves, and its conditions. -/
import Derived.Test.YtmkifedcanmjoaaGreatJe
import Derived.Test.YtmkifedcanmjoaaGreatJb
/- Calls that tell yes or no. -/
set_option linter.unusedVariables false
namespace Go.Proofs.YtmkifedcanmjoaaGreat
open Go.RowKit

/-- A call that tells whether P holds. -/
def BoolIs (P : Prop) (w : World) (e : Ending) (w' : World) : Prop := ∃ q : Bool, e = .returned (.bool q) ∧ ((q = true) ↔ P) ∧ Below w.heap.size w w'
theorem BoolIs.yes {P : Prop} {w w' : World} (h : P) (hb : Below w.heap.size w w') : BoolIs P w (.returned (.bool true)) w' := ⟨true, rfl, ⟨fun _ => h, fun _ => rfl⟩, hb⟩
theorem BoolIs.no {P : Prop} {w w' : World} (h : ¬ P) (hb : Below w.heap.size w w') : BoolIs P w (.returned (.bool false)) w' := ⟨false, rfl, ⟨(fun e => by cases e), (fun p => absurd p h)⟩, hb⟩
/-- A call that tells a place, or less than nothing. -/
def IdxIs (P : Prop) (w : World) (e : Ending) (w' : World) : Prop := ∃ z : Int, e = .returned (.int .i64 z) ∧ ((0 ≤ z) ↔ P) ∧ Below w.heap.size w w'
theorem below_range {w w' : World} {g o : Nat} {cs : List Value} {B : Nat} (h : w.rangeAt g o cs) (hb : Below B w w') (hg : g < B) : w'.rangeAt g o cs := fun j v hv => (hb.cell (p := ⟨g, o + j, none⟩) hg).trans (h j v hv)
theorem rowC_cons (ks : List IntKind) (e : List Nat) (l : List (List Nat)) : rowC ks (e :: l) = List.zipWith numV ks e ++ rowC ks l := by simp [rowC]
theorem rowC_le (ks : List IntKind) : ∀ l : List (List Nat), (rowC ks l).length ≤ l.length * ks.length
  | [] => by simp [rowC]
  | e :: l => by
    have h1 := rowC_le ks l
    rw [rowC_cons, List.length_append, List.length_zipWith, List.length_cons, Nat.succ_mul]
    omega
theorem rowC_all (ks : List IntKind) : ∀ l : List (List Nat), (rowC ks l).length = l.length * ks.length → ∀ e ∈ l, (List.zipWith numV ks e).length = ks.length
  | [], _ => by simp
  | e :: l, h => by
    have h1 := rowC_le ks l
    rw [rowC_cons, List.length_append, List.length_zipWith, List.length_cons, Nat.succ_mul] at h
    intro x hx
    rcases List.mem_cons.1 hx with rfl | hx
    · rw [List.length_zipWith]; omega
    · exact rowC_all ks l (by omega) x hx
theorem rowC_at (ks : List IntKind) : ∀ (l : List (List Nat)) (i : Nat) (e : List Nat), (rowC ks l).length = l.length * ks.length → l[i]? = some e → ∀ (j : Nat) (u : Value), (List.zipWith numV ks e)[j]? = some u → (rowC ks l)[i * ks.length + j]? = some u
  | [], i, e, _, h, _, _, _ => by simp at h
  | x :: l, i, e, hl, h, j, u, hu => by
    have hx := rowC_all ks (x :: l) hl x (by simp)
    have hl2 : (rowC ks l).length = l.length * ks.length := by
      rw [rowC_cons, List.length_append, hx, List.length_cons, Nat.succ_mul] at hl
      omega
    rw [rowC_cons]
    match i, h with
    | 0, h =>
      simp at h
      subst h
      rw [Nat.zero_mul, Nat.zero_add, List.getElem?_append_left (by rw [List.getElem?_eq_some_iff] at hu; exact hu.1)]
      exact hu
    | i + 1, h =>
      rw [List.getElem?_append_right (by rw [hx, Nat.succ_mul]; omega), hx, Nat.succ_mul, show i * ks.length + ks.length + j - ks.length = i * ks.length + j by omega]
      exact rowC_at ks l i e hl2 (by simpa using h) j u hu
/-- Where the cells of a list's elements lie. -/
theorem SlR.cells {w : World} {ks : List IntKind} {A : Option Addr} {n c : Nat} {l : List (List Nat)} (h : SlR w ks (.slice A n c) l) (hn : 0 < n) (hk : 0 < ks.length) :
    n = l.length ∧ ∃ g o, A = some ⟨g, o, none⟩ ∧ g < w.heap.size ∧ ∀ (i : Nat) (e : List Nat), l[i]? = some e → (List.zipWith numV ks e).length = ks.length ∧ ∀ (j : Nat) (u : Value), (List.zipWith numV ks e)[j]? = some u → w.cell? ⟨g, o + (i * ks.length + j), none⟩ = some u := by
  obtain ⟨A', c', e, hc, hr⟩ := h
  injection e with e1 e2 e3
  subst e1 e2 e3
  refine ⟨rfl, ?_⟩
  obtain ⟨ad, rfl, hlt, hcell⟩ := hr.2 hn
  have hall := rowC_all ks l hr.1
  have h0 : ∃ e0, l[0]? = some e0 := ⟨l[0], List.getElem?_eq_getElem hn⟩
  obtain ⟨e0, he0⟩ := h0
  have hl0 := hall e0 (List.mem_of_getElem? he0)
  obtain ⟨u0, hu0⟩ : ∃ u0, (List.zipWith numV ks e0)[0]? = some u0 := ⟨(List.zipWith numV ks e0)[0]'(by omega), List.getElem?_eq_getElem _⟩
  have c0 := hcell 0 u0 (by have := rowC_at ks l 0 e0 hr.1 he0 0 u0 hu0; simpa using this)
  obtain ⟨g, o, rfl⟩ := addr_plain c0
  refine ⟨g, o, rfl, hlt, fun i e he => ⟨hall e (List.mem_of_getElem? he), fun j u hu => ?_⟩⟩
  have := hcell (i * ks.length + j) u (rowC_at ks l i e hr.1 he j u hu)
  rwa [Go.WideShapes.add_plain] at this
theorem of1 {ks : List IntKind} {k0 : IntKind} (hk : ks = [k0]) {e : List Nat} (h : (List.zipWith numV ks e).length = ks.length) : ∃ a0 rr, e = a0 :: rr := by
  subst hk
  match e, h with
  | a0 :: r, _ => exact ⟨a0, r, rfl⟩
  | [], h => simp at h
end Go.Proofs.YtmkifedcanmjoaaGreat
/- What put does: a number's bytes behind a row of the call's own (contract). Conditions: the row is the caller's own. -/
set_option linter.unusedVariables false
set_option linter.unusedSimpArgs false
namespace Go.Proofs.YtmkifedcanmjoaaGreat
open Go.RowKit
attribute [local go_sem ↓] Go.wp_at_zero Go.wp_at_succ

/-- The first k of a number's n bytes, the highest first. -/
def beTake (x n : Nat) : Nat → List UInt8
  | 0 => []
  | k + 1 => beTake x n k ++ [UInt8.ofNat (x / 2 ^ (8 * (n - 1 - k)))]
def beS (x n : Nat) : List UInt8 := beTake x n n
theorem beTake_len (x n : Nat) : ∀ k, (beTake x n k).length = k
  | 0 => rfl
  | k + 1 => by rw [beTake, List.length_append, beTake_len x n k]; rfl
theorem beS_len (x n : Nat) : (beS x n).length = n := beTake_len x n n
theorem beTake_next (x : Nat) {n k j : Nat} (h : j + 1 + k = n) : beTake x n (k + 1) = beTake x n k ++ [UInt8.ofNat (x / 2 ^ (8 * j))] := by
  rw [beTake, show n - 1 - k = j by omega]
/-- What a call leaves that writes behind a row v, of base B: the row v' that reads l; all else is as it was. -/
def Grew (B : Nat) (v : Value) (l : List UInt8) (w : World) (v' : Value) (w' : World) : Prop :=
  w'.ownsRow B 5 1 v' l.length (l.map u8v) ∧ Sv (fun j => v.ownBlock = some j) w w' ∧ ∀ g, v'.ownBlock = some g → v.ownBlock = some g ∨ w.heap.size ≤ g
theorem Grew.trans {B : Nat} {v v1 v2 : Value} {l1 l2 : List UInt8} {w w1 w2 : World} (h1 : Grew B v l1 w v1 w1) (h2 : Grew B v1 l2 w1 v2 w2) : Grew B v l2 w v2 w2 := by
  refine ⟨h2.1, ?_, fun g hg => ?_⟩
  · refine h1.2.1.trans h2.2.1 fun k hk e => ?_
    rcases h1.2.2 k e with h | h
    · exact h
    · exact absurd hk (by omega)
  · rcases h2.2.2 g hg with h | h
    · exact h1.2.2 g h
    · exact .inr (Nat.le_trans h1.2.1.size h)
/-- One append. -/
theorem Grew.app {B : Nat} {v v' : Value} {l news : List UInt8} {w w1 w' : World} (hs : Sv (fun j => v.ownBlock = some j) w w1) (hown : w'.ownsRow B 5 1 v' (l.length + news.length) (l.map u8v ++ news.map u8v)) (hg : w1.grownBy w' v.ownBlock) (hat : v'.ownBlock = v.ownBlock ∨ v'.ownBlock = some w1.heap.size) : Grew B v (l ++ news) w v' w' := by
  refine ⟨by rw [List.length_append, List.map_append]; exact hown, hs.grown hg fun g e => .inl e, fun g e => ?_⟩
  rcases hat with h | h
  · exact .inl (h ▸ e)
  · rw [h] at e
    injection e with e
    subst e
    exact .inr hs.size
theorem Grew.refl {B : Nat} {v : Value} {l : List UInt8} {w : World} (h : w.ownsRow B 5 1 v l.length (l.map u8v)) : Grew B v l w v w := ⟨h, Sv.refl _ _, fun g e => .inl e⟩
set_option maxHeartbeats 3200000 in
theorem put_c (B x n : Nat) (l : List UInt8) (v : Value) (w : World) (h : w.ownsRow B 5 1 v l.length (l.map u8v)) (hB : B ≤ w.heap.size) (hl : l.length ≤ 100000000) (hn : n ≤ 8) (hx : x < 18446744073709551616) :
    Calls Tryz.prog 45 #[v, .int .u64 (x : Int), .int .i64 (n : Int)] w fun e w' => ∃ v', e = .returned v' ∧ Grew B v (l ++ beS x n) w v' w' := by
  obtain ⟨iB, hiB, hz0, hz1, hz2⟩ := info_parts infoByte
  have HG0 := Lib.hid (Grew.refl h)
  have HBB := Lib.hid hB
  obtain ⟨A, c, rfl⟩ := own_slice h
  clear h hx hB
  have hni : (n : Int) ≤ 8 := by omega
  go_enter Tryz.func45, Tryz.ntmps45
  go_upto_region 2 with fail
  go_loopg [0, 7] n (fun gg v0 i wr => ∃ (j k : Nat) (A' : Option Addr) (c' : Nat), j + k = n ∧ j = gg ∧ i = .int .i64 ((j : Int) - 1) ∧ v0 = .slice A' (l.length + k) c' ∧ Grew B (.slice A l.length c) (l ++ beTake x n k) w v0 wr)
  case atStart => exact ⟨n, 0, A, c, rfl, rfl, rfl, rfl, by rw [beTake, List.append_nil]; exact HG0.out⟩
  case round =>
    obtain ⟨j, k, A', c', hjk, rfl, rfl, rfl, hg⟩ := hrel
    have HG := Lib.hid hg
    have HJK := Lib.hid hjk
    clear hg
    cases j with
    | zero =>
      have hk : k = n := by omega
      subst hk
      clear hjk
      go_wp2
      go_ret
      exact ⟨_, rfl, HG.out⟩
    | succ j =>
      rw [show (((j + 1 : Nat) : Int) - 1) = (j : Int) by omega]
      have hj8 : j < 8 := by omega
      have hj9 : (j : Int) < 8 := by omega
      have HV := Lib.hid (byte_at x (8 * j))
      have HT := Lib.hid (beTake_next x hjk)
      clear hjk
      have hkl : k < 8 := by have := HJK.out; omega
      have HOW : Hid (wr.ownsRow B 5 1 (.slice A' (l.length + k) c') (l.length + k) ((l ++ beTake x n k).map u8v)) := by
        have := HG.out.1
        rw [List.length_append, beTake_len] at this
        exact this
      go_wp2_with (first
        | (at_builtin
           refine wpList_append_any _ rfl (.tmp 14) (.tmp 20) _ rfl B 5 iB _ 1 1 Tryz.underlying28 hiB hz0 hz1 hz2 rfl (by omega) (.slice A' (l.length + k) c') (l.length + k) ((l ++ beTake x n k).map u8v) rfl (HOW.out.alloc _)
             (wr.alloc (.cells #[.int .u8 ((x : Int) / 2 ^ (8 * j) % 256)] 5)).heap.size (some ⟨wr.heap.size, 0, none⟩) 1 1 [.int .u8 ((x : Int) / 2 ^ (8 * j) % 256)] rfl (Reads.of_own (own_one wr 5 _)) (by simp [Value.oneCell']) (by simp only [maxLen]; omega) (by omega) (by have := HG.out.2.1.size; have := HBB.out; simp; omega) ?_
           intro v2 w2 hown2 hg2 hat2
           obtain ⟨A2, c2, rfl⟩ := own_slice hown2
           rw [HV.out] at hown2
           have HN := Lib.hid hown2
           have HGR := Lib.hid hg2
           have HAT := Lib.hid hat2
           clear hown2 hg2 hat2))
      go_roundg j
      case measure => omega
      case rel =>
        refine ⟨j, k + 1, A2, c2, by have := HJK.out; omega, rfl, rfl, rfl, ?_⟩
        rw [HT.out, ← List.append_assoc]
        refine HG.out.trans (Grew.app (news := [UInt8.ofNat (x / 2 ^ (8 * j))]) (Sv.alloc (Sv.refl _ _) _) ?_ HGR.out HAT.out)
        have := HN.out
        rw [List.length_append, beTake_len]
        exact this
end Go.Proofs.YtmkifedcanmjoaaGreat
/- What blocks writes (contract). Conditions: the row is the caller's own; the blocks lie in memory below it. -/
set_option linter.unusedVariables false
set_option linter.unusedSimpArgs false
namespace Go.Proofs.YtmkifedcanmjoaaGreat
open Go.RowKit
attribute [local go_sem ↓] Go.wp_at_zero Go.wp_at_succ

/-- Numbers, four bytes each. -/
def fours (l : List Nat) : List UInt8 := l.flatMap fun x => beS x 4
theorem fours_len : ∀ l : List Nat, (fours l).length = 4 * l.length
  | [] => rfl
  | x :: l => by
    show (beS x 4 ++ fours l).length = _
    rw [List.length_append, beS_len, fours_len l, List.length_cons]; omega
theorem fours_snoc (l : List Nat) (x : Nat) : fours (l ++ [x]) = fours l ++ beS x 4 := by simp [fours]
/-- A block's bytes. -/
def blkB (e : List Nat) : List UInt8 := beS (e.getD 0 0) 4 ++ [UInt8.ofNat (e.getD 1 0)] ++ beS (e.getD 2 0) 3 ++ fours [e.getD 3 0, e.getD 4 0, e.getD 5 0, e.getD 6 0]
theorem blkB_len (e : List Nat) : (blkB e).length = 24 := by simp [blkB, beS_len, fours_len]
def blksB (l : List (List Nat)) : List UInt8 := l.flatMap blkB
theorem blksB_len : ∀ l : List (List Nat), (blksB l).length = 24 * l.length
  | [] => rfl
  | e :: l => by
    show (blkB e ++ blksB l).length = _
    rw [List.length_append, blkB_len, blksB_len l, List.length_cons]; omega
theorem blksB_snoc (l : List (List Nat)) (e : List Nat) : blksB (l ++ [e]) = blksB l ++ blkB e := by simp [blksB]
/-- Each number fits its place. -/
def FitQ (l : List (List Nat)) : Prop := ∀ e ∈ l, (∀ x ∈ e, x < 4294967296) ∧ e.getD 1 0 < 256
theorem Grew.below {B : Nat} {v v' : Value} {l0 l : List UInt8} {w w' : World} (h : Grew B v l w v' w') (ho : w.ownsRow B 5 1 v l0.length (l0.map u8v)) (hB : B ≤ w.heap.size) : Below B w w' :=
  h.2.1.toBelow (fun k e => (ho.lt k e).1) hB
theorem wrap64 {x : Nat} (h : x < 4294967296) : IntKind.u64.wrap (x : Int) = (x : Int) := by simp [IntKind.wrap, IntKind.bits, IntKind.signed]; omega
theorem u8v_of {a : Nat} (h : a < 256) : u8v (UInt8.ofNat a) = .int .u8 (a : Int) := by
  unfold u8v
  rw [UInt8.toNat_ofNat', Nat.mod_eq_of_lt (by omega)]
/-- One byte more, laid in a cell of its own. -/
theorem Grew.one {B : Nat} {v0 v v' : Value} {L : List UInt8} {m a : Nat} {wr w w' : World} (h : Grew B v0 L wr v w) (hm : m = L.length) (ha : a < 256) (hown : w'.ownsRow B 5 1 v' (m + 1) (L.map u8v ++ [.int .u8 (a : Int)])) (hg : (w.alloc (.cells #[.int .u8 (a : Int)] 5)).grownBy w' v.ownBlock) (hat : v'.ownBlock = v.ownBlock ∨ v'.ownBlock = some (w.alloc (.cells #[.int .u8 (a : Int)] 5)).heap.size) : Grew B v0 (L ++ [UInt8.ofNat a]) wr v' w' := by
  refine h.trans (Grew.app (news := [UInt8.ofNat a]) (Sv.alloc (Sv.refl _ _) _) ?_ hg hat)
  rw [hm, ← u8v_of ha] at hown
  exact hown
end Go.Proofs.YtmkifedcanmjoaaGreat
/- Append of a string's bytes behind a row of the call's own (law). Conditions: the row is the caller's own. -/
set_option linter.unusedVariables false
namespace Go.Proofs.YtmkifedcanmjoaaGreat
open Go.RowKit
section
variable {P : Program}
/-- A string's bytes as cells. -/
def strV (s : ByteArray) : List Value := s.data.toList.map u8v
theorem run_firstCells_string (w : World) (size : Nat) (s : ByteArray) : (Builtin.firstCells size s.size (.string s)).run P w = .ok (strV s).toArray w := by
  have hx : (Array.map (fun b : UInt8 => Value.int IntKind.u8 (b.toNat : Int)) s.data).extract 0 s.size = Array.map (fun b : UInt8 => Value.int IntKind.u8 (b.toNat : Int)) s.data := by
    have hs : s.size = (Array.map (fun b : UInt8 => Value.int IntKind.u8 (b.toNat : Int)) s.data).size := by rw [Array.size_map]; rfl
    rw [hs, Array.extract_size]
  have hy : Array.map (fun b : UInt8 => Value.int IntKind.u8 (b.toNat : Int)) s.data = (strV s).toArray := by
    unfold strV
    apply Array.ext'
    simp only [Array.toList_map]
    rfl
  simp [Builtin.firstCells]
  first
    | exact hy
    | (rw [hx]; exact hy)
theorem strV_len (s : ByteArray) : (strV s).length = s.size := by unfold strV; rw [List.length_map, Array.length_toList]; rfl
theorem run_append_room_s (w : World) (t u ty e : TypeId) (i : TypeInfo) (ht : P.underlying t = some (.slice e)) (hu : P.underlying u = some .string) (hi : P.info? e = some i) (h1 : i.size = 1)
    (g sLen sCap : Nat) (cur : Array Value) (hg : w.heap[g]? = some (.cells cur e (0, 0))) (s : ByteArray) (hroom : sLen + s.size ≤ sCap) (hfit : sLen * i.size + (strV s).length ≤ cur.size) :
    (Builtin.append_ #[t, u] ty #[.slice (some ⟨g, 0, none⟩) sLen sCap, .string s]).run P w =
      .ok (.slice (some ⟨g, 0, none⟩) (sLen + s.size) sCap) (w.setRow g (cur.toList.take (sLen * i.size) ++ strV s ++ cur.toList.drop (sLen * i.size + (strV s).length)).toArray) := by
  have hf := run_firstCells_string (P := P) w i.size s
  have hst := run_storeCells_at P g (sLen * i.size) e (strV s) 0 cur w hg (by simpa using hfit) (u8_one _)
  simp only [Nat.add_zero] at hst
  simp [Builtin.append_, run_underlying ht, run_underlying hu, sizeOf, typeInfo, hi, Builtin.lenOf, hroom, hf, Addr.add_lit, hst]
theorem run_append_grow_s (w : World) (t u ty e : TypeId) (i : TypeInfo) (z : Value) (ht : P.underlying t = some (.slice e)) (hu : P.underlying u = some .string) (hi : P.info? e = some i) (hz : i.zero = some z)
    (b : Addr) (sLen sCap : Nat) (olds : List Value) (hlo : olds.length = sLen * i.size) (holds : ∀ j v, olds[j]? = some v → w.cell? (b.add j) = some v) (s : ByteArray)
    (hg : sCap < sLen + s.size) (h63 : ((sLen + s.size : Nat) : Int) ≤ 9223372036854775807) (hfit : Builtin.nextslicecap (sLen + s.size) sCap * i.bytes ≤ 281474976710656) :
    (Builtin.append_ #[t, u] ty #[.slice (some b) sLen sCap, .string s]).run P w =
      .ok (.slice (some ⟨w.heap.size, 0, none⟩) (sLen + s.size) (grownCap w (sLen + s.size) sCap e))
        (w.drew.alloc (.cells (olds.toArray ++ (strV s).toArray ++ Builtin.zeroCells z.cells (grownCap w (sLen + s.size) sCap e - (sLen + s.size))) e)) := by
  have hn : ¬ (sLen + s.size ≤ sCap) := by omega
  have h63' : ¬ (9223372036854775807 < ((sLen : Int) + (s.size : Int))) := by omega
  have h48' : ¬ (281474976710656 < Builtin.nextslicecap (sLen + s.size) sCap * i.bytes) := by omega
  have hf := run_firstCells_string (P := P) w.drew i.size s
  have hfo := run_firstCells_some (P := P) w.drew i.size sLen b sLen sCap olds hlo (by simpa using holds)
  simp [Builtin.append_, run_underlying ht, run_underlying hu, sizeOf, typeInfo, zeroValue, hi, hz, Builtin.lenOf, hn, h63', h48', Question.forced, hf, hfo, newRow, grownCap]
  congr 2
  apply Array.ext'
  simp [List.append_assoc]
theorem run_append_str (w : World) (base : Nat) (t u ty e : TypeId) (i : TypeInfo) (z : Value) (ht : P.underlying t = some (.slice e)) (hu : P.underlying u = some .string) (hi : P.info? e = some i) (hz : i.zero = some z)
    (hsize : i.size = 1) (hby : i.bytes = 1) (hzs : z.cells.size = 1)
    (v : Value) (n : Nat) (xs : List Value) (hown : w.ownsRow base e 1 v n xs) (s : ByteArray) (h0 : 0 < s.size)
    (h63 : n + s.size ≤ maxLen) (hbytes : n + s.size ≤ 140737488355328) (hbase : base ≤ w.heap.size) :
    ∃ v' w', (Builtin.append_ #[t, u] ty #[v, .string s]).run P w = .ok v' w' ∧ w'.ownsRow base e 1 v' (n + s.size) (xs ++ strV s) ∧ w.grownBy w' v.ownBlock ∧
      (v'.ownBlock = v.ownBlock ∨ v'.ownBlock = some w.heap.size) := by
  have hl := strV_len s
  have hsmall : n + s.size ≤ 9223372036854775807 := by simp only [maxLen] at h63; omega
  have hlen : (xs ++ strV s).length = (n + s.size) * 1 := by rw [List.length_append, hown.1, hl, Nat.add_mul, Nat.mul_one]; omega
  have grown : ∀ (old : Nat), old < n + s.size → ∀ (row : Option Nat),
      (w.drew.alloc (.cells (xs.toArray ++ (strV s).toArray ++ Builtin.zeroCells z.cells (grownCap w (n + s.size) old e - (n + s.size))) e)).ownsRow base e 1
        (.slice (some ⟨w.heap.size, 0, none⟩) (n + s.size) (grownCap w (n + s.size) old e)) (n + s.size) (xs ++ strV s) ∧
      w.grownBy (w.drew.alloc (.cells (xs.toArray ++ (strV s).toArray ++ Builtin.zeroCells z.cells (grownCap w (n + s.size) old e - (n + s.size))) e)) row := by
    intro old ho row
    have hge := grownCap_ge w (n + s.size) old e
    have hcm : grownCap w (n + s.size) old e ≤ maxLen := grownCap_le_maxLen w (n + s.size) old e h63
    refine ⟨⟨hlen, .inr ⟨w.heap.size, _, _, rfl, hbase, heap_alloc_new w.drew _, hge, hcm, ?_, ?_⟩⟩, ⟨rfl, rfl, rfl, by simp, fun k hk _ => Below.heap_alloc w.drew _ k hk⟩⟩
    · simp only [Array.size_append, List.size_toArray, size_zeroCells, hzs, hown.1, hl]
      omega
    · simp only [Array.toList_append, List.append_assoc]
      rw [← List.append_assoc, ← hlen]
      exact List.take_left
  rcases hown.2 with ⟨rfl, rfl⟩ | ⟨g, cap, cur, rfl, hbg, hg, hnc, hcm, hcs, htake⟩
  · have hx : xs = [] := List.eq_nil_of_length_eq_zero (by simpa using hown.1)
    subst hx
    have hr := run_append_nil_string (P := P) (w := w) t u ty e i z ht hu hi hz s h0 (by omega) (by rw [hby]; omega)
    have hgr := grown 0 (by omega) (Value.ownBlock (.slice none 0 0))
    simp only [Nat.zero_add, List.nil_append, Array.empty_append] at hgr ⊢
    have hy : (s.data.map fun b => Value.int .u8 (b.toNat : Int)) = (strV s).toArray := by
      unfold strV
      apply Array.ext'
      simp only [Array.toList_map]
      rfl
    rw [hy] at hr
    exact ⟨_, _, hr, hgr.1, hgr.2, Or.inr rfl⟩
  · by_cases hroom : n + s.size ≤ cap
    · have hfit : n * i.size + (strV s).length ≤ cur.size := by rw [hl, hsize, hcs]; omega
      have hr := run_append_room_s (P := P) w t u ty e i ht hu hi hsize g n cap cur hg s hroom hfit
      rw [hsize] at hr
      refine ⟨_, _, hr, ⟨hlen, .inr ⟨g, cap, _, rfl, hbg, setRow_heap w g cur _ e _ hg, hroom, hcm, ?_, ?_⟩⟩, ⟨rfl, rfl, rfl, by simp, fun k _ hk => setRow_other w g k _ (fun e => hk (by simp [Value.ownBlock, e]))⟩, Or.inl rfl⟩
      · simp only [List.size_toArray, List.length_append, List.length_take, List.length_drop, Array.length_toList]
        rw [hsize] at hfit
        omega
      · rw [htake, ← hlen]
        exact List.take_left
    · have holds : ∀ j u, xs[j]? = some u → w.cell? ((⟨g, 0, none⟩ : Addr).add j) = some u := hown.cells (g := g) rfl
      have hr := run_append_grow_s (P := P) w t u ty e i z ht hu hi hz ⟨g, 0, none⟩ n cap xs (by rw [hsize]; exact hown.1) holds s (by omega) (by omega) (growslice_fits (by omega) (by rw [hby]; omega))
      have hgr := grown cap (by omega) (Value.ownBlock (.slice (some ⟨g, 0, none⟩) n cap))
      exact ⟨_, _, hr, hgr.1, hgr.2, Or.inr rfl⟩
theorem wp_append_str (w : World) {o : Oper} {a : Act} {K : Act → World → Prop} {Q : Exit → Act → World → Prop} (s : Operand) (x : Operand) (t u : TypeId)
    (ho : o.op = .call { callee := .builtin .append, args := #[s, x], argTypes := #[t, u] })
    (base : Nat) (e : TypeId) (i : TypeInfo) (z : Value) (ht : P.underlying t = some (.slice e)) (hu : P.underlying u = some .string) (hi : P.info? e = some i) (hz : i.zero = some z)
    (hsize : i.size = 1) (hby : i.bytes = 1) (hzs : z.cells.size = 1)
    (v : Value) (n : Nat) (xs : List Value) (hs : a.eval s = v) (hown : w.ownsRow base e 1 v n xs) (str : ByteArray) (hx : a.eval x = .string str) (h0 : 0 < str.size)
    (h63 : n + str.size ≤ maxLen) (hbytes : n + str.size ≤ 140737488355328) (hbase : base ≤ w.heap.size)
    (h : ∀ v' w', w'.ownsRow base e 1 v' (n + str.size) (xs ++ strV str) → w.grownBy w' v.ownBlock → (v'.ownBlock = v.ownBlock ∨ v'.ownBlock = some w.heap.size) → K (a.put o.dst v') w') : o.wp P a w K Q := by
  obtain ⟨v', w', hrun, h2, h3, h4⟩ := run_append_str (P := P) w base t u o.type e i z ht hu hi hz hsize hby hzs v n xs hown str h0 h63 hbytes hbase
  unfold Oper.wp execOp
  simp only [ho, resolve, invoke, builtin, Sem.run_bind, Sem.run_pure, Result.andThen_ok, List.map_toArray, List.map_cons, List.map_nil, hs, hx, hrun]
  exact h v' w' h2 h3 h4
theorem step_append_str (w : World) {ops : Array Oper} {o : Oper} {a : Act} {K : Act → World → Prop} {Q : Exit → Act → World → Prop} {E : Prop} (hgd : o.guard = none) (s : Operand) (x : Operand) (t u : TypeId)
    (ho : o.op = .call { callee := .builtin .append, args := #[s, x], argTypes := #[t, u] })
    (base : Nat) (e : TypeId) (i : TypeInfo) (z : Value) (ht : P.underlying t = some (.slice e)) (hu : P.underlying u = some .string) (hi : P.info? e = some i) (hz : i.zero = some z)
    (hsize : i.size = 1) (hby : i.bytes = 1) (hzs : z.cells.size = 1)
    (v : Value) (n : Nat) (xs : List Value) (hs : a.eval s = v) (hown : w.ownsRow base e 1 v n xs) (str : ByteArray) (hx : a.eval x = .string str) (h0 : 0 < str.size)
    (h63 : n + str.size ≤ maxLen) (hbytes : n + str.size ≤ 140737488355328) (hbase : base ≤ w.heap.size)
    (h : ∀ v' w', w'.ownsRow base e 1 v' (n + str.size) (xs ++ strV str) → w.grownBy w' v.ownBlock → (v'.ownBlock = v.ownBlock ∨ v'.ownBlock = some w.heap.size) → K (a.put o.dst v') w') :
    if Region.wanted o (yielded ops a.tmps) = true then Oper.wp P o a w K Q else E := by
  have hw : Region.wanted o (yielded ops a.tmps) = true := by simp [Region.wanted, hgd]
  rw [if_pos hw]
  exact wp_append_str w s x t u ho base e i z ht hu hi hz hsize hby hzs v n xs hs hown str hx h0 h63 hbytes hbase h
end
end Go.Proofs.YtmkifedcanmjoaaGreat
/- What a report is written as (plain); what told returns. Conditions: as each says. (Printed by gen8g.py.) -/
set_option linter.unusedVariables false
set_option linter.unusedSimpArgs false
namespace Go.Proofs.YtmkifedcanmjoaaGreat
open Go.RowKit
attribute [local go_sem ↓] Go.wp_at_zero Go.wp_at_succ

def pairB (e : List Nat) : List UInt8 := beS (e.getD 0 0) 2 ++ beS (e.getD 1 0) 2
def pairsB (l : List (List Nat)) : List UInt8 := l.flatMap pairB
def firB (e : List Nat) : List UInt8 := beS (e.getD 0 0) 4 ++ [UInt8.ofNat (e.getD 1 0), 0, 0, 0]
def firsB (l : List (List Nat)) : List UInt8 := l.flatMap firB
theorem pairsB_len : ∀ l : List (List Nat), (pairsB l).length = 4 * l.length
  | [] => rfl
  | e :: l => by
    show (pairB e ++ pairsB l).length = _
    rw [List.length_append, pairsB_len l, List.length_cons]; simp [pairB, beS_len]; omega
theorem firsB_len : ∀ l : List (List Nat), (firsB l).length = 8 * l.length
  | [] => rfl
  | e :: l => by
    show (firB e ++ firsB l).length = _
    rw [List.length_append, firsB_len l, List.length_cons]; simp [firB, beS_len]; omega
theorem pairsB_snoc (l : List (List Nat)) (e : List Nat) : pairsB (l ++ [e]) = pairsB l ++ pairB e := by simp [pairsB]
theorem firsB_snoc (l : List (List Nat)) (e : List Nat) : firsB (l ++ [e]) = firsB l ++ firB e := by simp [firsB]
/-- What stands behind a report's first four bytes. -/
def bodyS (r : Rep) : List UInt8 :=
  if r.kind = 7 then r.body
  else if r.kind = 1 then beS r.fr 4 ++ beS r.ntp 8 ++ fours [r.ts, r.pk, r.oc] ++ blksB r.blocks
  else if r.kind = 2 then beS r.fr 4 ++ blksB r.blocks
  else if r.kind = 3 then beS r.fr 4 ++ beS r.ab 4 ++ pairsB r.pairs
  else if r.kind = 4 then beS r.fr 4 ++ beS r.ab 4
  else if r.kind = 5 then beS r.fr 4 ++ beS r.ab 4 ++ firsB r.firs
  else beS r.fr 4 ++ beS r.ab 4 ++ [82, 69, 77, 66] ++ [UInt8.ofNat r.ssrcs.length] ++ beS (r.ex.toNat * 262144 + r.mt) 3 ++ fours (r.ssrcs.map fun e => e.getD 0 0)
def typS (r : Rep) : Int := if r.kind = 7 then r.ty else if r.kind = 1 then 200 else if r.kind = 2 then 201 else if r.kind = 3 then 205 else 206
def cntS (r : Rep) : Int := if r.kind = 7 then r.ct else if r.kind = 1 ∨ r.kind = 2 then r.blocks.length else if r.kind = 3 ∨ r.kind = 4 then 1 else if r.kind = 5 then 4 else 15
/-- What told returns. -/
def ToldR (r : Rep) (vd : Value) (w : World) (e : Ending) (w' : World) : Prop := ∃ v, e = .returned (.tuple #[v, .int .i64 (typS r), .int .i64 (cntS r)]) ∧ (ByteRow w' w.heap.size v (bodyS r) ∨ (v = vd ∧ bodyS r = r.body)) ∧ Below w.heap.size w w'
theorem Grew.start (w : World) : Grew w.heap.size (.slice none 0 0) [] w (.slice none 0 0) w := Grew.refl (World.ownsRow_nil _ _ _ _)
theorem Grew.belowN {B : Nat} {v' : Value} {l : List UInt8} {w w' : World} (h : Grew B (.slice none 0 0) l w v' w') : Below w.heap.size w w' := h.2.1.toBelow (fun k e => by cases e) (Nat.le_refl _)
theorem Grew.blkN {B : Nat} {v' : Value} {l : List UInt8} {w w' : World} {g : Nat} {t : TypeId} {cs : Array Value} (h : Grew B (.slice none 0 0) l w v' w') (hb : Blk w g t cs) : Blk w' g t cs := h.2.1.blk hb (fun e => by cases e)
theorem Grew.tv {B : Nat} {v v' : Value} {l : List UInt8} {w w' w0 : World} (h : Grew B v l w v' w') (hB : w0.heap.size ≤ B) : ByteRow w' w0.heap.size v' l := own_lower h.1 hB
theorem Grew.slv {B : Nat} {v v' : Value} {l : List UInt8} {w w' : World} (h : Grew B v l w v' w') : SlV w' v' l := SlV.own (base := B) h.1
end Go.Proofs.YtmkifedcanmjoaaGreat
/- What Bytes returns of one report that may be (contract). Conditions: the report lies in memory; what Good and told say of it is known. -/
set_option linter.unusedVariables false
set_option linter.unusedSimpArgs false
namespace Go.Proofs.YtmkifedcanmjoaaGreat
open Go.RowKit
attribute [local go_sem ↓] Go.wp_at_zero Go.wp_at_succ
theorem or128 : ∀ c : Nat, c ≤ 31 → bits .or .i64 128 (c : Int) = ((128 + c : Nat) : Int) := by
  intro c hc
  rcases c with _ | _ | _ | _ | _ | _ | _ | _ | _ | _ | _ | _ | _ | _ | _ | _ | _ | _ | _ | _ | _ | _ | _ | _ | _ | _ | _ | _ | _ | _ | _ | _ | c <;> first | decide | omega
theorem Grew.call {B : Nat} {v v' : Value} {l : List UInt8} {w w' w'' : World} (h : Grew B v l w v' w') (hb : Below w'.heap.size w' w'') : Grew B v l w v' w'' :=
  ⟨(Sv.of_below (M := fun _ => False) hb).own h.1 (fun _ _ e => e), h.2.1.call hb, h.2.2⟩
theorem SlV.sv_ {w w' : World} {M : Nat → Prop} {v : Value} {b : List UInt8} (h : SlV w v b) (hs : Sv M w w') (hM : ∀ g, v.ownBlock = some g → ¬ M g) : SlV w' v b := by
  obtain ⟨A, c, rfl, hc, hr⟩ := h
  exact ⟨A, c, rfl, hc, hs.reads hr fun ad e => hM ad.block (by rw [e]; rfl)⟩
/-- A report that may be, in any world behind w. -/
def GoodAt (w : World) (R : List Value) : Prop := ∀ wx, Below w.heap.size w wx → Calls Tryz.prog 43 #[.agg R.toArray] wx fun e w' => e = .returned (.bool true) ∧ Below wx.heap.size wx w'
/-- What is told of a report, in any world behind w. -/
def ToldAt (w : World) (R : List Value) (b : List UInt8) (t c : Nat) : Prop := ∀ wx, Below w.heap.size w wx → Calls Tryz.prog 44 #[.agg R.toArray] wx fun e w' => ∃ v, e = .returned (.tuple #[v, .int .i64 (t : Int), .int .i64 (c : Int)]) ∧ ByteRow w' wx.heap.size v b ∧ Below wx.heap.size wx w'
def zRep : List Value := [.int .i64 0, .int .u32 0, .int .u32 0, .int .u64 0, .int .u32 0, .int .u32 0, .int .u32 0, .slice none 0 0, .slice none 0 0, .slice none 0 0, .int .i64 0, .int .u32 0, .slice none 0 0, .int .i64 0, .int .i64 0, .slice none 0 0]
set_option maxRecDepth 100000 in
set_option maxHeartbeats 6400000 in
theorem clos1_c {w : World} {R : List Value} (hf : FitL 81 R) (hg : GoodAt w R) :
    Calls Tryz.prog 42 #[.agg R.toArray] w fun e w' => e = .returned (.bool false) ∧ Below w.heap.size w w' := by
  have HF := Lib.hid hf
  have HG := Lib.hid hg
  obtain ⟨g, hgE⟩ : ∃ g, g = w.heap.size := ⟨_, rfl⟩
  obtain ⟨w1, hw1⟩ : ∃ w1, w1 = w.alloc (.cells R.toArray 81) := ⟨_, rfl⟩
  have HB1 : Hid (Below w.heap.size w w1) := by show Below _ _ _; rw [hw1]; exact balloc (Below.refl _ _) _
  have HRG : Hid (w1.rangeAt g 0 R) := by show World.rangeAt _ _ _ _; rw [hw1]; exact blk_range (Blk.newAt hgE _ _)
  clear hf hg
  go_enter Tryz.func42, Tryz.ntmps42
  go_upto_region 1 with fail
  rw [← hw1, ← hgE]
  clear hw1 hgE
  go_wp2_with (first
    | ((with_reducible show wpList _ _ _ (⟨some 3, .load _ (.tmp 1), _, _, _, _⟩ :: _) _ _); refine wpList_load_mid rfl 81 (.tmp 1) rfl g 0 rfl R _ HRG.out Tryz.underlying81 rfl HF.out.info ?_)
    | (go_at_call 43
       refine (HG.out _ HB1.out).mono ?_
       rintro e9 w9 ⟨rfl, hb9⟩
       have HB9 : Hid (Below w.heap.size w w9) := bcall HB1.out hb9
       clear hb9))
  go_ret
  exact ⟨rfl, HB9.out⟩
set_option maxRecDepth 100000 in
set_option maxHeartbeats 6400000 in
theorem idx1_c {w : World} {g : Nat} {R : List Value} (hf : FitL 81 R) (hb : Blk w g 81 R.toArray) (hg : GoodAt w R) :
    Calls Tryz.prog 71 #[.slice (some ⟨g, 0, none⟩) 1 1, .func (.func 42) #[] #[]] w fun e w' => e = .returned (.int .i64 (-1)) ∧ Below w.heap.size w w' := by
  have HF := Lib.hid hf
  have HRG : Hid (w.rangeAt g 0 R) := blk_range hb
  have HC := Lib.hid (clos1_c hf hg)
  clear hf hg hb
  go_enter Tryz.func71, Tryz.ntmps71
  go_upto_region 2 with fail
  go_loopg [8] 1 (fun gg v wx => (gg = 1 ∧ v = .int .i64 0 ∧ wx = w) ∨ (gg = 0 ∧ v = .int .i64 1 ∧ Below w.heap.size w wx))
  case atStart => exact .inl ⟨rfl, rfl, rfl⟩
  case round =>
    rcases hrel with ⟨rfl, rfl, rfl⟩ | ⟨rfl, rfl, hb⟩
    · go_upto_if 16 with (first
        | ((with_reducible show wpList _ _ _ (⟨some 15, .load _ (.tmp 14), _, _, _, _⟩ :: _) _ _); refine wpList_load_mid rfl 81 (.tmp 14) rfl g 0 rfl R _ HRG.out Tryz.underlying81 rfl HF.out.info ?_)
        | (go_at_call 42
           refine HC.out.mono ?_
           rintro e9 w9 ⟨rfl, hb9⟩
           have HB9 := Lib.hid hb9
           clear hb9))
      go_wp2_with fail
      go_roundg 0
      case measure => decide
      case rel => exact .inr ⟨rfl, rfl, HB9.out⟩
    · have HB := Lib.hid hb
      clear hb
      go_wp2_with fail
      go_ret
      exact ⟨rfl, HB.out⟩
set_option maxRecDepth 100000 in
set_option maxHeartbeats 6400000 in
theorem cont1_c {w : World} {g : Nat} {R : List Value} (hf : FitL 81 R) (hb : Blk w g 81 R.toArray) (hg : GoodAt w R) :
    Calls Tryz.prog 41 #[.slice (some ⟨g, 0, none⟩) 1 1, .func (.func 42) #[] #[]] w fun e w' => e = .returned (.bool false) ∧ Below w.heap.size w w' := by
  have HC := Lib.hid (idx1_c hf hb hg)
  clear hf hg hb
  go_enter Tryz.func41, Tryz.ntmps41
  go_wp2_with (first
    | (go_at_call 71
       refine HC.out.mono ?_
       rintro e9 w9 ⟨rfl, hb9⟩
       have HB9 := Lib.hid hb9
       clear hb9))
  go_ret
  exact ⟨rfl, HB9.out⟩
/-- A report's bytes. -/
def repB (c t : Nat) (b : List UInt8) : List UInt8 := [UInt8.ofNat (128 + c), UInt8.ofNat t] ++ beS (b.length / 4) 2 ++ b
set_option maxRecDepth 100000 in
set_option maxHeartbeats 12800000 in
theorem bytes1_c {w : World} {g : Nat} {R : List Value} (hf : FitL 81 R) (hb : Blk w g 81 R.toArray) (hg : GoodAt w R) {b : List UInt8} {t c : Nat} (ht : t < 256) (hc : c ≤ 31) (hbl : b.length ≤ 1000) (hto : ToldAt w R b t c) :
    Calls Tryz.prog 19 #[.slice (some ⟨g, 0, none⟩) 1 1] w fun e w' => ∃ v, e = .returned (.tuple #[v, .int .i64 0]) ∧ ByteRow w' w.heap.size v (repB c t b) ∧ Below w.heap.size w w' := by
  obtain ⟨iB, hiB, hz0, hz1, hz2⟩ := info_parts infoByte
  have HF := Lib.hid hf
  have HBK := Lib.hid hb
  have HCO := Lib.hid (cont1_c hf hb hg)
  have HTO := Lib.hid hto
  have hRl : R.length = 16 := by have h := hf.info; rw [infoRep] at h; injection h with h; exact h.symm
  have HRL := Lib.hid hRl
  obtain ⟨N, hN⟩ : ∃ N, N = b.length := ⟨_, rfl⟩
  have HNE := Lib.hid hN
  rw [← hN] at hbl
  have hNl : (N : Int) ≤ 1000 := by omega
  have hor := or128 c hc
  obtain ⟨X, hX⟩ : ∃ X, X = 128 + c := ⟨_, rfl⟩
  rw [← hX] at hor
  have hXl : X < 256 := by omega
  have hwX : IntKind.u8.wrap (X : Int) = (X : Int) := by rw [IntKind.wrap_u8]; omega
  have hwt : IntKind.u8.wrap (t : Int) = (t : Int) := by rw [IntKind.wrap_u8]; omega
  have HXE := Lib.hid hX
  have HLIT : Hid ([Value.int .u8 (X : Int), .int .u8 (t : Int)] = ([UInt8.ofNat X, UInt8.ofNat t] : List UInt8).map u8v) := by
    show _ = _
    simp only [List.map_cons, List.map_nil]
    rw [u8v_of hXl, u8v_of ht]
  obtain ⟨Q, hQ⟩ : ∃ Q, Q = N / 4 := ⟨_, rfl⟩
  have HQ := Lib.hid hQ
  have hQi : (N : Int) / 4 = (Q : Int) := by omega
  have hQl : Q < 65536 := by omega
  have hwQ : IntKind.u64.wrap (Q : Int) = (Q : Int) := wrap64 (by omega)
  have HQL := Lib.hid hQl
  have hNi : (N : Int).tdiv 4 = (Q : Int) := by rw [Int.tdiv_eq_ediv_of_nonneg (by omega)]; exact hQi
  clear hf hb hg hto hRl hN hX ht hc hXl hQ hQl
  go_enter Tryz.func19, Tryz.ntmps19
  go_upto_region 5 with (first
    | (go_at_call 41
       refine HCO.out.mono ?_
       rintro e9 w9 ⟨rfl, hb9⟩
       have HB9 := Lib.hid hb9
       clear hb9))
  have HBK9 : Hid (Blk w9 g 81 R.toArray) := HBK.out.below HB9.out
  go_loopg [4, 19] 1 (fun gg vv vi wx => (gg = 1 ∧ vv = .slice none 0 0 ∧ vi = .int .i64 0 ∧ wx = w9) ∨ (gg = 0 ∧ vi = .int .i64 1 ∧ ByteRow wx w.heap.size vv (repB c t b) ∧ Below w.heap.size w wx))
  case atStart => exact .inl ⟨rfl, rfl, rfl, rfl⟩
  case round =>
    rcases hrel with ⟨rfl, rfl, rfl, rfl⟩ | ⟨rfl, rfl, hrow, hb⟩
    · obtain ⟨gx, hgx⟩ : ∃ gx, gx = wr.heap.size := ⟨_, rfl⟩
      obtain ⟨w10, hw10⟩ : ∃ w10, w10 = World.setCells (wr.alloc (.cells zRep.toArray 81)) wr.heap.size 0 R := ⟨_, rfl⟩
      have HB10 : Hid (Below wr.heap.size wr w10) := by show Below _ _ _; rw [hw10]; exact below_setCells (balloc (Below.refl _ _) _) (Nat.le_refl _) _ _
      have HX10 : Hid (Blk w10 gx 81 R.toArray) := by
        show Blk _ _ _ _
        rw [hw10, hgx]
        exact blk_setAll (l := zRep) (Blk.new wr _ _) (by rw [HRL.out]; rfl)
      have HRG : Hid (wr.rangeAt g 0 R) := blk_range HBK9.out
      have HRX : Hid (w10.rangeAt gx 0 R) := blk_range HX10.out
      go_upto_region 7 with (first
        | ((with_reducible show wpList _ _ _ (⟨some 22, .load _ (.tmp 21), _, _, _, _⟩ :: _) _ _); refine wpList_load_mid rfl 81 (.tmp 21) rfl g 0 rfl R _ HRG.out Tryz.underlying81 rfl HF.out.info ?_)
        | ((with_reducible show wpList _ _ _ (⟨none, .store _ (.tmp 6) (.tmp 22), _, _, _, _⟩ :: _) _ _); refine wpList_store_mid rfl 81 (.tmp 6) (.tmp 22) rfl wr.heap.size 0 R.toArray rfl rfl (there_new wr 81 zRep.toArray _ (by show R.length ≤ 16; rw [HRL.out]; exact Nat.le_refl _)) HF.out.infos HF.out.one ?_))
      have hE2 : World.setCells (wr.alloc (.cells #[.int .i64 0, .int .u32 0, .int .u32 0, .int .u64 0, .int .u32 0, .int .u32 0, .int .u32 0, .slice none 0 0, .slice none 0 0, .slice none 0 0, .int .i64 0, .int .u32 0, .slice none 0 0, .int .i64 0, .int .i64 0, .slice none 0 0] 81)) wr.heap.size 0 R = w10 := hw10.symm
      rw [hE2, ← hgx]
      clear hw10 hgx hE2
      obtain ⟨B, hB⟩ : ∃ B, B = w10.heap.size := ⟨_, rfl⟩
      have HBE := Lib.hid hB
      have HG10 : Hid (Grew B (.slice none 0 0) [] w10 (.slice none 0 0) w10) := by show Grew _ _ _ _ _ _; rw [hB]; exact Grew.start w10
      clear hB
      go_upto_region 8 with (first
        | ((with_reducible show wpList _ _ _ (⟨some 24, .load _ (.tmp 6), _, _, _, _⟩ :: _) _ _); refine wpList_load_mid rfl 81 (.tmp 6) rfl gx 0 rfl R _ HRX.out Tryz.underlying81 rfl HF.out.info ?_)
        | (go_at_call 44
           refine (HTO.out w10 (bcall HB9.out HB10.out)).mono ?_
           rintro e9 w11 ⟨v9, rfl, hs9, hb9⟩
           obtain ⟨A9, c9, hv9⟩ := own_slice hs9
           rw [← HNE.out] at hv9
           subst hv9
           have HS11 : Hid (SlV w11 (.slice A9 N c9) b) := SlV.own (base := w10.heap.size) hs9
           have HB11 := Lib.hid hb9
           have HG11 := Lib.hid (HG10.out.call hb9)
           have HLB : Hid (∀ gg, (Value.slice A9 N c9).ownBlock = some gg → gg < w11.heap.size) := fun gg e => (World.ownsRow.lt hs9 gg e).2
           clear hs9 hb9))
      have hbi : ¬ (1200 : Int) < 4 + (N : Int) := by omega
      obtain ⟨w12, hw12⟩ : ∃ w12, w12 = w11.alloc (.cells #[.int .u8 (X : Int), .int .u8 (t : Int)] 5) := ⟨_, rfl⟩
      have HB12 : Hid (Below w11.heap.size w11 w12) := by show Below _ _ _; rw [hw12]; exact balloc (Below.refl _ _) _
      have HY12 : Hid (Blk w12 w11.heap.size 5 #[.int .u8 (X : Int), .int .u8 (t : Int)]) := by show Blk _ _ _ _; rw [hw12]; exact Blk.newAt rfl _ _
      have HG12 := Lib.hid (HG11.out.call HB12.out)
      have HO12 : Hid (World.ownsRow w12 B 5 1 (.slice none 0 0) 0 []) := HG12.out.1
      have HBS : Hid (B ≤ w12.heap.size) := by show _ ≤ _; rw [HBE.out]; exact HG12.out.2.1.size
      have HS12 : Hid (SlV w12 (.slice A9 N c9) b) := HS11.out.below HB12.out
      rw [hw12] at HB12 HY12 HG12 HO12 HBS HS12
      clear hw12
      go_upto_region 11 with (first
        | (at_builtin
           refine wpList_append_any _ rfl (.tmp 36) (.tmp 42) _ rfl B 5 iB _ 1 1 Tryz.underlying28 hiB hz0 hz1 hz2 rfl (by omega) (.slice none 0 0) 0 [] rfl HO12.out
             _ (some ⟨w11.heap.size, 0, none⟩) 2 2 [.int .u8 (X : Int), .int .u8 (t : Int)] rfl (reads_blk HY12.out rfl) (by simp [Value.oneCell']) (by simp only [maxLen]; omega) (by omega) HBS.out ?_
           intro v13 w13 hown13 hg13 hat13
           obtain ⟨A13, c13, hv13⟩ := own_slice hown13
           subst hv13
           have HG13 : Hid (Grew B (.slice none 0 0) [UInt8.ofNat X, UInt8.ofNat t] w10 (.slice A13 2 c13) w13) := by
             refine HG12.out.trans (Grew.app (l := []) (news := [UInt8.ofNat X, UInt8.ofNat t]) (Sv.refl _ _) ?_ hg13 hat13)
             have := hown13
             rw [HLIT.out] at this
             exact this
           have HS13 : Hid (SlV w13 (.slice A9 N c9) b) := HS12.out.below ((((Sv.refl (fun _ => False) _).grown hg13 fun g e => by cases e).toBelow (fun k e => e.elim) (Nat.le_refl _)))
           have HN13 : Hid (∀ gg, (Value.slice A9 N c9).ownBlock = some gg → (Value.slice A13 2 c13).ownBlock ≠ some gg) := by
             intro gg e1 e2
             have h1 := HLB.out gg e1
             rcases hat13 with h | h
             · rw [h] at e2; cases e2
             · rw [h] at e2
               injection e2 with e2
               rw [World.size_alloc] at e2
               omega
           clear hown13 hg13 hat13))
      go_upto_region 12 with (first
        | (go_at_call 45
           refine (put_c B Q 2 [UInt8.ofNat X, UInt8.ofNat t] _ w13 HG13.out.1 (by rw [HBE.out]; exact HG13.out.2.1.size) (by show (2 : Nat) ≤ _; omega) (by decide) (by have := HQL.out; omega)).mono ?_
           rintro e9 w14 ⟨v14, rfl, hg14⟩
           obtain ⟨A14, c14, hv14⟩ := own_slice hg14.1
           subst hv14
           have HS14 : Hid (SlV w14 (.slice A9 N c9) b) := HS13.out.sv_ hg14.2.1 (fun gg e1 e2 => HN13.out gg e1 e2)
           have HG14 : Hid (Grew B (.slice none 0 0) ([UInt8.ofNat X, UInt8.ofNat t] ++ beS Q 2) w10 (.slice A14 4 c14) w14) := HG13.out.trans hg14
           clear hg14)
        | (at_builtin
           refine wpList_append_any _ rfl (.tmp 49) (.tmp 50) _ rfl B 5 iB _ 1 1 Tryz.underlying28 hiB hz0 hz1 hz2 rfl (by omega) (.slice A14 4 c14) 4 (([UInt8.ofNat X, UInt8.ofNat t] ++ beS Q 2).map u8v) rfl HG14.out.1
             _ A9 N c9 (b.map u8v) rfl HS14.out.rd (u8_one _) (by simp only [maxLen]; omega) (by omega) (by rw [HBE.out]; exact HG14.out.2.1.size) ?_
           intro v15 w15 hown15 hg15 hat15
           obtain ⟨A15, c15, hv15⟩ := own_slice hown15
           subst hv15
           have HG15 : Hid (Grew B (.slice none 0 0) ([UInt8.ofNat X, UInt8.ofNat t] ++ beS Q 2 ++ b) w10 (.slice A15 (4 + N) c15) w15) := by
             refine HG14.out.trans (Grew.app (news := b) (Sv.refl _ _) ?_ hg15 hat15)
             rw [← HNE.out]
             exact hown15
           clear hown15 hg15 hat15))
      go_wp2_with fail
      go_roundg 0
      case measure => decide
      case rel =>
        refine .inr ⟨rfl, rfl, ?_, ?_⟩
        · have h := HG15.out.tv (w0 := w) (by rw [HBE.out]; exact (bcall HB9.out HB10.out).size)
          unfold repB
          rw [← HXE.out, ← HNE.out, ← HQ.out]
          exact h
        · exact bcall (bcall HB9.out HB10.out) (HBE.out ▸ HG15.out.belowN)
    · obtain ⟨Av, cv, rfl⟩ := own_slice hrow
      have HROW := Lib.hid hrow
      have HBX := Lib.hid hb
      clear hrow hb
      obtain ⟨M, hM⟩ : ∃ M, M = (repB c t b).length := ⟨_, rfl⟩
      rw [← hM]
      have HME := Lib.hid hM
      clear hM
      go_wp2_with fail
      go_ret2
      exact ⟨_, rfl, by rw [HME.out]; exact HROW.out, HBX.out⟩
end Go.Proofs.YtmkifedcanmjoaaGreat
