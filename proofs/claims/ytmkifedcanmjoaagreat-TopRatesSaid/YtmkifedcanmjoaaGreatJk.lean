/- Texts of this claim, one behind the other: QParS, QParse. Each says ahead of itself what it proves, and its conditions. -/
import Derived.Test.YtmkifedcanmjoaaGreatJe
import Derived.Great.BuildSlice
/- What Parse reads (plain), and lists of reports in memory. Conditions: as each says. -/
set_option linter.unusedVariables false
namespace Go.Proofs.YtmkifedcanmjoaaGreat
open Go.RowKit

def lenS (b : List UInt8) : Nat := 4 + 4 * (256 * (b.getD 2 0).toNat + (b.getD 3 0).toNat)
def headB (b : List UInt8) : Bool := decide ((b.getD 0 0).toNat &&& 224 = 128)
def oneS (b : List UInt8) : Rep × Bool := reportS (b.getD 1 0).toNat ((b.getD 0 0).toNat &&& 31) ((b.take (lenS b)).drop 4)
def parN : Nat → List UInt8 → List Rep → List Rep × Int
  | 0, _, acc => (acc, 0)
  | f + 1, b, acc =>
    if b.length = 0 then (acc, 0)
    else if b.length < 4 then ([], 3)
    else if (headB b && isB b) = false then ([], 2)
    else if b.length < lenS b then ([], 3)
    else if (oneS b).2 = false then ([], 2)
    else parN f (b.drop (lenS b)) (acc ++ [(oneS b).1])
def parseS (b : List UInt8) : List Rep × Int := if 1200 < b.length then ([], 4) else if b.length = 0 then ([], 3) else parN (b.length + 1) b []
def RepsO (w : World) (B : Nat) (css : List (Array Value)) (rs : List Rep) : Prop := css.length = rs.length ∧ ∀ (i : Nat) (cs : Array Value) (r : Rep), css[i]? = some cs → rs[i]? = some r → RepO w B cs r
def RepsV (w : World) (css : List (Array Value)) (rs : List Rep) : Prop := css.length = rs.length ∧ ∀ (i : Nat) (cs : Array Value) (r : Rep), css[i]? = some cs → rs[i]? = some r → RepV w cs r
def cellsL (css : List (Array Value)) : List Value := css.flatMap Array.toList
theorem cellsL_snoc (css : List (Array Value)) (cs : Array Value) : cellsL (css ++ [cs]) = cellsL css ++ cs.toList := by simp [cellsL]
section
variable {w w' : World} {B : Nat} {css : List (Array Value)} {rs : List Rep}
theorem RepsO.nil (w : World) (B : Nat) : RepsO w B [] [] := ⟨rfl, fun i cs r h => by simp at h⟩
theorem RepsO.keep (h : RepsO w B css rs) (hk : ∀ cs r, RepO w B cs r → RepO w' B cs r) : RepsO w' B css rs := ⟨h.1, fun i cs r h1 h2 => hk cs r (h.2 i cs r h1 h2)⟩
theorem RepsO.below (h : RepsO w B css rs) (hb : Below w.heap.size w w') : RepsO w' B css rs := h.keep fun _ _ h => h.below hb
theorem RepsO.snoc {cs : Array Value} {r : Rep} (h : RepsO w B css rs) (h1 : RepO w B cs r) : RepsO w B (css ++ [cs]) (rs ++ [r]) := by
  refine ⟨by rw [List.length_append, List.length_append, h.1]; rfl, fun i c x hc hx => ?_⟩
  by_cases hi : i < css.length
  · rw [List.getElem?_append_left hi] at hc
    rw [List.getElem?_append_left (by rw [← h.1]; exact hi)] at hx
    exact h.2 i c x hc hx
  · rw [List.getElem?_append_right (by omega)] at hc
    rw [List.getElem?_append_right (by rw [← h.1]; omega), ← h.1] at hx
    match hj : i - css.length, hc, hx with
    | 0, hc, hx =>
      simp at hc hx
      subst hc hx
      exact h1
    | j + 1, hc, hx => simp at hc
theorem RepsO.toV (h : RepsO w B css rs) : RepsV w css rs := ⟨h.1, fun i cs r h1 h2 => (h.2 i cs r h1 h2).toV⟩
theorem RepsV.below (h : RepsV w css rs) (hb : Below w.heap.size w w') : RepsV w' css rs := ⟨h.1, fun i cs r h1 h2 => (h.2 i cs r h1 h2).below hb⟩
end
/-- A row is as it was where another row, of other elements, grows. -/
theorem own_grown_far {w w' : World} {B e s n B' e' s' n' : Nat} {v v' : Value} {xs xs' : List Value} (h : w.ownsRow B e s v n xs) (ho : w.ownsRow B' e' s' v' n' xs') (hne : e ≠ e') (hg : w.grownBy w' v'.ownBlock) : w'.ownsRow B e s v n xs :=
  (Sv.own (M := fun k => v'.ownBlock = some k) ((Sv.refl _ _).grown hg fun g e => .inl e) h fun g hg' hm => by
    obtain ⟨_, cs, h1⟩ := own_tag h g hg'
    obtain ⟨_, cs', h2⟩ := own_tag ho g hm
    rw [h1] at h2
    injection h2 with h2
    injection h2 with _ h3
    exact hne h3)
theorem RepO.grown {w w' : World} {B B' n : Nat} {cs : Array Value} {r : Rep} {v : Value} {xs : List Value} (h : RepO w B cs r) (ho : w.ownsRow B' 81 16 v n xs) (hg : w.grownBy w' v.ownBlock) : RepO w' B cs r :=
  h.keep fun e _ _ _ _ he h1 => own_grown_far h1 ho (by rcases he with rfl | rfl | rfl | rfl | rfl <;> decide) hg
theorem infoRepZ : (Tryz.prog.info? 81).map (fun i => (i.zero, i.size, i.bytes)) = some (some (.agg (repA 0 0 0 0 0 0 0 nilV nilV nilV 0 0 nilV 0 0 nilV)), 16, 192) := by kernel_rfl
theorem split16 {X : List Value} (h : X.length = 16) : ∃ a b c d e f g i j k l m n o p q, X = [a, b, c, d, e, f, g, i, j, k, l, m, n, o, p, q] := by
  match X, h with
  | [a, b, c, d, e, f, g, i, j, k, l, m, n, o, p, q], _ => exact ⟨a, b, c, d, e, f, g, i, j, k, l, m, n, o, p, q, rfl⟩
theorem fillR (X : List Value) (hX : X.length = 16) : Instr.fill (fun i => some (i * 16, 16)) ((Array.range (1 * 16)).map ((Value.agg (repA 0 0 0 0 0 0 0 nilV nilV nilV 0 0 nilV 0 0 nilV)).cells[· % (Value.agg (repA 0 0 0 0 0 0 0 nilV nilV nilV 0 0 nilV 0 0 nilV)).cells.size]!)) [(0, .agg X.toArray)] = some X.toArray := by
  obtain ⟨a, b, c, d, e, f, g, i, j, k, l, m, n, o, p, q, rfl⟩ := split16 hX
  kernel_rfl
theorem wpList_buildR {ops : Array Oper} {rest : List Oper} {op : Oper} {a : Act} {w : World} {Q : Exit → Act → World → Prop} (hgd : op.guard = none) (x : Operand) (ho : op.op = .buildSlice 82 1 #[(0, x)]) (X : List Value) (hX : X.length = 16) (hx : a.eval x = .agg X.toArray)
    (h : wpList Tryz.prog ops Q rest (a.put op.dst (.slice (some ⟨w.heap.size, 0, none⟩) 1 1)) (w.alloc (.cells X.toArray 81))) : wpList Tryz.prog ops Q (op :: rest) a w := by
  obtain ⟨ie, hi, h0, h1, h2⟩ := info_parts infoRepZ
  refine wpList_plain hgd fun K hK => wp_buildSlice 82 81 1 #[(0, x)] ho X.toArray ie _ Tryz.underlying82 hi h0 (by rw [h1]; decide) (by rw [h1]; decide) ?_ (hK _ _ h)
  rw [h1]
  simp only [List.map_toArray, List.map_cons, List.map_nil, hx]
  exact fillR X hX
theorem or_join {x y : Nat} (hx : x < 256) (hy : y < 256) : bits .or .i64 ((x : Int) * 256) (y : Int) = ((x * 256 + y : Nat) : Int) := by
  have := bits_join .i64 63 (by decide) (fun n h0 h1 => by simp [IntKind.wrap, IntKind.bits, IntKind.signed]; omega) 8 ((x : Int) * 256) (y : Int) (by omega) (by omega) (by omega) (by omega) (by omega) (by omega)
  rw [this]
  omega
end Go.Proofs.YtmkifedcanmjoaaGreat
/- What Parse does (contract). Conditions: the bytes lie in memory. (Printed by gen8p.py.) -/
set_option linter.unusedVariables false
set_option linter.unusedSimpArgs false
namespace Go.Proofs.YtmkifedcanmjoaaGreat
open Go.RowKit
attribute [local go_sem ↓] Go.wp_at_zero Go.wp_at_succ

/-- What Parse returns. -/
def ParV (b : List UInt8) (w : World) (e : Ending) (w' : World) : Prop := ∃ A n c css, e = .returned (.tuple #[.slice A n c, .int .i64 (parseS b).2]) ∧ n = (parseS b).1.length ∧ n ≤ c ∧ Reads w' w'.heap.size 16 A n (cellsL css) ∧ RepsV w' css (parseS b).1 ∧ Below w.heap.size w w'
theorem ParV.err {b : List UInt8} {w w' : World} {z : Int} (h : parseS b = ([], z)) (hb : Below w.heap.size w w') : ParV b w (.returned (.tuple #[.slice none 0 0, .int .i64 z])) w' := by
  refine ⟨none, 0, 0, [], by rw [h], by rw [h]; rfl, Nat.le_refl _, by exact ⟨by simp [cellsL], fun h => absurd h (by simp)⟩, ?_, hb⟩
  rw [h]
  exact ⟨rfl, fun i cs r h => by simp at h⟩
theorem andNot31 (x : UInt8) : bits .andNot .u8 (x.toNat : Int) 31 = ((x.toNat &&& 224 : Nat) : Int) := by
  have := u8_andNot_nat x.toNat 31 (UInt8.toNat_lt _) (by decide)
  exact this
theorem and31 (x : UInt8) : bits .and .u8 (x.toNat : Int) 31 = ((x.toNat &&& 31 : Nat) : Int) := by
  have := u8_and_nat x.toNat 31 (UInt8.toNat_lt _) (by decide)
  exact this
theorem and31_le (x : Nat) : x &&& 31 ≤ 31 := Nat.and_le_right
theorem kind_of (t c : Nat) (b : List UInt8) : (reportS t c b).1.kind = kindS t c b := by
  have h := kindS_rng t c b
  unfold reportS
  simp only
  split
  · next h1 => exact h1.symm
  split
  · next h1 => exact h1.symm
  split
  · next h1 => exact h1.symm
  split
  · next h1 => exact h1.symm
  split
  · next h1 => exact h1.symm
  split
  · next h1 => exact h1.symm
  · show (6 : Int) = _
    omega
set_option maxRecDepth 100000 in
set_option maxHeartbeats 12800000 in
theorem parse_c (b : List UInt8) (A : Option Addr) (n cap : Nat) (w : World) (h : SlV w (.slice A n cap) b) (hn2 : n < 9223372036854775808) (hone : lenS b = b.length) (hk46 : (oneS b).1.kind = 4 ∨ (oneS b).1.kind = 6) :
    Calls Tryz.prog 20 #[.slice A n cap] w (ParV b w) := by
  obtain ⟨iR, hiR, hzaR, hzbR, hzcR⟩ := info_parts infoRepZ
  have hn := h.num
  have HON := Lib.hid hone
  have HK46 := Lib.hid hk46
  clear hone hk46
  by_cases h1 : 1200 < n
  · have h1i : (1200 : Int) < (n : Int) := by omega
    have HP : Hid (parseS b = ([], 4)) := by show _ = _; rw [parseS, if_pos (by omega)]
    clear h hn h1
    go_enter Tryz.func20, Tryz.ntmps20
    go_wp2
    go_ret2
    exact ParV.err HP.out (Below.refl _ _)
  by_cases h2 : n = 0
  · subst h2
    have HP : Hid (parseS b = ([], 3)) := by show _ = _; rw [parseS, if_neg (by omega), if_pos hn.symm]
    clear h hn
    go_enter Tryz.func20, Tryz.ntmps20
    go_wp2
    go_ret2
    exact ParV.err HP.out (Below.refl _ _)
  have HP : Hid (parseS b = parN (b.length + 1) b []) := by show _ = _; rw [parseS, if_neg (by omega), if_neg (by omega)]
  have h1i : ¬ (1200 : Int) < (n : Int) := by omega
  have h2i : ¬ (n : Int) = 0 := by omega
  have h2j : ((n : Int) == 0) = false := by simpa using h2i
  have HN := Lib.hid hn
  have H := Lib.hid h
  clear h hn h2 h2i
  go_enter Tryz.func20, Tryz.ntmps20
  go_upto_region 6 with fail
  clear h2j h1i
  go_loopg [0, 4] n (fun gg v0 v4 wx => ∃ (b1 : List UInt8) (A1 : Option Addr) (n1 c1 f : Nat) (css : List (Array Value)) (rs : List Rep) (k : Nat) (Ao : Option Addr) (co : Nat), v0 = .slice A1 n1 c1 ∧ gg = n1 ∧ SlB wx w.heap.size (.slice A1 n1 c1) b1 ∧ n1 ≤ 1200 ∧ n1 < f ∧
    k = rs.length ∧ k + n1 ≤ 1200 ∧ v4 = .slice Ao k co ∧ wx.ownsRow w.heap.size 81 16 (.slice Ao k co) k (cellsL css) ∧ RepsO wx w.heap.size css rs ∧ Below w.heap.size w wx ∧ parseS b = parN f b1 rs ∧ (n1 = 0 ∨ b1 = b))
  case atStart => exact ⟨b, A, n, cap, n + 1, [], [], 0, none, 0, rfl, rfl, H.out.toB (Nat.le_refl _), by omega, by omega, rfl, by omega, rfl, World.ownsRow_nil _ _ _ _, RepsO.nil _ _, Below.refl _ _, by rw [HP.out, HN.out], .inr rfl⟩
  case round =>
    obtain ⟨b1, A1, n1, c1, f, css, rs, k, Ao, co, rfl, hgg, hs1, hn1, hf, hk, hkn, rfl, ho, hrs, hb, hpa, hbb⟩ := hrel
    have HBB := Lib.hid hbb
    clear hbb
    have hgg2 := hgg.symm
    subst hgg2
    obtain ⟨f', hf'⟩ : ∃ f', f = f' + 1 := ⟨f - 1, by omega⟩
    have hb1n := hs1.num
    rw [hf', parN] at hpa
    have HS1 := Lib.hid hs1
    have HO := Lib.hid ho
    have HRS := Lib.hid hrs
    have HB := Lib.hid hb
    have HK := Lib.hid hk
    have HBN := Lib.hid hb1n
    have HF := Lib.hid hf'
    clear ho hrs hb hk hgg hf'
    by_cases h0 : n1 = 0
    · have hn0 : ¬ (0 : Int) < (n1 : Int) := by omega
      rw [if_pos (by omega)] at hpa
      have HPA := Lib.hid hpa
      clear hpa hs1 hb1n h0
      go_wp2_with fail
      go_ret2
      refine ⟨Ao, k, co, css, by rw [HPA.out]; rfl, by rw [HPA.out]; exact HK.out, own_bound HO.out, Reads.of_own HO.out, ?_, HB.out⟩
      rw [HPA.out]
      exact HRS.out.toV
    have hn0 : (0 : Int) < (n1 : Int) := by omega
    rw [if_neg (by omega)] at hpa
    by_cases h4 : n1 < 4
    · have h4i : (n1 : Int) < 4 := by omega
      rw [if_pos (by omega)] at hpa
      have HPA := Lib.hid hpa
      clear hpa hs1 hb1n h0 h4
      go_wp2_with fail
      go_ret2
      exact ParV.err HPA.out HB.out
    have h4i : ¬ (n1 : Int) < 4 := by omega
    rw [if_neg (by omega)] at hpa
    obtain ⟨g, o, hA, hg, hcs⟩ := head_cells (hb1n ▸ hs1.rd) (by omega)
    subst hA
    have hB2 := HB.out.size
    obtain ⟨x0, hx0⟩ : ∃ x, x = b1.getD 0 0 := ⟨_, rfl⟩
    obtain ⟨x1, hx1⟩ : ∃ x, x = b1.getD 1 0 := ⟨_, rfl⟩
    obtain ⟨x2, hx2⟩ : ∃ x, x = b1.getD 2 0 := ⟨_, rfl⟩
    obtain ⟨x3, hx3⟩ : ∃ x, x = b1.getD 3 0 := ⟨_, rfl⟩
    have e0 := hcs 0 (by omega)
    have e1 := hcs 1 (by omega)
    have e2 := hcs 2 (by omega)
    have e3 := hcs 3 (by omega)
    rw [← hx0] at e0
    rw [← hx1] at e1
    rw [← hx2] at e2
    rw [← hx3] at e3
    have l0 := U8.lt x0
    have l1 := U8.lt x1
    have l2 := U8.lt x2
    have l3 := U8.lt x3
    obtain ⟨y, hy⟩ : ∃ y, y = x0.toNat &&& 224 := ⟨_, rfl⟩
    have hy1 := andNot31 x0
    rw [← hy] at hy1
    have hhead : headB b1 = decide (y = 128) := by rw [headB, ← hx0, ← hy]
    have HIS := Lib.hid (is_c b1 (some ⟨g, o, none⟩) n1 c1 wr (hs1.toV hB2))
    rw [Nat.add_zero] at e0
    by_cases hyy : y = 128
    · subst hyy
      replace hy1 : bits .andNot .u8 (x0.toNat : Int) 31 = 128 := hy1
      cases hI : isB b1 with
      | false =>
        rw [if_pos (by rw [hI]; simp)] at hpa
        have HPA := Lib.hid hpa
        rw [hI] at HIS
        clear hpa hs1 hb1n h0 h4 hcs hx0 hx1 hx2 hx3 e1 e2 e3 hhead hy
        go_wp2_with (first
          | (go_at_call 46
             refine HIS.out.mono ?_
             rintro e9 w9 ⟨rfl, rfl⟩))
        go_ret2
        exact ParV.err HPA.out HB.out
      | true =>
        rw [if_neg (by rw [hhead, hI]; simp)] at hpa
        rw [hI] at HIS
        obtain ⟨m, hm⟩ : ∃ m, m = lenS b1 := ⟨_, rfl⟩
        have hmv : m = 4 + 4 * (x2.toNat * 256 + x3.toNat) := by rw [hm, lenS, ← hx2, ← hx3]; omega
        have hm4 : 4 ≤ m := by omega
        have hor := or_join (x := x2.toNat) (y := x3.toNat) (by omega) (by omega)
        obtain ⟨z, hz⟩ : ∃ z, z = x2.toNat * 256 + x3.toNat := ⟨_, rfl⟩
        rw [← hz] at hor hmv
        have hz2 : z < 65536 := by omega
        have hzi : 4 * (z : Int) ≤ 262140 := by omega
        have hmi : 4 + 4 * (z : Int) = (m : Int) := by omega
        have hw1 : IntKind.i64.wrap ((x2.toNat : Int) * 256) = (x2.toNat : Int) * 256 := by rw [IntKind.wrap_i64]; omega
        have hw2 : IntKind.i64.wrap (4 * (z : Int)) = 4 * (z : Int) := by rw [IntKind.wrap_i64]; omega
        have hw3 : IntKind.i64.wrap (m : Int) = (m : Int) := by rw [IntKind.wrap_i64]; omega
        rw [← hm] at hpa
        have HONE : Hid (oneS b1 = reportS x1.toNat (x0.toNat &&& 31) ((b1.take m).drop 4)) := by show _ = _; rw [oneS, ← hx0, ← hx1, ← hm]
        have HPA := Lib.hid hpa
        have HMV := Lib.hid hmv
        have HMD : Hid (m = lenS b1) := hm
        have HKK : Hid (kindS x1.toNat (x0.toNat &&& 31 : Nat) ((b1.take m).drop 4) = 4 ∨ kindS x1.toNat (x0.toNat &&& 31 : Nat) ((b1.take m).drop 4) = 6) := by
          have h1 := HBB.out.resolve_left h0
          have h2 := HK46.out
          rw [← h1, HONE.out, kind_of] at h2
          exact h2
        have HM4 := Lib.hid hm4
        have HE0 := Lib.hid e0
        have HE1 := Lib.hid e1
        have HGW : Hid (g < wr.heap.size) := by show _ < _; have := hg; omega
        have HB2 := Lib.hid hB2
        clear hpa h0 h4 hx0 hx1 hx2 hx3 hhead hy hm hmv hz hs1 hb1n hcs
        go_upto_region 11 with (first
          | (go_at_call 46
             refine HIS.out.mono ?_
             rintro e9 w9 ⟨rfl, rfl⟩))
        go_quiet (fail)
        clear hor hzi hmi hw1 hw2
        obtain ⟨wq, hwq⟩ : ∃ wq, wq = wr.drewN nq := ⟨_, rfl⟩
        rw [← hwq]
        replace HB : Hid (Below w.heap.size w wq) := by rw [hwq]; exact below_drewN HB.out _
        replace HS1 : Hid (SlB wq w.heap.size (.slice (some ⟨g, o, none⟩) n1 c1) b1) := by rw [hwq]; exact HS1.out
        replace HO : Hid (wq.ownsRow w.heap.size 81 16 (.slice Ao k co) k (cellsL css)) := by rw [hwq]; exact HO.out
        replace HRS : Hid (RepsO wq w.heap.size css rs) := by rw [hwq]; exact HRS.out.below (below_drewN (Below.refl _ _) _)
        replace HE0 : Hid (wq.cell? ⟨g, o, none⟩ = some (.int .u8 (x0.toNat : Int))) := by rw [hwq]; exact HE0.out
        replace HE1 : Hid (wq.cell? ⟨g, o + 1, none⟩ = some (.int .u8 (x1.toNat : Int))) := by rw [hwq]; exact HE1.out
        replace HGW : Hid (g < wq.heap.size) := by rw [hwq]; exact HGW.out
        replace HB2 : Hid (w.heap.size ≤ wq.heap.size) := by rw [hwq]; exact HB2.out
        clear hwq e0 e1 e2 e3 hB2
        have HM12 : Hid (n1 < m ∨ m ≤ n1 ∧ m ≤ 1200) := by show _ ∨ _; omega
        by_cases hlm : n1 < m
        · have hlmi : (n1 : Int) < (m : Int) := by omega
          have HP2 : Hid (parseS b = ([], 3)) := by show _ = _; rw [HPA.out, if_pos (by have := HBN.out; omega)]
          clear hlm
          go_wp2_with fail
          go_ret2
          exact ParV.err HP2.out HB.out
        have hlmi : ¬ (n1 : Int) < (m : Int) := by omega
        have HLM : Hid (m ≤ n1) := by show _ ≤ _; omega
        have HP2 := HPA.out
        rw [if_neg (by have := HBN.out; omega)] at HP2
        replace HP2 := Lib.hid HP2
        clear HPA
        go_upto_region 14 with fail
        clear hlmi
        obtain ⟨ok, hok⟩ : ∃ ok, ok = (oneS b1).2 := ⟨_, rfl⟩
        have HOK := Lib.hid hok
        clear hok
        go_cut [6, 7] (fun v6 v7 wx => ∃ gx cs, v6 = .pointer (some ⟨gx, 0, none⟩) ∧ v7 = .bool ok ∧ wq.heap.size ≤ gx ∧ Blk wx gx 81 cs ∧ RepO wx w.heap.size cs (oneS b1).1 ∧ Below wq.heap.size wq wx)
        case first =>
          have HBD : Hid (Below wq.heap.size wq (World.drew wq)) := bdrew (Below.refl _ _)
          obtain ⟨y2, hy2⟩ : ∃ y2, y2 = x0.toNat &&& 31 := ⟨_, rfl⟩
          have HY2 : Hid (y2 ≤ 31) := by show _ ≤ _; rw [hy2]; exact and31_le _
          have ha31 := and31 x0
          rw [← hy2] at ha31
          rw [← hy2] at HONE HKK
          have HL1 := Lib.hid l1
          have HMID : Hid (SlB wq w.heap.size (.slice (cutA (some ⟨g, o, none⟩) c1 4) (m - 4) (c1 - 4)) ((b1.take m).drop 4)) := by
            show SlB _ _ _ _
            rw [List.drop_take]
            exact SlB.mid HS1.out (by have := HLM.out; have := HM4.out; omega)
          have hsl : ∀ wx : World, (Instr.slice 28 (.slice (some ⟨g, o, none⟩) n1 c1) (some (.int .i64 4)) (some (.int .i64 (m : Int))) none).run Tryz.prog wx = .ok (.slice (cutA (some ⟨g, o, none⟩) c1 4) (m - 4) (c1 - 4)) wx := fun wx => cut_mid wx _ n1 c1 4 m (m - 4) HM4.out (by have := HLM.out; have := HS1.out.cap; omega) rfl
          obtain ⟨Bq, hBq⟩ : ∃ Bq, Bq = wq.heap.size := ⟨_, rfl⟩
          have HBQ := Lib.hid hBq
          have hni1 : ¬ (n1 : Int) ≤ 1 := by omega
          have hxw : IntKind.i64.wrap (x1.toNat : Int) = (x1.toNat : Int) := by rw [IntKind.wrap_i64]; omega
          have hyw : IntKind.i64.wrap (y2 : Int) = (y2 : Int) := by have := HY2.out; rw [IntKind.wrap_i64]; omega
          clear hy2 hBq
          refine wp_region_held_drew (S := (fun w2 => Below Bq wq w2)) (by kernel_rfl) (HBQ.out.symm ▸ HBD.out) (fun hHeld => ?_)
          refine wpAnyH_takeAt (i := 0) (v := (.slice (some ⟨g, o, none⟩) n1 c1)) rfl (by kernel_rfl) (by kernel_rfl) (by kernel_rfl) (fun _ _ _ h => h) rfl (Or.inl ⟨by rfl, fun w' hS => ?_⟩) hHeld ?_
          · go_simp
          simp only [List.set_cons_zero, List.set_cons_succ]
          refine wpAnyH_takeAt (i := 1) (v := (.pointer (some ⟨g, o + 1, none⟩))) rfl (by kernel_rfl) (by kernel_rfl) (by kernel_rfl) (fun _ _ _ h => h) rfl (Or.inl ⟨by rfl, fun w' hS => ?_⟩) hHeld ?_
          · go_simp
          simp only [List.set_cons_zero, List.set_cons_succ]
          refine wpAnyH_takeAt (i := 2) (v := (.int .u8 (x1.toNat : Int))) rfl (by kernel_rfl) (by kernel_rfl) (by kernel_rfl) (fun _ _ _ h => h) rfl (Or.inl ⟨by rfl, fun w' hS => ?_⟩) hHeld ?_
          · have hc := (Below.cell hS (p := ⟨g, o + 1, none⟩) (HBQ.out.symm ▸ HGW.out)).trans HE1.out
            go_simp
          simp only [List.set_cons_zero, List.set_cons_succ]
          refine wpAnyH_takeAt (i := 3) (v := (.int .i64 (x1.toNat : Int))) rfl (by kernel_rfl) (by kernel_rfl) (by kernel_rfl) (fun _ _ _ h => h) rfl (Or.inl ⟨by rfl, fun w' hS => ?_⟩) hHeld ?_
          · go_simp
          simp only [List.set_cons_zero, List.set_cons_succ]
          refine wpAnyH_takeAt (i := 4) (v := (.slice (some ⟨g, o, none⟩) n1 c1)) rfl (by kernel_rfl) (by kernel_rfl) (by kernel_rfl) (fun _ _ _ h => h) rfl (Or.inl ⟨by rfl, fun w' hS => ?_⟩) hHeld ?_
          · go_simp
          simp only [List.set_cons_zero, List.set_cons_succ]
          refine wpAnyH_takeAt (i := 5) (v := (.pointer (some ⟨g, o, none⟩))) rfl (by kernel_rfl) (by kernel_rfl) (by kernel_rfl) (fun _ _ _ h => h) rfl (Or.inl ⟨by rfl, fun w' hS => ?_⟩) hHeld ?_
          · go_simp
          simp only [List.set_cons_zero, List.set_cons_succ]
          refine wpAnyH_takeAt (i := 6) (v := (.int .u8 (x0.toNat : Int))) rfl (by kernel_rfl) (by kernel_rfl) (by kernel_rfl) (fun _ _ _ h => h) rfl (Or.inl ⟨by rfl, fun w' hS => ?_⟩) hHeld ?_
          · have hc := (Below.cell hS (p := ⟨g, o, none⟩) (HBQ.out.symm ▸ HGW.out)).trans HE0.out
            go_simp
          simp only [List.set_cons_zero, List.set_cons_succ]
          refine wpAnyH_takeAt (i := 7) (v := (.int .u8 (y2 : Int))) rfl (by kernel_rfl) (by kernel_rfl) (by kernel_rfl) (fun _ _ _ h => h) rfl (Or.inl ⟨by rfl, fun w' hS => ?_⟩) hHeld ?_
          · go_simp
          simp only [List.set_cons_zero, List.set_cons_succ]
          refine wpAnyH_takeAt (i := 8) (v := (.int .i64 (y2 : Int))) rfl (by kernel_rfl) (by kernel_rfl) (by kernel_rfl) (fun _ _ _ h => h) rfl (Or.inl ⟨by rfl, fun w' hS => ?_⟩) hHeld ?_
          · go_simp
          simp only [List.set_cons_zero, List.set_cons_succ]
          refine wpAnyH_takeAt (i := 9) (v := (.slice (some ⟨g, o, none⟩) n1 c1)) rfl (by kernel_rfl) (by kernel_rfl) (by kernel_rfl) (fun _ _ _ h => h) rfl (Or.inl ⟨by rfl, fun w' hS => ?_⟩) hHeld ?_
          · go_simp
          simp only [List.set_cons_zero, List.set_cons_succ]
          refine wpAnyH_takeAt (i := 10) (v := (.int .i64 (m : Int))) rfl (by kernel_rfl) (by kernel_rfl) (by kernel_rfl) (fun _ _ _ h => h) rfl (Or.inl ⟨by rfl, fun w' hS => ?_⟩) hHeld ?_
          · go_simp
          simp only [List.set_cons_zero, List.set_cons_succ]
          refine wpAnyH_takeAt (i := 11) (v := (.slice (cutA (some ⟨g, o, none⟩) c1 4) (m - 4) (c1 - 4))) rfl (by kernel_rfl) (by kernel_rfl) (by kernel_rfl) (fun _ _ _ h => h) rfl (Or.inl ⟨by rfl, fun w' hS => ?_⟩) hHeld ?_
          · go_simp
          simp only [List.set_cons_zero, List.set_cons_succ]
          refine wpAnyH_ready (rs := [12, 16]) (by kernel_rfl) (by simp) (AllReadyH.cons rfl (fun K' hK => ?_) (AllReadyH.cons rfl (fun K' hK => ?_) AllReadyH.nil))
          · go_simp
            go_at_call 47
            refine (report_c x1.toNat y2 ((b1.take m).drop 4) (cutA (some ⟨g, o, none⟩) c1 4) (m - 4) (c1 - 4) _ (SlB.toV (SlB.belowB HMID.out (Below.mono HBD.out HB2.out)) (by have := HB2.out; have := HBD.out.size; omega)) (by have := HM12.out; omega) HY2.out (by have := HL1.out; omega) HKK.out).mono ?_
            rintro e0 w_1 ⟨cs, rfl, hro, hb⟩
            rw [← HONE.out, ← HOK.out]
            go_wp2_with fail
            have HRO_1 : Hid (RepO w_1 w.heap.size cs (oneS b1).1) := RepO.lower (HONE.out ▸ hro) (by have := HB2.out; have := HBD.out.size; omega)
            have HB_1 : Hid (Below wq.heap.size wq w_1) := bcall HBD.out hb
            clear hro hb
            refine hK.out _ _ (HBQ.out.symm ▸ HB_1.out) (fun hHeld' => ?_)
            clear hK hHeld
            have hHeld := hHeld'
            clear hHeld'
            refine wpAnyH_takeAt (i := 13) (v := (.tuple #[.agg cs, .bool ok])) rfl (by kernel_rfl) (by kernel_rfl) (by kernel_rfl) (fun _ _ _ h => h) rfl (Or.inl ⟨by rfl, fun w' hS => ?_⟩) hHeld ?_
            · go_simp
            simp only [List.set_cons_zero, List.set_cons_succ]
            refine wpAnyH_takeAt (i := 14) (v := (.agg cs)) rfl (by kernel_rfl) (by kernel_rfl) (by kernel_rfl) (fun _ _ _ h => h) rfl (Or.inl ⟨by rfl, fun w' hS => ?_⟩) hHeld ?_
            · go_simp
            simp only [List.set_cons_zero, List.set_cons_succ]
            refine wpAnyH_takeAt (i := 15) (v := (.bool ok)) rfl (by kernel_rfl) (by kernel_rfl) (by kernel_rfl) (fun _ _ _ h => h) rfl (Or.inl ⟨by rfl, fun w' hS => ?_⟩) hHeld ?_
            · go_simp
            simp only [List.set_cons_zero, List.set_cons_succ]
            refine wpAnyH_ready (rs := [16]) (by kernel_rfl) (by simp) (AllReadyH.cons rfl (fun K' hK => ?_) AllReadyH.nil)
            go_simp
            have HB_2 : Hid (Below wq.heap.size wq (World.alloc w_1 (.cells (repA 0 0 0 0 0 0 0 nilV nilV nilV 0 0 nilV 0 0 nilV) 81))) := balloc HB_1.out _
            obtain ⟨gx_, hgx_⟩ : ∃ gx_, gx_ = (World.heap w_1).size := ⟨_, rfl⟩
            have HX_2 : Hid (Blk (World.alloc w_1 (.cells (repA 0 0 0 0 0 0 0 nilV nilV nilV 0 0 nilV 0 0 nilV) 81)) gx_ 81 (repA 0 0 0 0 0 0 0 nilV nilV nilV 0 0 nilV 0 0 nilV)) := Blk.newAt hgx_ _ _
            have HGX : Hid (wq.heap.size ≤ gx_) := by show _ ≤ _; rw [hgx_]; exact HB_1.out.size
            have HGE : Hid ((w_1).heap.size = gx_) := hgx_.symm
            have HRO_2 : Hid (RepO (World.alloc w_1 (.cells (repA 0 0 0 0 0 0 0 nilV nilV nilV 0 0 nilV 0 0 nilV) 81)) w.heap.size cs (oneS b1).1) := HRO_1.out.below (balloc (Below.refl _ _) _)
            refine hK.out _ _ (HBQ.out.symm ▸ HB_2.out) (fun hHeld' => ?_)
            clear hK hHeld
            have hHeld := hHeld'
            clear hHeld'
            rw [HGE.out]
            clear hgx_
            refine wpAnyH_ready (rs := [17]) (by kernel_rfl) (by simp) (AllReadyH.cons rfl (fun K' hK => ?_) AllReadyH.nil)
            obtain ⟨R, hR⟩ : ∃ R, R = cs.toList := ⟨_, rfl⟩
            have hRa : R.toArray = cs := by rw [hR]
            have hsz : R.length = 16 := by
              obtain ⟨_, _, _, _, _, e, _⟩ := HRO_2.out
              rw [hR, e]
              rfl
            have HONE2 : Hid (R.toArray.all (·.oneCell') = true) := by show _ = _; rw [hRa]; exact HRO_2.out.one
            have HRO2 : Hid (RepO (World.alloc w_1 (.cells (repA 0 0 0 0 0 0 0 nilV nilV nilV 0 0 nilV 0 0 nilV) 81)) w.heap.size R.toArray (oneS b1).1) := by rw [hRa]; exact HRO_2.out
            have HI : Hid ((Tryz.prog.info? 81).map (·.size) = some R.toArray.size) := by show _ = _; rw [List.size_toArray, hsz]; exact infoRep
            have HTH : Hid (World.there (World.alloc w_1 (.cells (repA 0 0 0 0 0 0 0 nilV nilV nilV 0 0 nilV 0 0 nilV) 81)) gx_ 0 R.toArray.size) := by show World.there _ _ _ R.toArray.size; rw [List.size_toArray, hsz]; exact blk_there0 (l := (repA 0 0 0 0 0 0 0 nilV nilV nilV 0 0 nilV 0 0 nilV).toList) HX_2.out rfl
            rw [← hRa]
            have HST : Hid (Blk (World.setCells (World.alloc w_1 (.cells (repA 0 0 0 0 0 0 0 nilV nilV nilV 0 0 nilV 0 0 nilV) 81)) gx_ 0 R) gx_ 81 R.toArray) := blk_setAll (l := (repA 0 0 0 0 0 0 0 nilV nilV nilV 0 0 nilV 0 0 nilV).toList) HX_2.out (by rw [hsz]; rfl)
            have HROF : Hid (RepO (World.setCells (World.alloc w_1 (.cells (repA 0 0 0 0 0 0 0 nilV nilV nilV 0 0 nilV 0 0 nilV) 81)) gx_ 0 R) w.heap.size R.toArray (oneS b1).1) := RepO.setAll HRO2.out HX_2.out R
            have HBF : Hid (Below wq.heap.size wq (World.setCells (World.alloc w_1 (.cells (repA 0 0 0 0 0 0 0 nilV nilV nilV 0 0 nilV 0 0 nilV) 81)) gx_ 0 R)) := below_setCells HB_2.out HGX.out _ _
            clear hR hRa hsz
            rw [if_pos (by rfl)]
            refine wp_store_mid 81 (.tmp 6) (.tmp 62) (by rfl) gx_ 0 R.toArray (by rfl) (by rfl) HTH.out HI.out HONE2.out ?_
            refine hK.out _ _ (HBQ.out.symm ▸ HBF.out) (fun hHeld' => ?_)
            clear hK hHeld
            have hHeld := hHeld'
            clear hHeld'
            refine wpAnyH_putNone rfl ?_
            refine wpAnyH_takeAt (i := 18) (v := (.bool ok)) rfl (by kernel_rfl) (by kernel_rfl) (by kernel_rfl) (fun _ _ _ h => h) rfl (Or.inl ⟨by rfl, fun w' hS => ?_⟩) hHeld ?_
            · go_simp
            simp only [List.set_cons_zero, List.set_cons_succ]
            refine wpAnyH_done (by kernel_rfl) ?_ _
            go_wp2_with fail
            go_meet
            exact ⟨gx_, R.toArray, rfl, rfl, HGX.out, HST.out, HROF.out, HBF.out⟩
          · go_simp
            have HB_3 : Hid (Below wq.heap.size wq (World.drew (World.alloc wq (.cells (repA 0 0 0 0 0 0 0 nilV nilV nilV 0 0 nilV 0 0 nilV) 81)))) := balloc HBD.out _
            obtain ⟨gx_, hgx_⟩ : ∃ gx_, gx_ = (World.heap (World.drew wq)).size := ⟨_, rfl⟩
            have HX_3 : Hid (Blk (World.drew (World.alloc wq (.cells (repA 0 0 0 0 0 0 0 nilV nilV nilV 0 0 nilV 0 0 nilV) 81))) gx_ 81 (repA 0 0 0 0 0 0 0 nilV nilV nilV 0 0 nilV 0 0 nilV)) := Blk.newAt hgx_ _ _
            have HGX : Hid (wq.heap.size ≤ gx_) := by show _ ≤ _; rw [hgx_]; exact HBD.out.size
            have HGE : Hid ((wq).heap.size = gx_) := hgx_.symm
            refine hK.out _ _ (HBQ.out.symm ▸ HB_3.out) (fun hHeld' => ?_)
            clear hK hHeld
            have hHeld := hHeld'
            clear hHeld'
            rw [HGE.out]
            clear hgx_
            refine wpAnyH_ready (rs := [12]) (by kernel_rfl) (by simp) (AllReadyH.cons rfl (fun K' hK => ?_) AllReadyH.nil)
            go_simp
            go_at_call 47
            refine (report_c x1.toNat y2 ((b1.take m).drop 4) (cutA (some ⟨g, o, none⟩) c1 4) (m - 4) (c1 - 4) _ (SlB.toV (SlB.belowB HMID.out (Below.mono HB_3.out HB2.out)) (by have := HB2.out; have := HB_3.out.size; omega)) (by have := HM12.out; omega) HY2.out (by have := HL1.out; omega) HKK.out).mono ?_
            rintro e0 w_4 ⟨cs, rfl, hro, hb⟩
            rw [← HONE.out, ← HOK.out]
            go_wp2_with fail
            have HRO_4 : Hid (RepO w_4 w.heap.size cs (oneS b1).1) := RepO.lower (HONE.out ▸ hro) (by have := HB2.out; have := HB_3.out.size; omega)
            have HB_4 : Hid (Below wq.heap.size wq w_4) := bcall HB_3.out hb
            have HX_4 : Hid (Blk w_4 gx_ 81 (repA 0 0 0 0 0 0 0 nilV nilV nilV 0 0 nilV 0 0 nilV)) := HX_3.out.below hb
            clear hro hb
            refine hK.out _ _ (HBQ.out.symm ▸ HB_4.out) (fun hHeld' => ?_)
            clear hK hHeld
            have hHeld := hHeld'
            clear hHeld'
            refine wpAnyH_takeAt (i := 13) (v := (.tuple #[.agg cs, .bool ok])) rfl (by kernel_rfl) (by kernel_rfl) (by kernel_rfl) (fun _ _ _ h => h) rfl (Or.inl ⟨by rfl, fun w' hS => ?_⟩) hHeld ?_
            · go_simp
            simp only [List.set_cons_zero, List.set_cons_succ]
            refine wpAnyH_takeAt (i := 14) (v := (.agg cs)) rfl (by kernel_rfl) (by kernel_rfl) (by kernel_rfl) (fun _ _ _ h => h) rfl (Or.inl ⟨by rfl, fun w' hS => ?_⟩) hHeld ?_
            · go_simp
            simp only [List.set_cons_zero, List.set_cons_succ]
            refine wpAnyH_takeAt (i := 15) (v := (.bool ok)) rfl (by kernel_rfl) (by kernel_rfl) (by kernel_rfl) (fun _ _ _ h => h) rfl (Or.inl ⟨by rfl, fun w' hS => ?_⟩) hHeld ?_
            · go_simp
            simp only [List.set_cons_zero, List.set_cons_succ]
            refine wpAnyH_ready (rs := [17]) (by kernel_rfl) (by simp) (AllReadyH.cons rfl (fun K' hK => ?_) AllReadyH.nil)
            obtain ⟨R, hR⟩ : ∃ R, R = cs.toList := ⟨_, rfl⟩
            have hRa : R.toArray = cs := by rw [hR]
            have hsz : R.length = 16 := by
              obtain ⟨_, _, _, _, _, e, _⟩ := HRO_4.out
              rw [hR, e]
              rfl
            have HONE2 : Hid (R.toArray.all (·.oneCell') = true) := by show _ = _; rw [hRa]; exact HRO_4.out.one
            have HRO2 : Hid (RepO w_4 w.heap.size R.toArray (oneS b1).1) := by rw [hRa]; exact HRO_4.out
            have HI : Hid ((Tryz.prog.info? 81).map (·.size) = some R.toArray.size) := by show _ = _; rw [List.size_toArray, hsz]; exact infoRep
            have HTH : Hid (World.there w_4 gx_ 0 R.toArray.size) := by show World.there _ _ _ R.toArray.size; rw [List.size_toArray, hsz]; exact blk_there0 (l := (repA 0 0 0 0 0 0 0 nilV nilV nilV 0 0 nilV 0 0 nilV).toList) HX_4.out rfl
            rw [← hRa]
            have HST : Hid (Blk (World.setCells w_4 gx_ 0 R) gx_ 81 R.toArray) := blk_setAll (l := (repA 0 0 0 0 0 0 0 nilV nilV nilV 0 0 nilV 0 0 nilV).toList) HX_4.out (by rw [hsz]; rfl)
            have HROF : Hid (RepO (World.setCells w_4 gx_ 0 R) w.heap.size R.toArray (oneS b1).1) := RepO.setAll HRO2.out HX_4.out R
            have HBF : Hid (Below wq.heap.size wq (World.setCells w_4 gx_ 0 R)) := below_setCells HB_4.out HGX.out _ _
            clear hR hRa hsz
            rw [if_pos (by rfl)]
            refine wp_store_mid 81 (.tmp 6) (.tmp 62) (by rfl) gx_ 0 R.toArray (by rfl) (by rfl) HTH.out HI.out HONE2.out ?_
            refine hK.out _ _ (HBQ.out.symm ▸ HBF.out) (fun hHeld' => ?_)
            clear hK hHeld
            have hHeld := hHeld'
            clear hHeld'
            refine wpAnyH_putNone rfl ?_
            refine wpAnyH_takeAt (i := 18) (v := (.bool ok)) rfl (by kernel_rfl) (by kernel_rfl) (by kernel_rfl) (fun _ _ _ h => h) rfl (Or.inl ⟨by rfl, fun w' hS => ?_⟩) hHeld ?_
            · go_simp
            simp only [List.set_cons_zero, List.set_cons_succ]
            refine wpAnyH_done (by kernel_rfl) ?_ _
            go_wp2_with fail
            go_meet
            exact ⟨gx_, R.toArray, rfl, rfl, HGX.out, HST.out, HROF.out, HBF.out⟩
        case rest =>
          obtain ⟨gx, cs, rfl, rfl, hgx, hx, hro, hbx⟩ := hcut
          have HBX : Hid (Below w.heap.size w wc) := HB.out.trans (hbx.mono HB2.out)
          cases ok with
          | false =>
            have HP3 : Hid (parseS b = ([], 2)) := by show _ = _; rw [HP2.out, if_pos HOK.out.symm]
            clear hx hro hbx hgx
            go_wp2_with fail
            go_ret2
            exact ParV.err HP3.out HBX.out
          | true =>
            have HP3 : Hid (parseS b = parN f' (b1.drop m) (rs ++ [(oneS b1).1])) := by show _ = _; rw [HP2.out, if_neg (by rw [← HOK.out]; simp)]
            obtain ⟨R, hR⟩ : ∃ R, R = cs.toList := ⟨_, rfl⟩
            have hRa : R.toArray = cs := by rw [hR]
            have hsz : R.length = 16 := by
              obtain ⟨_, _, _, _, _, e, _⟩ := hro
              rw [hR, e]
              rfl
            have HONE2 : Hid (R.toArray.all (·.oneCell') = true) := by show _ = _; rw [hRa]; exact hro.one
            rw [← hRa] at hx hro
            have HX := Lib.hid hx
            have HRO := Lib.hid hro
            have HRG : Hid (wc.rangeAt gx 0 R) := blk_range hx
            have HI : Hid ((Tryz.prog.info? 81).map (·.size) = some R.length) := by show _ = _; rw [hsz]; exact infoRep
            have HSZ := Lib.hid hsz
            have HOX : Hid (wc.ownsRow w.heap.size 81 16 (.slice Ao k co) k (cellsL css)) := own_below HO.out hbx
            have HRSX : Hid (RepsO wc w.heap.size css rs) := HRS.out.below hbx
            have HSX : Hid (SlB wc w.heap.size (.slice (some ⟨g, o, none⟩) n1 c1) b1) := SlB.belowB HS1.out (hbx.mono HB2.out)
            have hcf := fun wx : World => cut_from wx (some ⟨g, o, none⟩) n1 c1 m HLM.out
            have HKN := Lib.hid hkn
            have HRE : Hid (Reads (wc.alloc (.cells R.toArray 81)) (World.heap (wc.alloc (.cells R.toArray 81))).size 16 (some ⟨wc.heap.size, 0, none⟩) 1 R) := by
              exact reads_blk (n := 1) (size := 16) (Blk.newAt (w := wc) rfl 81 R.toArray) (by rw [List.size_toArray, hsz])
            have HR1 : Hid (∀ u ∈ R, u.oneCell' = true) := by show ∀ u ∈ R, _; have := HONE2.out; simpa [List.all_eq_true] using this
            clear hx hro hbx hgx hsz hRa hR
            go_wp2_with (first
              | ((with_reducible show wpList _ _ _ (⟨some 67, .load 81 (.tmp 6), _, _, _, _⟩ :: _) _ _); refine wpList_load_mid rfl 81 (.tmp 6) rfl gx 0 rfl R _ HRG.out Tryz.underlying81 rfl HI.out ?_)
              | ((with_reducible show wpList _ _ _ (⟨some 68, .buildSlice _ _ _, _, _, _, _⟩ :: _) _ _); refine wpList_buildR rfl (.tmp 67) rfl R HSZ.out rfl ?_)
              | ((with_reducible show wpList _ _ _ (⟨some 69, .call _, _, _, _, _⟩ :: _) _ _)
                 refine wpList_append_any _ rfl (.tmp 66) (.tmp 68) _ rfl w.heap.size 81 iR _ 16 192 Tryz.underlying82 hiR hzaR hzbR hzcR rfl (by omega) (.slice Ao k co) k (cellsL css) rfl (HOX.out.alloc _)
                   _ (some ⟨wc.heap.size, 0, none⟩) 1 1 R rfl HRE.out HR1.out (by have := HKN.out; simp only [maxLen]; omega) (by have := HKN.out; omega) (by have := HBX.out.size; simp; omega) ?_
                 intro v10 w10 hown hg10 hv10
                 obtain ⟨A10, c10, rfl⟩ := own_slice hown
                 have HO10 := Lib.hid hown
                 have HG10 := Lib.hid hg10
                 clear hown hg10 hv10))
            go_roundg (n1 - m)
            case measure => have := HLM.out; have := HM4.out; omega
            case rel =>
              have hbw : Below wc.heap.size wc (wc.alloc (.cells R.toArray 81)) := balloc (Below.refl _ _) _
              have hsv : Sv (fun j => (Value.slice Ao k co).ownBlock = some j) (wc.alloc (.cells R.toArray 81)) w10 := (Sv.refl _ _).grown HG10.out (fun g e => .inl e)
              have hlo : ∀ k', (Value.slice Ao k co).ownBlock = some k' → w.heap.size ≤ k' := fun k' e => (HOX.out.lt k' e).1
              have hm4 := HM4.out
              have hlm := HLM.out
              have hkn := HKN.out
              have hk := HK.out
              have hzz : n1 - m = 0 := by
                have h1 := HBB.out.resolve_left (by have := HM4.out; omega)
                have h2 := HBN.out
                have h3 := HON.out
                have h4 := HMD.out
                rw [h1] at h2 h4
                omega
              refine ⟨b1.drop m, cutA (some ⟨g, o, none⟩) c1 m, n1 - m, c1 - m, f', css ++ [R.toArray], rs ++ [(oneS b1).1], k + 1, A10, c10, rfl, rfl, ?_, by omega, by have := HF.out; omega, ?_, by omega, rfl, ?_, ?_, ?_, HP3.out, .inl hzz⟩
              · exact (SlB.drop (HSX.out.belowB (hbw.mono HBX.out.size)) hlm).sv hsv (by have := HBX.out.size; simp; omega) hlo
              · rw [List.length_append, ← hk]; rfl
              · rw [cellsL_snoc]; exact HO10.out
              · refine RepsO.snoc ?_ ?_
                · exact (HRSX.out.below hbw).keep fun cs r h => h.grown (HOX.out.alloc _) HG10.out
                · exact (HRO.out.below hbw).grown (HOX.out.alloc _) HG10.out
              · exact (HBX.out.trans (hbw.mono HBX.out.size)).trans (hsv.toBelow hlo (by have := HBX.out.size; simp; omega))
    · have hyi : ¬ (y : Int) = 128 := by omega
      have hyj : ((y : Int) == 128) = false := by simpa using hyi
      have hyk : ((y : Int) != 128) = true := by simpa using hyi
      rw [if_pos (by rw [hhead]; simp [hyy])] at hpa
      have HPA := Lib.hid hpa
      clear hpa hs1 hb1n h0 h4 hcs hx0 hx1 hx2 hx3 e1 e2 e3 hhead hy hyy HIS hyi
      go_wp2_with fail
      go_ret2
      exact ParV.err HPA.out HB.out
end Go.Proofs.YtmkifedcanmjoaaGreat
