/- What Parse reads (plain), and lists of reports in memory. Conditions: as each says. -/
import Derived.Test.YtkfimncbfbbopaaReport
import Derived.Great.BuildSlice
set_option linter.unusedVariables false
namespace Go.Proofs.Ytkfimncbfbbopaa
open Go.RowKit

def lenS (b : List UInt8) : Nat := 4 + 4 * (256 * (b.getD 2 0).toNat + (b.getD 3 0).toNat)
def headB (b : List UInt8) : Bool := decide ((b.getD 0 0).toNat &&& 224 = 128)
def oneS (b : List UInt8) : Rep × Bool := reportS (b.getD 1 0).toNat ((b.getD 0 0).toNat &&& 31) ((b.take (lenS b)).drop 4)
def parN : Nat → List UInt8 → List Rep → List Rep × Int
  | 0, _, acc => (acc, 0)
  | f + 1, b, acc =>
    if b.length = 0 then (acc, 0)
    else if b.length < 4 then ([], 3)
    else if (headB b && isB b) = false then ([], 2)
    else if b.length < lenS b then ([], 3)
    else if (oneS b).2 = false then ([], 2)
    else parN f (b.drop (lenS b)) (acc ++ [(oneS b).1])
def parseS (b : List UInt8) : List Rep × Int := if 1200 < b.length then ([], 4) else if b.length = 0 then ([], 3) else parN (b.length + 1) b []
def RepsO (w : World) (B : Nat) (css : List (Array Value)) (rs : List Rep) : Prop := css.length = rs.length ∧ ∀ (i : Nat) (cs : Array Value) (r : Rep), css[i]? = some cs → rs[i]? = some r → RepO w B cs r
def RepsV (w : World) (css : List (Array Value)) (rs : List Rep) : Prop := css.length = rs.length ∧ ∀ (i : Nat) (cs : Array Value) (r : Rep), css[i]? = some cs → rs[i]? = some r → RepV w cs r
def cellsL (css : List (Array Value)) : List Value := css.flatMap Array.toList
theorem cellsL_snoc (css : List (Array Value)) (cs : Array Value) : cellsL (css ++ [cs]) = cellsL css ++ cs.toList := by simp [cellsL]
section
variable {w w' : World} {B : Nat} {css : List (Array Value)} {rs : List Rep}
theorem RepsO.nil (w : World) (B : Nat) : RepsO w B [] [] := ⟨rfl, fun i cs r h => by simp at h⟩
theorem RepsO.keep (h : RepsO w B css rs) (hk : ∀ cs r, RepO w B cs r → RepO w' B cs r) : RepsO w' B css rs := ⟨h.1, fun i cs r h1 h2 => hk cs r (h.2 i cs r h1 h2)⟩
theorem RepsO.below (h : RepsO w B css rs) (hb : Below w.heap.size w w') : RepsO w' B css rs := h.keep fun _ _ h => h.below hb
theorem RepsO.snoc {cs : Array Value} {r : Rep} (h : RepsO w B css rs) (h1 : RepO w B cs r) : RepsO w B (css ++ [cs]) (rs ++ [r]) := by
  refine ⟨by rw [List.length_append, List.length_append, h.1]; rfl, fun i c x hc hx => ?_⟩
  by_cases hi : i < css.length
  · rw [List.getElem?_append_left hi] at hc
    rw [List.getElem?_append_left (by rw [← h.1]; exact hi)] at hx
    exact h.2 i c x hc hx
  · rw [List.getElem?_append_right (by omega)] at hc
    rw [List.getElem?_append_right (by rw [← h.1]; omega), ← h.1] at hx
    match hj : i - css.length, hc, hx with
    | 0, hc, hx =>
      simp at hc hx
      subst hc hx
      exact h1
    | j + 1, hc, hx => simp at hc
theorem RepsO.toV (h : RepsO w B css rs) : RepsV w css rs := ⟨h.1, fun i cs r h1 h2 => (h.2 i cs r h1 h2).toV⟩
theorem RepsV.below (h : RepsV w css rs) (hb : Below w.heap.size w w') : RepsV w' css rs := ⟨h.1, fun i cs r h1 h2 => (h.2 i cs r h1 h2).below hb⟩
end
/-- A row is as it was where another row, of other elements, grows. -/
theorem own_grown_far {w w' : World} {B e s n B' e' s' n' : Nat} {v v' : Value} {xs xs' : List Value} (h : w.ownsRow B e s v n xs) (ho : w.ownsRow B' e' s' v' n' xs') (hne : e ≠ e') (hg : w.grownBy w' v'.ownBlock) : w'.ownsRow B e s v n xs :=
  (Sv.own (M := fun k => v'.ownBlock = some k) ((Sv.refl _ _).grown hg fun g e => .inl e) h fun g hg' hm => by
    obtain ⟨_, cs, h1⟩ := own_tag h g hg'
    obtain ⟨_, cs', h2⟩ := own_tag ho g hm
    rw [h1] at h2
    injection h2 with h2
    injection h2 with _ h3
    exact hne h3)
theorem RepO.grown {w w' : World} {B B' n : Nat} {cs : Array Value} {r : Rep} {v : Value} {xs : List Value} (h : RepO w B cs r) (ho : w.ownsRow B' 46 16 v n xs) (hg : w.grownBy w' v.ownBlock) : RepO w' B cs r :=
  h.keep fun e _ _ _ _ he h1 => own_grown_far h1 ho (by rcases he with rfl | rfl | rfl | rfl | rfl <;> decide) hg
theorem infoRepZ : (Try.prog.info? 46).map (fun i => (i.zero, i.size, i.bytes)) = some (some (.agg (repA 0 0 0 0 0 0 0 nilV nilV nilV 0 0 nilV 0 0 nilV)), 16, 192) := by kernel_rfl
theorem split16 {X : List Value} (h : X.length = 16) : ∃ a b c d e f g i j k l m n o p q, X = [a, b, c, d, e, f, g, i, j, k, l, m, n, o, p, q] := by
  match X, h with
  | [a, b, c, d, e, f, g, i, j, k, l, m, n, o, p, q], _ => exact ⟨a, b, c, d, e, f, g, i, j, k, l, m, n, o, p, q, rfl⟩
theorem fillR (X : List Value) (hX : X.length = 16) : Instr.fill (fun i => some (i * 16, 16)) ((Array.range (1 * 16)).map ((Value.agg (repA 0 0 0 0 0 0 0 nilV nilV nilV 0 0 nilV 0 0 nilV)).cells[· % (Value.agg (repA 0 0 0 0 0 0 0 nilV nilV nilV 0 0 nilV 0 0 nilV)).cells.size]!)) [(0, .agg X.toArray)] = some X.toArray := by
  obtain ⟨a, b, c, d, e, f, g, i, j, k, l, m, n, o, p, q, rfl⟩ := split16 hX
  kernel_rfl
theorem wpList_buildR {ops : Array Oper} {rest : List Oper} {op : Oper} {a : Act} {w : World} {Q : Exit → Act → World → Prop} (hgd : op.guard = none) (x : Operand) (ho : op.op = .buildSlice 24 1 #[(0, x)]) (X : List Value) (hX : X.length = 16) (hx : a.eval x = .agg X.toArray)
    (h : wpList Try.prog ops Q rest (a.put op.dst (.slice (some ⟨w.heap.size, 0, none⟩) 1 1)) (w.alloc (.cells X.toArray 46))) : wpList Try.prog ops Q (op :: rest) a w := by
  obtain ⟨ie, hi, h0, h1, h2⟩ := info_parts infoRepZ
  refine wpList_plain hgd fun K hK => wp_buildSlice 24 46 1 #[(0, x)] ho X.toArray ie _ Try.underlying24 hi h0 (by rw [h1]; decide) (by rw [h1]; decide) ?_ (hK _ _ h)
  rw [h1]
  simp only [List.map_toArray, List.map_cons, List.map_nil, hx]
  exact fillR X hX
theorem or_join {x y : Nat} (hx : x < 256) (hy : y < 256) : bits .or .i64 ((x : Int) * 256) (y : Int) = ((x * 256 + y : Nat) : Int) := by
  have := bits_join .i64 63 (by decide) (fun n h0 h1 => by simp [IntKind.wrap, IntKind.bits, IntKind.signed]; omega) 8 ((x : Int) * 256) (y : Int) (by omega) (by omega) (by omega) (by omega) (by omega) (by omega)
  rw [this]
  omega
end Go.Proofs.Ytkfimncbfbbopaa
