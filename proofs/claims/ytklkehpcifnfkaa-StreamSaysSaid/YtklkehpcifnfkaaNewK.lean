/- What New returns (contract). Conditions: the bytes read. -/
import Derived.Test.YtklkehpcifnfkaaBlock
import Derived.Deep.RegionLaw
import Derived.Deep.AppendLies
import Derived.Deep.CutBlock
import Derived.Deep.DeepCutAuto
import Derived.StillTailTactics
set_option linter.unusedVariables false
namespace Go.Proofs.Ytklkehpcifnfkaa
open Go.RowKit
attribute [local go_sem ↓] Go.wp_at_zero Go.wp_at_succ

theorem infoWord : (Try.prog.info? 76).map (fun i => (i.zero, i.size, i.bytes)) = some (some (.agg #[.int .u8 0, .int .u8 0, .int .u8 0, .int .u8 0]), 4, 4) := by kernel_rfl
theorem Tab.setSuf {w : World} {g : Nat} {t : TypeId} {d s z u : Value} {l : List UInt8} (h : Tab w g t d s z l [u]) (v : Value) : Tab (w.setCell ⟨g, 3 + l.length, none⟩ v) g t d s z l [v] := by
  have := Blk.set_ h (3 + l.length) v
  rw [List.setIfInBounds_toArray, show 3 + l.length = l.length + 3 by omega] at this
  rw [show 3 + l.length = l.length + 3 by omega]
  rw [show (d :: s :: z :: (l.map u8v ++ [u])).set (l.length + 3) v = d :: s :: z :: ((l.map u8v ++ [u]).set l.length v) from rfl, List.set_append_right _ _ (by simp)] at this
  unfold Tab
  simpa using this
/-- A key with one word more. -/
theorem key_put {w w5 : World} {B g i c c5 : Nat} {A A5 : Option Addr} {W news : List UInt8} (hB : B ≤ g) (hW : W.length = 4 * i) (ht : Tab w g 73 (.int .u32 1) (.int .i32 0) (.int .u32 0) sbL [.slice A i c]) (ho : w.ownsRow B 76 4 (.slice A i c) i (W.map u8v))
    (hn : news.length = 4) (h5 : w5.ownsRow B 76 4 (.slice A5 (i + 1) c5) (i + 1) (W.map u8v ++ news.map u8v)) (hg : w.grownBy w5 (Value.slice A i c).ownBlock) :
    Tab w5 g 73 (.int .u32 1) (.int .i32 0) (.int .u32 0) sbL [.slice A i c] ∧ KeyIs (w5.setCell ⟨g, 259, none⟩ (.slice A5 (i + 1) c5)) B g (W ++ news) (i + 1) := by
  have hT5 : Tab w5 g 73 (.int .u32 1) (.int .i32 0) (.int .u32 0) sbL [.slice A i c] := Blk.grown ht hg (Ne.symm (own_blk_ne ho ht (by decide)))
  have hs : Tab (w5.setCell ⟨g, 259, none⟩ (.slice A5 (i + 1) c5)) g 73 (.int .u32 1) (.int .i32 0) (.int .u32 0) sbL [.slice A5 (i + 1) c5] := by
    have := hT5.setSuf (.slice A5 (i + 1) c5)
    rw [sbL_len] at this
    exact this
  refine ⟨hT5, A5, c5, hB, by rw [List.length_append, hW, hn]; omega, hs, ?_⟩
  rw [List.map_append]
  exact own_set h5 (own_blk_ne h5 hT5 (by decide)) 259 _
theorem four_at (l : List UInt8) (i : Nat) (h : i + 4 ≤ l.length) : l.take i ++ [l.getD i 0, l.getD (i + 1) 0, l.getD (i + 2) 0, l.getD (i + 3) 0] = l.take (i + 4) := by
  have e : ∀ j, j < l.length → l.take (j + 1) = l.take j ++ [l.getD j 0] := fun j hj => by
    rw [List.take_succ_eq_append_getElem hj, List.getD_eq_getElem?_getD, List.getElem?_eq_getElem hj]; rfl
  rw [show i + 4 = i + 3 + 1 by omega, e _ (by omega), e _ (by omega), e _ (by omega), e _ (by omega)]
  simp
theorem run_arrayAt (w : World) (a : Option Addr) (n c : Nat) (h : 4 ≤ n) : (Instr.arrayAt 76 (.slice a n c)).run Try.prog w = .ok (.pointer a) w := by
  have h4 : ¬ n < 4 := by omega
  simp [Instr.arrayAt, run_underlying Try.underlying76, h4, go_sem]
theorem own_lit4 (w : World) (e : TypeId) (a b c d : Value) : (w.alloc (.cells #[a, b, c, d] e)).ownsRow w.heap.size e 4 (.slice (some ⟨w.heap.size, 0, none⟩) 1 1) 1 [a, b, c, d] :=
  ⟨by simp, .inr ⟨_, 1, #[a, b, c, d], rfl, Nat.le_refl _, by show (w.heap.push _)[w.heap.size]? = _; simp, Nat.le_refl _, by simp [maxLen], by simp, by simp⟩⟩
theorem BB.set4 {w : World} {g : Nat} {t : TypeId} {a b c d a' b' c' d' : UInt8} (h : BB w g t [a, b, c, d]) :
    BB ((((w.setCell ⟨g, 0, none⟩ (.int .u8 (a'.toNat : Int))).setCell ⟨g, 1, none⟩ (.int .u8 (b'.toNat : Int))).setCell ⟨g, 2, none⟩ (.int .u8 (c'.toNat : Int))).setCell ⟨g, 3, none⟩ (.int .u8 (d'.toNat : Int))) g t [a', b', c', d'] :=
  (((h.set 0 a').set 1 b').set 2 c').set 3 d'
theorem bset4 {w W : World} {g : Nat} {x0 x1 x2 x3 : Value} (h : Below w.heap.size w W) (hg : w.heap.size ≤ g) :
    Below w.heap.size w ((((W.setCell ⟨g, 0, none⟩ x0).setCell ⟨g, 1, none⟩ x1).setCell ⟨g, 2, none⟩ x2).setCell ⟨g, 3, none⟩ x3) := bset (bset (bset (bset h hg _) hg _) hg _) hg _
theorem zero73 : Try.zeroCells73 = (.int .u32 0 :: .int .i32 0 :: .int .u32 0 :: ((List.replicate 256 (0 : UInt8)).map u8v ++ [.slice none 0 0])).toArray := by kernel_rfl

set_option maxRecDepth 100000 in
set_option maxHeartbeats 1600000 in
theorem new_bad (b : List UInt8) (A : Option Addr) (c : Nat) (w : World) (hb : b.length ≠ 16 ∧ b.length ≠ 32) :
    Calls Try.prog 13 #[.slice A b.length c] w fun e w' => e = .returned (.tuple #[.pointer none, .int .i64 1]) ∧ w = w' := by
  have h1 : ((b.length : Int) != 16) = true := by rw [bne_iff_ne]; omega
  have h2 : ((b.length : Int) != 32) = true := by rw [bne_iff_ne]; omega
  clear hb
  go_enter Try.func13, Try.ntmps13
  go_wp2
  go_ret2
  exact ⟨rfl, rfl⟩
end Go.Proofs.Ytklkehpcifnfkaa
