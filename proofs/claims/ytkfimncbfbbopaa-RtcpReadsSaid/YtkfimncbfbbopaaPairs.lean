/- help.Pairs (contract). Conditions: the pairs lie in memory. -/
import Derived.Test.YtkfimncbfbbopaaRow
set_option linter.unusedVariables false
set_option linter.unusedSimpArgs false
namespace Go.Proofs.Ytkfimncbfbbopaa
open Go.RowKit
attribute [local go_sem ↓] Go.wp_at_zero Go.wp_at_succ

set_option maxRecDepth 100000 in
set_option maxHeartbeats 12800000 in
theorem pairs_c (l : List (List Nat)) (A : Option Addr) (n cap : Nat) (w : World) (h : SlR w ksP (.slice A n cap) l) (hn : n ≤ 100000) :
    Calls Try.prog 34 #[.slice A n cap] w fun e w' => ∃ v, e = .returned v ∧ w'.ownsRow w.heap.size 58 2 v n (rowC ksP l) ∧ Below w.heap.size w w' := by
  obtain ⟨iP, hiP, hzaP, hzbP, hzcP⟩ := info_parts infoPairQ
  have hlen : l.length = n := by obtain ⟨_, _, e, _⟩ := h; injection e with _ e; exact e.symm
  have HLEN := Lib.hid hlen
  have H := Lib.hid h
  clear hlen h
  go_enter Try.func34, Try.ntmps34
  go_upto_region 3 with fail
  go_loopg [3, 4] n (fun gg v3 v4 wx => ∃ (i : Nat) (Ao : Option Addr) (co : Nat), gg = n - i ∧ i ≤ n ∧ v4 = .int .i64 (i : Int) ∧ v3 = .slice Ao i co ∧
    wx.ownsRow w.heap.size 58 2 (.slice Ao i co) i (rowC ksP (l.take i)) ∧ Below w.heap.size w wx)
  case atStart => exact ⟨0, none, 0, by omega, by omega, rfl, rfl, by simpa [rowC] using World.ownsRow_nil _ _ _ _, Below.refl _ _⟩
  case round =>
    obtain ⟨i, Ao, co, hgg, hi, rfl, rfl, ho, hb⟩ := hrel
    have HO := Lib.hid ho
    have HB := Lib.hid hb
    have HG := Lib.hid hgg
    clear ho hb hgg
    by_cases hin : i < n
    · have hini : (i : Int) < (n : Int) := by omega
      have hw1 : IntKind.i64.wrap ((i : Int) + 1) = ((i + 1 : Nat) : Int) := by rw [IntKind.wrap_i64]; omega
      obtain ⟨e, hei⟩ : ∃ e, l[i]? = some e := ⟨l[i]'(by have := HLEN.out; omega), List.getElem?_eq_getElem _⟩
      obtain ⟨hz, g, o, hA, hg, hc⟩ := SlR.cells H.out (by omega) (by decide)
      subst hA
      obtain ⟨hel, hcc⟩ := hc i e hei
      obtain ⟨a, b, r, he⟩ := two_of (ks := ksP) rfl hel
      have HTK : Hid (rowC ksP (l.take (i + 1)) = rowC ksP (l.take i) ++ [numV .u16 a, numV .u16 b]) := by
        show _ = _
        rw [takeN_snoc hei, rowC_append, rowC_one, he]
        rfl
      have ca : wr.cell? ⟨g, o + i * 2, none⟩ = some (.int .u16 (a : Int)) := (HB.out.cell (p := ⟨g, o + i * 2, none⟩) hg).trans (hcc 0 _ (by rw [he]; rfl))
      have cb : wr.cell? ⟨g, o + i * 2 + 1, none⟩ = some (.int .u16 (b : Int)) := (HB.out.cell (p := ⟨g, o + i * 2 + 1, none⟩) hg).trans (hcc 1 _ (by rw [he]; rfl))
      have HLT := Lib.hid hin
      clear hc hcc hei hin he hel hz
      have HRE : Hid (Reads (wr.alloc (.cells #[.int .u16 (a : Int), .int .u16 (b : Int)] 58)) (World.heap (wr.alloc (.cells #[.int .u16 (a : Int), .int .u16 (b : Int)] 58))).size 2 (some ⟨wr.heap.size, 0, none⟩) 1 [numV .u16 a, numV .u16 b]) := reads_blk (n := 1) (size := 2) (Blk.newAt (w := wr) rfl 58 #[.int .u16 (a : Int), .int .u16 (b : Int)]) rfl
      have HBS : Hid (w.heap.size ≤ (World.heap (wr.alloc (.cells #[.int .u16 (a : Int), .int .u16 (b : Int)] 58))).size) := Nat.le_trans HB.out.size (by simp)
      have HON := Lib.hid (HO.out.alloc (.cells #[.int .u16 (a : Int), .int .u16 (b : Int)] 58))
      go_wp2_with
       (at_builtin
        refine wpList_append_any _ rfl (.tmp 11) (.tmp 16) _ rfl w.heap.size 58 iP _ 2 4 Try.underlying36 hiP hzaP hzbP hzcP rfl (by omega) (.slice Ao i co) i (rowC ksP (l.take i)) rfl HON.out
          _ (some ⟨wr.heap.size, 0, none⟩) 1 1 [numV .u16 a, numV .u16 b] rfl HRE.out (by simp [numV, Value.oneCell']) (by simp only [maxLen]; omega) (by omega) HBS.out ?_
        intro v10 w10 hown hg10 hv10
        obtain ⟨A10, c10, rfl⟩ := own_slice hown
        have HO10 := Lib.hid hown
        have HG10 := Lib.hid hg10
        clear hown hg10 hv10)
      go_roundg (n - (i + 1))
      case measure => have := HLT.out; have := HG.out; omega
      case rel =>
        have hlt := HLT.out
        have hsv : Sv (fun j => (Value.slice Ao i co).ownBlock = some j) (wr.alloc (.cells #[.int .u16 (a : Int), .int .u16 (b : Int)] 58)) w10 := (Sv.refl _ _).grown HG10.out (fun g e => .inl e)
        have hlo : ∀ j, (Value.slice Ao i co).ownBlock = some j → w.heap.size ≤ j := fun j e => (HO.out.lt j e).1
        refine ⟨i + 1, A10, c10, rfl, by omega, rfl, rfl, ?_, ?_⟩
        · rw [HTK.out]; exact HO10.out
        · exact (balloc HB.out _).trans (hsv.toBelow hlo HBS.out)
    · have hini : ¬ (i : Int) < (n : Int) := by omega
      have hie : i = n := by omega
      subst hie
      have HT : Hid (l.take i = l) := List.take_of_length_le (by rw [HLEN.out]; exact Nat.le_refl _)
      clear hin hi
      go_wp2_with fail
      go_ret
      have ho := HO.out
      rw [HT.out] at ho
      exact ⟨_, rfl, ho, HB.out⟩
end Go.Proofs.Ytkfimncbfbbopaa
