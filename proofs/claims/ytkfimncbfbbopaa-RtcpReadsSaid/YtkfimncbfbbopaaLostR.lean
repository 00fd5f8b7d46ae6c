/- What the reference's Lost does (contract). Conditions: the pairs lie in memory. -/
import Derived.Test.YtkfimncbfbbopaaLost
set_option linter.unusedVariables false
set_option linter.unusedSimpArgs false
namespace Go.Proofs.Ytkfimncbfbbopaa
open Go.RowKit
attribute [local go_sem ↓] Go.wp_at_zero Go.wp_at_succ

set_option maxRecDepth 100000 in
set_option maxHeartbeats 12800000 in
theorem lostR_c (ps : List (Nat × Nat)) (A : Option Addr) (n cap : Nat) (w : World) (hr : Reads w w.heap.size 2 A n (rowP ps)) (hx : ∀ p ∈ ps, p.1 < 65536 ∧ p.2 < 65536) (hn : n ≤ 300) :
    Calls Try.prog 20 #[.slice A n cap] w fun e w' => ∃ v, e = .returned v ∧ w'.ownsRow w.heap.size 55 1 v (lostS ps).length ((lostS ps).map nV) ∧ Below w.heap.size w w' := by
  obtain ⟨iU, hiU, hzaU, hzbU, hzcU⟩ := info_parts info16
  have hlen : ps.length = n := by have := hr.1; rw [rowP_len] at this; omega
  have HLEN := Lib.hid hlen
  have HR := Lib.hid hr
  have HXS := Lib.hid hx
  clear hlen hr hx
  go_enter Try.func20, Try.ntmps20
  go_upto_region 3 with fail
  go_loopg [3, 4] n (fun gg v3 v4 wx => ∃ (i k : Nat) (Ao : Option Addr) (co : Nat), gg = n - i ∧ i ≤ n ∧ v4 = .int .i64 (i : Int) ∧ v3 = .slice Ao k co ∧ k = (lostS (ps.take i)).length ∧ k ≤ 17 * i ∧
    wx.ownsRow w.heap.size 55 1 (.slice Ao k co) k ((lostS (ps.take i)).map nV) ∧ Below w.heap.size w wx)
  case atStart => exact ⟨0, 0, none, 0, by omega, by omega, rfl, rfl, by simp [lostS], by omega, by simpa [lostS] using World.ownsRow_nil _ _ _ _, Below.refl _ _⟩
  case round =>
    obtain ⟨i, k, Ao, co, hgg, hi, rfl, rfl, hk, hki, ho, hb⟩ := hrel
    have HO := Lib.hid ho
    have HB := Lib.hid hb
    have HK := Lib.hid hk
    have HG := Lib.hid hgg
    clear ho hb hk hgg
    by_cases hin : i < n
    · have hini : (i : Int) < (n : Int) := by omega
      have hw1 : IntKind.i64.wrap ((i : Int) + 1) = ((i + 1 : Nat) : Int) := by rw [IntKind.wrap_i64]; omega
      obtain ⟨⟨f, m⟩, hpi⟩ : ∃ p, ps[i]? = some p := ⟨ps[i]'(by have := HLEN.out; omega), List.getElem?_eq_getElem _⟩
      obtain ⟨hf65, hm65⟩ : f < 65536 ∧ m < 65536 := HXS.out (f, m) (List.mem_of_getElem? hpi)
      have HTK := Lib.hid (takeN_snoc hpi)
      obtain ⟨g, o, hA, hg, hc⟩ := pair_cells HR.out (by omega)
      subst hA
      have cf : wr.cell? ⟨g, o + i * 2, none⟩ = some (.int .u16 (f : Int)) := (HB.out.cell (p := ⟨g, o + i * 2, none⟩) hg).trans (hc i f m hpi).1
      have cm : wr.cell? ⟨g, o + i * 2 + 1, none⟩ = some (.int .u16 (m : Int)) := (HB.out.cell (p := ⟨g, o + i * 2 + 1, none⟩) hg).trans (hc i f m hpi).2
      have HLT := Lib.hid hin
      have HC := Lib.hid (hc i f m hpi)
      have HGW := Lib.hid hg
      clear hc hpi hin
      clear cm
      have HRE : Hid (Reads (wr.alloc (.cells #[.int .u16 (f : Int)] 55)) (World.heap (wr.alloc (.cells #[.int .u16 (f : Int)] 55))).size 1 (some ⟨wr.heap.size, 0, none⟩) 1 [nV f]) := reads_blk (n := 1) (size := 1) (Blk.newAt (w := wr) rfl 55 #[.int .u16 (f : Int)]) rfl
      have HBS : Hid (w.heap.size ≤ (World.heap (wr.alloc (.cells #[.int .u16 (f : Int)] 55))).size) := Nat.le_trans HB.out.size (by simp)
      have HON := Lib.hid (HO.out.alloc (.cells #[.int .u16 (f : Int)] 55))
      go_upto_region 7 with (first
        | (at_builtin
           refine wpList_append_any _ rfl (.tmp 12) (.tmp 18) _ rfl w.heap.size 55 iU _ 1 2 Try.underlying48 hiU hzaU hzbU hzcU rfl (by omega) (.slice Ao k co) k ((lostS (ps.take i)).map nV) rfl HON.out
             _ (some ⟨wr.heap.size, 0, none⟩) 1 1 [nV f] rfl HRE.out (by simp [nV, Value.oneCell']) (by simp only [maxLen]; omega) (by omega) HBS.out ?_
           intro v2 w2 hown hg hv
           obtain ⟨A2, c2, rfl⟩ := own_slice hown
           have HO2 := Lib.hid hown
           have HG2 := Lib.hid hg
           clear hown hg hv))
      have hsv : Sv (fun j => (Value.slice Ao k co).ownBlock = some j) (wr.alloc (.cells #[.int .u16 (f : Int)] 55)) w2 := (Sv.refl _ _).grown HG2.out (fun g e => .inl e)
      have hlo : ∀ j, (Value.slice Ao k co).ownBlock = some j → w.heap.size ≤ j := fun j e => (HO.out.lt j e).1
      have HB2 : Hid (Below w.heap.size w w2) := (balloc HB.out _).trans (hsv.toBelow hlo HBS.out)
      clear hsv hlo HB HO HRE HBS HON HG2 cf
      go_loopg [3, 5] 16 (fun gg v3 v5 wx => ∃ (j k2 : Nat) (Aj : Option Addr) (cj : Nat), gg = 16 - j ∧ j ≤ 16 ∧ v5 = .int .i64 (j : Int) ∧ v3 = .slice Aj k2 cj ∧ k2 = (lostS (ps.take i) ++ f :: bitsS f m j).length ∧ k2 ≤ k + 1 + j ∧
        wx.ownsRow w.heap.size 55 1 (.slice Aj k2 cj) k2 ((lostS (ps.take i) ++ f :: bitsS f m j).map nV) ∧ Below w.heap.size w wx)
      case atStart =>
        refine ⟨0, k + 1, A2, c2, rfl, by omega, rfl, rfl, ?_, by omega, ?_, HB2.out⟩
        · rw [List.length_append, ← HK.out]; rfl
        · rw [List.map_append]; exact HO2.out
      case round =>
        obtain ⟨j, k2, Aj, cj, hgg, hj, rfl, rfl, hk2, hkj, ho, hb⟩ := hrel
        have HOJ := Lib.hid ho
        have HBJ := Lib.hid hb
        have HKJ := Lib.hid hk2
        have HGJ := Lib.hid hgg
        clear ho hb hk2 hgg
        by_cases hj16 : j < 16
        · have hji : (j : Int) < 16 := by omega
          have hjw : IntKind.i64.wrap ((j : Int) + 1) = ((j + 1 : Nat) : Int) := by rw [IntKind.wrap_i64]; omega
          have hjc : IntKind.u64.wrap (j : Int) = (j : Int) := by rw [IntKind.wrap_u64]; omega
          have hjd : IntKind.u16.wrap (j : Int) = (j : Int) := by rw [IntKind.wrap_u16]; omega
          have hj0 : ¬ (j : Int) < 0 := by omega
          have kf : wr.cell? ⟨g, o + i * 2, none⟩ = some (.int .u16 (f : Int)) := (HBJ.out.cell (p := ⟨g, o + i * 2, none⟩) HGW.out).trans HC.out.1
          have km : wr.cell? ⟨g, o + i * 2 + 1, none⟩ = some (.int .u16 (m : Int)) := (HBJ.out.cell (p := ⟨g, o + i * 2 + 1, none⟩) HGW.out).trans HC.out.2
          obtain ⟨S, hS⟩ : ∃ S, S = m / 2 ^ j := ⟨_, rfl⟩
          have hS65 : S < 65536 := by rw [hS]; exact Nat.lt_of_le_of_lt (Nat.div_le_self _ _) hm65
          have hsh : (m : Int) / 2 ^ j = (S : Int) := by rw [hS, Int.natCast_ediv, Int.natCast_pow]; rfl
          have hand : bits .and .u16 (S : Int) 1 = ((S &&& 1 : Nat) : Int) := u16_and_nat S 1 hS65 (by decide)
          have hbit : S &&& 1 = if m.testBit j then 1 else 0 := by rw [hS]; exact shr_bit m j
          have HJ := Lib.hid hj16
          clear hj16 hS
          cases hT : m.testBit j with
          | true =>
            rw [hT, if_pos rfl] at hbit
            rw [hbit] at hand
            replace hand : bits .and .u16 (S : Int) 1 = 1 := hand
            have HBI : Hid (bitsS f m (j + 1) = bitsS f m j ++ [(f + j + 1) % 65536]) := by show _ = _; rw [bitsS, if_pos hT]
            obtain ⟨x, hx⟩ : ∃ x, x = (f + j + 1) % 65536 := ⟨_, rfl⟩
            rw [← hx] at HBI
            obtain ⟨q1, hq1⟩ : ∃ q1, q1 = (f + j) % 65536 := ⟨_, rfl⟩
            have hwa : IntKind.u16.wrap ((f : Int) + (j : Int)) = (q1 : Int) := by rw [IntKind.wrap_u16]; omega
            have hwb : IntKind.u16.wrap ((q1 : Int) + 1) = (x : Int) := by rw [IntKind.wrap_u16]; omega
            clear hx hq1 hT hbit
            have HRE : Hid (Reads (wr.alloc (.cells #[.int .u16 (x : Int)] 55)) (World.heap (wr.alloc (.cells #[.int .u16 (x : Int)] 55))).size 1 (some ⟨wr.heap.size, 0, none⟩) 1 [nV x]) := reads_blk (n := 1) (size := 1) (Blk.newAt (w := wr) rfl 55 #[.int .u16 (x : Int)]) rfl
            have HBS : Hid (w.heap.size ≤ (World.heap (wr.alloc (.cells #[.int .u16 (x : Int)] 55))).size) := Nat.le_trans HBJ.out.size (by simp)
            have HON := Lib.hid (HOJ.out.alloc (.cells #[.int .u16 (x : Int)] 55))
            go_wp2_with
             (at_builtin
              refine wpList_append_any _ rfl (.tmp 34) (.tmp 44) _ rfl w.heap.size 55 iU _ 1 2 Try.underlying48 hiU hzaU hzbU hzcU rfl (by omega) (.slice Aj k2 cj) k2 ((lostS (ps.take i) ++ f :: bitsS f m j).map nV) rfl HON.out
                _ (some ⟨wr.heap.size, 0, none⟩) 1 1 [nV x] rfl HRE.out (by simp [nV, Value.oneCell']) (by simp only [maxLen]; omega) (by omega) HBS.out ?_
              intro v3 w3 hown hg hv
              obtain ⟨A3, c3, rfl⟩ := own_slice hown
              have HO3 := Lib.hid hown
              have HG3 := Lib.hid hg
              clear hown hg hv)
            go_roundg (16 - (j + 1))
            case measure => have := HJ.out; have := HGJ.out; omega
            case rel =>
              have hj16 := HJ.out
              have hsv : Sv (fun j => (Value.slice Aj k2 cj).ownBlock = some j) (wr.alloc (.cells #[.int .u16 (x : Int)] 55)) w3 := (Sv.refl _ _).grown HG3.out (fun g e => .inl e)
              have hlo : ∀ j, (Value.slice Aj k2 cj).ownBlock = some j → w.heap.size ≤ j := fun j e => (HOJ.out.lt j e).1
              refine ⟨j + 1, k2 + 1, A3, c3, rfl, by omega, rfl, rfl, ?_, by omega, ?_, ?_⟩
              · rw [HBI.out, ← List.cons_append, ← List.append_assoc, List.length_append, ← HKJ.out]; rfl
              · rw [HBI.out, ← List.cons_append, ← List.append_assoc, List.map_append]; exact HO3.out
              · exact (balloc HBJ.out _).trans (hsv.toBelow hlo HBS.out)
          | false =>
            rw [hT, if_neg (by decide)] at hbit
            rw [hbit] at hand
            replace hand : bits .and .u16 (S : Int) 1 = 0 := hand
            have HBI : Hid (bitsS f m (j + 1) = bitsS f m j) := by show _ = _; rw [bitsS, if_neg (by rw [hT]; decide), List.append_nil]
            clear hT hbit
            go_wp2_with fail
            go_roundg (16 - (j + 1))
            case measure => have := HJ.out; have := HGJ.out; omega
            case rel =>
              have hj16 := HJ.out
              exact ⟨j + 1, k2, Aj, cj, rfl, by omega, rfl, rfl, by rw [HBI.out]; exact HKJ.out, by omega, by rw [HBI.out]; exact HOJ.out, HBJ.out⟩
        · have hji : ¬ (j : Int) < 16 := by omega
          have HJE : Hid (j = 16) := by show _ = _; omega
          clear hj16
          go_wp2_with fail
          go_roundg (n - (i + 1))
          case measure => have := HLT.out; have := HG.out; omega
          case rel =>
            have hlt := HLT.out
            have hL : lostS (ps.take (i + 1)) = lostS (ps.take i) ++ f :: bitsS f m j := by rw [HTK.out, lostS_snoc, HJE.out]; rfl
            exact ⟨i + 1, k2, Aj, cj, rfl, by omega, rfl, rfl, by rw [hL]; exact HKJ.out, by omega, by rw [hL]; exact HOJ.out, HBJ.out⟩
    · have hini : ¬ (i : Int) < (n : Int) := by omega
      have hie : i = n := by omega
      subst hie
      have HT : Hid (ps.take i = ps) := List.take_of_length_le (by rw [HLEN.out]; exact Nat.le_refl _)
      clear hin hi
      go_wp2_with fail
      go_ret
      have hk := HK.out
      have ho := HO.out
      rw [HT.out] at hk ho
      exact ⟨_, rfl, hk ▸ ho, HB.out⟩
end Go.Proofs.Ytkfimncbfbbopaa
