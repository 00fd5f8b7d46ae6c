/- What the reference's Nack does (contract). Conditions: the numbers lie in memory. -/
import Derived.Test.YtkfimncbfbbopaaNackW
set_option linter.unusedVariables false
set_option linter.unusedSimpArgs false
namespace Go.Proofs.Ytkfimncbfbbopaa
open Go.RowKit
attribute [local go_sem ↓] Go.wp_at_zero Go.wp_at_succ

theorem infoPairQ : (Try.prog.info? 58).map (fun i => (i.zero, i.size, i.bytes)) = some (some (.agg #[.int .u16 0, .int .u16 0]), 2, 4) := by kernel_rfl
set_option maxRecDepth 100000 in
set_option maxHeartbeats 12800000 in
theorem nackR_c (xs : List Nat) (A : Option Addr) (n cap : Nat) (w : World) (hr : Reads w w.heap.size 1 A n (xs.map nV)) (hx : ∀ x ∈ xs, x < 65536) (hn : n ≤ 300) :
    Calls Try.prog 18 #[.slice A n cap] w fun e w' => ∃ v, e = .returned v ∧ w'.ownsRow w.heap.size 58 2 v (nackS xs).length (rowP (nackS xs)) ∧ Below w.heap.size w w' := by
  obtain ⟨iP, hiP, hzaP, hzbP, hzcP⟩ := info_parts infoPairQ
  have hlen : xs.length = n := by have := hr.1; rw [List.length_map] at this; omega
  have HLEN := Lib.hid hlen
  have HR := Lib.hid hr
  have HXS := Lib.hid hx
  clear hlen hr hx
  go_enter Try.func18, Try.ntmps18
  go_upto_region 3 with fail
  go_loopg [3, 4] n (fun gg v3 v4 wx => ∃ (i k : Nat) (Ao : Option Addr) (co : Nat), gg = n - i ∧ i ≤ n ∧ v4 = .int .i64 (i : Int) ∧ v3 = .slice Ao k co ∧ k = (nackS (xs.take i)).length ∧ k ≤ i ∧
    wx.ownsRow w.heap.size 58 2 (.slice Ao k co) k (rowP (nackS (xs.take i))) ∧ Below w.heap.size w wx)
  case atStart => exact ⟨0, 0, none, 0, by omega, by omega, rfl, rfl, by simp [nackS], by omega, by simpa [nackS, rowP] using World.ownsRow_nil _ _ _ _, Below.refl _ _⟩
  case round =>
    obtain ⟨i, k, Ao, co, hgg, hi, rfl, rfl, hk, hki, ho, hb⟩ := hrel
    have HO := Lib.hid ho
    have HB := Lib.hid hb
    have HK := Lib.hid hk
    have HG := Lib.hid hgg
    clear ho hb hk hgg
    by_cases hin : i < n
    · have hini : (i : Int) < (n : Int) := by omega
      have hw1 : IntKind.i64.wrap ((i : Int) + 1) = ((i + 1 : Nat) : Int) := by rw [IntKind.wrap_i64]; omega
      obtain ⟨x, hxi⟩ : ∃ x, xs[i]? = some x := ⟨xs[i]'(by have := HLEN.out; omega), List.getElem?_eq_getElem _⟩
      have hx65 : x < 65536 := HXS.out x (List.mem_of_getElem? hxi)
      have HTK := Lib.hid (takeN_snoc hxi)
      obtain ⟨g, o, hA, hg, hc⟩ := num_cells HR.out (by omega)
      subst hA
      have ci : wr.cell? ⟨g, o + i, none⟩ = some (.int .u16 (x : Int)) := (HB.out.cell (p := ⟨g, o + i, none⟩) hg).trans (hc i x hxi)
      have HLT := Lib.hid hin
      clear hc hxi hin
      by_cases hk0 : k = 0
      · subst hk0
        have HE : nackS (xs.take i) = [] := List.eq_nil_of_length_eq_zero HK.out.symm
        have HST : Hid (stepN (nackS (xs.take i)) x = nackS (xs.take i) ++ [(x, 0)]) := by show _ = _; rw [HE]; rfl
        clear HE
        have HRE : Hid (Reads (wr.alloc (.cells #[.int .u16 (x : Int), .int .u16 0] 58)) (World.heap (wr.alloc (.cells #[.int .u16 (x : Int), .int .u16 0] 58))).size 2 (some ⟨wr.heap.size, 0, none⟩) 1 [nV x, nV 0]) := reads_blk (n := 1) (size := 2) (Blk.newAt (w := wr) rfl 58 #[.int .u16 (x : Int), .int .u16 0]) rfl
        have HBS : Hid (w.heap.size ≤ (World.heap (wr.alloc (.cells #[.int .u16 (x : Int), .int .u16 0] 58))).size) := Nat.le_trans HB.out.size (by simp)
        have HON := Lib.hid (HO.out.alloc (.cells #[.int .u16 (x : Int), .int .u16 0] 58))
        go_wp2_with
         (at_builtin
          refine wpList_append_any _ rfl (.tmp 47) (.tmp 53) _ rfl w.heap.size 58 iP _ 2 4 Try.underlying36 hiP hzaP hzbP hzcP rfl (by omega) (.slice Ao 0 co) 0 (rowP (nackS (xs.take i))) rfl HON.out
            _ (some ⟨wr.heap.size, 0, none⟩) 1 1 [nV x, nV 0] rfl HRE.out (by simp [nV, Value.oneCell']) (by simp only [maxLen]; omega) (by omega) HBS.out ?_
          intro v10 w10 hown hg10 hv10
          obtain ⟨A10, c10, rfl⟩ := own_slice hown
          have HO10 := Lib.hid hown
          have HG10 := Lib.hid hg10
          clear hown hg10 hv10)
        go_roundg (n - (i + 1))
        case measure => have := HLT.out; have := HG.out; omega
        case rel =>
          have hlt := HLT.out
          have hbw : Below wr.heap.size wr (wr.alloc (.cells #[.int .u16 (x : Int), .int .u16 0] 58)) := balloc (Below.refl _ _) _
          have hsv : Sv (fun j => (Value.slice Ao 0 co).ownBlock = some j) (wr.alloc (.cells #[.int .u16 (x : Int), .int .u16 0] 58)) w10 := (Sv.refl _ _).grown HG10.out (fun g e => .inl e)
          have hlo : ∀ j, (Value.slice Ao 0 co).ownBlock = some j → w.heap.size ≤ j := fun j e => (HO.out.lt j e).1
          refine ⟨i + 1, 0 + 1, A10, c10, rfl, by omega, rfl, rfl, ?_, by omega, ?_, ?_⟩
          · rw [HTK.out, nackS_snoc, HST.out, List.length_append, ← HK.out]; rfl
          · rw [HTK.out, nackS_snoc, HST.out, rowP_snoc]; exact HO10.out
          · exact (HB.out.trans (hbw.mono HB.out.size)).trans (hsv.toBelow hlo HBS.out)
      · have hkp : 0 < k := by omega
        have hkw : IntKind.i64.wrap ((k : Int) - 1) = ((k - 1 : Nat) : Int) := by rw [IntKind.wrap_i64]; omega
        obtain ⟨j, hj⟩ : ∃ j, j = k - 1 := ⟨_, rfl⟩
        rw [← hj] at hkw
        have hj0 : (0 : Int) ≤ (j : Int) := by omega
        have hjk : (j : Int) < (k : Int) := by omega
        have HJ : Hid (k = j + 1) := by show _ = _; omega
        rcases snoc_cases (nackS (xs.take i)) with hnil | ⟨a, ⟨f, m⟩, hsn⟩
        · have := HK.out; rw [hnil] at this; exact absurd this hk0
        have hal : a.length = j := by have := HK.out; rw [hsn, List.length_append] at this; simp at this; omega
        obtain ⟨gA, hA, hke, hgA, hgL⟩ := own_block HO.out hkp
        subst hA
        have hfm := nackS_head (xs := xs.take i) (fun y hy => HXS.out y (List.mem_of_mem_take hy)) (f, m) (by rw [hsn]; simp)
        obtain ⟨hf65, hm65⟩ : f < 65536 ∧ m < 65536 := hfm
        have hat := rowP_at (nackS (xs.take i)) j (f, m) (by rw [hsn, List.getElem?_append_right (by omega), hal]; simp)
        have cf : wr.cell? ⟨gA, j * 2, none⟩ = some (.int .u16 (f : Int)) := (HO.out.cellAt (j * 2) (by omega)).trans hat.1
        have cm : wr.cell? ⟨gA, j * 2 + 1, none⟩ = some (.int .u16 (m : Int)) := (HO.out.cellAt (j * 2 + 1) (by omega)).trans hat.2
        have hfz := HO.out.frozenAt (j * 2 + 1)
        obtain ⟨d, hd⟩ : ∃ d, d = dN x f := ⟨_, rfl⟩
        have hdw : IntKind.u16.wrap ((x : Int) - (f : Int)) = (d : Int) := by rw [hd, dN, IntKind.wrap_u16]; omega
        have HSN := Lib.hid hsn
        have HAL := Lib.hid hal
        have HD := Lib.hid hd
        clear hsn hat hke hgA hal hk0 hkp hj
        clear hd
        go_upto_region 7 with fail
        go_quiet (fail)
        clear hdw
        obtain ⟨wq, hwq⟩ : ∃ wq, wq = wr.drewN nq := ⟨_, rfl⟩
        rw [← hwq]
        replace HB : Hid (Below w.heap.size w wq) := by rw [hwq]; exact below_drewN HB.out _
        replace HO : Hid (wq.ownsRow w.heap.size 58 2 (.slice (some ⟨gA, 0, none⟩) k co) k (rowP (nackS (xs.take i)))) := by rw [hwq]; exact HO.out
        replace ci : wq.cell? ⟨g, o + i, none⟩ = some (.int .u16 (x : Int)) := by rw [hwq]; exact ci
        replace cm : wq.cell? ⟨gA, j * 2 + 1, none⟩ = some (.int .u16 (m : Int)) := by rw [hwq]; exact cm
        replace hfz : wq.frozen? ⟨gA, j * 2 + 1, none⟩ = false := by rw [hwq]; exact hfz
        clear hwq cf
        by_cases hnear : 1 ≤ d ∧ d ≤ 16
        · have HST : Hid (stepN (nackS (xs.take i)) x = a ++ [(f, m ||| 2 ^ (d - 1))]) := by
            show _ = _
            rw [HSN.out, stepN_snoc, if_pos (by rw [nearN, ← HD.out]; exact hnear), ← HD.out]
          have hd1 : (1 : Int) ≤ (d : Int) := by omega
          have hd2 : (d : Int) ≤ 16 := by omega
          have hdq : IntKind.u16.wrap ((d : Int) - 1) = ((d - 1 : Nat) : Int) := by rw [IntKind.wrap_u16]; omega
          obtain ⟨q, hq⟩ : ∃ q, q = d - 1 := ⟨_, rfl⟩
          rw [← hq] at hdq
          have HQ := Lib.hid hq
          have HQ16 : Hid (q < 16) := by show _ < _; omega
          obtain ⟨P, hP⟩ : ∃ P, P = 2 ^ q := ⟨_, rfl⟩
          have hP65 : P < 65536 := by rw [hP]; exact Nat.pow_lt_pow_right (a := 2) (n := 16) (by decide) HQ16.out
          have hsh : IntKind.u16.wrap (2 ^ min q 16) = (P : Int) := by rw [hP]; exact shl_u16 q HQ16.out
          have hor := u16_or_nat m P hm65 hP65
          obtain ⟨M, hM⟩ : ∃ M, M = m ||| P := ⟨_, rfl⟩
          rw [← hM] at hor
          have HM : Hid (m ||| 2 ^ (d - 1) = M) := by show _ = _; rw [hM, hP, hq]
          clear hnear hq hP hM
          go_wp2_with fail
          go_roundg (n - (i + 1))
          case measure => have := HLT.out; have := HG.out; omega
          case rel =>
            have hlt := HLT.out
            have hge : w.heap.size ≤ gA := (HO.out.lt gA rfl).1
            have hrow := (HO.out.stored (j * 2 + 1) (.int .u16 (M : Int))).1
            refine ⟨i + 1, k, some ⟨gA, 0, none⟩, co, rfl, by omega, rfl, rfl, ?_, by omega, ?_, ?_⟩
            · rw [HTK.out, nackS_snoc, HST.out, List.length_append, HAL.out]; exact HJ.out
            · rw [HTK.out, nackS_snoc, HST.out, HM.out, ← rowP_set a f m M, ← HSN.out, HAL.out]; exact hrow
            · exact bset HB.out (p := ⟨gA, j * 2 + 1, none⟩) hge _
        · have HST : Hid (stepN (nackS (xs.take i)) x = nackS (xs.take i) ++ [(x, 0)]) := by
            show _ = _
            rw [HSN.out, stepN_snoc, if_neg (by rw [nearN, ← HD.out]; exact hnear)]
          by_cases hd0 : 1 ≤ d
          · have hd1 : (1 : Int) ≤ (d : Int) := by omega
            have hd2 : ¬ (d : Int) ≤ 16 := by omega
            clear hnear hd0
            have HRE : Hid (Reads (wq.alloc (.cells #[.int .u16 (x : Int), .int .u16 0] 58)) (World.heap (wq.alloc (.cells #[.int .u16 (x : Int), .int .u16 0] 58))).size 2 (some ⟨wq.heap.size, 0, none⟩) 1 [nV x, nV 0]) := reads_blk (n := 1) (size := 2) (Blk.newAt (w := wq) rfl 58 #[.int .u16 (x : Int), .int .u16 0]) rfl
            have HBS : Hid (w.heap.size ≤ (World.heap (wq.alloc (.cells #[.int .u16 (x : Int), .int .u16 0] 58))).size) := Nat.le_trans HB.out.size (by simp)
            have HON := Lib.hid (HO.out.alloc (.cells #[.int .u16 (x : Int), .int .u16 0] 58))
            go_wp2_with
             (at_builtin
              refine wpList_append_any _ rfl (.tmp 47) (.tmp 53) _ rfl w.heap.size 58 iP _ 2 4 Try.underlying36 hiP hzaP hzbP hzcP rfl (by omega) (.slice (some ⟨gA, 0, none⟩) k co) k (rowP (nackS (xs.take i))) rfl HON.out
                _ (some ⟨wq.heap.size, 0, none⟩) 1 1 [nV x, nV 0] rfl HRE.out (by simp [nV, Value.oneCell']) (by simp only [maxLen]; omega) (by omega) HBS.out ?_
              intro v10 w10 hown hg10 hv10
              obtain ⟨A10, c10, rfl⟩ := own_slice hown
              have HO10 := Lib.hid hown
              have HG10 := Lib.hid hg10
              clear hown hg10 hv10)
            go_roundg (n - (i + 1))
            case measure => have := HLT.out; have := HG.out; omega
            case rel =>
              have hlt := HLT.out
              have hbw : Below wq.heap.size wq (wq.alloc (.cells #[.int .u16 (x : Int), .int .u16 0] 58)) := balloc (Below.refl _ _) _
              have hsv : Sv (fun j => (Value.slice (some ⟨gA, 0, none⟩) k co).ownBlock = some j) (wq.alloc (.cells #[.int .u16 (x : Int), .int .u16 0] 58)) w10 := (Sv.refl _ _).grown HG10.out (fun g e => .inl e)
              have hlo : ∀ j, (Value.slice (some ⟨gA, 0, none⟩) k co).ownBlock = some j → w.heap.size ≤ j := fun j e => (HO.out.lt j e).1
              refine ⟨i + 1, k + 1, A10, c10, rfl, by omega, rfl, rfl, ?_, by omega, ?_, ?_⟩
              · rw [HTK.out, nackS_snoc, HST.out, List.length_append, ← HK.out]; rfl
              · rw [HTK.out, nackS_snoc, HST.out, rowP_snoc]; exact HO10.out
              · exact (HB.out.trans (hbw.mono HB.out.size)).trans (hsv.toBelow hlo HBS.out)
          · have hd1 : ¬ (1 : Int) ≤ (d : Int) := by omega
            clear hnear hd0
            have HRE : Hid (Reads (wq.alloc (.cells #[.int .u16 (x : Int), .int .u16 0] 58)) (World.heap (wq.alloc (.cells #[.int .u16 (x : Int), .int .u16 0] 58))).size 2 (some ⟨wq.heap.size, 0, none⟩) 1 [nV x, nV 0]) := reads_blk (n := 1) (size := 2) (Blk.newAt (w := wq) rfl 58 #[.int .u16 (x : Int), .int .u16 0]) rfl
            have HBS : Hid (w.heap.size ≤ (World.heap (wq.alloc (.cells #[.int .u16 (x : Int), .int .u16 0] 58))).size) := Nat.le_trans HB.out.size (by simp)
            have HON := Lib.hid (HO.out.alloc (.cells #[.int .u16 (x : Int), .int .u16 0] 58))
            go_wp2_with
             (at_builtin
              refine wpList_append_any _ rfl (.tmp 47) (.tmp 53) _ rfl w.heap.size 58 iP _ 2 4 Try.underlying36 hiP hzaP hzbP hzcP rfl (by omega) (.slice (some ⟨gA, 0, none⟩) k co) k (rowP (nackS (xs.take i))) rfl HON.out
                _ (some ⟨wq.heap.size, 0, none⟩) 1 1 [nV x, nV 0] rfl HRE.out (by simp [nV, Value.oneCell']) (by simp only [maxLen]; omega) (by omega) HBS.out ?_
              intro v10 w10 hown hg10 hv10
              obtain ⟨A10, c10, rfl⟩ := own_slice hown
              have HO10 := Lib.hid hown
              have HG10 := Lib.hid hg10
              clear hown hg10 hv10)
            go_roundg (n - (i + 1))
            case measure => have := HLT.out; have := HG.out; omega
            case rel =>
              have hlt := HLT.out
              have hbw : Below wq.heap.size wq (wq.alloc (.cells #[.int .u16 (x : Int), .int .u16 0] 58)) := balloc (Below.refl _ _) _
              have hsv : Sv (fun j => (Value.slice (some ⟨gA, 0, none⟩) k co).ownBlock = some j) (wq.alloc (.cells #[.int .u16 (x : Int), .int .u16 0] 58)) w10 := (Sv.refl _ _).grown HG10.out (fun g e => .inl e)
              have hlo : ∀ j, (Value.slice (some ⟨gA, 0, none⟩) k co).ownBlock = some j → w.heap.size ≤ j := fun j e => (HO.out.lt j e).1
              refine ⟨i + 1, k + 1, A10, c10, rfl, by omega, rfl, rfl, ?_, by omega, ?_, ?_⟩
              · rw [HTK.out, nackS_snoc, HST.out, List.length_append, ← HK.out]; rfl
              · rw [HTK.out, nackS_snoc, HST.out, rowP_snoc]; exact HO10.out
              · exact (HB.out.trans (hbw.mono HB.out.size)).trans (hsv.toBelow hlo HBS.out)
    · have hini : ¬ (i : Int) < (n : Int) := by omega
      have hie : i = n := by omega
      subst hie
      have HT : Hid (xs.take i = xs) := List.take_of_length_le (by rw [HLEN.out]; exact Nat.le_refl _)
      clear hin hi
      go_wp2_with fail
      go_ret
      have hk := HK.out
      have ho := HO.out
      rw [HT.out] at hk ho
      exact ⟨_, rfl, hk ▸ ho, HB.out⟩
end Go.Proofs.Ytkfimncbfbbopaa
