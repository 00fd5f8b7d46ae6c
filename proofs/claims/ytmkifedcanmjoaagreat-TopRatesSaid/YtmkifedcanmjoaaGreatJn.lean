/- Texts of this claim, one behind the other: Slots, SlotG, SlotT, SlotK, SlotF, I64, SlotM. Each says ahead of itself what it proves, and its conditions. -/
import Derived.Test.YtmkifedcanmjoaaGreatJm
import Derived.Test.YtmkifedcanmjoaaGreatJb
import Derived.Test.YtmkifedcanmjoaaGreatJa
import Derived.Laws.BitsAllLaws
/- slots.find, slots.Good (contracts). Conditions: none. -/
set_option linter.unusedVariables false
set_option linter.unusedSimpArgs false
namespace Go.Proofs.YtmkifedcanmjoaaGreat
open Go.RowKit
attribute [local go_sem ↓] Go.wp_at_zero Go.wp_at_succ

/-- A table's cells. -/
def tbL (t : Tb) : List Value := t.used.map Value.bool ++ t.addr.map (Value.int .i64)
def WT (t : Tb) : Prop := t.used.length = 8 ∧ t.addr.length = 8
theorem tbL_len {t : Tb} (h : WT t) : (tbL t).length = 16 := by obtain ⟨h1, h2⟩ := h; simp [tbL, h1, h2]
theorem tbL_used {t : Tb} (h : WT t) {i : Nat} (hi : i < 8) : (tbL t)[i]? = some (.bool (usedAt t i)) := by
  obtain ⟨h1, h2⟩ := h
  have hl : i < t.used.length := by omega
  unfold tbL usedAt
  rw [List.getElem?_append_left (by rw [List.length_map]; exact hl), List.getElem?_map, List.getD_eq_getElem?_getD, List.getElem?_eq_getElem hl]
  rfl
theorem tbL_addr {t : Tb} (h : WT t) {i : Nat} (hi : i < 8) : (tbL t)[8 + i]? = some (.int .i64 (addrAt t i)) := by
  obtain ⟨h1, h2⟩ := h
  have hl : i < t.addr.length := by omega
  unfold tbL addrAt
  rw [List.getElem?_append_right (by rw [List.length_map, h1]; omega), List.length_map, h1, show 8 + i - 8 = i by omega, List.getElem?_map, List.getD_eq_getElem?_getD, List.getElem?_eq_getElem hl]
  rfl
theorem index_ints (w : World) (L : List Int) (k : Nat) (hk : k < 8) (hn : L.length = 8) : (Instr.index 51 (.agg (L.map (Value.int .i64)).toArray) (.int .i64 (k : Int))).run Tryz.prog w = .ok (.int .i64 (L.getD k 0)) w := by
  have h0 : (0 ≤ (k : Int) ∧ (k : Int) < 8) := by omega
  obtain ⟨x, hx⟩ : ∃ x, x = L.getD k 0 := ⟨_, rfl⟩
  rw [← hx]
  have hl : L[k]? = some x := by rw [hx, List.getD_eq_getElem?_getD, List.getElem?_eq_getElem (by omega)]; rfl
  clear hx
  simp [Instr.index, run_underlying Tryz.underlying51, asIntOf, hk, go_sem, hl]
theorem index_bools (w : World) (L : List Bool) (k : Nat) (hk : k < 8) (hn : L.length = 8) : (Instr.index 50 (.agg (L.map Value.bool).toArray) (.int .i64 (k : Int))).run Tryz.prog w = .ok (.bool (L.getD k false)) w := by
  have h0 : (0 ≤ (k : Int) ∧ (k : Int) < 8) := by omega
  obtain ⟨x, hx⟩ : ∃ x, x = L.getD k false := ⟨_, rfl⟩
  rw [← hx]
  have hl : L[k]? = some x := by rw [hx, List.getD_eq_getElem?_getD, List.getElem?_eq_getElem (by omega)]; rfl
  clear hx
  simp [Instr.index, run_underlying Tryz.underlying50, asIntOf, hk, go_sem, hl]
theorem infoI8 : (Tryz.prog.info? 51).map (·.size) = some 8 := by kernel_rfl
theorem infoB8 : (Tryz.prog.info? 50).map (·.size) = some 8 := by kernel_rfl
theorem infoTb : (Tryz.prog.info? 53).map (·.size) = some 16 := by kernel_rfl
theorem findFrom_step (t : Tb) (a : Int) (f i : Nat) : findFrom t a (f + 1) i = if usedAt t i && (a == addrAt t i) then some i else findFrom t a f (i + 1) := rfl
set_option maxRecDepth 100000 in
set_option maxHeartbeats 6400000 in
theorem find_c (t : Tb) (a : Int) (w : World) (ht : WT t) :
    Calls Tryz.prog 66 #[.agg (tbL t).toArray, .int .i64 a] w fun e w' => e = .returned (.tuple #[.int .i64 (findN t a), .bool (findT t a).isSome]) ∧ Below w.heap.size w w' := by
  obtain ⟨T, hT⟩ : ∃ T, T = tbL t := ⟨_, rfl⟩
  obtain ⟨g1, hg1⟩ : ∃ g1, g1 = w.heap.size := ⟨_, rfl⟩
  obtain ⟨w1, hw1⟩ : ∃ w1, w1 = w.alloc (.cells T.toArray 53) := ⟨_, rfl⟩
  have HX1 : Hid (Blk w1 g1 53 T.toArray) := by show Blk _ _ _ _; rw [hw1]; exact Blk.newAt hg1 _ _
  have HB1 : Hid (Below w.heap.size w w1) := by show Below _ _ _; rw [hw1]; exact balloc (Below.refl _ _) _
  have HWT := Lib.hid ht
  have HTE := Lib.hid hT
  have HRG : Hid (w1.rangeAt g1 8 (t.addr.map (Value.int .i64))) := blk_mid HX1.out 8 _ (fun j v hv => by
    rw [HTE.out]
    unfold tbL
    rw [List.getElem?_append_right (by rw [List.length_map, HWT.out.1]; omega), List.length_map, HWT.out.1, show 8 + j - 8 = j by omega]
    exact hv)
  have HI : Hid ((Tryz.prog.info? 51).map (·.size) = some (t.addr.map (Value.int .i64)).length) := by show _ = _; rw [List.length_map, HWT.out.2]; exact infoI8
  rw [← hT]
  clear hT ht
  go_enter Tryz.func66, Tryz.ntmps66
  go_upto_region 1 with fail
  rw [← hw1, ← hg1]
  clear hw1 hg1
  go_upto_region 2 with (first
    | ((with_reducible show wpList _ _ _ (⟨some 9, .load _ (.tmp 8), _, _, _, _⟩ :: _) _ _); refine wpList_load_mid rfl 51 (.tmp 8) rfl g1 8 rfl (t.addr.map (Value.int .i64)) _ HRG.out Tryz.underlying51 rfl HI.out ?_))
  obtain ⟨D, hD⟩ : ∃ D, D = (t.addr.map (Value.int .i64)).toArray := ⟨_, rfl⟩
  have HDE := Lib.hid hD
  rw [← hD]
  clear hD
  go_loopg [10] 8 (fun gg v wx => ∃ i : Nat, gg = 8 - i ∧ i ≤ 8 ∧ v = .int .i64 (i : Int) ∧ findFrom t a (8 - i) i = findT t a ∧ wx = w1)
  case atStart => exact ⟨0, rfl, by omega, rfl, rfl, rfl⟩
  case round =>
    obtain ⟨i, hgg, hi, rfl, hf, rfl⟩ := hrel
    have HF := Lib.hid hf
    have HGG := Lib.hid hgg
    clear hf hgg
    by_cases hin : i < 8
    · have hini : (i : Int) < 8 := by omega
      have hin0 : (0 : Int) ≤ (i : Int) := by omega
      have hw1 : IntKind.i64.wrap ((i : Int) + 1) = ((i + 1 : Nat) : Int) := by rw [IntKind.wrap_i64]; omega
      obtain ⟨x, hx⟩ : ∃ x, x = addrAt t i := ⟨_, rfl⟩
      obtain ⟨u, hu⟩ : ∃ u, u = usedAt t i := ⟨_, rfl⟩
      have hidx : ∀ wx, (Instr.index 51 (.agg D) (.int .i64 (i : Int))).run Tryz.prog wx = .ok (.int .i64 x) wx := fun wx => by
        rw [HDE.out, hx]
        exact index_ints wx t.addr i hin HWT.out.2
      have ck : wr.cell? ⟨g1, i, none⟩ = some (.bool u) := by
        rw [HX1.out.cell i, List.getElem?_toArray, HTE.out, hu]
        exact tbL_used HWT.out hin
      have HS : Hid (findT t a = if u && (a == x) then some i else findFrom t a (8 - (i + 1)) (i + 1)) := by
        show _ = _
        rw [← HF.out, show 8 - i = (8 - (i + 1)) + 1 by omega, findFrom_step, hx, hu]
      have HLT := Lib.hid hin
      clear hx hu hin hi
      by_cases hua : (u && (a == x)) = true
      · have hu1 : u = true := by rw [Bool.and_eq_true] at hua; exact hua.1
        have hax : a = x := by rw [Bool.and_eq_true] at hua; simpa using hua.2
        subst hu1 hax
        have q1 : (a == a) = true := by simp
        clear hua
        go_wp2_with fail
        go_ret2
        have hs : findT t a = some i := by have := HS.out; rw [if_pos (by simp)] at this; exact this
        refine ⟨?_, HB1.out⟩
        unfold findN
        rw [hs]
        rfl
      · have HU : Hid ((u && (a == x)) = false) := by show _ = _; exact Bool.eq_false_iff.2 hua
        have HS2 : Hid (findFrom t a (8 - (i + 1)) (i + 1) = findT t a) := by show _ = _; have := HS.out; rw [HU.out] at this; rw [this]; rfl
        have hq : u = false ∨ (u = true ∧ (a == x) = false) := by have := HU.out; cases u <;> simp_all
        clear hua HS
        rcases hq with hq | ⟨hq, hq2⟩
        all_goals
          subst hq
          go_wp2_with fail
          go_roundg (8 - (i + 1))
          case measure => have := HLT.out; have := HGG.out; omega
          case rel => have hlt := HLT.out; exact ⟨i + 1, rfl, by omega, by first | rfl | go_num, HS2.out, rfl⟩
    · have hini : ¬ (i : Int) < 8 := by omega
      have hie : i = 8 := by omega
      subst hie
      clear hin hi
      have hs : Hid (findT t a = none) := by have := HF.out; rw [show 8 - 8 = 0 from rfl] at this; exact this.symm
      go_wp2_with fail
      go_ret2
      refine ⟨?_, HB1.out⟩
      unfold findN
      rw [hs.out]
      rfl
end Go.Proofs.YtmkifedcanmjoaaGreat
/- slots.addr, slots.Good (contracts). Conditions: none. -/
set_option linter.unusedVariables false
set_option linter.unusedSimpArgs false
namespace Go.Proofs.YtmkifedcanmjoaaGreat
open Go.RowKit
attribute [local go_sem ↓] Go.wp_at_zero Go.wp_at_succ

set_option maxRecDepth 100000 in
set_option maxHeartbeats 3200000 in
theorem addr_c (a : Int) (w : World) :
    Calls Tryz.prog 65 #[.int .i64 a] w fun e w' => e = .returned (.bool (adrB a)) ∧ Below w.heap.size w w' := by
  go_enter Tryz.func65, Tryz.ntmps65
  by_cases h1 : 0 ≤ a
  · by_cases h2 : a ≤ 63
    · go_wp2_with fail
      go_ret
      refine ⟨?_, Below.refl _ _⟩
      unfold adrB
      rw [decide_eq_true h1, decide_eq_true h2]
      rfl
    · go_wp2_with fail
      go_ret
      refine ⟨?_, Below.refl _ _⟩
      unfold adrB
      rw [decide_eq_true h1, decide_eq_false (by omega)]
      rfl
  · go_wp2_with fail
    go_ret
    refine ⟨?_, Below.refl _ _⟩
    unfold adrB
    rw [decide_eq_false (by omega)]
    rfl

theorem goodFrom_step (t : Tb) (f i : Nat) : goodFrom t (f + 1) i = (okAt t i && goodFrom t f (i + 1)) := rfl
set_option maxRecDepth 100000 in
set_option maxHeartbeats 6400000 in
theorem good_c (t : Tb) (w : World) (ht : WT t) :
    Calls Tryz.prog 63 #[.agg (tbL t).toArray] w fun e w' => e = .returned (.bool (goodT t)) ∧ Below w.heap.size w w' := by
  obtain ⟨T, hT⟩ : ∃ T, T = tbL t := ⟨_, rfl⟩
  obtain ⟨g1, hg1⟩ : ∃ g1, g1 = w.heap.size := ⟨_, rfl⟩
  obtain ⟨w1, hw1⟩ : ∃ w1, w1 = w.alloc (.cells T.toArray 53) := ⟨_, rfl⟩
  have HX1 : Hid (Blk w1 g1 53 T.toArray) := by show Blk _ _ _ _; rw [hw1]; exact Blk.newAt hg1 _ _
  have HB1 : Hid (Below w.heap.size w w1) := by show Below _ _ _; rw [hw1]; exact balloc (Below.refl _ _) _
  have HG : Hid (w.heap.size = g1) := by show _ = _; exact hg1.symm
  have HWT := Lib.hid ht
  have HTE := Lib.hid hT
  have HTL : Hid (T.length = 16) := by show _ = _; rw [hT]; exact tbL_len ht
  have HI : Hid ((Tryz.prog.info? 51).map (·.size) = some (t.addr.map (Value.int .i64)).length) := by show _ = _; rw [List.length_map, HWT.out.2]; exact infoI8
  have HIT : Hid ((Tryz.prog.info? 53).map (·.size) = some T.length) := by show _ = _; rw [HTL.out]; exact infoTb
  have FND : ∀ (a : Int) (wx : World), Calls Tryz.prog 66 #[.agg T.toArray, .int .i64 a] wx fun e w' => e = .returned (.tuple #[.int .i64 (findN t a), .bool (findT t a).isSome]) ∧ Below wx.heap.size wx w' := fun a wx => by rw [HTE.out]; exact find_c t a wx HWT.out
  have FNDH := Lib.hid FND
  clear FND
  rw [← hT]
  clear hT ht
  go_enter Tryz.func63, Tryz.ntmps63
  go_upto_region 1 with fail
  rw [← hw1, ← hg1]
  clear hw1 hg1
  have HRG : Hid (w1.rangeAt g1 8 (t.addr.map (Value.int .i64))) := blk_mid HX1.out 8 _ (fun j v hv => by
    rw [HTE.out]
    unfold tbL
    rw [List.getElem?_append_right (by rw [List.length_map, HWT.out.1]; omega), List.length_map, HWT.out.1, show 8 + j - 8 = j by omega]
    exact hv)
  go_upto_region 2 with (first
    | ((with_reducible show wpList _ _ _ (⟨some 8, .load _ (.tmp 7), _, _, _, _⟩ :: _) _ _); refine wpList_load_mid rfl 51 (.tmp 7) rfl g1 8 rfl (t.addr.map (Value.int .i64)) _ HRG.out Tryz.underlying51 rfl HI.out ?_))
  clear HRG
  obtain ⟨D, hD⟩ : ∃ D, D = (t.addr.map (Value.int .i64)).toArray := ⟨_, rfl⟩
  have HDE := Lib.hid hD
  rw [← hD]
  clear hD
  go_loopg [9] 8 (fun gg v wx => ∃ i : Nat, gg = 8 - i ∧ i ≤ 8 ∧ v = .int .i64 (i : Int) ∧ goodFrom t (8 - i) i = goodT t ∧ Below w.heap.size w wx ∧ Blk wx g1 53 T.toArray)
  case atStart => exact ⟨0, rfl, by omega, rfl, rfl, HB1.out, HX1.out⟩
  case round =>
    obtain ⟨i, hgg, hi, rfl, hf, hbl, hbk⟩ := hrel
    have HF := Lib.hid hf
    have HGG := Lib.hid hgg
    have HBL := Lib.hid hbl
    have HBK := Lib.hid hbk
    clear hf hgg hbl hbk
    by_cases hin : i < 8
    · have hini : (i : Int) < 8 := by omega
      have hin0 : (0 : Int) ≤ (i : Int) := by omega
      have hw1 : IntKind.i64.wrap ((i : Int) + 1) = ((i + 1 : Nat) : Int) := by rw [IntKind.wrap_i64]; omega
      obtain ⟨x, hx⟩ : ∃ x, x = addrAt t i := ⟨_, rfl⟩
      obtain ⟨u, hu⟩ : ∃ u, u = usedAt t i := ⟨_, rfl⟩
      have hidx : ∀ wx, (Instr.index 51 (.agg D) (.int .i64 (i : Int))).run Tryz.prog wx = .ok (.int .i64 x) wx := fun wx => by
        rw [HDE.out, hx]
        exact index_ints wx t.addr i hin HWT.out.2
      have ck : wr.cell? ⟨g1, i, none⟩ = some (.bool u) := by
        rw [HBK.out.cell i, List.getElem?_toArray, HTE.out, hu]
        exact tbL_used HWT.out hin
      have HS : Hid (goodT t = (okAt t i && goodFrom t (8 - (i + 1)) (i + 1))) := by
        show _ = _
        rw [← HF.out, show 8 - i = (8 - (i + 1)) + 1 by omega, goodFrom_step]
      have HOK : Hid (okAt t i = if u then (findN t x == (i : Int)) && adrB x else x == 0) := by
        show _ = _
        unfold okAt
        rw [← hx, ← hu]
      have HLT := Lib.hid hin
      clear hx hu hin hi
      cases u
      · by_cases hx0 : x = 0
        · subst hx0
          have HS2 : Hid (goodFrom t (8 - (i + 1)) (i + 1) = goodT t) := by show _ = _; rw [HS.out, HOK.out]; rfl
          clear HS HOK
          go_wp2_with fail
          go_roundg (8 - (i + 1))
          case measure => have := HLT.out; have := HGG.out; omega
          case rel => have hlt := HLT.out; exact ⟨i + 1, rfl, by omega, by first | rfl | go_num, HS2.out, HBL.out, HBK.out⟩
        · have hxb : (x == 0) = false := by simpa using hx0
          have HS2 : Hid (goodT t = false) := by show _ = _; rw [HS.out, HOK.out, if_neg (by decide), hxb]; rfl
          clear HS HOK
          go_wp2_with fail
          go_ret
          refine ⟨?_, ?_⟩
          · rw [HS2.out]; rfl
          · exact HBL.out
      · have HRW : Hid (wr.rangeAt g1 0 T) := blk_mid HBK.out 0 _ (fun j v hv => by rw [Nat.zero_add]; exact hv)
        go_wp2_with (first
          | ((with_reducible show wpList _ _ _ (⟨some 21, .load _ (.tmp 1), _, _, _, _⟩ :: _) _ _); refine wpList_load_mid rfl 53 (.tmp 1) rfl g1 0 rfl T _ HRW.out Tryz.underlying53 rfl HIT.out ?_))
        refine (FNDH.out x wr).mono ?_
        rintro e0 w2 ⟨rfl, hb2⟩
        have HBL2 : Hid (Below w.heap.size w w2) := by show Below _ _ _; exact bcall HBL.out hb2
        have HBK2 : Hid (Blk w2 g1 53 T.toArray) := by show Blk _ _ _ _; exact HBK.out.below hb2
        clear hb2 HBL HBK HRW
        obtain ⟨n, hn⟩ : ∃ n, n = findN t x := ⟨_, rfl⟩
        rw [← hn] at HOK ⊢
        clear hn
        by_cases hne : n = (i : Int)
        · subst hne
          have hq1 : ((i : Int) != (i : Int)) = false := by simp
          go_wp2_with fail
          refine (addr_c x w2).mono ?_
          rintro e0 w3 ⟨rfl, hb3⟩
          have HBL3 : Hid (Below w.heap.size w w3) := by show Below _ _ _; exact bcall HBL2.out hb3
          have HBK3 : Hid (Blk w3 g1 53 T.toArray) := by show Blk _ _ _ _; exact HBK2.out.below hb3
          clear hb3 HBL2 HBK2
          by_cases hab : adrB x = true
          · rw [hab] at HOK ⊢
            have HS2 : Hid (goodFrom t (8 - (i + 1)) (i + 1) = goodT t) := by show _ = _; rw [HS.out, HOK.out]; simp
            clear HS HOK
            go_wp2_with fail
            go_roundg (8 - (i + 1))
            case measure => have := HLT.out; have := HGG.out; omega
            case rel => have hlt := HLT.out; exact ⟨i + 1, rfl, by omega, by first | rfl | go_num, HS2.out, HBL3.out, HBK3.out⟩
          · have hab2 : adrB x = false := Bool.eq_false_iff.2 hab
            rw [hab2] at HOK ⊢
            have HS2 : Hid (goodT t = false) := by show _ = _; rw [HS.out, HOK.out]; simp
            clear HS HOK hab
            go_wp2_with fail
            go_ret
            refine ⟨?_, ?_⟩
            · rw [HS2.out]; rfl
            · exact HBL3.out
        · have hneb : (n == (i : Int)) = false := by simpa using hne
          have hneb' : (n != (i : Int)) = true := by simpa using hne
          have HS2 : Hid (goodT t = false) := by show _ = _; rw [HS.out, HOK.out, hneb]; rfl
          clear HS HOK
          go_wp2_with fail
          go_ret
          refine ⟨?_, ?_⟩
          · rw [HS2.out]; rfl
          · exact HBL2.out
    · have hini : ¬ (i : Int) < 8 := by omega
      have hie : i = 8 := by omega
      subst hie
      clear hin hi
      have hs : Hid (goodT t = true) := by have := HF.out; rw [show 8 - 8 = 0 from rfl] at this; exact this.symm
      go_wp2_with fail
      go_ret
      refine ⟨?_, ?_⟩
      · rw [hs.out]; rfl
      · exact HBL.out
end Go.Proofs.YtmkifedcanmjoaaGreat
/- slots.slot, slices.Index of bools, slots.Find, slots.Mask (contracts). Conditions: none. -/
set_option linter.unusedVariables false
set_option linter.unusedSimpArgs false
namespace Go.Proofs.YtmkifedcanmjoaaGreat
open Go.RowKit
attribute [local go_sem ↓] Go.wp_at_zero Go.wp_at_succ

set_option maxRecDepth 100000 in
set_option maxHeartbeats 3200000 in
theorem slot_c (a : Int) (w : World) :
    Calls Tryz.prog 116 #[.int .i64 a] w fun e w' => e = .returned (.bool (sltB a)) ∧ Below w.heap.size w w' := by
  go_enter Tryz.func116, Tryz.ntmps116
  by_cases h1 : 0 ≤ a
  · by_cases h2 : a < 8
    · go_wp2_with fail
      go_ret
      refine ⟨?_, Below.refl _ _⟩
      unfold sltB
      rw [decide_eq_true h1, decide_eq_true h2]
      rfl
    · go_wp2_with fail
      go_ret
      refine ⟨?_, Below.refl _ _⟩
      unfold sltB
      rw [decide_eq_true h1, decide_eq_false (by omega)]
      rfl
  · go_wp2_with fail
    go_ret
    refine ⟨?_, Below.refl _ _⟩
    unfold sltB
    rw [decide_eq_false (by omega)]
    rfl

theorem idxFrom_step (l : List Bool) (b : Bool) (f i : Nat) : idxFrom l b (f + 1) i = if l.getD i false == b then some i else idxFrom l b f (i + 1) := rfl
def idxN (o : Option Nat) : Int := match o with | some i => (i : Int) | none => -1
set_option maxRecDepth 100000 in
set_option maxHeartbeats 6400000 in
theorem idx_c (l : List Bool) (b : Bool) (g : Nat) (w : World) (hc : ∀ i, i < 8 → w.cell? ⟨g, i, none⟩ = some (.bool (l.getD i false))) :
    Calls Tryz.prog 67 #[.slice (some ⟨g, 0, none⟩) 8 8, .bool b] w fun e w' => e = .returned (.int .i64 (idxN (idxT l b))) ∧ w' = w := by
  have HC := Lib.hid hc
  clear hc
  go_enter Tryz.func67, Tryz.ntmps67
  go_upto_region 2 with fail
  go_loopg [8] 8 (fun gg v wx => ∃ i : Nat, gg = 8 - i ∧ i ≤ 8 ∧ v = .int .i64 (i : Int) ∧ idxFrom l b (8 - i) i = idxT l b ∧ wx = w)
  case atStart => exact ⟨0, rfl, by omega, rfl, rfl, rfl⟩
  case round =>
    obtain ⟨i, hgg, hi, rfl, hf, rfl⟩ := hrel
    have HF := Lib.hid hf
    have HGG := Lib.hid hgg
    clear hf hgg
    by_cases hin : i < 8
    · have hini : (i : Int) < 8 := by omega
      have hin0 : (0 : Int) ≤ (i : Int) := by omega
      have hw1 : IntKind.i64.wrap ((i : Int) + 1) = ((i + 1 : Nat) : Int) := by rw [IntKind.wrap_i64]; omega
      obtain ⟨x, hx⟩ : ∃ x, x = l.getD i false := ⟨_, rfl⟩
      have ck : wr.cell? ⟨g, i, none⟩ = some (.bool x) := by rw [hx]; exact HC.out i hin
      have HS : Hid (idxT l b = if x == b then some i else idxFrom l b (8 - (i + 1)) (i + 1)) := by
        show _ = _
        rw [← HF.out, show 8 - i = (8 - (i + 1)) + 1 by omega, idxFrom_step, hx]
      have HLT := Lib.hid hin
      clear hx hin hi
      by_cases hxb : b = x
      · subst hxb
        have HS2 : Hid (idxT l b = some i) := by show _ = _; rw [HS.out]; simp
        clear HS
        have q1 : (b == b) = true := by simp
        go_wp2_with fail
        go_ret
        refine ⟨?_, rfl⟩
        rw [HS2.out]
        rfl
      · have q1 : (b == x) = false := by simpa using hxb
        have q2 : (x == b) = false := by simpa using fun h => hxb h.symm
        have HS2 : Hid (idxFrom l b (8 - (i + 1)) (i + 1) = idxT l b) := by show _ = _; rw [HS.out, q2]; rfl
        clear HS q2
        go_wp2_with fail
        go_roundg (8 - (i + 1))
        case measure => have := HLT.out; have := HGG.out; omega
        case rel => have hlt := HLT.out; exact ⟨i + 1, rfl, by omega, by first | rfl | go_num, HS2.out, rfl⟩
    · have hini : ¬ (i : Int) < 8 := by omega
      have hie : i = 8 := by omega
      subst hie
      clear hin hi
      have hs : Hid (idxT l b = none) := by have := HF.out; rw [show 8 - 8 = 0 from rfl] at this; exact this.symm
      go_wp2_with fail
      go_ret
      refine ⟨?_, rfl⟩
      rw [hs.out]
      rfl
end Go.Proofs.YtmkifedcanmjoaaGreat
/- slots.Take (contract). Conditions: none. -/
set_option linter.unusedVariables false
set_option linter.unusedSimpArgs false
namespace Go.Proofs.YtmkifedcanmjoaaGreat
open Go.RowKit
attribute [local go_sem ↓] Go.wp_at_zero Go.wp_at_succ

theorem tbL_one (t : Tb) : (tbL t).toArray.all (·.oneCell') = true := all_oneCell_toArray fun v hv => by
  unfold tbL at hv
  rw [List.mem_append, List.mem_map, List.mem_map] at hv
  rcases hv with ⟨b, _, rfl⟩ | ⟨b, _, rfl⟩ <;> rfl
theorem tbL_set {t : Tb} (h : WT t) {i : Nat} (hi : i < 8) (u : Bool) (a : Int) : ((tbL t).set i (.bool u)).set (8 + i) (.int .i64 a) = tbL (putT t i u a) := by
  obtain ⟨h1, h2⟩ := h
  unfold tbL putT
  rw [List.set_append_left _ _ (by rw [List.length_map]; omega), List.set_append_right _ _ (by rw [List.length_set, List.length_map]; omega)]
  rw [List.length_set, List.length_map, h1, show 8 + i - 8 = i by omega, List.map_set, List.map_set]
theorem WT.put {t : Tb} (h : WT t) (i : Nat) (u : Bool) (a : Int) : WT (putT t i u a) := ⟨by unfold putT; rw [List.length_set]; exact h.1, by unfold putT; rw [List.length_set]; exact h.2⟩
theorem idxFrom_lt (l : List Bool) (b : Bool) : ∀ (f i j : Nat), idxFrom l b f i = some j → j < i + f
  | 0, i, j, h => by cases h
  | f + 1, i, j, h => by
    rw [idxFrom_step] at h
    split at h
    · cases h; omega
    · have := idxFrom_lt l b f (i + 1) j h; omega
theorem idxT_lt {l : List Bool} {b : Bool} {j : Nat} (h : idxT l b = some j) : j < 8 := by have := idxFrom_lt l b 8 0 j h; omega
theorem WT.take {t : Tb} (h : WT t) (a : Int) : WT (takeT t a).1 := by
  unfold takeT
  split
  · exact h
  · split
    · exact h
    · cases idxT t.used false
      · exact h
      · exact h.put _ _ _
/-- The block that the result lies in. -/
def zT : List Value := tbL tb0
set_option maxRecDepth 100000 in
set_option maxHeartbeats 6400000 in
theorem take_c (t : Tb) (a : Int) (w : World) (ht : WT t) :
    Calls Tryz.prog 34 #[.agg (tbL t).toArray, .int .i64 a] w fun e w' => e = .returned (.tuple #[.agg (tbL (takeT t a).1).toArray, .int .i64 (takeT t a).2.1, .int .i64 (takeT t a).2.2]) ∧ Below w.heap.size w w' := by
  obtain ⟨T, hT⟩ : ∃ T, T = tbL t := ⟨_, rfl⟩
  obtain ⟨g1, hg1⟩ : ∃ g1, g1 = w.heap.size := ⟨_, rfl⟩
  obtain ⟨g2, hg2⟩ : ∃ g2, g2 = w.heap.size + 1 := ⟨_, rfl⟩
  obtain ⟨Z, hZ⟩ : ∃ Z, Z = tbL tb0 := ⟨_, rfl⟩
  obtain ⟨w2, hw2⟩ : ∃ w2, w2 = (w.alloc (.cells T.toArray 53)).alloc (.cells #[.bool false, .bool false, .bool false, .bool false, .bool false, .bool false, .bool false, .bool false, .int .i64 0, .int .i64 0, .int .i64 0, .int .i64 0, .int .i64 0, .int .i64 0, .int .i64 0, .int .i64 0] 53) := ⟨_, rfl⟩
  have hq := two_blks w 53 53 T.toArray #[.bool false, .bool false, .bool false, .bool false, .bool false, .bool false, .bool false, .bool false, .int .i64 0, .int .i64 0, .int .i64 0, .int .i64 0, .int .i64 0, .int .i64 0, .int .i64 0, .int .i64 0]
  rw [← hw2, ← hg2] at hq
  have HX1 : Hid (Blk w2 g1 53 T.toArray) := by show Blk _ _ _ _; rw [hg1]; exact hq.1
  have HX2 : Hid (Blk w2 g2 53 Z.toArray) := by show Blk _ _ _ _; rw [hZ]; exact hq.2.1
  have HB : Hid (Below w.heap.size w w2) := hq.2.2
  clear hq
  have HL1 : Hid (w.heap.size ≤ g1) := by show _ ≤ _; omega
  have HL2 : Hid (w.heap.size ≤ g2) := by show _ ≤ _; omega
  have HNE : Hid (g1 ≠ g2) := by show _ ≠ _; omega
  have HNE' : Hid (g2 ≠ g1) := by show _ ≠ _; omega
  have HWT := Lib.hid ht
  have HTE := Lib.hid hT
  have HTL : Hid (T.length = 16) := by show _ = _; rw [hT]; exact tbL_len ht
  have HZL : Hid (Z.length = 16) := by show _ = _; rw [hZ]; rfl
  have HTO : Hid (T.toArray.all (·.oneCell') = true) := by show _ = _; rw [hT]; exact tbL_one t
  have HIT : Hid ((Tryz.prog.info? 53).map (·.size) = some T.length) := by show _ = _; rw [HTL.out]; exact infoTb
  have HITs : Hid ((Tryz.prog.info? 53).map (·.size) = some T.toArray.size) := HIT.out
  have GUD : Hid (∀ (wx : World), Calls Tryz.prog 63 #[.agg T.toArray] wx fun e w' => e = .returned (.bool (goodT t)) ∧ Below wx.heap.size wx w') := fun wx => by rw [HTE.out]; exact good_c t wx HWT.out
  have FND : Hid (∀ (a : Int) (wx : World), Calls Tryz.prog 66 #[.agg T.toArray, .int .i64 a] wx fun e w' => e = .returned (.tuple #[.int .i64 (findN t a), .bool (findT t a).isSome]) ∧ Below wx.heap.size wx w') := fun a wx => by rw [HTE.out]; exact find_c t a wx HWT.out
  obtain ⟨tt, htt⟩ : ∃ tt, tt = takeT t a := ⟨_, rfl⟩
  have HTT := Lib.hid htt
  rw [← hT, ← htt]
  clear hT ht htt hZ
  go_enter Tryz.func34, Tryz.ntmps34
  go_upto_region 1 with fail
  rw [← hw2, ← hg2, ← hg1]
  clear hw2 hg1 hg2
  have HRW1 : Hid (w2.rangeAt g1 0 T) := blk_range HX1.out
  go_wp2_with (first
    | ((with_reducible show wpList _ _ _ (⟨some 10, .load _ (.tmp 2), _, _, _, _⟩ :: _) _ _); refine wpList_load_mid rfl 53 (.tmp 2) rfl g1 0 rfl T _ HRW1.out Tryz.underlying53 rfl HIT.out ?_))
  refine (GUD.out w2).mono ?_
  rintro e0 w3 ⟨rfl, hb3⟩
  have HB3 : Hid (Below w.heap.size w w3) := by show Below _ _ _; exact bcall HB.out hb3
  have HX31 : Hid (Blk w3 g1 53 T.toArray) := by show Blk _ _ _ _; exact HX1.out.below hb3
  have HX32 : Hid (Blk w3 g2 53 Z.toArray) := by show Blk _ _ _ _; exact HX2.out.below hb3
  clear hb3 HB HX1 HX2 HRW1
  by_cases hgd : goodT t = true
  · rw [hgd]
    go_wp2_with fail
    refine (addr_c a w3).mono ?_
    rintro e0 w4 ⟨rfl, hbq⟩
    have HB4 : Hid (Below w.heap.size w w4) := by show Below _ _ _; exact bcall HB3.out hbq
    have HX41 : Hid (Blk w4 g1 53 T.toArray) := by show Blk _ _ _ _; exact HX31.out.below hbq
    have HX42 : Hid (Blk w4 g2 53 Z.toArray) := by show Blk _ _ _ _; exact HX32.out.below hbq
    clear hbq HB3 HX31 HX32
    by_cases had : adrB a = true
    · have HTA : Hid (tt = if (findT t a).isSome then ((t, 0, 7) : Tb × Int × Int) else match idxT t.used false with | none => ((t, 0, 5) : Tb × Int × Int) | some i => (putT t i true a, (i : Int), 0)) := by show _ = _; rw [HTT.out]; unfold takeT; rw [hgd, had]; rfl
      rw [had]
      clear HTT hgd had
      have HRW4 : Hid (w4.rangeAt g1 0 T) := blk_range HX41.out
      go_wp2_with (first
        | ((with_reducible show wpList _ _ _ (⟨some 20, .load _ (.tmp 2), _, _, _, _⟩ :: _) _ _); refine wpList_load_mid rfl 53 (.tmp 2) rfl g1 0 rfl T _ HRW4.out Tryz.underlying53 rfl HIT.out ?_))
      clear HRW4
      refine (FND.out a w4).mono ?_
      rintro e0 w5 ⟨rfl, hbq⟩
      have HB5 : Hid (Below w.heap.size w w5) := by show Below _ _ _; exact bcall HB4.out hbq
      have HX51 : Hid (Blk w5 g1 53 T.toArray) := by show Blk _ _ _ _; exact HX41.out.below hbq
      have HX52 : Hid (Blk w5 g2 53 Z.toArray) := by show Blk _ _ _ _; exact HX42.out.below hbq
      clear hbq HB4 HX41 HX42
      obtain ⟨fo, hfo⟩ : ∃ fo, fo = (findT t a).isSome := ⟨_, rfl⟩
      obtain ⟨fn, hfn⟩ : ∃ fn, fn = findN t a := ⟨_, rfl⟩
      rw [← hfo] at HTA ⊢
      rw [← hfn]
      clear hfo hfn
      cases fo
      · have HC8 : Hid (∀ i, i < 8 → w5.cell? ⟨g1, i, none⟩ = some (.bool (t.used.getD i false))) := fun i hi => by
          rw [HX51.out.cell i, List.getElem?_toArray, HTE.out]
          exact tbL_used HWT.out hi
        go_wp2_with fail
        refine (idx_c t.used false g1 w5 HC8.out).mono ?_
        rintro e0 w6 ⟨rfl, rfl⟩
        clear HC8
        obtain ⟨io, hio⟩ : ∃ io, io = idxT t.used false := ⟨_, rfl⟩
        have HIO := Lib.hid hio
        rw [← hio] at HTA ⊢
        clear hio
        cases io with
        | none =>
          have HV : Hid (tt = (t, 0, 5)) := by show _ = _; rw [HTA.out]; rfl
          clear HTA
          have hm : idxN none = -1 := rfl
          rw [hm]
          clear hm
          have HRWr : Hid (w6.rangeAt g1 0 T) := blk_range HX51.out
          have HTHr : Hid (w6.there g2 0 T.toArray.size) := blk_there HX52.out 0 _ (by rw [HZL.out]; show 0 + T.length ≤ 16; rw [HTL.out]; decide)
          go_wp2_with (first
            | ((with_reducible show wpList _ _ _ (⟨some 32, .load _ (.tmp 2), _, _, _, _⟩ :: _) _ _); refine wpList_load_mid rfl 53 (.tmp 2) rfl g1 0 rfl T _ HRWr.out Tryz.underlying53 rfl HIT.out ?_)
            | ((with_reducible show wpList _ _ _ (⟨none, .store _ (.tmp 4) _, _, _, _, _⟩ :: _) _ _); refine wpList_store_mid rfl 53 (.tmp 4) (.tmp 32) rfl g2 0 T.toArray rfl rfl HTHr.out HITs.out HTO.out ?_))
          have HXr : Hid (Blk (w6.setCells g2 0 T) g2 53 T.toArray) := blk_setAll HX52.out (by rw [HTL.out, HZL.out])
          have HBr : Hid (Below w.heap.size w (w6.setCells g2 0 T)) := below_setCells HB5.out HL2.out _ _
          (try simp only [Exit.inBlock, Exit.then])
          refine bodyPost_ret (results_c3 rfl rfl (blk_range HXr.out) Tryz.underlying53 rfl HIT.out) rfl ?_
          refine ⟨?_, HBr.out⟩
          rw [HV.out, HTE.out]
          rfl
        | some i =>
          have hi8 : i < 8 := idxT_lt HIO.out.symm
          have hini : (i : Int) < 8 := by omega
          have hin0 : (0 : Int) ≤ (i : Int) := by omega
          have hin1 : ¬ (i : Int) < 0 := by omega
          have HV : Hid (tt = (putT t i true a, (i : Int), 0)) := by show _ = _; rw [HTA.out]; rfl
          clear HTA HIO
          have hm : idxN (some i) = (i : Int) := rfl
          rw [hm]
          clear hm
          have ck1 : w6.cell? ⟨g1, i, none⟩ = some (.bool (usedAt t i)) := by
            rw [HX51.out.cell i, List.getElem?_toArray, HTE.out]
            exact tbL_used HWT.out hi8
          have fk1 : w6.frozen? ⟨g1, i, none⟩ = false := Blk.frozen HX51.out i
          obtain ⟨w7, hw7⟩ : ∃ w7, w7 = w6.setCell ⟨g1, i, none⟩ (.bool true) := ⟨_, rfl⟩
          have HX71 : Hid (Blk w7 g1 53 (T.set i (.bool true)).toArray) := by
            show Blk _ _ _ _
            rw [hw7, ← List.setIfInBounds_toArray]
            exact Blk.set_ HX51.out i _
          have ck2 : w7.cell? ⟨g1, 8 + i, none⟩ = some (.int .i64 (addrAt t i)) := by
            rw [HX71.out.cell (8 + i), List.getElem?_toArray, HTE.out, List.getElem?_set_ne (by omega)]
            exact tbL_addr HWT.out hi8
          have fk2 : w7.frozen? ⟨g1, 8 + i, none⟩ = false := Blk.frozen HX71.out (8 + i)
          have HX72 : Hid (Blk w7 g2 53 Z.toArray) := by show Blk _ _ _ _; rw [hw7]; exact Blk.far HX52.out HNE'.out _
          have HB7 : Hid (Below w.heap.size w w7) := by show Below _ _ _; rw [hw7]; exact bset HB5.out HL1.out _
          obtain ⟨w8, hw8⟩ : ∃ w8, w8 = w7.setCell ⟨g1, 8 + i, none⟩ (.int .i64 a) := ⟨_, rfl⟩
          obtain ⟨U, hU⟩ : ∃ U, U = tbL (putT t i true a) := ⟨_, rfl⟩
          have HUE := Lib.hid hU
          have HUL : Hid (U.length = 16) := by show _ = _; rw [hU]; exact tbL_len (HWT.out.put _ _ _)
          have HUO : Hid (U.toArray.all (·.oneCell') = true) := by show _ = _; rw [hU]; exact tbL_one _
          have HIU : Hid ((Tryz.prog.info? 53).map (·.size) = some U.length) := by show _ = _; rw [HUL.out]; exact infoTb
          have HIUs : Hid ((Tryz.prog.info? 53).map (·.size) = some U.toArray.size) := HIU.out
          have HX81 : Hid (Blk w8 g1 53 U.toArray) := by
            show Blk _ _ _ _
            rw [hw8, hU, ← tbL_set HWT.out hi8, ← HTE.out, ← List.setIfInBounds_toArray]
            exact Blk.set_ HX71.out (8 + i) _
          have HX82 : Hid (Blk w8 g2 53 Z.toArray) := by show Blk _ _ _ _; rw [hw8]; exact Blk.far HX72.out HNE'.out _
          have HB8 : Hid (Below w.heap.size w w8) := by show Below _ _ _; rw [hw8]; exact bset HB7.out HL1.out _
          clear HX71 HX72 HB7 hU
          have HW7 := Lib.hid hw7
          clear hw7
          rw [HW7.out] at ck2 fk2 hw8
          clear HX51 HX52 HB5 hi8
          go_upto_region 10 with fail
          rw [← hw8]
          clear hw8 ck1 ck2 fk1 fk2 HW7
          have HRWr : Hid (w8.rangeAt g1 0 U) := blk_range HX81.out
          have HTHr : Hid (w8.there g2 0 U.toArray.size) := blk_there HX82.out 0 _ (by rw [HZL.out]; show 0 + U.length ≤ 16; rw [HUL.out]; decide)
          go_wp2_with (first
            | ((with_reducible show wpList _ _ _ (⟨some 40, .load _ (.tmp 2), _, _, _, _⟩ :: _) _ _); refine wpList_load_mid rfl 53 (.tmp 2) rfl g1 0 rfl U _ HRWr.out Tryz.underlying53 rfl HIU.out ?_)
            | ((with_reducible show wpList _ _ _ (⟨none, .store _ (.tmp 4) _, _, _, _, _⟩ :: _) _ _); refine wpList_store_mid rfl 53 (.tmp 4) (.tmp 40) rfl g2 0 U.toArray rfl rfl HTHr.out HIUs.out HUO.out ?_))
          have HXr : Hid (Blk (w8.setCells g2 0 U) g2 53 U.toArray) := blk_setAll HX82.out (by rw [HUL.out, HZL.out])
          have HBr : Hid (Below w.heap.size w (w8.setCells g2 0 U)) := below_setCells HB8.out HL2.out _ _
          (try simp only [Exit.inBlock, Exit.then])
          refine bodyPost_ret (results_c3 rfl rfl (blk_range HXr.out) Tryz.underlying53 rfl HIU.out) rfl ?_
          refine ⟨?_, HBr.out⟩
          rw [HV.out, HUE.out]
          rfl
      · have HV : Hid (tt = (t, 0, 7)) := by show _ = _; rw [HTA.out]; rfl
        clear HTA
        have HRWr : Hid (w5.rangeAt g1 0 T) := blk_range HX51.out
        have HTHr : Hid (w5.there g2 0 T.toArray.size) := blk_there HX52.out 0 _ (by rw [HZL.out]; show 0 + T.length ≤ 16; rw [HTL.out]; decide)
        go_wp2_with (first
          | ((with_reducible show wpList _ _ _ (⟨some 26, .load _ (.tmp 2), _, _, _, _⟩ :: _) _ _); refine wpList_load_mid rfl 53 (.tmp 2) rfl g1 0 rfl T _ HRWr.out Tryz.underlying53 rfl HIT.out ?_)
          | ((with_reducible show wpList _ _ _ (⟨none, .store _ (.tmp 4) _, _, _, _, _⟩ :: _) _ _); refine wpList_store_mid rfl 53 (.tmp 4) (.tmp 26) rfl g2 0 T.toArray rfl rfl HTHr.out HITs.out HTO.out ?_))
        have HXr : Hid (Blk (w5.setCells g2 0 T) g2 53 T.toArray) := blk_setAll HX52.out (by rw [HTL.out, HZL.out])
        have HBr : Hid (Below w.heap.size w (w5.setCells g2 0 T)) := below_setCells HB5.out HL2.out _ _
        (try simp only [Exit.inBlock, Exit.then])
        refine bodyPost_ret (results_c3 rfl rfl (blk_range HXr.out) Tryz.underlying53 rfl HIT.out) rfl ?_
        refine ⟨?_, HBr.out⟩
        rw [HV.out, HTE.out]
        rfl
    · have had' : adrB a = false := Bool.eq_false_iff.2 had
      have HV : Hid (tt = (t, 0, 1)) := by show _ = _; rw [HTT.out]; unfold takeT; rw [hgd, had']; rfl
      rw [had']
      clear hgd had had' HTT
      have HRWr : Hid (w4.rangeAt g1 0 T) := blk_range HX41.out
      have HTHr : Hid (w4.there g2 0 T.toArray.size) := blk_there HX42.out 0 _ (by rw [HZL.out]; show 0 + T.length ≤ 16; rw [HTL.out]; decide)
      go_wp2_with (first
        | ((with_reducible show wpList _ _ _ (⟨some 18, .load _ (.tmp 2), _, _, _, _⟩ :: _) _ _); refine wpList_load_mid rfl 53 (.tmp 2) rfl g1 0 rfl T _ HRWr.out Tryz.underlying53 rfl HIT.out ?_)
        | ((with_reducible show wpList _ _ _ (⟨none, .store _ (.tmp 4) _, _, _, _, _⟩ :: _) _ _); refine wpList_store_mid rfl 53 (.tmp 4) (.tmp 18) rfl g2 0 T.toArray rfl rfl HTHr.out HITs.out HTO.out ?_))
      have HXr : Hid (Blk (w4.setCells g2 0 T) g2 53 T.toArray) := blk_setAll HX42.out (by rw [HTL.out, HZL.out])
      have HBr : Hid (Below w.heap.size w (w4.setCells g2 0 T)) := below_setCells HB4.out HL2.out _ _
      (try simp only [Exit.inBlock, Exit.then])
      refine bodyPost_ret (results_c3 rfl rfl (blk_range HXr.out) Tryz.underlying53 rfl HIT.out) rfl ?_
      refine ⟨?_, HBr.out⟩
      rw [HV.out, HTE.out]
      rfl
  · have hgd' : goodT t = false := Bool.eq_false_iff.2 hgd
    have HV : Hid (tt = (t, 0, 1)) := by show _ = _; rw [HTT.out]; unfold takeT; rw [hgd']; rfl
    rw [hgd']
    clear hgd hgd' HTT
    have HRWr : Hid (w3.rangeAt g1 0 T) := blk_range HX31.out
    have HTHr : Hid (w3.there g2 0 T.toArray.size) := blk_there HX32.out 0 _ (by rw [HZL.out]; show 0 + T.length ≤ 16; rw [HTL.out]; decide)
    go_wp2_with (first
      | ((with_reducible show wpList _ _ _ (⟨some 18, .load _ (.tmp 2), _, _, _, _⟩ :: _) _ _); refine wpList_load_mid rfl 53 (.tmp 2) rfl g1 0 rfl T _ HRWr.out Tryz.underlying53 rfl HIT.out ?_)
      | ((with_reducible show wpList _ _ _ (⟨none, .store _ (.tmp 4) _, _, _, _, _⟩ :: _) _ _); refine wpList_store_mid rfl 53 (.tmp 4) (.tmp 18) rfl g2 0 T.toArray rfl rfl HTHr.out HITs.out HTO.out ?_))
    have HXr : Hid (Blk (w3.setCells g2 0 T) g2 53 T.toArray) := blk_setAll HX32.out (by rw [HTL.out, HZL.out])
    have HBr : Hid (Below w.heap.size w (w3.setCells g2 0 T)) := below_setCells HB3.out HL2.out _ _
    (try simp only [Exit.inBlock, Exit.then])
    refine bodyPost_ret (results_c3 rfl rfl (blk_range HXr.out) Tryz.underlying53 rfl HIT.out) rfl ?_
    refine ⟨?_, HBr.out⟩
    rw [HV.out, HTE.out]
    rfl
end Go.Proofs.YtmkifedcanmjoaaGreat
/- slots.Free (contract). Conditions: none. -/
set_option linter.unusedVariables false
set_option linter.unusedSimpArgs false
namespace Go.Proofs.YtmkifedcanmjoaaGreat
open Go.RowKit
attribute [local go_sem ↓] Go.wp_at_zero Go.wp_at_succ

theorem WT.free {t : Tb} (h : WT t) (i : Int) : WT (freeT t i).1 := by
  unfold freeT
  split
  · exact h
  · split
    · exact h
    · exact h.put _ _ _
set_option maxRecDepth 100000 in
set_option maxHeartbeats 6400000 in
theorem free_c (t : Tb) (i : Int) (w : World) (ht : WT t) :
    Calls Tryz.prog 70 #[.agg (tbL t).toArray, .int .i64 i] w fun e w' => e = .returned (.tuple #[.agg (tbL (freeT t i).1).toArray, .int .i64 (freeT t i).2]) ∧ Below w.heap.size w w' := by
  obtain ⟨T, hT⟩ : ∃ T, T = tbL t := ⟨_, rfl⟩
  obtain ⟨g1, hg1⟩ : ∃ g1, g1 = w.heap.size := ⟨_, rfl⟩

  obtain ⟨g2, hg2⟩ : ∃ g2, g2 = w.heap.size + 1 := ⟨_, rfl⟩
  obtain ⟨Z, hZ⟩ : ∃ Z : List Value, Z = [.bool false, .bool false, .bool false, .bool false, .bool false, .bool false, .bool false, .bool false, .int .i64 0, .int .i64 0, .int .i64 0, .int .i64 0, .int .i64 0, .int .i64 0, .int .i64 0, .int .i64 0] := ⟨_, rfl⟩
  obtain ⟨w2, hw2⟩ : ∃ w2, w2 = (w.alloc (.cells T.toArray 53)).alloc (.cells #[.bool false, .bool false, .bool false, .bool false, .bool false, .bool false, .bool false, .bool false, .int .i64 0, .int .i64 0, .int .i64 0, .int .i64 0, .int .i64 0, .int .i64 0, .int .i64 0, .int .i64 0] 53) := ⟨_, rfl⟩
  have hq := two_blks w 53 53 T.toArray #[.bool false, .bool false, .bool false, .bool false, .bool false, .bool false, .bool false, .bool false, .int .i64 0, .int .i64 0, .int .i64 0, .int .i64 0, .int .i64 0, .int .i64 0, .int .i64 0, .int .i64 0]
  rw [← hw2, ← hg2] at hq
  have HX21 : Hid (Blk w2 g1 53 T.toArray) := by show Blk _ _ _ _; rw [hg1]; exact hq.1
  have HX22 : Hid (Blk w2 g2 53 Z.toArray) := by show Blk _ _ _ _; rw [hZ]; exact hq.2.1
  have HB2 : Hid (Below w.heap.size w w2) := hq.2.2
  clear hq
  have HL1 : Hid (w.heap.size ≤ g1) := by show _ ≤ _; omega
  have HL2 : Hid (w.heap.size ≤ g2) := by show _ ≤ _; omega
  have HNE : Hid (g1 ≠ g2) := by show _ ≠ _; omega
  have HNE' : Hid (g2 ≠ g1) := by show _ ≠ _; omega
  have HZL : Hid (Z.length = 16) := by show _ = _; rw [hZ]; rfl

  have HTE := Lib.hid hT
  have HTL : Hid (T.length = 16) := by show _ = _; rw [hT]; exact tbL_len ht
  have HTO : Hid (T.toArray.all (·.oneCell') = true) := by show _ = _; rw [hT]; exact tbL_one t
  have HIT : Hid ((Tryz.prog.info? 53).map (·.size) = some T.length) := by show _ = _; rw [HTL.out]; exact infoTb
  have HITs : Hid ((Tryz.prog.info? 53).map (·.size) = some T.toArray.size) := HIT.out
  have HWT := Lib.hid ht
  have GUD : Hid (∀ (wx : World), Calls Tryz.prog 63 #[.agg T.toArray] wx fun e w' => e = .returned (.bool (goodT t)) ∧ Below wx.heap.size wx w') := fun wx => by rw [HTE.out]; exact good_c t wx HWT.out
  obtain ⟨tt, htt⟩ : ∃ tt, tt = freeT t i := ⟨_, rfl⟩
  have HTT := Lib.hid htt
  rw [← hT, ← htt]
  clear hT ht htt hZ
  go_enter Tryz.func70, Tryz.ntmps70
  go_upto_region 1 with fail
  rw [← hw2, ← hg2, ← hg1]
  clear hw2 hg1 hg2
  have HRW : Hid (w2.rangeAt g1 0 T) := blk_range HX21.out
  go_wp2_with (first
    | ((with_reducible show wpList _ _ _ (⟨some 7, .load _ (.tmp 2), _, _, _, _⟩ :: _) _ _); refine wpList_load_mid rfl 53 (.tmp 2) rfl g1 0 rfl T _ HRW.out Tryz.underlying53 rfl HIT.out ?_))
  clear HRW
  refine (GUD.out w2).mono ?_
  rintro e0 w3 ⟨rfl, hbq⟩
  have HB3 : Hid (Below w.heap.size w w3) := by show Below _ _ _; exact bcall HB2.out hbq
  have HX31 : Hid (Blk w3 g1 53 T.toArray) := by show Blk _ _ _ _; exact HX21.out.below hbq

  have HX32 : Hid (Blk w3 g2 53 Z.toArray) := by show Blk _ _ _ _; exact HX22.out.below hbq
  clear hbq HB2 HX21 HX22
  by_cases hgd : goodT t = true
  · rw [hgd]
    go_wp2_with fail
    refine (slot_c i w3).mono ?_
    rintro e0 w4 ⟨rfl, hbq⟩
    have HB4 : Hid (Below w.heap.size w w4) := by show Below _ _ _; exact bcall HB3.out hbq
    have HX41 : Hid (Blk w4 g1 53 T.toArray) := by show Blk _ _ _ _; exact HX31.out.below hbq

    have HX42 : Hid (Blk w4 g2 53 Z.toArray) := by show Blk _ _ _ _; exact HX32.out.below hbq
    clear hbq HB3 HX31 HX32
    by_cases had : sltB i = true
    · have HTA : Hid (tt = if !usedAt t i.toNat then ((t, 6) : Tb × Int) else (putT t i.toNat false 0, 0)) := by show _ = _; rw [HTT.out]; unfold freeT; rw [hgd, had]; rfl
      rw [had]
      have hin0 : 0 ≤ i := by unfold sltB at had; rw [Bool.and_eq_true] at had; exact of_decide_eq_true had.1
      have hini : i < 8 := by unfold sltB at had; rw [Bool.and_eq_true] at had; exact of_decide_eq_true had.2
      clear HTT hgd had
      obtain ⟨k, hk⟩ : ∃ k : Nat, i = (k : Int) := ⟨i.toNat, by omega⟩
      subst hk
      rw [Int.toNat_natCast] at HTA
      have hi8 : k < 8 := by omega
      obtain ⟨u, hu⟩ : ∃ u, u = usedAt t k := ⟨_, rfl⟩
      have ck1 : w4.cell? ⟨g1, k, none⟩ = some (.bool u) := by
        rw [HX41.out.cell k, List.getElem?_toArray, HTE.out, hu]
        exact tbL_used HWT.out hi8
      rw [← hu] at HTA
      have HUU := Lib.hid hu
      clear hu
      cases u
      · have HV : Hid (tt = (t, 6)) := by show _ = _; rw [HTA.out]; rfl
        clear HTA
        have HRWr : Hid (w4.rangeAt g1 0 T) := blk_range HX41.out

        have HTHr : Hid (w4.there g2 0 T.toArray.size) := blk_there HX42.out 0 _ (by rw [HZL.out]; show 0 + T.length ≤ 16; rw [HTL.out]; decide)
        go_wp2_with (first
          | ((with_reducible show wpList _ _ _ (⟨some 22, .load _ (.tmp 2), _, _, _, _⟩ :: _) _ _); refine wpList_load_mid rfl 53 (.tmp 2) rfl g1 0 rfl T _ HRWr.out Tryz.underlying53 rfl HIT.out ?_)
          | ((with_reducible show wpList _ _ _ (⟨none, .store _ (.tmp 4) _, _, _, _, _⟩ :: _) _ _); refine wpList_store_mid rfl 53 (.tmp 4) (.tmp 22) rfl g2 0 T.toArray rfl rfl HTHr.out HITs.out HTO.out ?_))
        have HXr : Hid (Blk (w4.setCells g2 0 T) g2 53 T.toArray) := blk_setAll HX42.out (by rw [HTL.out, HZL.out])
        have HBr : Hid (Below w.heap.size w (w4.setCells g2 0 T)) := below_setCells HB4.out HL2.out _ _
        (try simp only [Exit.inBlock, Exit.then])
        refine bodyPost_ret (results_c2 rfl rfl (blk_range HXr.out) Tryz.underlying53 rfl HIT.out) rfl ?_
        refine ⟨?_, HBr.out⟩
        rw [HV.out, HTE.out]
        rfl
      · have HV : Hid (tt = (putT t k false 0, 0)) := by show _ = _; rw [HTA.out]; rfl
        clear HTA
        have fk1 : w4.frozen? ⟨g1, k, none⟩ = false := Blk.frozen HX41.out k
        obtain ⟨w7, hw7⟩ : ∃ w7, w7 = w4.setCell ⟨g1, k, none⟩ (.bool false) := ⟨_, rfl⟩
        have HX71 : Hid (Blk w7 g1 53 (T.set k (.bool false)).toArray) := by
          show Blk _ _ _ _
          rw [hw7, ← List.setIfInBounds_toArray]
          exact Blk.set_ HX41.out k _
        have ck2 : w7.cell? ⟨g1, 8 + k, none⟩ = some (.int .i64 (addrAt t k)) := by
          rw [HX71.out.cell (8 + k), List.getElem?_toArray, HTE.out, List.getElem?_set_ne (by omega)]
          exact tbL_addr HWT.out hi8
        have fk2 : w7.frozen? ⟨g1, 8 + k, none⟩ = false := Blk.frozen HX71.out (8 + k)
        have HX72 : Hid (Blk w7 g2 53 Z.toArray) := by show Blk _ _ _ _; rw [hw7]; exact Blk.far HX42.out HNE'.out _
        have HB7 : Hid (Below w.heap.size w w7) := by show Below _ _ _; rw [hw7]; exact bset HB4.out HL1.out _
        obtain ⟨w8, hw8⟩ : ∃ w8, w8 = w7.setCell ⟨g1, 8 + k, none⟩ (.int .i64 0) := ⟨_, rfl⟩
        obtain ⟨U, hU⟩ : ∃ U, U = tbL (putT t k false 0) := ⟨_, rfl⟩
        have HUE := Lib.hid hU
        have HUL : Hid (U.length = 16) := by show _ = _; rw [hU]; exact tbL_len (HWT.out.put _ _ _)
        have HUO : Hid (U.toArray.all (·.oneCell') = true) := by show _ = _; rw [hU]; exact tbL_one _
        have HIU : Hid ((Tryz.prog.info? 53).map (·.size) = some U.length) := by show _ = _; rw [HUL.out]; exact infoTb
        have HIUs : Hid ((Tryz.prog.info? 53).map (·.size) = some U.toArray.size) := HIU.out
        have HX81 : Hid (Blk w8 g1 53 U.toArray) := by
          show Blk _ _ _ _
          rw [hw8, hU, ← tbL_set HWT.out hi8, ← HTE.out, ← List.setIfInBounds_toArray]
          exact Blk.set_ HX71.out (8 + k) _
        have HX82 : Hid (Blk w8 g2 53 Z.toArray) := by show Blk _ _ _ _; rw [hw8]; exact Blk.far HX72.out HNE'.out _
        have HB8 : Hid (Below w.heap.size w w8) := by show Below _ _ _; rw [hw8]; exact bset HB7.out HL1.out _
        clear HX71 HX72 HB7 hU
        have HW7 := Lib.hid hw7
        clear hw7
        rw [HW7.out] at ck2 fk2 hw8
        clear HX41 HX42 HB4 hi8
        go_upto_region 6 with fail
        rw [← hw8]
        clear hw8 ck1 ck2 fk1 fk2 HW7
        have HRWr : Hid (w8.rangeAt g1 0 U) := blk_range HX81.out

        have HTHr : Hid (w8.there g2 0 U.toArray.size) := blk_there HX82.out 0 _ (by rw [HZL.out]; show 0 + U.length ≤ 16; rw [HUL.out]; decide)
        go_wp2_with (first
          | ((with_reducible show wpList _ _ _ (⟨some 29, .load _ (.tmp 2), _, _, _, _⟩ :: _) _ _); refine wpList_load_mid rfl 53 (.tmp 2) rfl g1 0 rfl U _ HRWr.out Tryz.underlying53 rfl HIU.out ?_)
          | ((with_reducible show wpList _ _ _ (⟨none, .store _ (.tmp 4) _, _, _, _, _⟩ :: _) _ _); refine wpList_store_mid rfl 53 (.tmp 4) (.tmp 29) rfl g2 0 U.toArray rfl rfl HTHr.out HIUs.out HUO.out ?_))
        have HXr : Hid (Blk (w8.setCells g2 0 U) g2 53 U.toArray) := blk_setAll HX82.out (by rw [HUL.out, HZL.out])
        have HBr : Hid (Below w.heap.size w (w8.setCells g2 0 U)) := below_setCells HB8.out HL2.out _ _
        (try simp only [Exit.inBlock, Exit.then])
        refine bodyPost_ret (results_c2 rfl rfl (blk_range HXr.out) Tryz.underlying53 rfl HIU.out) rfl ?_
        refine ⟨?_, HBr.out⟩
        rw [HV.out, HUE.out]
        rfl
    · have had' : sltB i = false := Bool.eq_false_iff.2 had
      have HV : Hid (tt = (t, 1)) := by show _ = _; rw [HTT.out]; unfold freeT; rw [hgd, had']; rfl
      rw [had']
      clear hgd had had' HTT
      have HRWr : Hid (w4.rangeAt g1 0 T) := blk_range HX41.out

      have HTHr : Hid (w4.there g2 0 T.toArray.size) := blk_there HX42.out 0 _ (by rw [HZL.out]; show 0 + T.length ≤ 16; rw [HTL.out]; decide)
      go_wp2_with (first
        | ((with_reducible show wpList _ _ _ (⟨some 15, .load _ (.tmp 2), _, _, _, _⟩ :: _) _ _); refine wpList_load_mid rfl 53 (.tmp 2) rfl g1 0 rfl T _ HRWr.out Tryz.underlying53 rfl HIT.out ?_)
        | ((with_reducible show wpList _ _ _ (⟨none, .store _ (.tmp 4) _, _, _, _, _⟩ :: _) _ _); refine wpList_store_mid rfl 53 (.tmp 4) (.tmp 15) rfl g2 0 T.toArray rfl rfl HTHr.out HITs.out HTO.out ?_))
      have HXr : Hid (Blk (w4.setCells g2 0 T) g2 53 T.toArray) := blk_setAll HX42.out (by rw [HTL.out, HZL.out])
      have HBr : Hid (Below w.heap.size w (w4.setCells g2 0 T)) := below_setCells HB4.out HL2.out _ _
      (try simp only [Exit.inBlock, Exit.then])
      refine bodyPost_ret (results_c2 rfl rfl (blk_range HXr.out) Tryz.underlying53 rfl HIT.out) rfl ?_
      refine ⟨?_, HBr.out⟩
      rw [HV.out, HTE.out]
      rfl
  · have hgd' : goodT t = false := Bool.eq_false_iff.2 hgd
    have HV : Hid (tt = (t, 1)) := by show _ = _; rw [HTT.out]; unfold freeT; rw [hgd']; rfl
    rw [hgd']
    clear hgd hgd' HTT
    have HRWr : Hid (w3.rangeAt g1 0 T) := blk_range HX31.out

    have HTHr : Hid (w3.there g2 0 T.toArray.size) := blk_there HX32.out 0 _ (by rw [HZL.out]; show 0 + T.length ≤ 16; rw [HTL.out]; decide)
    go_wp2_with (first
      | ((with_reducible show wpList _ _ _ (⟨some 15, .load _ (.tmp 2), _, _, _, _⟩ :: _) _ _); refine wpList_load_mid rfl 53 (.tmp 2) rfl g1 0 rfl T _ HRWr.out Tryz.underlying53 rfl HIT.out ?_)
      | ((with_reducible show wpList _ _ _ (⟨none, .store _ (.tmp 4) _, _, _, _, _⟩ :: _) _ _); refine wpList_store_mid rfl 53 (.tmp 4) (.tmp 15) rfl g2 0 T.toArray rfl rfl HTHr.out HITs.out HTO.out ?_))
    have HXr : Hid (Blk (w3.setCells g2 0 T) g2 53 T.toArray) := blk_setAll HX32.out (by rw [HTL.out, HZL.out])
    have HBr : Hid (Below w.heap.size w (w3.setCells g2 0 T)) := below_setCells HB3.out HL2.out _ _
    (try simp only [Exit.inBlock, Exit.then])
    refine bodyPost_ret (results_c2 rfl rfl (blk_range HXr.out) Tryz.underlying53 rfl HIT.out) rfl ?_
    refine ⟨?_, HBr.out⟩
    rw [HV.out, HTE.out]
    rfl
end Go.Proofs.YtmkifedcanmjoaaGreat
/- Bits of ints that are not negative. Conditions: none. -/
set_option linter.unusedVariables false
set_option linter.unusedSimpArgs false
namespace Go.Proofs.YtmkifedcanmjoaaGreat
theorem ofInt_i64 (a : Nat) (h : a < 4611686018427387904) : (BitVec.ofInt 64 (a : Int)).toNat = a := by
  rw [BitVec.toNat_ofInt]
  show ((a : Int) % ((2 ^ 64 : Nat) : Int)).toNat = a
  omega
theorem i64_or_nat (a b : Nat) (ha : a < 4611686018427387904) (hb : b < 4611686018427387904) : Go.bits .or .i64 (a : Int) (b : Int) = ((a ||| b : Nat) : Int) := by
  have hx : a ||| b < 2 ^ 62 := Nat.or_lt_two_pow (by omega) (by omega)
  show IntKind.i64.wrap ((BitVec.ofInt 64 (a : Int) ||| BitVec.ofInt 64 (b : Int)).toNat : Int) = _
  rw [BitVec.toNat_or, ofInt_i64 a ha, ofInt_i64 b hb, IntKind.wrap_i64]
  omega
theorem i64_and_nat (a b : Nat) (ha : a < 4611686018427387904) (hb : b < 4611686018427387904) : Go.bits .and .i64 (a : Int) (b : Int) = ((a &&& b : Nat) : Int) := by
  have hx : a &&& b < 2 ^ 62 := Nat.and_lt_two_pow _ (by omega)
  show IntKind.i64.wrap ((BitVec.ofInt 64 (a : Int) &&& BitVec.ofInt 64 (b : Int)).toNat : Int) = _
  rw [BitVec.toNat_and, ofInt_i64 a ha, ofInt_i64 b hb, IntKind.wrap_i64]
  omega
theorem i64_andNot_nat (a b : Nat) (ha : a < 4611686018427387904) (hb : b < 4611686018427387904) : Go.bits .andNot .i64 (a : Int) (b : Int) = ((exN a b : Nat) : Int) := by
  have hx : a &&& (18446744073709551615 - b) < 2 ^ 62 := Nat.lt_of_le_of_lt Nat.and_le_left (by omega)
  show IntKind.i64.wrap ((BitVec.ofInt 64 (a : Int) &&& ~~~BitVec.ofInt 64 (b : Int)).toNat : Int) = _
  rw [BitVec.toNat_and, BitVec.toNat_not, ofInt_i64 a ha, ofInt_i64 b hb, IntKind.wrap_i64]
  have e : 2 ^ 64 - 1 - b = 18446744073709551615 - b := by omega
  rw [e]
  unfold exN
  omega
theorem exN_bit (a b i : Nat) (ha : a < 2 ^ 62) (hb : b < 2 ^ 62) : (exN a b).testBit i = (a.testBit i && !b.testBit i) := by
  unfold exN
  rw [Nat.testBit_and, show 18446744073709551615 - b = 2 ^ 64 - (b + 1) by omega, Nat.testBit_two_pow_sub_succ (by omega)]
  by_cases h : i < 64
  · simp [h]
  · have : a.testBit i = false := Nat.testBit_lt_two_pow (Nat.lt_of_lt_of_le ha (Nat.pow_le_pow_right (by decide) (by omega)))
    simp [this]
/-- Nothing is left of a without b: all of a's bits are b's. -/
theorem exN_zero (a b : Nat) (ha : a < 2 ^ 62) (hb : b < 2 ^ 62) : exN a b = 0 ↔ a &&& b = a := by
  constructor
  · intro h
    refine Nat.eq_of_testBit_eq fun i => ?_
    have := exN_bit a b i ha hb
    rw [h, Nat.zero_testBit] at this
    rw [Nat.testBit_and]
    cases h1 : a.testBit i <;> cases h2 : b.testBit i <;> simp_all
  · intro h
    refine Nat.eq_of_testBit_eq fun i => ?_
    rw [exN_bit a b i ha hb, Nat.zero_testBit]
    have := congrArg (fun x => x.testBit i) h
    simp only [Nat.testBit_and] at this
    cases h1 : a.testBit i <;> cases h2 : b.testBit i <;> simp_all
end Go.Proofs.YtmkifedcanmjoaaGreat
/- slots.Find, slots.Mask (contracts). Conditions: none. -/
set_option linter.unusedVariables false
set_option linter.unusedSimpArgs false
namespace Go.Proofs.YtmkifedcanmjoaaGreat
open Go.RowKit
attribute [local go_sem ↓] Go.wp_at_zero Go.wp_at_succ

def FindT (t : Tb) (a : Int) : Option Nat := if goodT t then findT t a else none
def FindN (t : Tb) (a : Int) : Int := if goodT t then findN t a else 0
set_option maxRecDepth 100000 in
set_option maxHeartbeats 6400000 in
theorem Find_c (t : Tb) (a : Int) (w : World) (ht : WT t) :
    Calls Tryz.prog 69 #[.agg (tbL t).toArray, .int .i64 a] w fun e w' => e = .returned (.tuple #[.int .i64 (FindN t a), .bool (FindT t a).isSome]) ∧ Below w.heap.size w w' := by
  obtain ⟨T, hT⟩ : ∃ T, T = tbL t := ⟨_, rfl⟩
  obtain ⟨g1, hg1⟩ : ∃ g1, g1 = w.heap.size := ⟨_, rfl⟩

  obtain ⟨w2, hw2⟩ : ∃ w2, w2 = w.alloc (.cells T.toArray 53) := ⟨_, rfl⟩
  have HX21 : Hid (Blk w2 g1 53 T.toArray) := by show Blk _ _ _ _; rw [hw2]; exact Blk.newAt hg1 _ _
  have HB2 : Hid (Below w.heap.size w w2) := by show Below _ _ _; rw [hw2]; exact balloc (Below.refl _ _) _
  have HL1 : Hid (w.heap.size ≤ g1) := by show _ ≤ _; omega

  have HTE := Lib.hid hT
  have HTL : Hid (T.length = 16) := by show _ = _; rw [hT]; exact tbL_len ht
  have HTO : Hid (T.toArray.all (·.oneCell') = true) := by show _ = _; rw [hT]; exact tbL_one t
  have HIT : Hid ((Tryz.prog.info? 53).map (·.size) = some T.length) := by show _ = _; rw [HTL.out]; exact infoTb
  have HITs : Hid ((Tryz.prog.info? 53).map (·.size) = some T.toArray.size) := HIT.out
  have HWT := Lib.hid ht
  have GUD : Hid (∀ (wx : World), Calls Tryz.prog 63 #[.agg T.toArray] wx fun e w' => e = .returned (.bool (goodT t)) ∧ Below wx.heap.size wx w') := fun wx => by rw [HTE.out]; exact good_c t wx HWT.out
  have FND : Hid (∀ (a : Int) (wx : World), Calls Tryz.prog 66 #[.agg T.toArray, .int .i64 a] wx fun e w' => e = .returned (.tuple #[.int .i64 (findN t a), .bool (findT t a).isSome]) ∧ Below wx.heap.size wx w') := fun a wx => by rw [HTE.out]; exact find_c t a wx HWT.out
  rw [← hT]
  clear hT ht
  go_enter Tryz.func69, Tryz.ntmps69
  go_upto_region 1 with fail
  rw [← hw2, ← hg1]
  clear hw2 hg1
  have HRW : Hid (w2.rangeAt g1 0 T) := blk_range HX21.out
  go_wp2_with (first
    | ((with_reducible show wpList _ _ _ (⟨some 6, .load _ (.tmp 2), _, _, _, _⟩ :: _) _ _); refine wpList_load_mid rfl 53 (.tmp 2) rfl g1 0 rfl T _ HRW.out Tryz.underlying53 rfl HIT.out ?_))
  clear HRW
  refine (GUD.out w2).mono ?_
  rintro e0 w3 ⟨rfl, hbq⟩
  have HB3 : Hid (Below w.heap.size w w3) := by show Below _ _ _; exact bcall HB2.out hbq
  have HX31 : Hid (Blk w3 g1 53 T.toArray) := by show Blk _ _ _ _; exact HX21.out.below hbq
  clear hbq HB2 HX21
  by_cases hgd : goodT t = true
  · have HV1 : Hid (FindN t a = findN t a) := by show _ = _; unfold FindN; rw [hgd]; rfl
    have HV2 : Hid (FindT t a = findT t a) := by show _ = _; unfold FindT; rw [hgd]; rfl
    rw [hgd]
    clear hgd
    have HRW : Hid (w3.rangeAt g1 0 T) := blk_range HX31.out
    go_wp2_with (first
      | ((with_reducible show wpList _ _ _ (⟨some 9, .load _ (.tmp 2), _, _, _, _⟩ :: _) _ _); refine wpList_load_mid rfl 53 (.tmp 2) rfl g1 0 rfl T _ HRW.out Tryz.underlying53 rfl HIT.out ?_))
    clear HRW
    refine (FND.out a w3).mono ?_
    rintro e0 w4 ⟨rfl, hbq⟩
    have HB4 : Hid (Below w.heap.size w w4) := by show Below _ _ _; exact bcall HB3.out hbq
    have HX41 : Hid (Blk w4 g1 53 T.toArray) := by show Blk _ _ _ _; exact HX31.out.below hbq
    clear hbq HB3 HX31
    obtain ⟨fo, hfo⟩ : ∃ fo, fo = (findT t a).isSome := ⟨_, rfl⟩
    obtain ⟨fn, hfn⟩ : ∃ fn, fn = findN t a := ⟨_, rfl⟩
    rw [← hfo, ← hfn]
    have HFO := Lib.hid hfo
    have HFN := Lib.hid hfn
    clear hfo hfn
    go_wp2_with fail
    go_ret2
    refine ⟨?_, HB4.out⟩
    rw [HV1.out, HV2.out, ← HFO.out, ← HFN.out]
    rfl
  · have hgd' : goodT t = false := Bool.eq_false_iff.2 hgd
    have HV1 : Hid (FindN t a = 0) := by show _ = _; unfold FindN; rw [hgd']; rfl
    have HV2 : Hid (FindT t a = none) := by show _ = _; unfold FindT; rw [hgd']; rfl
    rw [hgd']
    clear hgd hgd'
    go_wp2_with fail
    go_ret2
    refine ⟨?_, HB3.out⟩
    rw [HV1.out, HV2.out]
    rfl

theorem maskFrom_step (t : Tb) (f i m : Nat) : maskFrom t (f + 1) i m = maskFrom t f (i + 1) (if usedAt t i then m ||| 2 ^ i else m) := rfl
theorem maskFrom_lt (t : Tb) : ∀ (f i m : Nat), m < 2 ^ i → maskFrom t f i m < 2 ^ (i + f)
  | 0, i, m, h => h
  | f + 1, i, m, h => by
    rw [maskFrom_step, show i + (f + 1) = (i + 1) + f by omega]
    refine maskFrom_lt t f (i + 1) _ ?_
    have hm : m < 2 ^ (i + 1) := Nat.lt_of_lt_of_le h (Nat.pow_le_pow_right (by decide) (by omega))
    split
    · exact Nat.or_lt_two_pow hm (Nat.pow_lt_pow_right (by decide) (by omega))
    · exact hm
theorem maskT_lt (t : Tb) : maskT t < 256 := by
  unfold maskT
  split
  · exact maskFrom_lt t 8 0 0 (by decide)
  · decide
set_option maxRecDepth 100000 in
set_option maxHeartbeats 6400000 in
theorem mask_c (t : Tb) (w : World) (ht : WT t) :
    Calls Tryz.prog 64 #[.agg (tbL t).toArray] w fun e w' => e = .returned (.int .i64 (maskT t)) ∧ Below w.heap.size w w' := by
  obtain ⟨T, hT⟩ : ∃ T, T = tbL t := ⟨_, rfl⟩
  obtain ⟨g1, hg1⟩ : ∃ g1, g1 = w.heap.size := ⟨_, rfl⟩

  obtain ⟨w2, hw2⟩ : ∃ w2, w2 = w.alloc (.cells T.toArray 53) := ⟨_, rfl⟩
  have HX21 : Hid (Blk w2 g1 53 T.toArray) := by show Blk _ _ _ _; rw [hw2]; exact Blk.newAt hg1 _ _
  have HB2 : Hid (Below w.heap.size w w2) := by show Below _ _ _; rw [hw2]; exact balloc (Below.refl _ _) _
  have HL1 : Hid (w.heap.size ≤ g1) := by show _ ≤ _; omega

  have HTE := Lib.hid hT
  have HTL : Hid (T.length = 16) := by show _ = _; rw [hT]; exact tbL_len ht
  have HTO : Hid (T.toArray.all (·.oneCell') = true) := by show _ = _; rw [hT]; exact tbL_one t
  have HIT : Hid ((Tryz.prog.info? 53).map (·.size) = some T.length) := by show _ = _; rw [HTL.out]; exact infoTb
  have HITs : Hid ((Tryz.prog.info? 53).map (·.size) = some T.toArray.size) := HIT.out
  have HWT := Lib.hid ht
  have HIB : Hid ((Tryz.prog.info? 50).map (·.size) = some (t.used.map Value.bool).length) := by show _ = _; rw [List.length_map, HWT.out.1]; exact infoB8
  have GUD : Hid (∀ (wx : World), Calls Tryz.prog 63 #[.agg T.toArray] wx fun e w' => e = .returned (.bool (goodT t)) ∧ Below wx.heap.size wx w') := fun wx => by rw [HTE.out]; exact good_c t wx HWT.out
  rw [← hT]
  clear hT ht
  go_enter Tryz.func64, Tryz.ntmps64
  go_upto_region 1 with fail
  rw [← hw2, ← hg1]
  clear hw2 hg1
  have HRW : Hid (w2.rangeAt g1 0 T) := blk_range HX21.out
  go_wp2_with (first
    | ((with_reducible show wpList _ _ _ (⟨some 6, .load _ (.tmp 1), _, _, _, _⟩ :: _) _ _); refine wpList_load_mid rfl 53 (.tmp 1) rfl g1 0 rfl T _ HRW.out Tryz.underlying53 rfl HIT.out ?_))
  clear HRW
  refine (GUD.out w2).mono ?_
  rintro e0 w3 ⟨rfl, hbq⟩
  have HB3 : Hid (Below w.heap.size w w3) := by show Below _ _ _; exact bcall HB2.out hbq
  have HX31 : Hid (Blk w3 g1 53 T.toArray) := by show Blk _ _ _ _; exact HX21.out.below hbq
  clear hbq HB2 HX21
  by_cases hgd : goodT t = true
  · have HV : Hid (maskT t = maskFrom t 8 0 0) := by show _ = _; unfold maskT; rw [hgd]; rfl
    rw [hgd]
    clear hgd
    have HRG : Hid (w3.rangeAt g1 0 (t.used.map Value.bool)) := blk_mid HX31.out 0 _ (fun j v hv => by
      rw [HTE.out, Nat.zero_add]
      unfold tbL
      have hj : j < (t.used.map Value.bool).length := by
        rcases Nat.lt_or_ge j (t.used.map Value.bool).length with h | h
        · exact h
        · rw [List.getElem?_eq_none h] at hv; cases hv
      rw [List.getElem?_append_left hj]
      exact hv)
    go_upto_region 5 with (first
      | ((with_reducible show wpList _ _ _ (⟨some 10, .load _ (.tmp 9), _, _, _, _⟩ :: _) _ _); refine wpList_load_mid rfl 50 (.tmp 9) rfl g1 0 rfl (t.used.map Value.bool) _ HRG.out Tryz.underlying50 rfl HIB.out ?_))
    clear HRG
    obtain ⟨D, hD⟩ : ∃ D, D = (t.used.map Value.bool).toArray := ⟨_, rfl⟩
    have HDE := Lib.hid hD
    rw [← hD]
    clear hD
    go_loopg [3, 11] 8 (fun gg vm v wx => ∃ i m : Nat, gg = 8 - i ∧ i ≤ 8 ∧ v = .int .i64 (i : Int) ∧ vm = .int .i64 (m : Int) ∧ m < 256 ∧ maskFrom t (8 - i) i m = maskT t ∧ wx = w3)
    case atStart => exact ⟨0, 0, rfl, by omega, rfl, rfl, by omega, HV.out.symm, rfl⟩
    case round =>
      obtain ⟨i, m, hgg, hi, rfl, rfl, hm, hf, rfl⟩ := hrel
      have HF := Lib.hid hf
      have HGG := Lib.hid hgg
      have HM := Lib.hid hm
      clear hf hgg hm
      by_cases hin : i < 8
      · have hini : (i : Int) < 8 := by omega
        have hin0 : (0 : Int) ≤ (i : Int) := by omega
        have hw1 : IntKind.i64.wrap ((i : Int) + 1) = ((i + 1 : Nat) : Int) := by rw [IntKind.wrap_i64]; omega
        obtain ⟨u, hu⟩ : ∃ u, u = usedAt t i := ⟨_, rfl⟩
        have hidx : ∀ wx, (Instr.index 50 (.agg D) (.int .i64 (i : Int))).run Tryz.prog wx = .ok (.bool u) wx := fun wx => by
          rw [HDE.out, hu]
          exact index_bools wx t.used i hin HWT.out.1
        have HS : Hid (maskT t = maskFrom t (8 - (i + 1)) (i + 1) (if u then m ||| 2 ^ i else m)) := by
          show _ = _
          rw [← HF.out, show 8 - i = (8 - (i + 1)) + 1 by omega, maskFrom_step, hu]
        have HLT := Lib.hid hin
        clear hu hin hi
        cases u
        · have HS2 : Hid (maskFrom t (8 - (i + 1)) (i + 1) m = maskT t) := by show _ = _; rw [HS.out]; rfl
          clear HS
          go_wp2_with fail
          go_roundg (8 - (i + 1))
          case measure => have := HLT.out; have := HGG.out; omega
          case rel => have hlt := HLT.out; exact ⟨i + 1, m, rfl, by omega, by first | rfl | go_num, rfl, HM.out, HS2.out, rfl⟩
        · have HS2 : Hid (maskFrom t (8 - (i + 1)) (i + 1) (m ||| 2 ^ i) = maskT t) := by show _ = _; rw [HS.out]; rfl
          clear HS
          obtain ⟨p, hp⟩ : ∃ p, p = 2 ^ i := ⟨_, rfl⟩
          have hp2 : p < 256 := by rw [hp]; exact Nat.pow_lt_pow_right (a := 2) (by decide) HLT.out
          have hsh : RowKit.wrap64 ((2 : Int) ^ i) = (p : Int) := by
            have h2 : ((2 : Int) ^ i) = ((2 ^ i : Nat) : Int) := by norm_cast
            rw [h2, ← hp]
            exact IntWalk.wrap64_in _ ⟨by omega, by omega⟩
          have hor : Go.bits .or .i64 (m : Int) (p : Int) = ((m ||| p : Nat) : Int) := i64_or_nat m p (by have := HM.out; omega) (by omega)
          have HM2 : Hid (m ||| p < 256) := by show _ < 2 ^ 8; exact Nat.or_lt_two_pow (by have := HM.out; omega) (by omega)
          rw [← hp] at HS2
          clear hp hp2
          go_wp2_with fail
          go_roundg (8 - (i + 1))
          case measure => have := HLT.out; have := HGG.out; omega
          case rel => have hlt := HLT.out; exact ⟨i + 1, m ||| p, rfl, by omega, by first | rfl | go_num, by first | rfl | (rw [hsh, hor]) | go_num, HM2.out, HS2.out, rfl⟩
      · have hini : ¬ (i : Int) < 8 := by omega
        have hie : i = 8 := by omega
        subst hie
        clear hin hi
        have hs : Hid (maskT t = m) := by have := HF.out; rw [show 8 - 8 = 0 from rfl] at this; exact this.symm
        go_wp2_with fail
        go_ret
        refine ⟨?_, HB3.out⟩
        rw [hs.out]
        rfl
  · have hgd' : goodT t = false := Bool.eq_false_iff.2 hgd
    have HV : Hid (maskT t = 0) := by show _ = _; unfold maskT; rw [hgd']; rfl
    rw [hgd']
    clear hgd hgd'
    go_wp2_with fail
    go_ret
    refine ⟨?_, HB3.out⟩
    rw [HV.out]
    rfl
end Go.Proofs.YtmkifedcanmjoaaGreat
