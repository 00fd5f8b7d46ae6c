/- What slices.Delete does to a row of entries (one of them goes): a contract. Conditions: the row is the call's own. -/
import Derived.Test.YtodcmnjimjjahaaRing
set_option linter.unusedVariables false
namespace Go.Proofs.Ytodcmnjimjjahaa
open Go.RowKit
attribute [local go_sem ↓] Go.wp_at_zero Go.wp_at_succ

theorem info49 : (Try.prog.info? 49).map (fun i => (i.zero, i.size, i.bytes)) = some (some (.agg #[.int .u16 0, .slice none 0 0]), 2, 32) := by kernel_rfl
theorem zero49 (w : World) : (zeroValue 49).run Try.prog w = .ok (.agg #[.int .u16 0, .slice none 0 0]) w := by kernel_rfl

theorem step_append_row {P : Program} {ops : Array Oper} {o : Oper} {a : Act} {w : World} {K : Act → World → Prop} {Q : Exit → Act → World → Prop} {E : Prop}
    (hg : o.guard = none) (s x : Operand) (t : TypeId) (hop : o.op = Op.call { callee := Callee.builtin Builtin.append, args := #[s, x], argTypes := #[t, t] })
    (e : TypeId) (i : TypeInfo) (size : Nat) (h1 : P.underlying t = some (.slice e)) (h2 : P.info? e = some i) (h4 : i.size = size)
    (g n cap : Nat) (cur : Array Value) (hgb : w.heap[g]? = some (.cells cur e (0, 0))) (hs : a.eval s = .slice (some ⟨g, 0, none⟩) n cap)
    (ad : Addr) (m c : Nat) (news : List Value) (hx : a.eval x = .slice (some ad) m c) (hn : news.length = m * size) (hc : ∀ j u, news[j]? = some u → w.cell? (ad.add j) = some u) (h1c : ∀ u ∈ news, u.oneCell' = true)
    (hroom : n + m ≤ cap) (hfit : n * size + news.length ≤ cur.size)
    (hK : K (a.put o.dst (.slice (some ⟨g, 0, none⟩) (n + m) cap)) (w.setRow g (cur.toList.take (n * size) ++ news ++ cur.toList.drop (n * size + news.length)).toArray)) :
    if Region.wanted o (yielded ops a.tmps) = true then Oper.wp P o a w K Q else E := by
  have hw : Region.wanted o (yielded ops a.tmps) = true := by simp [Region.wanted, hg]
  rw [if_pos hw]
  subst h4
  have hrun := run_append_room (P := P) w t o.type e i h1 h2 g n cap cur hgb ad m c news hn hc h1c hroom hfit
  unfold Oper.wp
  simp only [execOp, hop, resolve, invoke, builtin, Sem.run_bind, Sem.run_pure, Result.andThen_ok, List.map_toArray, List.map_cons, List.map_nil, hs, hx, hrun]
  exact hK

theorem clear_run (g m c : Nat) (cur : Array Value) (w : World) (hg : w.heap[g]? = some (.cells cur 49 (0, 0))) (hfit : m + 2 ≤ cur.size) (ty : TypeId) :
    (Builtin.clear_ #[43] ty #[.slice (some ⟨g, m, none⟩) 1 c]).run Try.prog w = .ok (.tuple #[]) (w.setRow g (cur.toList.take m ++ [Value.int .u16 0, Value.slice none 0 0] ++ cur.toList.drop (m + 2)).toArray) := by
  have hst := run_storeCells_at Try.prog g m 49 [Value.int .u16 0, Value.slice none 0 0] 0 cur w hg (by simpa using hfit) (by simp [Value.oneCell'])
  simp only [Nat.add_zero, List.length_cons, List.length_nil, Nat.zero_add] at hst
  have hz := zero49 w
  have hzc : (Builtin.zeroCells (Value.agg #[.int .u16 0, .slice none 0 0]).cells 1).toList = [Value.int .u16 0, Value.slice none 0 0] := by simp [Builtin.zeroCells, Value.cells]; simp [List.range, List.range.loop]
  simp only [Builtin.clear_]
  simp [run_underlying Try.underlying43, hz, hzc, hst]

theorem ecells_take (es : List Ent) (i : Nat) : (ecells es).take (i * 2) = ecells (es.take i) := by
  induction es generalizing i with
  | nil => simp [ecells]
  | cons e es ih =>
    cases i with
    | zero => simp [ecells]
    | succ i =>
      have := ih i
      simp only [ecells, List.flatMap_cons, List.take_succ_cons] at *
      rw [show (i + 1) * 2 = i * 2 + 1 + 1 from by omega]
      simp [this]
theorem ecells_drop (es : List Ent) (i : Nat) : (ecells es).drop (i * 2) = ecells (es.drop i) := by
  induction es generalizing i with
  | nil => simp [ecells]
  | cons e es ih =>
    cases i with
    | zero => simp [ecells]
    | succ i =>
      have := ih i
      simp only [ecells, List.flatMap_cons, List.drop_succ_cons] at *
      rw [show (i + 1) * 2 = i * 2 + 1 + 1 from by omega]
      simp [this]
theorem ecells_app (a b : List Ent) : ecells (a ++ b) = ecells a ++ ecells b := by simp [ecells]
theorem erase_cells (es : List Ent) (i : Nat) : ecells (es.eraseIdx i) = (ecells es).take (i * 2) ++ (ecells es).drop ((i + 1) * 2) := by
  rw [ecells_take, ecells_drop, ← ecells_app, List.eraseIdx_eq_take_drop_succ]

theorem erase_len (es : List Ent) (i : Nat) (h : i < es.length) : (es.eraseIdx i).length = es.length - 1 := List.length_eraseIdx_of_lt h
set_option maxHeartbeats 1600000 in
set_option maxRecDepth 100000 in
theorem del_c (B g n cap i : Nat) (es : List Ent) (w : World) (hown : w.ownsRow B 49 2 (.slice (some ⟨g, 0, none⟩) n cap) n (ecells es)) (hn : es.length = n) (hi : i < n) (hone : ∀ e ∈ es, e.v.oneCell' = true) (hcapb : cap ≤ 9223372036854775807) :
    Calls Try.prog 16 #[.slice (some ⟨g, 0, none⟩) n cap, .int .i64 i, .int .i64 ((i : Int) + 1)] w fun e w' => e = .returned (.slice (some ⟨g, 0, none⟩) (n - 1) cap) ∧
      w'.ownsRow B 49 2 (.slice (some ⟨g, 0, none⟩) (n - 1) cap) (n - 1) (ecells (es.eraseIdx i)) ∧ Fr B (fun t => t == 49) w w' := by
  obtain ⟨i0, hi0, hz0, hz1, hz2⟩ := info_parts info49
  obtain ⟨hlen0, hcase⟩ := hown
  rcases hcase with ⟨h, _⟩ | ⟨g', cap', cur, hv, hBg, hh, hnc, hcm, hcs, htake⟩
  · cases h
  · injection hv with e1 _ e3
    injection e1 with e1
    injection e1 with e1 _ _
    subst e1 e3
    have hnews_len : ((ecells es).drop ((i + 1) * 2)).length = (n - (i + 1)) * 2 := by rw [List.length_drop, ecells_len, hn]; omega
    obtain ⟨news, hnews⟩ : ∃ news, news = (ecells es).drop ((i + 1) * 2) := ⟨_, rfl⟩
    rw [← hnews] at hnews_len
    have hcur : ∀ j, j < n * 2 → cur[j]? = (ecells es)[j]? := by
      intro j hj
      rw [← htake, List.getElem?_take_of_lt (by rw [ecells_len, hn] at *; omega), Array.getElem?_toList]
    obtain ⟨A, hA, hsrc⟩ : ∃ A : Addr, (if cap = i + 1 then some (⟨g, 0, none⟩ : Addr) else some ⟨g, (i + 1) * 2, none⟩) = some A ∧ Hid (∀ j u, news[j]? = some u → w.drew.cell? (A.add j) = some u) := by
      by_cases h : cap = i + 1
      · refine ⟨⟨g, 0, none⟩, by simp [h], fun j u hu => ?_⟩
        have h0 : news.length = 0 := by rw [hnews_len]; omega
        rw [List.length_eq_zero_iff.1 h0] at hu
        simp at hu
      · refine ⟨⟨g, (i + 1) * 2, none⟩, by simp [h], fun j u hu => ?_⟩
        have hj : j < (n - (i + 1)) * 2 := by
          have := (List.getElem?_eq_some_iff.1 hu).1
          rwa [hnews_len] at this
        rw [Go.WideShapes.add_plain]
        show w.cell? _ = _
        rw [Blk.cell (t := 49) (cs := cur) hh, hcur _ (by omega), ← hu, hnews, List.getElem?_drop]
    have s1 : Hid (news.length = (n - (i + 1)) * 2) := hnews_len
    have s2 : Hid (∀ u ∈ news, u.oneCell' = true) := by
      intro u hu
      rw [hnews] at hu
      obtain ⟨e, he, hm⟩ := List.mem_flatMap.1 (List.mem_of_mem_drop hu)
      simp only [List.mem_cons, List.not_mem_nil, or_false] at hm
      rcases hm with rfl | rfl
      · rfl
      · exact hone e he
    have s3 : Hid (i * 2 + news.length ≤ cur.size) := by show i * 2 + news.length ≤ cur.size; rw [hnews_len, hcs]; omega
    obtain ⟨W1, hW1⟩ : ∃ W1, W1 = w.drew.setRow g (cur.toList.take (i * 2) ++ news ++ cur.toList.drop (i * 2 + news.length)).toArray := ⟨_, rfl⟩
    have hh1 : W1.heap[g]? = some (.cells (cur.toList.take (i * 2) ++ news ++ cur.toList.drop (i * 2 + news.length)).toArray 49 (0, 0)) := by rw [hW1]; exact setRow_heap _ g cur _ 49 (0, 0) hh
    obtain ⟨cur1, hcur1⟩ : ∃ c, c = (cur.toList.take (i * 2) ++ news ++ cur.toList.drop (i * 2 + news.length)).toArray := ⟨_, rfl⟩
    have hsz1 : cur1.size = cap * 2 := by
      rw [hcur1]
      simp only [List.size_toArray, List.length_append, List.length_take, List.length_drop, Array.length_toList]
      omega
    rw [← hcur1] at hh1
    obtain ⟨W2, hW2⟩ : ∃ W2, W2 = W1.setRow g (cur1.toList.take ((n - 1) * 2) ++ [Value.int .u16 0, Value.slice none 0 0] ++ cur1.toList.drop ((n - 1) * 2 + 2)).toArray := ⟨_, rfl⟩
    have hcl : ∀ ty, (Builtin.clear_ #[43] ty #[.slice (some ⟨g, (i + (n - (i + 1))) * 2, none⟩) (n - (i + (n - (i + 1)))) (cap - (i + (n - (i + 1))))]).run Try.prog W1 = .ok (.tuple #[]) W2 := fun ty => by
      rw [show i + (n - (i + 1)) = n - 1 by omega, show n - (n - 1) = 1 by omega, hW2]
      exact clear_run g ((n - 1) * 2) _ cur1 W1 hh1 (by omega) ty
    have HW2 := Lib.hid hW2
    clear hW2
    have HW : Hid (W1 = w.drew.setRow g (cur.toList.take (i * 2) ++ news ++ cur.toList.drop (i * 2 + news.length)).toArray) := hW1
    have HX : Hid (cur1 = (cur.toList.take (i * 2) ++ news ++ cur.toList.drop (i * 2 + news.length)).toArray) := hcur1
    have HN : Hid (news = (ecells es).drop ((i + 1) * 2)) := hnews
    have HT : Hid (cur.toList.take (n * 2) = ecells es) := htake
    have HH : Hid (w.heap[g]? = some (.cells cur 49 (0, 0))) := hh
    have HL : Hid (es.length = n) := hn
    have HS : Hid (cur.size = cap * 2) := hcs
    have HS1 : Hid (cur1.size = cap * 2) := hsz1
    have hic : i ≤ cap := by omega
    have hwr : IntKind.i64.wrap ((i : Int) + 1) = (i : Int) + 1 := by rw [IntKind.wrap_i64]; omega
    have hp0 : (0 : Int) ≤ (i : Int) + 1 := by omega
    have hp1 : (i : Int) + 1 ≤ (n : Int) := by omega
    have hp2 : ((i : Int) + 1).toNat = i + 1 := by omega
    have hp3 : ((i : Int) == (i : Int) + 1) = false := by simp only [beq_eq_false_iff_ne]; omega
    clear hW1 hcur1 hnews htake hn hcur hnews_len hcs hlen0 hsz1
    go_enter Try.func16, Try.ntmps16
    go_wp2_with fail
    go_region_law (refine step_append_row rfl (.tmp 22) (.tmp 25) 43 rfl 49 i0 2 Try.underlying43 hi0 hz1 g i cap cur HH.out (by simp [Act.eval, Act.put]) A (n - (i + 1)) (cap - (i + 1)) news (by simp [Act.eval, Act.put]) s1.out hsrc.out s2.out (by omega) s3.out ?_; rw [← HW.out])
    go_wp2
    go_ret
    have hl0 : (ecells es).length = n * 2 := by rw [ecells_len, HL.out]
    have hnl : news.length = (n - (i + 1)) * 2 := s1.out
    have ht1 : cur1.toList.take ((n - 1) * 2) = ecells (es.eraseIdx i) := by
      rw [HX.out, erase_cells, HN.out.symm]
      have e1 : cur.toList.take (i * 2) = (ecells es).take (i * 2) := by
        rw [← HT.out, List.take_take]; congr 1; omega
      rw [e1]
      have hle : ((ecells es).take (i * 2) ++ news).length = (n - 1) * 2 := by rw [List.length_append, List.length_take, hl0, hnl]; omega
      rw [show (n - 1) * 2 = ((ecells es).take (i * 2) ++ news).length from hle.symm]
      exact List.take_left
    have hh2 : W2.heap[g]? = some (.cells (cur1.toList.take ((n - 1) * 2) ++ [Value.int .u16 0, Value.slice none 0 0] ++ cur1.toList.drop ((n - 1) * 2 + 2)).toArray 49 (0, 0)) := by
      rw [HW2.out]; exact setRow_heap _ g cur1 _ 49 (0, 0) hh1
    have hs1' := HS1.out
    refine ⟨by rw [show i + (n - (i + 1)) = n - 1 by omega]; rfl, ⟨by rw [ecells_len, erase_len es i (by rw [HL.out]; exact hi), HL.out], .inr ⟨g, cap, _, rfl, hBg, hh2, by omega, hcm, ?_, ?_⟩⟩, ?_⟩
    · simp only [List.size_toArray, List.length_append, List.length_take, List.length_drop, Array.length_toList, List.length_cons, List.length_nil]
      omega
    · have hl1 : (cur1.toList.take ((n - 1) * 2)).length = (n - 1) * 2 := by rw [List.length_take, Array.length_toList]; omega
      show List.take ((n - 1) * 2) _ = _
      rw [← ht1, List.append_assoc]
      conv => lhs; rw [show (n - 1) * 2 = (cur1.toList.take ((n - 1) * 2)).length from hl1.symm]
      rw [hl1]
      exact List.take_left' hl1
    · refine ⟨by rw [HW2.out, HW.out]; rfl, by rw [HW2.out, HW.out]; rfl, by rw [HW2.out, HW.out]; rfl, by rw [HW2.out, HW.out]; simp, fun k hk hc => ?_⟩
      have hkg : k ≠ g := by
        rintro rfl
        rcases hc with hc | ⟨cs, t, fr, e, ht⟩
        · omega
        · rw [HH.out] at e
          injection e with e
          injection e with _ e2
          rw [← e2] at ht
          simp at ht
      rw [HW2.out, setRow_other _ g k _ hkg, HW.out, setRow_other _ g k _ hkg]
      rfl
end Go.Proofs.Ytodcmnjimjjahaa
