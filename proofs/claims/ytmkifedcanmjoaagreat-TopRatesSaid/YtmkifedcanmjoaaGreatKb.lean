/- Texts of this claim, one behind the other: HallL, DelU, Free, Pick. Each says ahead of itself what it proves, and its conditions. -/
import Derived.Test.YtmkifedcanmjoaaGreatJy
import Derived.Test.YtmkifedcanmjoaaGreatKa
/- hall.lane, hall.source (contracts). Conditions: none. -/
set_option linter.unusedVariables false
set_option linter.unusedSimpArgs false
namespace Go.Proofs.YtmkifedcanmjoaaGreat
open Go.RowKit
attribute [local go_sem ↓] Go.wp_at_zero Go.wp_at_succ
def laneP (P : Ptrs) (h : HallD) (i t2 k : Nat) : Value := match h.lane t2 k with | none => .pointer none | some _ => .pointer (some ⟨P.lane i t2 k, 0, none⟩)
def laneRow (P : Ptrs) (h : HallD) (i t2 : Nat) : List Value := (List.range 8).map (laneP P h i t2)
theorem infoL8 : (Tryz.prog.info? 105).map (·.size) = some 8 := by kernel_rfl
theorem DeskM.laneRow_ {L : Lab} {w : World} {g : Nat} {P : Ptrs} {D : DeskD} (h : DeskM L w g P D) {i t2 : Nat} (hi : i < 4) (ht : t2 < 8) : w.rangeAt g (i * 367 + 303 + t2 * 8) (laneRow P (D.hall i) i t2) :=
  h.part _ _ fun C hC j v hv => by
    unfold laneRow at hv
    have hj : j < 8 := by have := get_len hv; simpa using this
    rw [List.getElem?_map, List.getElem?_range hj] at hv
    injection hv with hv
    have h1 := hC.lane i hi t2 ht j hj
    rw [show i * 367 + 303 + t2 * 8 + j = 367 * i + 303 + 8 * t2 + j by omega, ← hv]
    unfold laneP
    cases hl : (D.hall i).lane t2 j with
    | none => rw [hl] at h1; exact h1
    | some l => rw [hl] at h1; exact h1.1
theorem index_lanes (w : World) (M : List Value) (k : Nat) (v : Value) (hk : k < 8) (hl : M[k]? = some v) : (Instr.index 105 (.agg M.toArray) (.int .i64 (k : Int))).run Tryz.prog w = .ok v w := by
  have h0 : (0 ≤ (k : Int) ∧ (k : Int) < 8) := by omega
  simp [Instr.index, run_underlying Tryz.underlying105, asIntOf, hk, go_sem, hl]
theorem laneFrom_step (h : HallD) (t2 : Nat) (x : Int) (f i : Nat) : laneFrom h t2 x (f + 1) i = if laneIs h t2 x i then some i else laneFrom h t2 x f (i + 1) := rfl
set_option maxRecDepth 100000 in
set_option maxHeartbeats 6400000 in
theorem hlane_c {L : Lab} {w : World} {g : Nat} {P : Ptrs} {D : DeskD} (hd : DeskM L w g P D) {i t2 : Nat} (hi : i < 4) (ht : t2 < 8) (x : Int) :
    Calls Tryz.prog 119 #[.pointer (some ⟨g, i * 367, none⟩), .int .i64 (t2 : Int), .int .u32 x] w fun e w' => e = .returned (.tuple #[.int .i64 (optN (laneS (D.hall i) t2 x)), .bool (laneS (D.hall i) t2 x).isSome]) ∧ Below w.heap.size w w' := by
  obtain ⟨M, hM⟩ : ∃ M, M = laneRow P (D.hall i) i t2 := ⟨_, rfl⟩
  have HRG : Hid (w.rangeAt g (i * 367 + 303 + t2 * 8) M) := by show World.rangeAt _ _ _ _; rw [hM]; exact hd.laneRow_ hi ht
  have HML : Hid (M.length = 8) := by show _ = _; rw [hM]; simp [laneRow]
  have HI : Hid ((Tryz.prog.info? 105).map (·.size) = some M.length) := by show _ = _; rw [HML.out]; exact infoL8
  have HMK : Hid (∀ k, k < 8 → M[k]? = some (laneP P (D.hall i) i t2 k)) := fun k hk => by rw [hM]; unfold laneRow; rw [List.getElem?_map, List.getElem?_range hk]; rfl
  obtain ⟨R, hR⟩ : ∃ R, R = laneS (D.hall i) t2 x := ⟨_, rfl⟩
  have HRE := Lib.hid hR
  have HD := Lib.hid hd
  have HI4 := Lib.hid hi
  have HT8 := Lib.hid ht
  have ht0 : (0 : Int) ≤ (t2 : Int) := by omega
  have ht1 : (t2 : Int) < 8 := by omega
  rw [← hR]
  clear hM hR hd hi
  go_enter Tryz.func119, Tryz.ntmps119
  go_upto_region 2 with (first
    | ((with_reducible show wpList _ _ _ (⟨some 15, .load _ (.tmp 14), _, _, _, _⟩ :: _) _ _); refine wpList_load_mid rfl 105 (.tmp 14) rfl g (i * 367 + 303 + t2 * 8) rfl M _ HRG.out Tryz.underlying105 rfl HI.out ?_))
  clear ht0 ht1
  obtain ⟨V, hV⟩ : ∃ V, V = M.toArray := ⟨_, rfl⟩
  have HVE := Lib.hid hV
  rw [← hV]
  clear hV HRG HI ht
  go_loopg [16] 8 (fun gg v wx => ∃ k : Nat, gg = 8 - k ∧ k ≤ 8 ∧ v = .int .i64 (k : Int) ∧ laneFrom (D.hall i) t2 x (8 - k) k = R ∧ Below w.heap.size w wx)
  case atStart => exact ⟨0, rfl, by omega, rfl, HRE.out.symm, Below.refl _ _⟩
  case round =>
    obtain ⟨k, hgg, hk, rfl, hf, hb⟩ := hrel
    have HF := Lib.hid hf
    have HGG := Lib.hid hgg
    have HB := Lib.hid hb
    clear hf hgg hb
    by_cases hkn : k < 8
    · have hki : (k : Int) < 8 := by omega
      have hki0 : (0 : Int) ≤ (k : Int) := by omega
      have hw1 : IntKind.i64.wrap ((k : Int) + 1) = ((k + 1 : Nat) : Int) := by rw [IntKind.wrap_i64]; omega
      have HLT := Lib.hid hkn
      have HS : Hid (R = if laneIs (D.hall i) t2 x k then some k else laneFrom (D.hall i) t2 x (8 - (k + 1)) (k + 1)) := by
        show _ = _
        rw [← HF.out, show 8 - k = (8 - (k + 1)) + 1 by omega, laneFrom_step]
      have hmk := HMK.out k hkn
      unfold laneP at hmk
      unfold laneIs at HS
      cases hlk : (D.hall i).lane t2 k with
      | none =>
        rw [hlk] at hmk HS
        simp only at hmk HS
        have hidx : ∀ wx, (Instr.index 105 (.agg V) (.int .i64 (k : Int))).run Tryz.prog wx = .ok (.pointer none) wx := fun wx => by rw [HVE.out]; exact index_lanes wx M k _ hkn hmk
        have HS2 : Hid (laneFrom (D.hall i) t2 x (8 - (k + 1)) (k + 1) = R) := by show _ = _; rw [HS.out]; rfl
        clear hmk hlk hkn hk HS
        go_wp2_with fail
        go_roundg (8 - (k + 1))
        case measure => have := HLT.out; have := HGG.out; omega
        case rel => have hlt := HLT.out; exact ⟨k + 1, rfl, by omega, by first | rfl | go_num, HS2.out, HB.out⟩
      | some l =>
        rw [hlk] at hmk HS
        simp only at hmk HS
        have hidx : ∀ wx, (Instr.index 105 (.agg V) (.int .i64 (k : Int))).run Tryz.prog wx = .ok (.pointer (some ⟨P.lane i t2 k, 0, none⟩)) wx := fun wx => by rw [HVE.out]; exact index_lanes wx M k _ hkn hmk
        have HLM : Hid (LaneM L wr i t2 k (P.lane i t2 k) l) := ((HD.out.below HB.out).lane_ HI4.out HT8.out hkn hlk).2
        obtain ⟨p, hp⟩ : ∃ p, p = P.lane i t2 k := ⟨_, rfl⟩
        rw [← hp] at HLM hidx
        obtain ⟨y, hy⟩ : ∃ y, y = l.ssrc := ⟨_, rfl⟩
        have HSS : Hid (∀ wx, Below wr.heap.size wr wx → Calls Tryz.prog 104 #[.pointer (some ⟨p, 0, none⟩)] wx fun e w' => e = .returned (.int .u32 y) ∧ w' = wx) := fun wx hbx => by
          rw [hy]
          exact ssrc_c (HLM.out.stp (Stp.below hbx (HD.out.below HB.out).top) (X := noX) (fun h => h) (fun h => h))
        replace HS : Hid (R = if (l.ssrc == x) = true then some k else laneFrom (D.hall i) t2 x (8 - (k + 1)) (k + 1)) := HS.out
        rw [← hy] at HS
        clear hmk hlk hkn hk hp hy HLM
        have hB0 := Below.refl wr.heap.size wr
        by_cases hyx : y = x
        · subst hyx
          have q1 : (y == y) = true := by simp
          have HS2 : Hid (R = some k) := by show _ = _; rw [HS.out]; simp
          clear HS
          go_wp2_with (first
            | (go_at_call 104
               refine (HSS.out _ (by repeat (first | with_reducible assumption | with_reducible refine bdrew ?_ | with_reducible refine below_drewN ?_ _))).mono ?_
               rintro e0 w1 ⟨rfl, rfl⟩))
          go_ret2
          refine ⟨?_, by repeat (first | exact HB.out | refine bdrew ?_ | refine below_drewN ?_ _)⟩
          rw [HS2.out]
          rfl
        · have q1 : (y == x) = false := by simp [hyx]
          have HS2 : Hid (laneFrom (D.hall i) t2 x (8 - (k + 1)) (k + 1) = R) := by show _ = _; rw [HS.out, q1]; rfl
          clear HS hyx
          go_wp2_with (first
            | (go_at_call 104
               refine (HSS.out _ (by repeat (first | with_reducible assumption | with_reducible refine bdrew ?_ | with_reducible refine below_drewN ?_ _))).mono ?_
               rintro e0 w1 ⟨rfl, rfl⟩))
          go_roundg (8 - (k + 1))
          case measure => have := HLT.out; have := HGG.out; omega
          case rel => have hlt := HLT.out; exact ⟨k + 1, rfl, by omega, by first | rfl | go_num, HS2.out, by repeat (first | exact HB.out | refine bdrew ?_ | refine below_drewN ?_ _)⟩
    · have hki : ¬ (k : Int) < 8 := by omega
      have hke : k = 8 := by omega
      subst hke
      clear hkn hk
      have HS2 : Hid (R = none) := by show _ = _; rw [← HF.out]; rfl
      go_wp2_with fail
      go_ret2
      refine ⟨?_, HB.out⟩
      rw [HS2.out]
      rfl
theorem infoT33 : (Tryz.prog.info? 102).map (·.size) = some 33 := by kernel_rfl
theorem infoT11 : (Tryz.prog.info? 101).map (·.size) = some 11 := by kernel_rfl
theorem NumV.one {k : IntKind} {L : Lab} {w : World} {v : Value} {l : List Int} (h : NumV k L w v l) : v.oneCell' = true := by
  obtain ⟨⟨A, c, rfl, _⟩, _⟩ := h; rfl
theorem TmplV.one {L : Lab} {w : World} {v : Value} {l : List TmplD} (h : TmplV L w v l) : v.oneCell' = true := by
  obtain ⟨⟨A, c, _, rfl, _⟩, _⟩ := h; rfl
theorem SizesV.one {L : Lab} {w : World} {v : Value} {l : List (Int × Int)} (h : SizesV L w v l) : v.oneCell' = true := by
  obtain ⟨⟨A, c, rfl, _⟩, _⟩ := h; rfl
/-- A stream's eleven cells. -/
def strL (s : StrmD) (v1 v2 v3 v4 : Value) : List Value := [.bool s.shown, .int .u32 s.ssrc, .int .i64 s.rate, .int .i64 s.st.off, .int .i64 s.st.tgt, v1, .int .i64 s.st.chains, v2, v3, .int .u32 s.active, v4]
theorem StrmC.list {L : Lab} {w : World} {f : Nat → Option Value} {s : StrmD} (h : StrmC L w f s) : ∃ v1 v2 v3 v4, TmplV L w v1 s.st.tmpl ∧ NumV .i64 L w v2 s.st.prot ∧ SizesV L w v3 s.st.sizes ∧ NumV .u16 L w v4 s.seqs ∧ ∀ k, k < 11 → f k = (strL s v1 v2 v3 v4)[k]? := by
  obtain ⟨e1, e2, e3, ⟨f1, f2, ⟨v1, f3, f4⟩, f5, ⟨v2, f6, f7⟩, ⟨v3, f8, f9⟩⟩, e5, ⟨v4, e6, e7⟩⟩ := h
  refine ⟨v1, v2, v3, v4, f4, f7, f9, e7, fun k hk => ?_⟩
  rcases k with _ | _ | _ | _ | _ | _ | _ | _ | _ | _ | _ | k
  · exact e1
  · exact e2
  · exact e3
  · exact f1
  · exact f2
  · exact f3
  · exact f5
  · exact f6
  · exact f8
  · exact e5
  · exact e6
  · omega
theorem fitS {L : Lab} {w : World} {s : StrmD} {v1 v2 v3 v4 : Value} (h1 : TmplV L w v1 s.st.tmpl) (h2 : NumV .i64 L w v2 s.st.prot) (h3 : SizesV L w v3 s.st.sizes) (h4 : NumV .u16 L w v4 s.seqs) : FitL 101 (strL s v1 v2 v3 v4) := ⟨infoT11, all_oneCell_toArray fun v hv => by
  simp only [strL, List.mem_cons, List.not_mem_nil, or_false] at hv
  rcases hv with rfl | rfl | rfl | rfl | rfl | rfl | rfl | rfl | rfl | rfl | rfl
  all_goals first | rfl | exact h1.one | exact h2.one | exact h3.one | exact h4.one⟩
/-- The streams of a member, side by side: three times eleven cells. -/
theorem DeskM.strRow_ {L : Lab} {w : World} {g : Nat} {P : Ptrs} {D : DeskD} (h : DeskM L w g P D) {i s : Nat} (hi : i < 4) (hs : s < 8) : ∃ M : List Value, M.length = 33 ∧ w.rangeAt g (i * 367 + 39 + s * 33) M ∧ ∀ j, j < 3 → ∃ v1 v2 v3 v4, TmplV L w v1 ((D.hall i).str s j).st.tmpl ∧ NumV .i64 L w v2 ((D.hall i).str s j).st.prot ∧ SizesV L w v3 ((D.hall i).str s j).st.sizes ∧ NumV .u16 L w v4 ((D.hall i).str s j).seqs ∧ ∀ k, k < 11 → M[j * 11 + k]? = (strL ((D.hall i).str s j) v1 v2 v3 v4)[k]? := by
  obtain ⟨h1, h2, C, h3, h4⟩ := h
  have hl := h4.len
  refine ⟨(C.drop (i * 367 + 39 + s * 33)).take 33, by rw [List.length_take, List.length_drop]; omega, blk_mid h3 _ _ fun j v hv => ?_, fun j hj => ?_⟩
  · rw [List.getElem?_take] at hv
    split at hv
    · rw [List.getElem?_drop] at hv; exact hv
    · cases hv
  · obtain ⟨v1, v2, v3, v4, a1, a2, a3, a4, a5⟩ := (h4.strm i hi s hs j hj).list
    refine ⟨v1, v2, v3, v4, a1, a2, a3, a4, fun k hk => ?_⟩
    rw [List.getElem?_take_of_lt (by omega), List.getElem?_drop, ← a5 k hk, show i * 367 + 39 + s * 33 + (j * 11 + k) = 367 * i + 39 + 33 * s + 11 * j + k by omega]
theorem index_strs (w : World) (M N : List Value) (j : Nat) (hj : j < 3) (hM : M.length = 33) (hN : N.length = 11) (hl : ∀ k, k < 11 → M[j * 11 + k]? = N[k]?) : (Instr.index 102 (.agg M.toArray) (.int .i64 (j : Int))).run Tryz.prog w = .ok (.agg N.toArray) w := by
  have h0 : (0 ≤ (j : Int) ∧ (j : Int) < 3) := by omega
  have he : List.take 11 (List.drop (j * 11) M) = N := by
    apply List.ext_getElem?
    intro k
    rw [List.getElem?_take]
    split
    · rename_i hk
      rw [List.getElem?_drop]
      exact hl k (by omega)
    · rename_i hk
      exact (List.getElem?_eq_none (by omega)).symm
  simp [Instr.index, run_underlying Tryz.underlying102, asIntOf, hj, go_sem, Go.part, he]
theorem srcFrom_step (h : HallD) (s : Nat) (x : Int) (f j : Nat) : srcFrom h s x (f + 1) j = if srcIs h s x j then some j else srcFrom h s x f (j + 1) := rfl
def zStr : List Value := strL strm0 (.slice none 0 0) (.slice none 0 0) (.slice none 0 0) (.slice none 0 0)
set_option maxRecDepth 100000 in
set_option maxHeartbeats 6400000 in
theorem hsrc_c {L : Lab} {w : World} {g : Nat} {P : Ptrs} {D : DeskD} (hd : DeskM L w g P D) {i s : Nat} (hi : i < 4) (hs : s < 8) (x : Int) :
    Calls Tryz.prog 94 #[.pointer (some ⟨g, i * 367, none⟩), .int .i64 (s : Int), .int .u32 x] w fun e w' => e = .returned (.tuple #[.int .i64 (optN (srcS (D.hall i) s x)), .bool (srcS (D.hall i) s x).isSome]) ∧ Below w.heap.size w w' := by
  obtain ⟨M, hML, hRG, hMK⟩ := hd.strRow_ hi hs
  have HRG := Lib.hid hRG
  have HML := Lib.hid hML
  have HMK := Lib.hid hMK
  have HI : Hid ((Tryz.prog.info? 102).map (·.size) = some M.length) := by show _ = _; rw [HML.out]; exact infoT33
  obtain ⟨R, hR⟩ : ∃ R, R = srcS (D.hall i) s x := ⟨_, rfl⟩
  have HRE := Lib.hid hR
  have hs0 : (0 : Int) ≤ (s : Int) := by omega
  have hs1 : (s : Int) < 8 := by omega
  rw [← hR]
  clear hML hRG hMK hR hd hi hs
  go_enter Tryz.func94, Tryz.ntmps94
  go_upto_region 2 with (first
    | ((with_reducible show wpList _ _ _ (⟨some 15, .load _ (.tmp 14), _, _, _, _⟩ :: _) _ _); refine wpList_load_mid rfl 102 (.tmp 14) rfl g (i * 367 + 39 + s * 33) rfl M _ HRG.out Tryz.underlying102 rfl HI.out ?_))
  clear hs0 hs1
  obtain ⟨V, hV⟩ : ∃ V, V = M.toArray := ⟨_, rfl⟩
  have HVE := Lib.hid hV
  rw [← hV]
  clear hV HRG HI
  go_loopg [16] 3 (fun gg v wx => ∃ k : Nat, gg = 3 - k ∧ k ≤ 3 ∧ v = .int .i64 (k : Int) ∧ srcFrom (D.hall i) s x (3 - k) k = R ∧ Below w.heap.size w wx)
  case atStart => exact ⟨0, rfl, by omega, rfl, HRE.out.symm, Below.refl _ _⟩
  case round =>
    obtain ⟨k, hgg, hk, rfl, hf, hb⟩ := hrel
    have HF := Lib.hid hf
    have HGG := Lib.hid hgg
    have HB := Lib.hid hb
    clear hf hgg hb
    by_cases hkn : k < 3
    · have hki : (k : Int) < 3 := by omega
      have hki0 : (0 : Int) ≤ (k : Int) := by omega
      have hw1 : IntKind.i64.wrap ((k : Int) + 1) = ((k + 1 : Nat) : Int) := by rw [IntKind.wrap_i64]; omega
      have HLT := Lib.hid hkn
      have HS : Hid (R = if srcIs (D.hall i) s x k then some k else srcFrom (D.hall i) s x (3 - (k + 1)) (k + 1)) := by
        show _ = _
        rw [← HF.out, show 3 - k = (3 - (k + 1)) + 1 by omega, srcFrom_step]
      obtain ⟨v1, v2, v3, v4, a1, a2, a3, a4, a5⟩ := HMK.out k hkn
      obtain ⟨N, hN⟩ : ∃ N, N = strL ((D.hall i).str s k) v1 v2 v3 v4 := ⟨_, rfl⟩
      have HNF : Hid (FitL 101 N) := by show FitL _ _; rw [hN]; exact fitS a1 a2 a3 a4
      have HNL : Hid (N.length = 11) := by show _ = _; rw [hN]; rfl
      rw [← hN] at a5
      have hidx : ∀ wx, (Instr.index 102 (.agg V) (.int .i64 (k : Int))).run Tryz.prog wx = .ok (.agg N.toArray) wx := fun wx => by rw [HVE.out]; exact index_strs wx M N k hkn HML.out HNL.out a5
      unfold srcIs at HS
      obtain ⟨sh, hsh⟩ : ∃ sh, sh = ((D.hall i).str s k).shown := ⟨_, rfl⟩
      obtain ⟨y, hy⟩ : ∃ y, y = ((D.hall i).str s k).ssrc := ⟨_, rfl⟩
      have HN0 : Hid (N[0]? = some (.bool sh)) := by show _ = _; rw [hN, hsh]; rfl
      have HN1 : Hid (N[1]? = some (.int .u32 y)) := by show _ = _; rw [hN, hy]; rfl
      rw [← hsh, ← hy] at HS
      clear hN a1 a2 a3 a4 a5 hsh hy hkn hk
      go_upto_region 4 with (first
        | ((with_reducible show wpList _ _ _ (⟨none, .store _ (.tmp 9) _, _, _, _, _⟩ :: _) _ _); refine wpList_store_mid rfl 101 (.tmp 9) (.tmp 19) rfl wr.heap.size 0 N.toArray rfl rfl (there_new wr 101 zStr.toArray _ (by show N.length ≤ 11; rw [HNL.out]; exact Nat.le_refl _)) HNF.out.infos HNF.out.one ?_))
      obtain ⟨b, hb⟩ : ∃ b, b = wr.heap.size := ⟨_, rfl⟩
      obtain ⟨w2, hw2⟩ : ∃ w2, w2 = (wr.alloc (.cells zStr.toArray 101)).setCells wr.heap.size 0 N := ⟨_, rfl⟩
      have HX2 : Hid (Blk w2 b 101 N.toArray) := by
        show Blk _ _ _ _
        rw [hw2, hb]
        exact blk_setAll (l := zStr) (Blk.new wr _ _) (by rw [HNL.out]; rfl)
      have HB2 : Hid (Below w.heap.size w w2) := by show Below _ _ _; rw [hw2]; exact below_setCells (balloc HB.out _) HB.out.size _ _
      have hE2 : (wr.alloc (.cells #[.bool false, .int .u32 0, .int .i64 0, .int .i64 0, .int .i64 0, .slice none 0 0, .int .i64 0, .slice none 0 0, .slice none 0 0, .int .u32 0, .slice none 0 0] 101)).setCells wr.heap.size 0 N = w2 := hw2.symm
      rw [hE2, ← hb]
      clear hw2 hb hE2
      have c0 : w2.cell? ⟨b, 0, none⟩ = some (.bool sh) := by rw [HX2.out.cell, List.getElem?_toArray]; exact HN0.out
      have c1 : w2.cell? ⟨b, 1, none⟩ = some (.int .u32 y) := by rw [HX2.out.cell, List.getElem?_toArray]; exact HN1.out
      have hq : (sh = true ∧ y = x) ∨ ((sh && (y == x)) = false ∧ (sh = false ∨ (sh = true ∧ (y == x) = false))) := by
        by_cases h1 : y = x
        · cases sh
          · exact .inr ⟨rfl, .inl rfl⟩
          · exact .inl ⟨rfl, h1⟩
        · have h2 : (y == x) = false := by simp [h1]
          cases sh
          · exact .inr ⟨rfl, .inl rfl⟩
          · exact .inr ⟨by rw [h2]; rfl, .inr ⟨rfl, h2⟩⟩
      rcases hq with ⟨hq1, hq2⟩ | ⟨hq0, hq⟩
      · subst hq1 hq2
        have q1 : (y == y) = true := by simp
        have HS2 : Hid (R = some k) := by show _ = _; rw [HS.out]; simp
        clear HS
        go_wp2_with fail
        go_ret2
        refine ⟨?_, by repeat (first | exact HB2.out | refine bdrew ?_ | refine below_drewN ?_ _)⟩
        rw [HS2.out]
        rfl
      · have HS2 : Hid (srcFrom (D.hall i) s x (3 - (k + 1)) (k + 1) = R) := by show _ = _; rw [HS.out, hq0]; rfl
        clear HS hq0
        rcases hq with hq | ⟨hq, hq2⟩
        all_goals
          subst hq
          go_wp2_with fail
          go_roundg (3 - (k + 1))
          case measure => have := HLT.out; have := HGG.out; omega
          case rel => have hlt := HLT.out; exact ⟨k + 1, rfl, by omega, by first | rfl | go_num, HS2.out, by repeat (first | exact HB2.out | refine bdrew ?_ | refine below_drewN ?_ _)⟩
    · have hki : ¬ (k : Int) < 3 := by omega
      have hke : k = 3 := by omega
      subst hke
      clear hkn hk
      have HS2 : Hid (R = none) := by show _ = _; rw [← HF.out]; rfl
      go_wp2_with fail
      go_ret2
      refine ⟨?_, HB.out⟩
      rw [HS2.out]
      rfl
end Go.Proofs.YtmkifedcanmjoaaGreat
/- slices.Delete of one number, in place (contract). Conditions: the row lies in a block. -/
set_option linter.unusedVariables false
set_option linter.unusedSimpArgs false
namespace Go.Proofs.YtmkifedcanmjoaaGreat
open Go.RowKit
attribute [local go_sem ↓] Go.wp_at_zero Go.wp_at_succ
theorem infoU : (Tryz.prog.info? 32).map (fun i => (i.zero, i.size, i.bytes)) = some (some (.int .u32 0), 1, 4) := by kernel_rfl
theorem zeroU (w : World) : (zeroValue 32).run Tryz.prog w = .ok (.int .u32 0) w := by kernel_rfl
theorem step_append_room {P : Program} {ops : Array Oper} {o : Oper} {a : Act} {w : World} {K : Act → World → Prop} {Q : Exit → Act → World → Prop} {E : Prop}
    (hg : o.guard = none) (s x : Operand) (t : TypeId) (hop : o.op = Op.call { callee := Callee.builtin Builtin.append, args := #[s, x], argTypes := #[t, t] }) (u y r : Value) (w' : World) (hs : a.eval s = u) (hx : a.eval x = y)
    (hrun : (Builtin.append_ #[t, t] o.type #[u, y]).run P w = .ok r w') (hK : K (a.put o.dst r) w') : if Region.wanted o (yielded ops a.tmps) = true then Oper.wp P o a w K Q else E := by
  have hw : Region.wanted o (yielded ops a.tmps) = true := by simp [Region.wanted, hg]
  rw [if_pos hw]
  unfold Oper.wp
  simp only [execOp, hop, resolve, invoke, builtin, Sem.run_bind, Sem.run_pure, Result.andThen_ok, List.map_toArray, List.map_cons, List.map_nil, hs, hx, hrun]
  exact hK
theorem clear_one (g m c : Nat) (cur : Array Value) (w : World) (hg : Blk w g 32 cur) (hfit : m + 1 ≤ cur.size) (ty : TypeId) :
    (Builtin.clear_ #[33] ty #[.slice (some ⟨g, m, none⟩) 1 c]).run Tryz.prog w = .ok (.tuple #[]) (w.setRow g (cur.toList.take m ++ [Value.int .u32 0] ++ cur.toList.drop (m + 1)).toArray) := by
  have hst := run_storeCells_at Tryz.prog g m 32 [Value.int .u32 0] 0 cur w hg (by simpa using hfit) (by simp [Value.oneCell'])
  simp only [Nat.add_zero, List.length_cons, List.length_nil, Nat.zero_add] at hst
  have hz := zeroU w
  have hzc : (Builtin.zeroCells (Value.int .u32 0).cells 1).toList = [Value.int .u32 0] := by simp [Builtin.zeroCells, Value.cells]
  simp only [Builtin.clear_]
  simp [run_underlying Tryz.underlying33, hz, hzc, hst]
set_option maxHeartbeats 6400000 in
set_option maxRecDepth 100000 in
theorem delU_c (g c i : Nat) (a b xs : List Value) (w : World) (hb : Blk w g 32 (a ++ xs ++ b).toArray) (hc : xs.length ≤ c) (hcm : c ≤ maxLen) (hi : i < xs.length) (hone : ∀ v ∈ xs, v.oneCell' = true) :
    Calls Tryz.prog 202 #[.slice (some ⟨g, a.length, none⟩) xs.length c, .int .i64 (i : Int), .int .i64 ((i : Int) + 1)] w fun e w' => e = .returned (.slice (some ⟨g, a.length, none⟩) (xs.length - 1) c) ∧
      Blk w' g 32 (a ++ xs.eraseIdx i ++ (.int .u32 0 :: b)).toArray ∧ Sv (fun k => k = g) w w' ∧ w'.heap.size = w.heap.size := by
  obtain ⟨i0, hi0, hz0, hz1, hz2⟩ := info_parts infoU
  obtain ⟨o, ho⟩ : ∃ o, o = a.length := ⟨_, rfl⟩
  obtain ⟨n, hn⟩ : ∃ n, n = xs.length := ⟨_, rfl⟩
  obtain ⟨news, hnews⟩ : ∃ news, news = xs.drop (i + 1) := ⟨_, rfl⟩
  obtain ⟨m, hm⟩ : ∃ m, m = n - (i + 1) := ⟨_, rfl⟩
  have hnl : news.length = m * 1 := by rw [hnews, List.length_drop, hm, hn]; omega
  obtain ⟨A, hA, hsrc⟩ : ∃ A : Addr, (if c = i + 1 then some (⟨g, o, none⟩ : Addr) else some ⟨g, o + (i + 1), none⟩) = some A ∧ Hid (Src Tryz.prog 1 33 (.slice (some A) m (c - (i + 1))) m news w.drew) := by
    have h1 : ∀ u ∈ news, u.oneCell' = true := fun u hu => hone u (by rw [hnews] at hu; exact List.mem_of_mem_drop hu)
    by_cases h : c = i + 1
    · refine ⟨⟨g, o, none⟩, by simp [h], ?_⟩
      refine Src.ofSlice _ Tryz.underlying33 _ m _ news hnl (fun j u hu => ?_) h1
      have h0 : news.length = 0 := by omega
      rw [List.length_eq_zero_iff.1 h0] at hu
      simp at hu
    · refine ⟨⟨g, o + (i + 1), none⟩, by simp [h], ?_⟩
      refine Src.ofSlice _ Tryz.underlying33 _ m _ news hnl (fun j u hu => ?_) h1
      have hj : j < news.length := (List.getElem?_eq_some_iff.1 hu).1
      rw [Go.WideShapes.add_plain]
      show w.cell? _ = _
      rw [hb.cell, List.getElem?_toArray, List.append_assoc, List.getElem?_append_right (by omega), List.getElem?_append_left (by omega), ← hu, hnews, List.getElem?_drop]
      congr 1
      omega
  have hrun := run_append_room_src (P := Tryz.prog) w.drew 33 33 33 32 i0 Tryz.underlying33 hi0 g o i c (.slice (some A) m (c - (i + 1))) m news (hz1 ▸ hsrc.out) (by omega) (fun j hj => by
    show (w.cell? _).isSome = true
    rw [hb.cell, List.getElem?_toArray, hz1, List.getElem?_eq_getElem (by simp only [List.length_append]; omega)]
    rfl) (fun j _ => hb.frozen _)
  rw [hz1] at hrun
  obtain ⟨W1, hW1⟩ : ∃ W1, W1 = w.drew.setCells g (o + i * 1) news := ⟨_, rfl⟩
  rw [← hW1] at hrun
  have hb1 : Blk W1 g 32 (a ++ (xs.take i ++ news) ++ (xs.drop (n - 1) ++ b)).toArray := by
    have hb0 : Blk w.drew g 32 ((a ++ xs.take i) ++ (xs.drop i).take m ++ (xs.drop (n - 1) ++ b)).toArray := by
      have e : (a ++ xs.take i) ++ (xs.drop i).take m ++ (xs.drop (n - 1) ++ b) = a ++ xs ++ b := by
        have h1 : (xs.drop i).take m ++ xs.drop (n - 1) = xs.drop i := by
          conv => rhs; rw [← List.take_append_drop m (xs.drop i)]
          rw [List.drop_drop]
          congr 2
          omega
        simp only [List.append_assoc]
        rw [← List.append_assoc (List.take m _) (List.drop _ _) b, h1, ← List.append_assoc (List.take i xs), List.take_append_drop]
      rw [e]
      exact hb
    have h2 := blk_setPart (m' := news) hb0 (by rw [List.length_take, List.length_drop]; omega) (o := o + i * 1) (by rw [List.length_append, List.length_take]; omega)
    rw [hW1]
    simp only [List.append_assoc] at h2 ⊢
    exact h2
  obtain ⟨Y, hY⟩ : ∃ Y, Y = xs.take i ++ news := ⟨_, rfl⟩
  have hYe : Y = xs.eraseIdx i := by rw [hY, hnews, List.eraseIdx_eq_take_drop_succ]
  have hYl : Y.length = n - 1 := by rw [hYe, List.length_eraseIdx_of_lt hi, hn]
  obtain ⟨z, hz⟩ : ∃ z, xs.drop (n - 1) = [z] := by
    have : (xs.drop (n - 1)).length = 1 := by rw [List.length_drop]; omega
    match h : xs.drop (n - 1), this with
    | [z], _ => exact ⟨z, rfl⟩
  rw [← hY, hz] at hb1
  obtain ⟨W2, hW2⟩ : ∃ W2, W2 = W1.setRow g ((a ++ Y ++ ([z] ++ b)).toArray.toList.take (o + (n - 1)) ++ [Value.int .u32 0] ++ (a ++ Y ++ ([z] ++ b)).toArray.toList.drop (o + (n - 1) + 1)).toArray := ⟨_, rfl⟩
  have hcl : ∀ ty, (Builtin.clear_ #[33] ty #[.slice (some ⟨g, o + (n - 1), none⟩) (n - (n - 1)) (c - (n - 1))]).run Tryz.prog W1 = .ok (.tuple #[]) W2 := fun ty => by
    rw [show n - (n - 1) = 1 by omega, hW2]
    exact clear_one g (o + (n - 1)) _ _ W1 hb1 (by simp only [List.size_toArray, List.length_append, List.length_cons]; omega) ty
  have hrow : (a ++ Y ++ ([z] ++ b)).toArray.toList.take (o + (n - 1)) ++ [Value.int .u32 0] ++ (a ++ Y ++ ([z] ++ b)).toArray.toList.drop (o + (n - 1) + 1) = a ++ Y ++ (.int .u32 0 :: b) := by
    have hl : (a ++ Y).length = o + (n - 1) := by rw [List.length_append, hYl, ho]
    show List.take _ (a ++ Y ++ ([z] ++ b)) ++ _ ++ List.drop _ (a ++ Y ++ ([z] ++ b)) = _
    rw [List.take_left' hl, List.drop_append, hl, List.drop_eq_nil_of_le (by omega), show o + (n - 1) + 1 - (o + (n - 1)) = 1 by omega]
    simp
  have HW1 := Lib.hid hW1
  have HW2 := Lib.hid hW2
  have HB1 := Lib.hid hb1
  have HROW := Lib.hid hrow
  have HYE := Lib.hid hYe
  have HG : Hid (g < w.heap.size) := hb.lt
  have hic : i ≤ c := by omega
  have hin : i < n := by omega
  have hnc : n ≤ c := by omega
  have him : i + m = n - 1 := by omega
  have hwr : IntKind.i64.wrap ((i : Int) + 1) = (i : Int) + 1 := by have : c ≤ 9223372036854775807 := by { simp only [maxLen] at hcm; omega }; rw [IntKind.wrap_i64]; omega
  have hp0 : (0 : Int) ≤ (i : Int) + 1 := by omega
  have hp1 : (i : Int) + 1 ≤ (n : Int) := by omega
  have hp2 : ((i : Int) + 1).toNat = i + 1 := by omega
  have hp3 : ((i : Int) == (i : Int) + 1) = false := by simp only [beq_eq_false_iff_ne]; omega
  rw [← ho, ← hn]
  have HHI : Hid (i0.size = 1 ∧ m = n - (i + 1)) := ⟨hz1, hm⟩
  clear hW1 hW2 hb1 hrow hYe hY hYl hz hb hnews hnl hone ho hn hm hi hc hcm hz0 hz2 hi0 hz1
  go_enter Tryz.func202, Tryz.ntmps202
  have hm2 : n - (i + 1) = m := HHI.out.2.symm
  go_wp2_with fail
  go_region_law (refine step_append_room rfl (.tmp 22) (.tmp 25) 33 rfl _ _ _ W1 (by simp [Act.eval, Act.put]) (by simp [Act.eval, Act.put, hA, hm2]) hrun ?_)
  go_wp2
  go_ret
  have hs1 : Sv (fun k => k = g) w W1 := by rw [HW1.out]; exact Sv.setCells (M := fun k => k = g) (Sv.of_below (bdrew (Below.refl _ _))) (.inl rfl) _ _
  have hs2 : Sv (fun k => k = g) W1 W2 := by rw [HW2.out]; exact ⟨rfl, rfl, rfl, by simp, fun k hk hx => setRow_other _ _ _ _ hx⟩
  refine ⟨rfl, ?_, hs1.trans hs2 (fun k hk e => e), ?_⟩
  · have h := setRow_heap W1 g _ ((a ++ Y ++ ([z] ++ b)).toArray.toList.take (o + (n - 1)) ++ [Value.int .u32 0] ++ (a ++ Y ++ ([z] ++ b)).toArray.toList.drop (o + (n - 1) + 1)).toArray 32 (0, 0) HB1.out
    rw [← HW2.out, HROW.out, HYE.out] at h
    exact h
  · rw [HW2.out, HW1.out]
    simp [size_setCells]
end Go.Proofs.YtmkifedcanmjoaaGreat
/- desk.free (contract). Conditions: none. -/
set_option linter.unusedVariables false
set_option linter.unusedSimpArgs false
namespace Go.Proofs.YtmkifedcanmjoaaGreat
open Go.RowKit
attribute [local go_sem ↓] Go.wp_at_zero Go.wp_at_succ
set_option maxRecDepth 100000 in
set_option maxHeartbeats 3200000 in
theorem clo_free {L : Lab} {w : World} {g : Nat} {P : Ptrs} {D : DeskD} (hd : DeskM L w g P D) {i t2 : Nat} (hi : i < 4) (ht : t2 < 8) (x : Int) {b1 b2 : Nat} (h1 : w.cell? ⟨b1, 0, none⟩ = some (.pointer (some ⟨g, i * 367, none⟩))) (h2 : w.cell? ⟨b2, 0, none⟩ = some (.int .i64 (t2 : Int))) :
    Calls Tryz.prog 201 #[.int .u32 x, .pointer (some ⟨b1, 0, none⟩), .pointer (some ⟨b2, 0, none⟩)] w fun e w' => e = .returned (.bool (!(laneS (D.hall i) t2 x).isSome)) ∧ Below w.heap.size w w' := by
  have HC := Lib.hid (hlane_c hd hi ht x)
  obtain ⟨R, hR⟩ : ∃ R, R = laneS (D.hall i) t2 x := ⟨_, rfl⟩
  rw [← hR] at HC ⊢
  obtain ⟨q, hq⟩ : ∃ q, q = R.isSome := ⟨_, rfl⟩
  rw [← hq] at HC ⊢
  clear hd hi ht hR hq
  go_enter Tryz.func201, Tryz.ntmps201
  go_wp2_with fail
  refine HC.out.mono ?_
  rintro e0 w1 ⟨rfl, hb⟩
  have HB := Lib.hid hb
  clear hb h1 h2
  go_wp2_with fail
  go_ret
  exact ⟨rfl, HB.out⟩
def idxV : Option Nat → Int
  | some k => (k : Int)
  | none => -1
theorem freeFrom_step (h : HallD) (t2 : Nat) (l : List Int) (k : Nat) (x : Int) (hx : l[k]? = some x) : freeFrom h t2 (l.drop k) k = if (laneS h t2 x).isSome then freeFrom h t2 (l.drop (k + 1)) (k + 1) else some k := by
  have hk : k < l.length := (List.getElem?_eq_some_iff.1 hx).1
  rw [List.drop_eq_getElem_cons hk]
  rw [List.getElem?_eq_getElem hk] at hx
  injection hx with hx
  rw [hx]
  rfl
set_option maxRecDepth 100000 in
set_option maxHeartbeats 6400000 in
theorem idxFree_c {L : Lab} {w : World} {g : Nat} {P : Ptrs} {D : DeskD} (hd : DeskM L w g P D) {i t2 : Nat} (hi : i < 4) (ht : t2 < 8) {A : Option Addr} {n c : Nat} (l : List Int) (hn : n = l.length) (hn2 : n ≤ 9223372036854775807) (hr : Reads w w.heap.size 1 A n (l.map (Value.int .u32))) {b1 b2 : Nat} (h1 : w.cell? ⟨b1, 0, none⟩ = some (.pointer (some ⟨g, i * 367, none⟩))) (h2 : w.cell? ⟨b2, 0, none⟩ = some (.int .i64 (t2 : Int))) :
    Calls Tryz.prog 200 #[.slice A n c, .func (.func 201) #[] #[.pointer (some ⟨b1, 0, none⟩), .pointer (some ⟨b2, 0, none⟩)]] w fun e w' => e = .returned (.int .i64 (idxV (freeFrom (D.hall i) t2 l 0))) ∧ Below w.heap.size w w' := by
  obtain ⟨R, hR⟩ : ∃ R, R = freeFrom (D.hall i) t2 l 0 := ⟨_, rfl⟩
  have HRE := Lib.hid hR
  have HR := Lib.hid hr
  have HN := Lib.hid hn
  have HN2 := Lib.hid hn2
  have hl1 := World.block_lt_of_cell? _ _ h1
  have hl2 := World.block_lt_of_cell? _ _ h2
  have HCL : Hid (∀ wx x, Below w.heap.size w wx → Calls Tryz.prog 201 #[.int .u32 x, .pointer (some ⟨b1, 0, none⟩), .pointer (some ⟨b2, 0, none⟩)] wx fun e w' => e = .returned (.bool (!(laneS (D.hall i) t2 x).isSome)) ∧ Below wx.heap.size wx w') := fun wx x hb =>
    clo_free (hd.below hb) hi ht x ((hb.cell (p := ⟨b1, 0, none⟩) hl1).trans h1) ((hb.cell (p := ⟨b2, 0, none⟩) hl2).trans h2)
  rw [← hR]
  clear hd hi ht hr hn hn2 h1 h2 hl1 hl2 hR
  go_enter Tryz.func200, Tryz.ntmps200
  go_upto_region 2 with fail
  go_loopg [8] n (fun gg v wx => ∃ k : Nat, gg = n - k ∧ k ≤ n ∧ v = .int .i64 (k : Int) ∧ freeFrom (D.hall i) t2 (l.drop k) k = R ∧ Below w.heap.size w wx)
  case atStart => exact ⟨0, rfl, by omega, rfl, HRE.out.symm, Below.refl _ _⟩
  case round =>
    obtain ⟨k, hgg, hk, rfl, hf, hb⟩ := hrel
    have HF := Lib.hid hf
    have HGG := Lib.hid hgg
    have HB := Lib.hid hb
    clear hf hgg hb
    by_cases hkn : k < n
    · have hki : (k : Int) < (n : Int) := by omega
      have hki0 : (0 : Int) ≤ (k : Int) := by omega
      have hw1 : IntKind.i64.wrap ((k : Int) + 1) = ((k + 1 : Nat) : Int) := by have := HN2.out; rw [IntKind.wrap_i64]; omega
      have HLT := Lib.hid hkn
      obtain ⟨x, hx⟩ : ∃ x, l[k]? = some x := ⟨_, List.getElem?_eq_getElem (by have := HN.out; omega)⟩
      have HS : Hid (R = if (laneS (D.hall i) t2 x).isSome then freeFrom (D.hall i) t2 (l.drop (k + 1)) (k + 1) else some k) := by
        show _ = _
        rw [← HF.out, freeFrom_step _ _ _ _ _ hx]
      obtain ⟨ad, rfl, hadl, hcell⟩ := (HR.out.below HB.out).2 (by omega)
      have c0 := hcell 0 (.int .u32 (l.getD 0 0)) (by rw [List.getElem?_map, List.getElem?_eq_getElem (by have := HN.out; omega), List.getD_eq_getElem?_getD, List.getElem?_eq_getElem (by have := HN.out; omega)]; rfl)
      have ck := hcell k (.int .u32 x) (by rw [List.getElem?_map, hx]; rfl)
      obtain ⟨b, off, rfl⟩ := addr_plain c0
      rw [Go.WideShapes.add_plain] at ck
      have HCX := Lib.hid (HCL.out wr x HB.out)
      obtain ⟨q, hq⟩ : ∃ q, q = (laneS (D.hall i) t2 x).isSome := ⟨_, rfl⟩
      rw [← hq] at HS HCX
      clear hx hq c0 hcell hadl hkn hk
      go_wp2_with fail
      refine HCX.out.mono ?_
      rintro e0 w1 ⟨rfl, hb⟩
      have HB1 := Lib.hid (bcall HB.out hb)
      clear hb ck
      cases q
      · have HS2 : Hid (R = some k) := by show _ = _; rw [HS.out]; rfl
        clear HS
        go_wp2_with fail
        go_ret
        refine ⟨?_, HB1.out⟩
        rw [HS2.out]
        rfl
      · have HS2 : Hid (freeFrom (D.hall i) t2 (l.drop (k + 1)) (k + 1) = R) := by show _ = _; rw [HS.out]; rfl
        clear HS
        go_wp2_with fail
        go_roundg (n - (k + 1))
        case measure => have := HLT.out; have := HGG.out; omega
        case rel => have hlt := HLT.out; exact ⟨k + 1, rfl, by omega, by first | rfl | go_num, HS2.out, HB1.out⟩
    · have hki : ¬ (k : Int) < (n : Int) := by omega
      have hke : k = n := by omega
      subst hke
      clear hkn hk
      have HS2 : Hid (R = none) := by show _ = _; rw [← HF.out, List.drop_eq_nil_of_le (by have := HN.out; omega)]; rfl
      go_wp2_with fail
      go_ret
      refine ⟨?_, HB.out⟩
      rw [HS2.out]
      rfl
theorem draws_le {L : Lab} {w : World} {g : Nat} {P : Ptrs} {D : DeskD} (hd : DeskM L w g P D) : D.draws.length ≤ maxLen := by
  obtain ⟨_, _, C, _, hC⟩ := hd
  obtain ⟨v, _, hr, _⟩ := hC.draws
  rcases hr.2 with ⟨_, h⟩ | ⟨_, c, _, _, _, _, h1, h2, _⟩
  · rw [h]; exact Nat.zero_le _
  · omega
set_option maxRecDepth 100000 in
set_option maxHeartbeats 6400000 in
/-- No draw is free. -/
theorem dfreeNo_c {L : Lab} {w : World} {g : Nat} {P : Ptrs} {D : DeskD} (hd : DeskM L w g P D) {i t2 : Nat} (hi : i < 4) (ht : t2 < 8) (hf : freeS D i t2 = none) :
    Calls Tryz.prog 159 #[.pointer (some ⟨g, 0, none⟩), .pointer (some ⟨g, i * 367, none⟩), .int .i64 (t2 : Int)] w fun e w' => e = .returned (.tuple #[.int .u32 0, .bool false]) ∧ Below w.heap.size w w' := by
  obtain ⟨b1, hb1⟩ : ∃ b1, b1 = w.heap.size := ⟨_, rfl⟩
  obtain ⟨b2, hb2⟩ : ∃ b2, b2 = w.heap.size + 1 := ⟨_, rfl⟩
  obtain ⟨w1, hw1⟩ : ∃ w1, w1 = (w.alloc (.cells #[.pointer (some ⟨g, i * 367, none⟩)] 157)).alloc (.cells #[.int .i64 (t2 : Int)] 3) := ⟨_, rfl⟩
  obtain ⟨h1, h2, h3⟩ := two_blks w 157 3 #[.pointer (some ⟨g, i * 367, none⟩)] #[.int .i64 (t2 : Int)]
  rw [← hw1, ← hb1] at h1
  rw [← hw1, ← hb2] at h2
  rw [← hw1] at h3
  have hd1 := hd.below h3
  obtain ⟨v, hv, hrow⟩ : ∃ v, w1.cell? ⟨g, 1469, none⟩ = some v ∧ Row w1 32 1 v D.draws.length (D.draws.map (Value.int .u32)) := by
    obtain ⟨_, _, C, hC1, hC⟩ := hd1
    obtain ⟨v, e1, e2, _⟩ := hC.draws
    exact ⟨v, by rw [hC1.cell, List.getElem?_toArray]; exact e1, e2⟩
  obtain ⟨A, c, rfl, hc⟩ := hrow.form
  have hle := draws_le hd
  have HIX := Lib.hid (idxFree_c hd1 hi ht (A := A) (c := c) D.draws rfl (by simp only [maxLen] at hle; omega) hrow.reads (h1.cell 0) (h2.cell 0))
  unfold freeS at hf
  rw [hf] at HIX
  obtain ⟨n, hn⟩ : ∃ n, n = D.draws.length := ⟨_, rfl⟩
  rw [← hn] at HIX hv
  have HB1 := Lib.hid h3
  clear hd hd1 h1 h2 h3 hrow hle hf hc hn hi ht
  go_enter Tryz.func159, Tryz.ntmps159
  go_upto_region 1 with fail
  rw [← hw1, ← hb2, ← hb1]
  clear hw1 hb1 hb2
  go_wp2_with fail
  refine HIX.out.mono ?_
  rintro e0 w2 ⟨rfl, hbq⟩
  have HB2 := Lib.hid (bcall HB1.out hbq)
  clear hbq hv
  unfold idxV
  go_wp2_with fail
  go_ret2
  exact ⟨rfl, HB2.out⟩
theorem Row.owns {w : World} {e : TypeId} {size n c : Nat} {A : Option Addr} {xs : List Value} (h : Row w e size (.slice A n c) n xs) (hn : 0 < n) : ∃ g, ∃ a b : List Value, A = some ⟨g, a.length, none⟩ ∧ Blk w g e (a ++ xs ++ b).toArray ∧ n ≤ c ∧ c ≤ maxLen ∧ (c - n) * size ≤ b.length := by
  rcases h.2 with ⟨_, h0⟩ | ⟨g, c', a, b, e1, hb, h1, h2, h3⟩
  · omega
  · injection e1 with e1 _ e3
    subst e3
    exact ⟨g, a, b, e1, hb, h1, h2, h3⟩
set_option maxRecDepth 100000 in
set_option maxHeartbeats 12800000 in
/-- A draw is taken. -/
theorem dfree_c {L : Lab} {w : World} {g : Nat} {P : Ptrs} {D : DeskD} (hd : DeskM L w g P D) {i t2 : Nat} (hi : i < 4) (ht : t2 < 8) {k : Nat} (hf : freeS D i t2 = some k) :
    Calls Tryz.prog 159 #[.pointer (some ⟨g, 0, none⟩), .pointer (some ⟨g, i * 367, none⟩), .int .i64 (t2 : Int)] w fun e w' => e = .returned (.tuple #[.int .u32 (D.draws.getD k 0), .bool true]) ∧ DeskM L w' g P { D with draws := D.draws.eraseIdx k } ∧ Stp drawX L L w w' := by
  obtain ⟨b1, hb1⟩ : ∃ b1, b1 = w.heap.size := ⟨_, rfl⟩
  obtain ⟨b2, hb2⟩ : ∃ b2, b2 = w.heap.size + 1 := ⟨_, rfl⟩
  obtain ⟨w1, hw1⟩ : ∃ w1, w1 = (w.alloc (.cells #[.pointer (some ⟨g, i * 367, none⟩)] 157)).alloc (.cells #[.int .i64 (t2 : Int)] 3) := ⟨_, rfl⟩
  obtain ⟨h1, h2, h3⟩ := two_blks w 157 3 #[.pointer (some ⟨g, i * 367, none⟩)] #[.int .i64 (t2 : Int)]
  rw [← hw1, ← hb1] at h1
  rw [← hw1, ← hb2] at h2
  rw [← hw1] at h3
  have hd1 := hd.below h3
  obtain ⟨v, hv, hrow, hlab⟩ : ∃ v, w1.cell? ⟨g, 1469, none⟩ = some v ∧ Row w1 32 1 v D.draws.length (D.draws.map (Value.int .u32)) ∧ (∀ g, v.ownBlock = some g → L g = .draws) := by
    obtain ⟨_, _, C, hC1, hC⟩ := hd1
    obtain ⟨v, e1, e2, e3⟩ := hC.draws
    exact ⟨v, by rw [hC1.cell, List.getElem?_toArray]; exact e1, e2, e3⟩
  obtain ⟨A, c, rfl, hc⟩ := hrow.form
  have hle := draws_le hd
  have HIX := Lib.hid (idxFree_c hd1 hi ht (A := A) (c := c) D.draws rfl (by simp only [maxLen] at hle; omega) hrow.reads (h1.cell 0) (h2.cell 0))
  unfold freeS at hf
  have hkl := (freeFrom_some _ _ hf).2
  rw [Nat.zero_add] at hkl
  rw [hf] at HIX
  have HB1 := Lib.hid h3
  have HLA := Lib.hid hlab
  have HD := Lib.hid hd
  obtain ⟨n, hn⟩ : ∃ n, n = D.draws.length := ⟨_, rfl⟩
  have HN := Lib.hid hn
  obtain ⟨x, hx⟩ : ∃ x, x = D.draws.getD k 0 := ⟨_, rfl⟩
  have hxs : (D.draws.map (Value.int .u32))[k]? = some (.int .u32 x) := by rw [List.getElem?_map, hx, List.getD_eq_getElem?_getD, List.getElem?_eq_getElem hkl]; rfl
  obtain ⟨xs, hxse⟩ : ∃ xs, xs = D.draws.map (Value.int .u32) := ⟨_, rfl⟩
  have hxl : xs.length = n := by rw [hxse, List.length_map, hn]
  have HXE := Lib.hid hxse
  have HXL := Lib.hid hxl
  rw [← hxse] at hxs hrow
  rw [← hn] at HIX hv hrow hkl hle hc
  rw [← hx]
  have HROW := Lib.hid hrow
  have HHK := Lib.hid hxs
  have HKL := Lib.hid hkl
  have HLE := Lib.hid hle
  have hkn : (k : Int) < (n : Int) := by omega
  have hk0 : (0 : Int) ≤ (k : Int) := by omega
  have hk1 : ¬ (k : Int) < 0 := by omega
  have hwr : IntKind.i64.wrap ((k : Int) + 1) = (k : Int) + 1 := by simp only [maxLen] at hle; rw [IntKind.wrap_i64]; omega
  clear hd hd1 h1 h2 h3 hrow hle hf hn hi ht hx hxs hxse hxl hlab hkl hc
  go_enter Tryz.func159, Tryz.ntmps159
  go_upto_region 1 with fail
  rw [← hw1, ← hb2, ← hb1]
  clear hw1 hb1 hb2
  go_wp2_with fail
  refine HIX.out.mono ?_
  rintro e0 w2 ⟨rfl, hbq⟩
  have HB2 := Lib.hid (bcall HB1.out hbq)
  have HR2 : Hid (Row w2 32 1 (.slice A n c) n xs) := HROW.out.below hbq
  have hg1 := World.block_lt_of_cell? _ _ hv
  have hv2 : w2.cell? ⟨g, 1469, none⟩ = some (.slice A n c) := (hbq.cell (p := ⟨g, 1469, none⟩) hg1).trans hv
  clear hbq hv hg1 HIX HROW HB1
  unfold idxV
  obtain ⟨gr, a, b, rfl, hblk, hcn, hcm, hfit⟩ := HR2.out.owns (by have := HKL.out; omega)
  obtain ⟨o, ho⟩ : ∃ o, o = a.length := ⟨_, rfl⟩
  have ck : w2.cell? ⟨gr, o + k, none⟩ = some (.int .u32 x) := by
    rw [hblk.cell, List.getElem?_toArray, List.append_assoc, ho, List.getElem?_append_right (by omega), List.getElem?_append_left (by have := HKL.out; have := HXL.out; omega), show a.length + k - a.length = k by omega]
    exact HHK.out
  have HDEL := Lib.hid (delU_c gr c k a b xs w2 hblk (by rw [HXL.out]; exact hcn) hcm (by rw [HXL.out]; exact HKL.out) (by rw [HXE.out]; intro u hu; obtain ⟨y, _, rfl⟩ := List.mem_map.1 hu; rfl))
  rw [HXL.out, ← ho] at HDEL
  rw [← ho] at hv2 HLA ⊢
  have HOE := Lib.hid ho
  have HFIT : Hid (n ≤ c ∧ c ≤ maxLen ∧ (c - n) * 1 ≤ b.length) := ⟨hcn, hcm, hfit⟩
  have HDM2 : Hid (DeskM L w2 g P D) := HD.out.below HB2.out
  have HRD : Hid (Blk w2 gr 32 (a ++ xs ++ b).toArray) := hblk
  clear hblk ho hcn hcm hfit HR2
  go_wp2_with fail
  refine HDEL.out.mono ?_
  rintro e0 w3 ⟨rfl, hb3, hs3, hz3⟩
  have hlg : L gr = .draws := HLA.out gr rfl
  have hne : g ≠ gr := fun e => by have h := HD.out.lab; rw [e, hlg] at h; cases h
  obtain ⟨C, hCb, hC⟩ := HDM2.out.mem
  have hC3 : Blk w3 g 113 C.toArray := (hs3.block g hCb.lt hne).trans hCb
  have c3 : w3.cell? ⟨g, 1469, none⟩ = some (.slice (some ⟨gr, o, none⟩) n c) := by
    rw [hC3.cell, ← hCb.cell]; exact hv2
  have f3 := hC3.frozen 1469
  have HB3 := Lib.hid hb3
  have HS3 := Lib.hid hs3
  have HC3 := Lib.hid hC3
  have HC := Lib.hid hC
  have HNE := Lib.hid hne
  have HLG := Lib.hid hlg
  clear hb3 hs3 hz3 hCb hC hC3 hne hlg hv2 ck HDEL
  go_wp2_with fail
  go_ret2
  have hst3 : Stp drawX L L w2 w3 := ⟨HS3.out.mono fun j _ hj => .inr (by rw [hj]; exact HLG.out), fun _ _ => rfl, fun j hj => HDM2.out.top j (Nat.le_trans HS3.out.size hj)⟩
  have hst4 : Stp drawX L L w2 (w3.setCell ⟨g, 1469, none⟩ (.slice (some ⟨gr, o, none⟩) (n - 1) c)) := by
    refine ⟨?_, fun _ _ => rfl, fun j hj => hst3.top j (by rw [World.size_setCell] at hj; exact hj)⟩
    exact hst3.sv.set (p := ⟨g, 1469, none⟩) (.inl (.inl HD.out.lab)) _
  have hel : (D.draws.eraseIdx k).length = n - 1 := by rw [List.length_eraseIdx_of_lt (by have := HKL.out; have := HN.out; omega), ← HN.out]
  have hex : xs.eraseIdx k = (D.draws.eraseIdx k).map (Value.int .u32) := by rw [HXE.out, List.eraseIdx_eq_take_drop_succ, List.eraseIdx_eq_take_drop_succ, List.map_append, List.map_take, List.map_drop]
  refine ⟨rfl, ⟨HD.out.lab, hst4.top, C.set 1469 (.slice (some ⟨gr, o, none⟩) (n - 1) c), ?_, ?_⟩, Stp.trans (Stp.below HB2.out HD.out.top) hst4⟩
  · have := Blk.set_ HC3.out 1469 (.slice (some ⟨gr, o, none⟩) (n - 1) c)
    rw [List.setIfInBounds_toArray] at this
    exact this
  · refine HC.out.putDraws hst4 _ _ ?_ (fun g0 hg0 => HLA.out g0 (by exact hg0))
    rw [hel]
    refine ⟨by rw [List.length_map, hel]; omega, .inr ⟨gr, c, a, .int .u32 0 :: b, by rw [HOE.out], ?_, by have := HFIT.out; omega, HFIT.out.2.1, ?_⟩⟩
    · rw [← hex]
      exact Blk.far HB3.out (p := ⟨g, 1469, none⟩) (Ne.symm HNE.out) _
    · have := HFIT.out
      have := HKL.out
      rw [List.length_cons]
      omega
end Go.Proofs.YtmkifedcanmjoaaGreat
/- pick.Source (contract). Conditions: the rates are numbers that fit. -/
set_option linter.unusedVariables false
set_option linter.unusedSimpArgs false
namespace Go.Proofs.YtmkifedcanmjoaaGreat
open Go.RowKit
attribute [local go_sem ↓] Go.wp_at_zero Go.wp_at_succ
theorem pickFrom_step (q : Int) (l : List Int) (k : Nat) (r b le : Int) (hx : l[k]? = some r) : pickFrom q (l.drop k) (k : Int) b le = if r < 0 then pickFrom q (l.drop (k + 1)) ((k + 1 : Nat) : Int) b le else pickFrom q (l.drop (k + 1)) ((k + 1 : Nat) : Int) (if r ≤ q then (k : Int) else b) (if le < 0 then (k : Int) else le) := by
  have hk : k < l.length := (List.getElem?_eq_some_iff.1 hx).1
  rw [List.drop_eq_getElem_cons hk]
  rw [List.getElem?_eq_getElem hk] at hx
  injection hx with hx
  rw [hx]
  rfl
theorem max3 (a b c : Int) (t : TypeId) (ts : Array TypeId) (w : World) : (Builtin.max_ ts t #[.int .i64 a, .int .i64 b, .int .i64 c]).run Tryz.prog w = .ok (.int .i64 (max (max a b) c)) w := by
  have e : (if c > (if b > a then b else a) then c else (if b > a then b else a)) = max (max a b) c := by
    rw [Int.max_def, Int.max_def]
    repeat' split
    all_goals omega
  rw [← e]
  rfl
set_option maxRecDepth 100000 in
set_option maxHeartbeats 6400000 in
theorem pick_c (rate : Nat) (hrate : rate < 18446744073709551616) (l : List Int) {A : Option Addr} {n c : Nat} {w : World} (hn : n = l.length) (hn2 : n ≤ 1000000) (hl : ∀ r ∈ l, -9223372036854775808 ≤ r ∧ r ≤ 9223372036854775807) (hr : Reads w w.heap.size 1 A n (l.map (Value.int .i64))) :
    Calls Tryz.prog 123 #[.int .u64 (rate : Int), .slice A n c] w fun e w' => e = .returned (.int .i64 (pickS rate l)) ∧ Below w.heap.size w w' := by
  obtain ⟨q, hq⟩ : ∃ q : Nat, q = rate / 10000 := ⟨_, rfl⟩
  have hq1 : (rate : Int) / 10000 = (q : Int) := by omega
  have hq2 : (rate : Int).tdiv 10000 = (q : Int) := by rw [Int.tdiv_eq_ediv_of_nonneg (by omega)]; exact hq1
  have hq3 : IntKind.u64.wrap (q : Int) = (q : Int) := by simp [IntKind.wrap, IntKind.bits, IntKind.signed]; omega
  obtain ⟨P, hP⟩ : ∃ P, P = pickFrom (q : Int) l 0 (-1) (-1) := ⟨_, rfl⟩
  have HPE := Lib.hid hP
  have HRES : Hid (pickS rate l = max (max P.1 P.2) 0) := by show _ = _; rw [hP, hq]; rfl
  have HR := Lib.hid hr
  have HN := Lib.hid hn
  have HN2 := Lib.hid hn2
  have HL := Lib.hid hl
  rw [HRES.out]
  clear hrate hn hn2 hl hr hq hP
  go_enter Tryz.func123, Tryz.ntmps123
  go_upto_region 3 with fail
  go_loopg [5, 6, 11] n (fun gg v5 v6 v wx => ∃ (k : Nat) (b le : Int), gg = n - k ∧ k ≤ n ∧ v5 = .int .i64 b ∧ v6 = .int .i64 le ∧ v = .int .i64 (k : Int) ∧ pickFrom (q : Int) (l.drop k) (k : Int) b le = P ∧ Below w.heap.size w wx)
  case atStart => exact ⟨0, -1, -1, rfl, by omega, rfl, rfl, rfl, HPE.out.symm, Below.refl _ _⟩
  case round =>
    obtain ⟨k, b, le, hgg, hk, rfl, rfl, rfl, hf, hb⟩ := hrel
    have HF := Lib.hid hf
    have HGG := Lib.hid hgg
    have HB := Lib.hid hb
    clear hf hgg hb
    by_cases hkn : k < n
    · have hki : (k : Int) < (n : Int) := by omega
      have hki0 : (0 : Int) ≤ (k : Int) := by omega
      have hw1 : IntKind.i64.wrap ((k : Int) + 1) = ((k + 1 : Nat) : Int) := by have := HN2.out; rw [IntKind.wrap_i64]; omega
      have HLT := Lib.hid hkn
      obtain ⟨r, hx⟩ : ∃ r, l[k]? = some r := ⟨_, List.getElem?_eq_getElem (by have := HN.out; omega)⟩
      have hrb := HL.out r (List.mem_of_getElem? hx)
      have HS : Hid (P = if r < 0 then pickFrom (q : Int) (l.drop (k + 1)) ((k + 1 : Nat) : Int) b le else pickFrom (q : Int) (l.drop (k + 1)) ((k + 1 : Nat) : Int) (if r ≤ (q : Int) then (k : Int) else b) (if le < 0 then (k : Int) else le)) := by
        show _ = _
        rw [← HF.out, pickFrom_step _ _ _ _ _ _ hx]
      obtain ⟨ad, rfl, hadl, hcell⟩ := (HR.out.below HB.out).2 (by omega)
      have c0 := hcell 0 (.int .i64 (l.getD 0 0)) (by rw [List.getElem?_map, List.getElem?_eq_getElem (by have := HN.out; omega), List.getD_eq_getElem?_getD, List.getElem?_eq_getElem (by have := HN.out; omega)]; rfl)
      have ck := hcell k (.int .i64 r) (by rw [List.getElem?_map, hx]; rfl)
      obtain ⟨ab, off, rfl⟩ := addr_plain c0
      rw [Go.WideShapes.add_plain] at ck
      clear hx c0 hcell hadl hkn hk
      by_cases hr0 : r < 0
      · have HS2 : Hid (pickFrom (q : Int) (l.drop (k + 1)) ((k + 1 : Nat) : Int) b le = P) := by show _ = _; rw [HS.out, if_pos hr0]
        clear HS hrb
        go_wp2_with fail
        go_roundg (n - (k + 1))
        case measure => have := HLT.out; have := HGG.out; omega
        case rel => have hlt := HLT.out; exact ⟨k + 1, b, le, rfl, by omega, rfl, rfl, by first | rfl | go_num, HS2.out, HB.out⟩
      · have hru : IntKind.u64.wrap r = r := by simp [IntKind.wrap, IntKind.bits, IntKind.signed]; omega
        have hr00 : (0 : Int) ≤ r := by omega
        by_cases hle : le < 0
        · by_cases hrq : r ≤ (q : Int)
          · have HS2 : Hid (pickFrom (q : Int) (l.drop (k + 1)) ((k + 1 : Nat) : Int) (k : Int) (k : Int) = P) := by show _ = _; rw [HS.out, if_neg hr0, if_pos hrq, if_pos hle]
            clear HS hrb
            go_wp2_with fail
            go_roundg (n - (k + 1))
            case measure => have := HLT.out; have := HGG.out; omega
            case rel => have hlt := HLT.out; exact ⟨k + 1, _, _, rfl, by omega, rfl, rfl, by first | rfl | go_num, HS2.out, HB.out⟩
          · have HS2 : Hid (pickFrom (q : Int) (l.drop (k + 1)) ((k + 1 : Nat) : Int) b (k : Int) = P) := by show _ = _; rw [HS.out, if_neg hr0, if_neg hrq, if_pos hle]
            clear HS hrb
            go_wp2_with fail
            go_roundg (n - (k + 1))
            case measure => have := HLT.out; have := HGG.out; omega
            case rel => have hlt := HLT.out; exact ⟨k + 1, _, _, rfl, by omega, rfl, rfl, by first | rfl | go_num, HS2.out, HB.out⟩
        · by_cases hrq : r ≤ (q : Int)
          · have HS2 : Hid (pickFrom (q : Int) (l.drop (k + 1)) ((k + 1 : Nat) : Int) (k : Int) le = P) := by show _ = _; rw [HS.out, if_neg hr0, if_pos hrq, if_neg hle]
            clear HS hrb
            go_wp2_with fail
            go_roundg (n - (k + 1))
            case measure => have := HLT.out; have := HGG.out; omega
            case rel => have hlt := HLT.out; exact ⟨k + 1, _, _, rfl, by omega, rfl, rfl, by first | rfl | go_num, HS2.out, HB.out⟩
          · have HS2 : Hid (pickFrom (q : Int) (l.drop (k + 1)) ((k + 1 : Nat) : Int) b le = P) := by show _ = _; rw [HS.out, if_neg hr0, if_neg hrq, if_neg hle]
            clear HS hrb
            go_wp2_with fail
            go_roundg (n - (k + 1))
            case measure => have := HLT.out; have := HGG.out; omega
            case rel => have hlt := HLT.out; exact ⟨k + 1, _, _, rfl, by omega, rfl, rfl, by first | rfl | go_num, HS2.out, HB.out⟩
    · have hki : ¬ (k : Int) < (n : Int) := by omega
      have hke : k = n := by omega
      subst hke
      clear hkn hk
      have hmax : ∀ ty, (Builtin.max_ #[3, 3, 3] ty #[.int .i64 b, .int .i64 le, .int .i64 0]).run Tryz.prog wr = .ok (.int .i64 (max (max b le) 0)) wr := fun ty => max3 b le 0 ty _ wr
      have HS2 : Hid (P = (b, le)) := by show _ = _; rw [← HF.out, List.drop_eq_nil_of_le (by have := HN.out; omega)]; rfl
      go_wp2_with fail
      go_ret
      refine ⟨?_, HB.out⟩
      rw [HS2.out]
      rfl
end Go.Proofs.YtmkifedcanmjoaaGreat
