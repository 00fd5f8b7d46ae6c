/- hall.show (contract). Conditions: the note may be. -/
import Derived.Test.YtmkifedcanmjoaaGreatKc
import Derived.Test.YtmkifedcanmjoaaGreatKd
set_option linter.unusedVariables false
set_option linter.unusedSimpArgs false
namespace Go.Proofs.YtmkifedcanmjoaaGreat
open Go.RowKit
attribute [local go_sem ↓] Go.wp_at_zero Go.wp_at_succ
theorem or_u32 (a b k : Nat) (hb : b < 2 ^ k) (ha : 2 ^ k * a < 4294967296) (hb2 : b < 4294967296) : bits .or .u32 ((2 ^ k * a : Nat) : Int) (b : Int) = ((2 ^ k * a + b : Nat) : Int) := by
  rw [u32_or_nat _ _ (by omega) (by omega), Nat.two_pow_add_eq_or_of_lt hb]
section
variable {L : Lab} {w : World} {g : Nat} {P : Ptrs} {D : DeskD} {i s j : Nat}
theorem DeskM.stpX (h : DeskM L w g P D) (vs : List Value) (o : Nat) : Stp dskX L L w (w.setCells g o vs) := stp_desk h vs o
/-- A stream's rate turns. -/
theorem DeskM.putRate (h : DeskM L w g P D) (hi : i < 4) (hs : s < 8) (hj : j < 3) (r : Int) : DeskM L (w.setCell ⟨g, i * 367 + 39 + s * 33 + j * 11 + 2, none⟩ (.int .i64 r)) g P (D.setStrm i s j { (D.hall i).str s j with rate := r }) ∧ Stp dskX L L w (w.setCell ⟨g, i * 367 + 39 + s * 33 + j * 11 + 2, none⟩ (.int .i64 r)) := by
  have hst : Stp dskX L L w (w.setCell ⟨g, i * 367 + 39 + s * 33 + j * 11 + 2, none⟩ (.int .i64 r)) := stp_desk h [.int .i64 r] _
  refine ⟨?_, hst⟩
  obtain ⟨h1, h2, C, h3, h4⟩ := h
  have hl := h4.len
  have e0 : i * 367 + 39 + s * 33 + j * 11 + 2 = 367 * i + 39 + 33 * s + 11 * j + 2 := by omega
  rw [e0] at hst ⊢
  refine ⟨h1, hst.top, C.set (367 * i + 39 + 33 * s + 11 * j + 2) (.int .i64 r), ?_, h4.putStrm hi hs hj hst _ (by rw [List.length_set]; exact hl) (fun k hk => List.getElem?_set_ne (by omega)) ?_⟩
  · have := Blk.set_ h3 (367 * i + 39 + 33 * s + 11 * j + 2) (.int .i64 r)
    rw [List.setIfInBounds_toArray] at this
    exact this
  · obtain ⟨c0, c1, c2, ⟨f1, f2, ⟨v1, f3, f4⟩, f5, ⟨v2, f6, f7⟩, ⟨v3, f8, f9⟩⟩, c5, ⟨v4, c6, c7⟩⟩ := (h4.strm i hi s hs j hj).stp hst (by unfold dskX; simp)
    have ne : ∀ k, k ≠ 2 → (C.set (367 * i + 39 + 33 * s + 11 * j + 2) (.int .i64 r))[367 * i + 39 + 33 * s + 11 * j + k]? = C[367 * i + 39 + 33 * s + 11 * j + k]? := fun k hk => List.getElem?_set_ne (by omega)
    refine ⟨(ne 0 (by omega)).trans c0, (ne 1 (by omega)).trans c1, List.getElem?_set_self (by omega), ⟨(ne 3 (by omega)).trans f1, (ne 4 (by omega)).trans f2, ⟨v1, (ne 5 (by omega)).trans f3, f4⟩, (ne 6 (by omega)).trans f5, ⟨v2, (ne 7 (by omega)).trans f6, f7⟩, ⟨v3, (ne 8 (by omega)).trans f8, f9⟩⟩, (ne 9 (by omega)).trans c5, ⟨v4, (ne 10 (by omega)).trans c6, c7⟩⟩
def newStr (x : Int) : StrmD := { strm0 with shown := true, ssrc := x }
def newStrL (x : Int) : List Value := [.bool true, .int .u32 x, .int .i64 0, .int .i64 0, .int .i64 0, .slice none 0 0, .int .i64 0, .slice none 0 0, .slice none 0 0, .int .u32 0, .slice none 0 0]
theorem NumV.nil_ (k : IntKind) (L : Lab) (w : World) : NumV k L w (.slice none 0 0) [] := ⟨⟨none, 0, rfl, Nat.le_refl _, Nat.zero_le _, Reads.none_⟩, fun g h => by cases h⟩
theorem TmplV.nil_ (L : Lab) (w : World) : TmplV L w (.slice none 0 0) [] := ⟨⟨none, 0, [], rfl, Nat.le_refl _, Nat.zero_le _, Reads.none_, rfl⟩, fun g h => by cases h⟩
theorem SizesV.nil_ (L : Lab) (w : World) : SizesV L w (.slice none 0 0) [] := ⟨⟨none, 0, rfl, Nat.le_refl _, Nat.zero_le _, Reads.none_⟩, fun g h => by cases h⟩
/-- A stream begins anew. -/
theorem DeskM.putNewStr (h : DeskM L w g P D) (hi : i < 4) (hs : s < 8) (hj : j < 3) (x : Int) : DeskM L (w.setCells g (i * 367 + 39 + s * 33 + j * 11) (newStrL x)) g P (D.setStrm i s j (newStr x)) ∧ Stp dskX L L w (w.setCells g (i * 367 + 39 + s * 33 + j * 11) (newStrL x)) := by
  have hst := stp_desk h (newStrL x) (i * 367 + 39 + s * 33 + j * 11)
  refine ⟨?_, hst⟩
  obtain ⟨h1, h2, C, h3, h4⟩ := h
  have hl := h4.len
  have e0 : i * 367 + 39 + s * 33 + j * 11 = 367 * i + 39 + 33 * s + 11 * j := by omega
  rw [e0] at hst ⊢
  have hfit : 367 * i + 39 + 33 * s + 11 * j + (newStrL x).length ≤ C.length := by show 367 * i + 39 + 33 * s + 11 * j + 11 ≤ _; omega
  refine ⟨h1, hst.top, putL C (367 * i + 39 + 33 * s + 11 * j) (newStrL x), blk_putL h3 _ _ hfit, h4.putStrm hi hs hj hst _ (by rw [putL_len _ _ _ hfit]; exact hl) (fun k hk => putL_out _ _ _ hfit hk) ?_⟩
  have inn : ∀ k, k < 11 → (putL C (367 * i + 39 + 33 * s + 11 * j) (newStrL x))[367 * i + 39 + 33 * s + 11 * j + k]? = (newStrL x)[k]? := fun k hk => putL_in _ _ _ hfit hk
  exact ⟨inn 0 (by omega), inn 1 (by omega), inn 2 (by omega), ⟨inn 3 (by omega), inn 4 (by omega), ⟨_, inn 5 (by omega), TmplV.nil_ _ _⟩, inn 6 (by omega), ⟨_, inn 7 (by omega), NumV.nil_ _ _ _⟩, ⟨_, inn 8 (by omega), SizesV.nil_ _ _⟩⟩, inn 9 (by omega), ⟨_, inn 10 (by omega), NumV.nil_ _ _ _⟩⟩
theorem setStrm_twice (hl : i < D.halls.length) (x y : StrmD) : (D.setStrm i s j x).setStrm i s j y = D.setStrm i s j y := by
  unfold DeskD.setStrm
  rw [DeskD.hall_set _ _ _ _ hl, if_pos rfl]
  unfold DeskD.setHall
  simp
theorem setStrm_str (hl : i < D.halls.length) (h24 : (D.hall i).strm.length = 24) (hs : s < 8) (hj : j < 3) (x : StrmD) : ((D.setStrm i s j x).hall i).str s j = x := by
  unfold DeskD.setStrm
  rw [DeskD.hall_set _ _ _ _ hl, if_pos rfl, HallD.str_set h24 hs hj hs hj, if_pos ⟨rfl, rfl⟩]
theorem DeskM.str24 (h : DeskM L w g P D) (hi : i < 4) : (D.hall i).strm.length = 24 := by
  obtain ⟨_, _, C, _, hC⟩ := h
  exact hC.strms i hi
end
theorem DeskM.frozen_ {L : Lab} {w : World} {g : Nat} {P : Ptrs} {D : DeskD} (h : DeskM L w g P D) (o : Nat) : w.frozen? ⟨g, o, none⟩ = false := by
  obtain ⟨_, _, C, hC, _⟩ := h
  exact hC.frozen o
theorem DeskM.there_ {L : Lab} {w : World} {g : Nat} {P : Ptrs} {D : DeskD} (h : DeskM L w g P D) {o n : Nat} (hn : o + n ≤ 1535) : w.there g o n := by
  obtain ⟨_, _, C, hC, hD⟩ := h
  exact blk_there hC o n (by rw [hD.len]; exact hn)
theorem good4_fit {n : Nt.NoteD} (h : Nt.good n = true) (hk : n.kind = 4) : 0 ≤ n.n ∧ n.n ≤ 2 ∧ 0 ≤ n.m ∧ n.m ≤ 65535 ∧ n.bs.length = 4 := by
  unfold Nt.good Nt.goodB at h
  rw [hk] at h
  simp [Nt.bnd, Nt.wB] at h
  omega
theorem four_of {b : List UInt8} (h : b.length = 4) : ∃ y0 y1 y2 y3, b = [y0, y1, y2, y3] := by
  match b, h with
  | [y0, y1, y2, y3], _ => exact ⟨y0, y1, y2, y3, rfl⟩
set_option maxRecDepth 100000 in
set_option maxHeartbeats 12800000 in
theorem show_c {L : Lab} {w : World} {g : Nat} {P : Ptrs} {D : DeskD} (hd : DeskM L w g P D) {i s : Nat} (hi : i < 4) (hs : s < 8) (d : Nt.NoteD) (hg : Nt.good d = true) (hk : d.kind = 4) {A : Option Addr} {c : Nat} (hv : ByV L w (.slice A d.bs.length c) d.bs) :
    Calls Tryz.prog 111 #[.pointer (some ⟨g, i * 367, none⟩), .int .i64 (s : Int), Nt.noteV d A c] w fun e w' => e = .returned (.int .i64 (showD D i s d).2) ∧ ∃ L', DeskM L' w' g P (showD D i s d).1 ∧ Stp dskX L L' w w' := by
  obtain ⟨hn0, hn2, hm0, hm2, hbl⟩ := good4_fit hg hk
  obtain ⟨j, hj⟩ : ∃ j : Nat, d.n = (j : Int) := ⟨d.n.toNat, by omega⟩
  have hj3 : j < 3 := by omega
  obtain ⟨y0, y1, y2, y3, hb4⟩ := four_of hbl
  obtain ⟨b, o, hA, hgb, hcells⟩ := head_cells (bs := d.bs) hv.1.rd (by rw [hbl]; decide)
  subst hA
  have e0 := hcells 0 (by omega)
  have e1 := hcells 1 (by omega)
  have e2 := hcells 2 (by omega)
  have e3 := hcells 3 (by omega)
  rw [hb4] at e0 e1 e2 e3
  have l0 := U8.lt y0
  have l1 := U8.lt y1
  have l2 := U8.lt y2
  have l3 := U8.lt y3
  obtain ⟨res, hres⟩ : ∃ res, res = showD D i s d := ⟨_, rfl⟩
  obtain ⟨Z, hZ⟩ : ∃ Z, Z = de4 d.bs := ⟨_, rfl⟩
  have hZ2 : Z = y0.toNat * 16777216 + y1.toNat * 65536 + y2.toNat * 256 + y3.toNat := by rw [hZ, hb4]; rfl
  have o1 : bits .or .u32 ((y0.toNat : Int) * 16777216) ((y1.toNat : Int) * 65536) = ((y0.toNat * 16777216 + y1.toNat * 65536 : Nat) : Int) := by
    have h := or_u32 y0.toNat (y1.toNat * 65536) 24 (by omega) (by omega) (by omega)
    rw [show ((2 ^ 24 * y0.toNat : Nat) : Int) = (y0.toNat : Int) * 16777216 by omega, show ((y1.toNat * 65536 : Nat) : Int) = (y1.toNat : Int) * 65536 by omega] at h
    rw [h]
    omega
  obtain ⟨Z1, hZ1⟩ : ∃ Z1, Z1 = y0.toNat * 16777216 + y1.toNat * 65536 := ⟨_, rfl⟩
  rw [← hZ1] at o1
  have o2 : bits .or .u32 (Z1 : Int) ((y2.toNat : Int) * 256) = ((Z1 + y2.toNat * 256 : Nat) : Int) := by
    have h := or_u32 (y0.toNat * 256 + y1.toNat) (y2.toNat * 256) 16 (by omega) (by omega) (by omega)
    rw [show ((2 ^ 16 * (y0.toNat * 256 + y1.toNat) : Nat) : Int) = (Z1 : Int) by omega, show ((y2.toNat * 256 : Nat) : Int) = (y2.toNat : Int) * 256 by omega] at h
    rw [h]
    omega
  obtain ⟨Z2, hZ3⟩ : ∃ Z2, Z2 = Z1 + y2.toNat * 256 := ⟨_, rfl⟩
  rw [← hZ3] at o2
  have o3 : bits .or .u32 (Z2 : Int) (y3.toNat : Int) = (Z : Int) := by
    have h := or_u32 (y0.toNat * 65536 + y1.toNat * 256 + y2.toNat) y3.toNat 8 (by omega) (by omega) (by omega)
    rw [show ((2 ^ 8 * (y0.toNat * 65536 + y1.toNat * 256 + y2.toNat) : Nat) : Int) = (Z2 : Int) by omega] at h
    rw [h]
    omega
  have HRE : Hid (res = match srcS (D.hall i) s (Z : Int) with
    | some k => if (k : Int) = (j : Int) then (D.setStrm i s j { (if ((D.hall i).str s j).shown && (((D.hall i).str s j).ssrc == (Z : Int)) then (D.hall i).str s j else newStr Z) with rate := d.m }, 0) else (D, 7)
    | none => (D.setStrm i s j { (if ((D.hall i).str s j).shown && (((D.hall i).str s j).ssrc == (Z : Int)) then (D.hall i).str s j else newStr Z) with rate := d.m }, 0)) := by
    show _ = _
    rw [hres]
    unfold showD showS
    rw [hj, Int.toNat_natCast, ← hZ]
    rfl
  rw [← hres]
  have HM0 : Hid (DW dskX w L w L g P D []) := DW.start dskX hd
  obtain ⟨kind, room, slot, epoch, n, m, bs⟩ := d
  simp only at hj HRE hb4 hbl hk
  subst hj
  obtain ⟨q, hq⟩ : ∃ q, q = w.heap.size := ⟨_, rfl⟩
  obtain ⟨w1, hw1⟩ : ∃ w1, w1 = w.alloc (.cells #[.int .i64 kind, .int .i64 room, .int .i64 slot, .int .i64 epoch, .int .i64 (j : Int), .int .i64 m, .slice (some ⟨b, o, none⟩) 4 c] 172) := ⟨_, rfl⟩
  obtain ⟨L1, hL1⟩ : ∃ L1, L1 = tempAt L w.heap.size := ⟨_, rfl⟩
  have HM1 : Hid (DW dskX w L w1 L1 g P D [(q, 172, [.int .i64 kind, .int .i64 room, .int .i64 slot, .int .i64 epoch, .int .i64 (j : Int), .int .i64 m, .slice (some ⟨b, o, none⟩) 4 c])]) := by
    show DW _ _ _ _ _ _ _ _ _
    rw [hw1, hq, hL1]
    exact HM0.out.alloc _ [_, _, _, _, _, _, _]
  have hbw : Below w.heap.size w w1 := by rw [hw1]; exact balloc (Below.refl _ _) _
  have k0 : w1.cell? ⟨b, o, none⟩ = some (.int .u8 (y0.toNat : Int)) := (hbw.cell (p := ⟨b, o, none⟩) hgb).trans e0
  have k1 : w1.cell? ⟨b, o + 1, none⟩ = some (.int .u8 (y1.toNat : Int)) := (hbw.cell (p := ⟨b, o + 1, none⟩) hgb).trans e1
  have k2 : w1.cell? ⟨b, o + 2, none⟩ = some (.int .u8 (y2.toNat : Int)) := (hbw.cell (p := ⟨b, o + 2, none⟩) hgb).trans e2
  have k3 : w1.cell? ⟨b, o + 3, none⟩ = some (.int .u8 (y3.toNat : Int)) := (hbw.cell (p := ⟨b, o + 3, none⟩) hgb).trans e3
  have n6 : w1.cell? ⟨q, 6, none⟩ = some (.slice (some ⟨b, o, none⟩) 4 c) := HM1.out.cell (.head _) 6
  have HNV : Hid (Nt.noteV ⟨kind, room, slot, epoch, (j : Int), m, bs⟩ (some ⟨b, o, none⟩) c = .agg #[.int .i64 kind, .int .i64 room, .int .i64 slot, .int .i64 epoch, .int .i64 (j : Int), .int .i64 m, .slice (some ⟨b, o, none⟩) 4 c]) := by show _ = _; rw [hb4]; rfl
  rw [HNV.out]
  have HI := Lib.hid hi
  have HS8 := Lib.hid hs
  have HJ3 := Lib.hid hj3
  have HD := Lib.hid hd
  have s0 : (0 : Int) ≤ (s : Int) := by omega
  have s1 : (s : Int) < 8 := by omega
  have j0 : (0 : Int) ≤ (j : Int) := by omega
  have j1 : (j : Int) < 3 := by omega
  clear hd hi hs hg hk hv hn0 hn2 hm0 hm2 hbl hj3 hb4 hgb hcells e0 e1 e2 e3 hres hZ hZ2 hZ1 hZ3 hL1 hbw HM0
  go_enter Tryz.func111, Tryz.ntmps111
  go_upto_region 1 with fail
  rw [← hw1, ← hq]
  clear hw1 hq
  go_quiet (fail)
  clear k0 k1 k2 k3 n6 o1 o2 o3 l0 l1 l2 l3
  obtain ⟨w2, hw2⟩ : ∃ w2, w2 = w1.drewN nq := ⟨_, rfl⟩
  have HM2 : Hid (DW dskX w L w2 L1 g P D [(q, 172, [.int .i64 kind, .int .i64 room, .int .i64 slot, .int .i64 epoch, .int .i64 (j : Int), .int .i64 m, .slice (some ⟨b, o, none⟩) 4 c])]) := by show DW _ _ _ _ _ _ _ _ _; rw [hw2]; exact HM1.out.drewN nq
  rw [← hw2]
  clear hw2 HM1
  go_wp2_with fail
  refine (hsrc_c HM2.out.dm HI.out HS8.out (Z : Int)).mono ?_
  rintro e0 w3 ⟨rfl, hbq⟩
  have HM3 : Hid (DW dskX w L w3 L1 g P D [(q, 172, [.int .i64 kind, .int .i64 room, .int .i64 slot, .int .i64 epoch, .int .i64 (j : Int), .int .i64 m, .slice (some ⟨b, o, none⟩) 4 c])]) := HM2.out.call hbq
  clear hbq HM2
  have n4 : w3.cell? ⟨q, 4, none⟩ = some (.int .i64 (j : Int)) := HM3.out.cell (.head _) 4
  obtain ⟨R, hR⟩ : ∃ R, R = srcS (D.hall i) s (Z : Int) := ⟨_, rfl⟩
  rw [← hR] at HRE ⊢
  clear hR
  by_cases hother : ∃ k, R = some k ∧ ¬ (k : Int) = (j : Int)
  · obtain ⟨k, rfl, hkj⟩ := hother
    have HV : Hid (res = (D, 7)) := by show _ = _; rw [HRE.out]; exact if_neg hkj
    have q1 : ((k : Int) == (j : Int)) = false := by simp; omega
    have q2 : ((k : Int) != (j : Int)) = true := by simp; omega
    clear HRE hkj
    unfold optN
    go_wp2_with fail
    go_ret
    exact ⟨by rw [HV.out]; rfl, L1, by rw [HV.out]; exact HM3.out.dm, HM3.out.stp⟩
  have HV : Hid (res = (D.setStrm i s j { (if ((D.hall i).str s j).shown && (((D.hall i).str s j).ssrc == (Z : Int)) then (D.hall i).str s j else newStr Z) with rate := m }, 0)) := by
    show _ = _
    rw [HRE.out]
    cases R with
    | none => rfl
    | some k => exact if_pos (Classical.byContradiction fun h => hother ⟨k, rfl, h⟩)
  have HOT : Hid (R = none ∨ R = some j) := by
    cases R with
    | none => exact .inl rfl
    | some k =>
      have : (k : Int) = (j : Int) := Classical.byContradiction fun h => hother ⟨k, rfl, h⟩
      exact .inr (by congr 1; omega)
  clear HRE hother
  have HNF : Hid (FitL 101 (newStrL (Z : Int))) := ⟨infoT11, by simp [newStrL, Value.oneCell']⟩
  rcases HOT.out with hR | hR
  all_goals
    subst hR
    clear HOT
    unfold optN
    go_upto_region 5 with fail
    go_quiet (fail)
    clear n4 s0 s1 j0 j1
    obtain ⟨w4, hw4⟩ : ∃ w4, w4 = w3.drewN nq := ⟨_, rfl⟩
    have HM4 : Hid (DW dskX w L w4 L1 g P D [(q, 172, [.int .i64 kind, .int .i64 room, .int .i64 slot, .int .i64 epoch, .int .i64 (j : Int), .int .i64 m, .slice (some ⟨b, o, none⟩) 4 c])]) := by show DW _ _ _ _ _ _ _ _ _; rw [hw4]; exact HM3.out.drewN nq
    rw [← hw4]
    clear hw4 HM3
    have n5 : w4.cell? ⟨q, 5, none⟩ = some (.int .i64 m) := HM4.out.cell (.head _) 5
    obtain ⟨v1, v2, v3, v4, a1, a2, a3, a4, a5⟩ := HM4.out.dm.strAt_ HI.out HS8.out HJ3.out
    have d0 : w4.cell? ⟨g, i * 367 + 39 + s * 33 + j * 11, none⟩ = some (.bool ((D.hall i).str s j).shown) := a5 0 _ rfl
    have d1 : w4.cell? ⟨g, i * 367 + 39 + s * 33 + j * 11 + 1, none⟩ = some (.int .u32 ((D.hall i).str s j).ssrc) := a5 1 _ rfl
    have d2 : w4.cell? ⟨g, i * 367 + 39 + s * 33 + j * 11 + 2, none⟩ = some (.int .i64 ((D.hall i).str s j).rate) := a5 2 _ rfl
    have fz := HM4.out.dm.frozen_ (i * 367 + 39 + s * 33 + j * 11 + 2)
    obtain ⟨sh, hsh⟩ : ∃ sh, sh = ((D.hall i).str s j).shown := ⟨_, rfl⟩
    obtain ⟨y, hy⟩ : ∃ y, y = ((D.hall i).str s j).ssrc := ⟨_, rfl⟩
    obtain ⟨z, hz⟩ : ∃ z, z = ((D.hall i).str s j).rate := ⟨_, rfl⟩
    rw [← hsh] at d0 HV
    rw [← hy] at d1 HV
    rw [← hz] at d2
    clear a1 a2 a3 a4 a5 hsh hy hz
    by_cases hkeep : sh = true ∧ y = (Z : Int)
    · obtain ⟨h1, h2⟩ := hkeep
      subst h1 h2
      have HV2 : Hid (res = (D.setStrm i s j { (D.hall i).str s j with rate := m }, 0)) := by show _ = _; rw [HV.out]; simp
      have HP := Lib.hid (HM4.out.dm.putRate HI.out HS8.out HJ3.out m)
      clear HV
      go_wp2_with fail
      go_ret
      exact ⟨by rw [HV2.out]; rfl, L1, by rw [HV2.out]; exact HP.out.1, HM4.out.stp.trans HP.out.2⟩
    · have hcond : (sh && (y == (Z : Int))) = false := by cases sh <;> simp_all
      have HV2 : Hid (res = (D.setStrm i s j { newStr Z with rate := m }, 0)) := by show _ = _; rw [HV.out, hcond]; rfl
      have hq : sh = false ∨ (sh = true ∧ (y == (Z : Int)) = false ∧ (y != (Z : Int)) = true) := by cases sh <;> simp_all
      have HPN := Lib.hid (HM4.out.dm.putNewStr HI.out HS8.out HJ3.out (Z : Int))
      have HTH := Lib.hid (HM4.out.dm.there_ (o := i * 367 + 39 + s * 33 + j * 11) (n := 11) (by have := HI.out; have := HS8.out; have := HJ3.out; omega))
      clear HV hkeep hcond d2 fz
      rcases hq with rfl | ⟨rfl, hq1, hq2⟩
      all_goals
        go_upto_region 8 with (first
          | ((with_reducible show wpList _ _ _ (⟨none, .store _ (.tmp 75) _, _, _, _, _⟩ :: _) _ _); refine wpList_store_mid rfl 101 (.tmp 75) (.tmp 74) rfl g (i * 367 + 39 + s * 33 + j * 11) (newStrL (Z : Int)).toArray rfl rfl HTH.out HNF.out.infos HNF.out.one ?_))
        obtain ⟨w5, hw5⟩ : ∃ w5, w5 = w4.setCells g (i * 367 + 39 + s * 33 + j * 11) (newStrL (Z : Int)) := ⟨_, rfl⟩
        have HM5 : Hid (DW dskX w L w5 L1 g P (D.setStrm i s j (newStr Z)) [(q, 172, [.int .i64 kind, .int .i64 room, .int .i64 slot, .int .i64 epoch, .int .i64 (j : Int), .int .i64 m, .slice (some ⟨b, o, none⟩) 4 c])]) := by show DW _ _ _ _ _ _ _ _ _; rw [hw5]; exact HM4.out.step HPN.out.2 HPN.out.1 (by unfold dskX; simp)
        have hE5 : w4.setCells g (i * 367 + 39 + s * 33 + j * 11) [.bool true, .int .u32 (Z : Int), .int .i64 0, .int .i64 0, .int .i64 0, .slice none 0 0, .int .i64 0, .slice none 0 0, .slice none 0 0, .int .u32 0, .slice none 0 0] = w5 := hw5.symm
        (try rw [hE5])
        (try rw [← hw5])
        clear hw5 hE5 HPN HTH d0 d1 n5
        have n5 : w5.cell? ⟨q, 5, none⟩ = some (.int .i64 m) := HM5.out.cell (.head _) 5
        obtain ⟨v1, v2, v3, v4, a1, a2, a3, a4, a5⟩ := HM5.out.dm.strAt_ HI.out HS8.out HJ3.out
        have d2 : w5.cell? ⟨g, i * 367 + 39 + s * 33 + j * 11 + 2, none⟩ = some (.int .i64 (((D.setStrm i s j (newStr Z)).hall i).str s j).rate) := a5 2 _ rfl
        have fz := HM5.out.dm.frozen_ (i * 367 + 39 + s * 33 + j * 11 + 2)
        obtain ⟨z, hz⟩ : ∃ z, z = (((D.setStrm i s j (newStr Z)).hall i).str s j).rate := ⟨_, rfl⟩
        rw [← hz] at d2
        have HP := Lib.hid (HM5.out.dm.putRate HI.out HS8.out HJ3.out m)
        clear a1 a2 a3 a4 a5 hz
        go_wp2_with fail
        go_ret
        have hf : (D.setStrm i s j (newStr Z)).setStrm i s j { ((D.setStrm i s j (newStr Z)).hall i).str s j with rate := m } = D.setStrm i s j { newStr Z with rate := m } := by
          rw [setStrm_twice (by rw [HD.out.halls]; exact HI.out), setStrm_str (by rw [HD.out.halls]; exact HI.out) (HD.out.str24 HI.out) HS8.out HJ3.out]
        exact ⟨by rw [HV2.out]; rfl, L1, by rw [HV2.out]; have h := HP.out.1; rw [hf] at h; exact h, HM5.out.stp.trans HP.out.2⟩
end Go.Proofs.YtmkifedcanmjoaaGreat
