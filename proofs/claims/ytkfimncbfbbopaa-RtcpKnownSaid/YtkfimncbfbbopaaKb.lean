/- The law RtcpKnown (its walk). Conditions: none. (Printed by gen8g.py.) -/
import Derived.Test.YtkfimncbfbbopaaKa
import Derived.Test.YtkfimncbfbbopaaGd
import Derived.Test.YtkfimncbfbbopaaGe
set_option linter.unusedVariables false
set_option linter.unusedSimpArgs false
namespace Go.Proofs.Ytkfimncbfbbopaa
open Go.RowKit
attribute [local go_sem ↓] Go.wp_at_zero Go.wp_at_succ

theorem kn_a : (3 : Int) = (parseS []).2 ∧ 0 = (parseS []).1.length := by constructor <;> kernel_rfl
theorem kn_b : (3 : Int) = (parseS ([129, 206, 0, 2, 0, 0, 0, 1, 0, 0, 0, 2] |>.take 11)).2 ∧ 0 = (parseS ([129, 206, 0, 2, 0, 0, 0, 1, 0, 0, 0, 2] |>.take 11)).1.length := by constructor <;> kernel_rfl
theorem kn_c : (3 : Int) = (parseS ([129, 206, 0, 2, 0, 0, 0, 1, 0, 0, 0, 2] ++ [129, 206])).2 ∧ 0 = (parseS ([129, 206, 0, 2, 0, 0, 0, 1, 0, 0, 0, 2] ++ [129, 206])).1.length := by constructor <;> kernel_rfl
theorem kn_d : (2 : Int) = (parseS [65, 206, 0, 0]).2 ∧ 0 = (parseS [65, 206, 0, 0]).1.length := by constructor <;> kernel_rfl
theorem kn_e : (2 : Int) = (parseS [161, 206, 0, 0]).2 ∧ 0 = (parseS [161, 206, 0, 0]).1.length := by constructor <;> kernel_rfl
theorem kn_f : (2 : Int) = (parseS [129, 191, 0, 0]).2 ∧ 0 = (parseS [129, 191, 0, 0]).1.length := by constructor <;> kernel_rfl
theorem kn_g : (2 : Int) = (parseS [129, 206, 0, 1, 0, 0, 0, 1]).2 ∧ 0 = (parseS [129, 206, 0, 1, 0, 0, 0, 1]).1.length := by constructor <;> kernel_rfl
theorem kn_h : (2 : Int) = (parseS [129, 205, 0, 2, 0, 0, 0, 1, 0, 0, 0, 2]).2 ∧ 0 = (parseS [129, 205, 0, 2, 0, 0, 0, 1, 0, 0, 0, 2]).1.length := by constructor <;> kernel_rfl
theorem kn_i : (2 : Int) = (parseS [132, 206, 0, 4, 0, 0, 0, 1, 0, 0, 0, 2, 0, 0, 0, 3, 1, 0, 0, 1]).2 ∧ 0 = (parseS [132, 206, 0, 4, 0, 0, 0, 1, 0, 0, 0, 2, 0, 0, 0, 3, 1, 0, 0, 1]).1.length := by constructor <;> kernel_rfl
theorem kn_j : parseS [131, 202, 0, 1, 1, 2, 3, 4] = ([{ rep0 with kind := 7, ty := 202, ct := 3, body := [1, 2, 3, 4] }], 0) := by kernel_rfl
theorem kn_l : parseS [143, 206, 0, 4, 0, 0, 0, 1, 0, 0, 0, 0, 82, 69, 77, 66, 0, 4, 0, 3] = ([{ rep0 with kind := 6, fr := 1, ex := 1, mt := 3 }], 0) := by kernel_rfl
theorem kn_is1 : isB [200] = false := by decide
theorem kn_is2 : isB [128, 224] = false := by decide
theorem kn_rate : ((rateS 3 1 : Nat) : Int) = 6 := by decide
theorem kn_p : nackS [5, 6, 30, 65535, 0] = [(5, 1), (30, 0), (65535, 1)] := by decide
theorem wpList_load_mid_g {P : Program} {ops : Array Oper} {rest : List Oper} {op : Oper} {a : Act} {w : World} {Q : Exit → Act → World → Prop} (hgd : Region.wanted op (yielded ops a.tmps) = true) (ty : TypeId) (x : Operand) (ho : op.op = .load ty x)
    (b o : Nat) (hx : a.eval x = .pointer (some ⟨b, o, none⟩)) (cs : List Value) (d : TypeDesc) (hc : w.rangeAt b o cs)
    (hu : P.underlying ty = some d) (hd : d.isRow = true) (hi : (P.info? ty).map (·.size) = some cs.length)
    (h : wpList P ops Q rest (a.put op.dst (.agg cs.toArray)) w) : wpList P ops Q (op :: rest) a w := by
  simp only [wpList, hgd, if_true]
  exact .inl <| wp_load_mid ty x ho b o hx cs d hc hu hd hi h
theorem eqp_a (w : World) : (Op.equalIn 10000 57 (.agg #[.int .u16 5, .int .u16 1]) (.agg #[.int .u16 5, .int .u16 1])).run Try.prog w = .ok true w := by kernel_rfl
theorem eqp_b (w : World) : (Op.equalIn 10000 57 (.agg #[.int .u16 30, .int .u16 0]) (.agg #[.int .u16 30, .int .u16 0])).run Try.prog w = .ok true w := by kernel_rfl
theorem eqp_c (w : World) : (Op.equalIn 10000 57 (.agg #[.int .u16 65535, .int .u16 1]) (.agg #[.int .u16 65535, .int .u16 1])).run Try.prog w = .ok true w := by kernel_rfl
theorem RepV.at_ {w : World} {L : List Value} {r : Rep} (h : RepV w L.toArray r) : L[0]? = some (.int .i64 r.kind) ∧ L[13]? = some (.int .i64 r.ty) ∧ L[14]? = some (.int .i64 r.ct) ∧ ∃ vd, L[15]? = some vd ∧ SlV w vd r.body := by
  obtain ⟨vb, vp, vf, vs, vd, e, _, _, _, _, hd⟩ := h
  have e2 : L = [.int .i64 r.kind, .int .u32 (r.fr : Int), .int .u32 (r.ab : Int), .int .u64 (r.ntp : Int), .int .u32 (r.ts : Int), .int .u32 (r.pk : Int), .int .u32 (r.oc : Int), vb, vp, vf, .int .i64 r.ex, .int .u32 (r.mt : Int), vs, .int .i64 r.ty, .int .i64 r.ct, vd] := by
    have := congrArg Array.toList e
    simpa [repA] using this
  subst e2
  exact ⟨rfl, rfl, rfl, vd, rfl, hd⟩
set_option maxRecDepth 100000 in
set_option maxHeartbeats 25600000 in
theorem knownLaw_c (w : World) : Calls Try.prog 8 #[] w fun e w' => e = .returned (.bool true) ∧ Below w.heap.size w w' := by
  obtain ⟨iB, hiB, hz0, hz1, hz2⟩ := info_parts infoByte
  go_enter Try.func8, Try.ntmps8
  go_upto_region 3 with (first
    | (go_at_call 9
       refine (awake_c _).mono ?_
       rintro e0 w0 ⟨rfl, hb0⟩
       have HB0 := Lib.hid hb0
       clear hb0))
  go_upto_region 4 with fail
  obtain ⟨g0, hg0⟩ : ∃ g0, g0 = w0.heap.size := ⟨_, rfl⟩
  obtain ⟨w1, hw1⟩ : ∃ w1, w1 = w0.alloc (.cells #[.int .u8 129, .int .u8 206, .int .u8 0, .int .u8 2, .int .u8 0, .int .u8 0, .int .u8 0, .int .u8 1, .int .u8 0, .int .u8 0, .int .u8 0, .int .u8 2] 5) := ⟨_, rfl⟩
  rw [← hw1, ← hg0]
  have HP1 : Hid (SlV w1 (.slice (some ⟨g0, 0, none⟩) 12 12) ([129, 206, 0, 2, 0, 0, 0, 1, 0, 0, 0, 2] : List UInt8)) := by show SlV _ _ _; rw [hw1, hg0]; exact SlV.lit _ _ _ 12 _ rfl rfl
  have HB1 : Hid (Below w.heap.size w w1) := by show Below _ _ _; rw [hw1]; exact balloc HB0.out _
  clear hw1 hg0 HB0
  go_upto_region 5 with (first
    | (go_at_call 10
       refine (parse_z (SlV.nil w1) (by decide) kn_a.1 kn_a.2).mono ?_
       rintro e0 w2 ⟨A2, c2, rfl, hr2, hb2⟩
       have HP2 : Hid (SlV w2 (.slice (some ⟨g0, 0, none⟩) 12 12) ([129, 206, 0, 2, 0, 0, 0, 1, 0, 0, 0, 2] : List UInt8)) := HP1.out.below hb2
       have HB2 : Hid (Below w.heap.size w w2) := bcall HB1.out hb2
       clear hr2 hb2))
  clear HP1 HB1
  have hcut := fun wx : World => cut_to0 wx ⟨g0, 0, none⟩ 12 12 11 (by decide)
  have hcut' : ∀ wx, (Instr.slice 22 (.slice (some ⟨g0, 0, none⟩) 12 12) none (some (.int .i64 11)) none).run Try.prog wx = .ok (.slice (some ⟨g0, 0, none⟩) 11 12) wx := hcut
  clear hcut
  have HC2 : Hid (SlV w2 (.slice (some ⟨g0, 0, none⟩) 11 12) (([129, 206, 0, 2, 0, 0, 0, 1, 0, 0, 0, 2] : List UInt8) |>.take 11)) := by
    have := SlB.toV (SlB.to_ (k := 11) (HP2.out.toB (Nat.le_refl _)) (by decide)) (Nat.le_refl _)
    exact this
  go_upto_region 6 with (first
    | (go_at_call 10
       refine (parse_z HC2.out (by decide) kn_b.1 kn_b.2).mono ?_
       rintro e0 w3 ⟨A3, c3, rfl, hr3, hb3⟩
       have HP3 : Hid (SlV w3 (.slice (some ⟨g0, 0, none⟩) 12 12) ([129, 206, 0, 2, 0, 0, 0, 1, 0, 0, 0, 2] : List UInt8)) := HP2.out.below hb3
       have HB3 : Hid (Below w.heap.size w w3) := bcall HB2.out hb3
       clear hr3 hb3))
  clear hcut' HC2 HP2 HB2
  go_upto_region 7 with (first
    | (at_builtin
       refine wpList_append_any _ rfl (.tmp 43) (.tmp 44) _ rfl w3.heap.size 5 iB _ 1 1 Try.underlying22 hiB hz0 hz1 hz2 rfl (by omega) (.slice (some ⟨w3.heap.size, 0, none⟩) 0 0) 0 [] rfl (own_empty w3 _ _)
         (w3.alloc (.cells #[] 5)).heap.size (some ⟨g0, 0, none⟩) 12 12 (([129, 206, 0, 2, 0, 0, 0, 1, 0, 0, 0, 2] : List UInt8).map u8v) rfl (SlV.rd (HP3.out.below (balloc (Below.refl _ _) _))) (u8_one _) (by simp only [maxLen]; omega) (by omega) (by simp) ?_
       intro v4 w4 hown4 hg4 hat4
       rw [Nat.zero_add, List.nil_append] at hown4
       have HO4 := Lib.hid hown4
       have HB4 : Hid (Below w3.heap.size w3 w4) := fresh_below hg4
       clear hown4 hg4 hat4)
    | (at_builtin
       refine wpList_append_any _ rfl (.tmp 45) (.tmp 46) _ rfl w3.heap.size 5 iB _ 1 1 Try.underlying22 hiB hz0 hz1 hz2 rfl (by omega) v4 12 (([129, 206, 0, 2, 0, 0, 0, 1, 0, 0, 0, 2] : List UInt8).map u8v) rfl (HO4.out.alloc _)
         (w4.alloc (.cells #[.int .u8 129, .int .u8 206] 5)).heap.size (some ⟨w4.heap.size, 0, none⟩) 2 2 (([129, 206] : List UInt8).map u8v) rfl (SlV.rd (SlV.lit w4 _ _ 2 [129, 206] rfl rfl)) (u8_one _) (by simp only [maxLen]; omega) (by omega) (by have := HB4.out.size; simp; omega) ?_
       intro v5 w5 hown5 hg5 hat5
       obtain ⟨A5, c5, rfl⟩ := own_slice hown5
       have HO5 : Hid (SlV w5 (.slice A5 14 c5) (([129, 206, 0, 2, 0, 0, 0, 1, 0, 0, 0, 2] : List UInt8) ++ [129, 206])) := SlV.own (base := w3.heap.size) (by unfold ByteRow; rw [List.map_append]; exact hown5)
       have HB5 : Hid (Below w3.heap.size w3 w5) := own_grow_below (balloc HB4.out _) (HO4.out.alloc _) hg5
       clear hown5 hg5 hat5)
    | (go_at_call 10
       refine (parse_z HO5.out (by decide) kn_c.1 kn_c.2).mono ?_
       rintro e0 w6 ⟨A6, c6, rfl, hr6, hb6⟩
       have HB6 : Hid (Below w.heap.size w w6) := bcall (bcall HB3.out HB5.out) hb6
       clear hr6 hb6))
  clear HP3 HB3 HO4 HB4 HO5 HB5
  go_upto_region 8 with (first
    | (go_at_call 10
       refine (parse_z (b := [65, 206, 0, 0]) (n := 4) (cap := 4) (SlV.lit w6 _ _ 4 _ rfl rfl) (by decide) kn_d.1 kn_d.2).mono ?_
       rintro e0 w7 ⟨A7, c7, rfl, hr7, hb7⟩
       have HB7 : Hid (Below w.heap.size w w7) := bcall (balloc HB6.out _) hb7
       clear hr7 hb7))
  clear HB6
  go_upto_region 9 with (first
    | (go_at_call 10
       refine (parse_z (b := [161, 206, 0, 0]) (n := 4) (cap := 4) (SlV.lit w7 _ _ 4 _ rfl rfl) (by decide) kn_e.1 kn_e.2).mono ?_
       rintro e0 w8 ⟨A8, c8, rfl, hr8, hb8⟩
       have HB8 : Hid (Below w.heap.size w w8) := bcall (balloc HB7.out _) hb8
       clear hr8 hb8))
  clear HB7
  go_upto_region 10 with (first
    | (go_at_call 10
       refine (parse_z (b := [129, 191, 0, 0]) (n := 4) (cap := 4) (SlV.lit w8 _ _ 4 _ rfl rfl) (by decide) kn_f.1 kn_f.2).mono ?_
       rintro e0 w9 ⟨A9, c9, rfl, hr9, hb9⟩
       have HB9 : Hid (Below w.heap.size w w9) := bcall (balloc HB8.out _) hb9
       clear hr9 hb9))
  clear HB8
  go_upto_region 11 with (first
    | (go_at_call 10
       refine (parse_z (b := [129, 206, 0, 1, 0, 0, 0, 1]) (n := 8) (cap := 8) (SlV.lit w9 _ _ 8 _ rfl rfl) (by decide) kn_g.1 kn_g.2).mono ?_
       rintro e0 w10 ⟨A10, c10, rfl, hr10, hb10⟩
       have HB10 : Hid (Below w.heap.size w w10) := bcall (balloc HB9.out _) hb10
       clear hr10 hb10))
  clear HB9
  go_upto_region 12 with (first
    | (go_at_call 10
       refine (parse_z (b := [129, 205, 0, 2, 0, 0, 0, 1, 0, 0, 0, 2]) (n := 12) (cap := 12) (SlV.lit w10 _ _ 12 _ rfl rfl) (by decide) kn_h.1 kn_h.2).mono ?_
       rintro e0 w11 ⟨A11, c11, rfl, hr11, hb11⟩
       have HB11 : Hid (Below w.heap.size w w11) := bcall (balloc HB10.out _) hb11
       clear hr11 hb11))
  clear HB10
  go_upto_region 13 with (first
    | (go_at_call 10
       refine (parse_z (b := [132, 206, 0, 4, 0, 0, 0, 1, 0, 0, 0, 2, 0, 0, 0, 3, 1, 0, 0, 1]) (n := 20) (cap := 20) (SlV.lit w11 _ _ 20 _ rfl rfl) (by decide) kn_i.1 kn_i.2).mono ?_
       rintro e0 w12 ⟨A12, c12, rfl, hr12, hb12⟩
       have HB12 : Hid (Below w.heap.size w w12) := bcall (balloc HB11.out _) hb12
       clear hr12 hb12))
  clear HB11
  go_upto_region 14 with (first
    | (go_at_call 10
       refine (parse_z (b := [131, 202, 0, 1, 1, 2, 3, 4]) (n := 8) (cap := 8) (SlV.lit w12 _ _ 8 _ rfl rfl) (by decide) (z := 0) (k := 1) (by rw [kn_j]) (by rw [kn_j]; rfl)).mono ?_
       rintro e0 w13 ⟨AJ, c13, rfl, hr13, hb13⟩
       have HRJ13 : Hid (RepsAt w13 AJ 1 [{ rep0 with kind := 7, ty := 202, ct := 3, body := [1, 2, 3, 4] }]) := by have := hr13; rw [kn_j] at this; exact this
       have HB13 : Hid (Below w.heap.size w w13) := bcall (balloc HB12.out _) hb13
       clear hr13 hb13))
  clear HB12
  go_upto_region 15 with (first
    | (go_at_call 10
       refine (parse_z (b := [143, 206, 0, 4, 0, 0, 0, 1, 0, 0, 0, 0, 82, 69, 77, 66, 0, 4, 0, 3]) (n := 20) (cap := 20) (SlV.lit w13 _ _ 20 _ rfl rfl) (by decide) (z := 0) (k := 1) (by rw [kn_l]) (by rw [kn_l]; rfl)).mono ?_
       rintro e0 w14 ⟨AL, c14, rfl, hr14, hb14⟩
       have HRJ14 : Hid (RepsAt w14 AJ 1 [{ rep0 with kind := 7, ty := 202, ct := 3, body := [1, 2, 3, 4] }]) := (HRJ13.out.below (balloc (Below.refl _ _) _)).below hb14
       have HRL14 : Hid (RepsAt w14 AL 1 [{ rep0 with kind := 6, fr := 1, ex := 1, mt := 3 }]) := by have := hr14; rw [kn_l] at this; exact this
       have HB14 : Hid (Below w.heap.size w w14) := bcall (balloc HB13.out _) hb14
       clear hr14 hb14))
  clear HB13 HRJ13
  go_upto_region 16 with (first
    | (go_at_call 23
       refine (bytesNil_c _).mono ?_
       rintro e0 _ ⟨rfl, rfl⟩))
  obtain ⟨XL, hXL⟩ : ∃ XL : List Value, XL = [.int .i64 3, .int .u32 0, .int .u32 0, .int .u64 0, .int .u32 0, .int .u32 0, .int .u32 0, .slice none 0 0, .slice none 0 0, .slice none 0 0, .int .i64 0, .int .u32 0, .slice none 0 0, .int .i64 0, .int .i64 0, .slice none 0 0] := ⟨_, rfl⟩
  have HXR : Hid (RepV (w14.alloc (.cells XL.toArray 46)) XL.toArray { rep0 with kind := 3 }) := by rw [hXL]; exact ⟨nilV, nilV, nilV, nilV, nilV, rfl, SlR.nil _ _, SlR.nil _ _, SlR.nil _ _, SlR.nil _ _, SlV.nil _⟩
  have HXA : Hid (RepsAt (w14.alloc (.cells XL.toArray 46)) (some ⟨w14.heap.size, 0, none⟩) 1 [{ rep0 with kind := 3 }]) := by
    refine ⟨[XL.toArray], ?_, rfl, fun i cs r h1 h2 => ?_⟩
    · have := reads_blk (n := 1) (size := 16) (Blk.newAt (w := w14) rfl 46 XL.toArray) (by rw [hXL]; rfl)
      simpa [cellsL] using this
    · match i, h1, h2 with
      | 0, h1, h2 =>
        simp only [List.getElem?_cons_zero, Option.some.injEq] at h1 h2
        subst h1 h2
        exact HXR.out
      | i + 1, h1, h2 => simp at h1
  have HXB : Hid (∃ r ∈ [({ rep0 with kind := 3 } : Rep)], ¬ goodS r) := by
    refine ⟨_, List.mem_singleton.2 rfl, ?_⟩
    rintro ⟨k, hk, hn, hc⟩
    have hk3 : k = 3 := by have : (3 : Int) = (k : Int) := hk; omega
    subst hk3
    have h0 : 0 < ([] : List (List Nat)).length := hc
    exact absurd h0 (by decide)
  have HXF : Hid (∀ r ∈ [({ rep0 with kind := 3 } : Rep)], r.blocks.length ≤ 1000000 ∧ -9223372036854775808 ≤ r.ex ∧ r.ex ≤ 9223372036854775807) := by
    intro r hr
    rw [List.mem_singleton] at hr
    subst hr
    exact ⟨Nat.zero_le _, by decide, by decide⟩
  have HXE := Lib.hid hXL
  have HX16 : Hid (XL.length = 16) := by show _ = _; rw [hXL]; rfl
  have HEV : Hid (Value.agg #[.int .i64 3, .int .u32 0, .int .u32 0, .int .u64 0, .int .u32 0, .int .u32 0, .int .u32 0, .slice none 0 0, .slice none 0 0, .slice none 0 0, .int .i64 0, .int .u32 0, .slice none 0 0, .int .i64 0, .int .i64 0, .slice none 0 0] = Value.agg XL.toArray) := by show _ = _; rw [hXL]
  clear hXL
  go_upto_region 17 with (first
    | ((with_reducible show wpList _ _ _ (⟨some 97, .buildSlice _ _ _, _, _, _, _⟩ :: _) _ _); refine wpList_buildR rfl (.tmp 96) rfl XL HX16.out HEV.out ?_)
    | (go_at_call 23
       refine (bytesBad_c _ _ 1 1 _ HXA.out rfl (by decide) (by decide) HXF.out HXB.out).mono ?_
       rintro e0 w20 ⟨rfl, hb20⟩
       have HB20 : Hid (Below w14.heap.size w14 w20) := bcall (balloc (Below.refl _ _) _) hb20
       clear hb20))
  have HBN : Hid (Below w.heap.size w w20) := bcall HB14.out HB20.out
  have HJ20 : Hid (RepsAt w20 AJ 1 [{ rep0 with kind := 7, ty := 202, ct := 3, body := [1, 2, 3, 4] }]) := HRJ14.out.below HB20.out
  have HL20 : Hid (RepsAt w20 AL 1 [{ rep0 with kind := 6, fr := 1, ex := 1, mt := 3 }]) := HRL14.out.below HB20.out
  clear HB20 HB14 HRJ14 HRL14 HXR HXA HXB HXF HXE HX16 HEV
  go_upto_region 18 with (first
    | (go_at_call 16
       refine (nack_c [5, 6, 30, 65535, 0] _ 5 5 _ (reads_blk (n := 5) (size := 1) (Blk.newAt (w := w20) rfl _ _) rfl) (by decide) (by decide)).mono ?_
       rintro e0 w21 ⟨v21, rfl, ho21, hb21⟩
       rw [kn_p] at ho21
       obtain ⟨AP, cP, rfl⟩ := own_slice ho21
       have HP21 := Lib.hid (Reads.of_own ho21)
       have HB21 : Hid (Below w20.heap.size w20 w21) := bcall (balloc (Below.refl _ _) _) hb21
       clear ho21 hb21))
  have HBM : Hid (Below w.heap.size w w21) := bcall HBN.out HB21.out
  obtain ⟨gj, oj, hAJ, hgj, hj⟩ := (HJ20.out.below HB21.out).at_ (by decide)
  obtain ⟨LJ, hvj, hlj, hrj⟩ := hj 0 _ rfl
  obtain ⟨gl, ol, hAL, hgl, hl⟩ := (HL20.out.below HB21.out).at_ (by decide)
  obtain ⟨LL, hvl, hll, hrl⟩ := hl 0 _ rfl
  obtain ⟨gp, op, hAP, hgp, hp⟩ := pair_cells HP21.out (by decide)
  subst hAJ hAL hAP
  obtain ⟨j0, j13, j14, vd, j15, hvd⟩ := hvj.at_
  obtain ⟨vb, vp, vf, vs, vd2, el, hb1, hb2, hb3, hb4, hb5⟩ := id hvl
  obtain ⟨B1, b1, rfl, _, _⟩ := hb1
  obtain ⟨B2, b2, rfl, _, _⟩ := hb2
  obtain ⟨B3, b3, rfl, _, _⟩ := hb3
  obtain ⟨B4, b4, rfl, _, _⟩ := hb4
  obtain ⟨B5, b5, rfl, _, _⟩ := hb5
  have el2 : LL = [.int .i64 6, .int .u32 1, .int .u32 0, .int .u64 0, .int .u32 0, .int .u32 0, .int .u32 0, .slice B1 0 b1, .slice B2 0 b2, .slice B3 0 b3, .int .i64 1, .int .u32 3, .slice B4 0 b4, .int .i64 0, .int .i64 0, .slice B5 0 b5] := by
    have := congrArg Array.toList el
    simpa [repA, rep0] using this
  subst el2
  clear el
  obtain ⟨Ad, cd, rfl, _, _⟩ := hvd
  rw [Nat.zero_mul, Nat.add_zero] at hrj hrl
  have cj0 : w21.cell? ⟨gj, oj, none⟩ = some (.int .i64 7) := hrj 0 _ j0
  have cj13 : w21.cell? ⟨gj, oj + 13, none⟩ = some (.int .i64 202) := hrj 13 _ j13
  have cj14 : w21.cell? ⟨gj, oj + 14, none⟩ = some (.int .i64 3) := hrj 14 _ j14
  have cj15 : w21.cell? ⟨gj, oj + 15, none⟩ = some (.slice Ad 4 cd) := hrj 15 _ j15
  have cl0 : w21.cell? ⟨gl, ol, none⟩ = some (.int .i64 6) := hrl 0 _ rfl
  have cl1 : w21.cell? ⟨gl, ol + 1, none⟩ = some (.int .u32 1) := hrl 1 _ rfl
  have cl2 : w21.cell? ⟨gl, ol + 2, none⟩ = some (.int .u32 0) := hrl 2 _ rfl
  have cl3 : w21.cell? ⟨gl, ol + 3, none⟩ = some (.int .u64 0) := hrl 3 _ rfl
  have cl4 : w21.cell? ⟨gl, ol + 4, none⟩ = some (.int .u32 0) := hrl 4 _ rfl
  have cl5 : w21.cell? ⟨gl, ol + 5, none⟩ = some (.int .u32 0) := hrl 5 _ rfl
  have cl6 : w21.cell? ⟨gl, ol + 6, none⟩ = some (.int .u32 0) := hrl 6 _ rfl
  have cl7 : w21.cell? ⟨gl, ol + 7, none⟩ = some (.slice B1 0 b1) := hrl 7 _ rfl
  have cl8 : w21.cell? ⟨gl, ol + 8, none⟩ = some (.slice B2 0 b2) := hrl 8 _ rfl
  have cl9 : w21.cell? ⟨gl, ol + 9, none⟩ = some (.slice B3 0 b3) := hrl 9 _ rfl
  have cl10 : w21.cell? ⟨gl, ol + 10, none⟩ = some (.int .i64 1) := hrl 10 _ rfl
  have cl11 : w21.cell? ⟨gl, ol + 11, none⟩ = some (.int .u32 3) := hrl 11 _ rfl
  have cl12 : w21.cell? ⟨gl, ol + 12, none⟩ = some (.slice B4 0 b4) := hrl 12 _ rfl
  have cl13 : w21.cell? ⟨gl, ol + 13, none⟩ = some (.int .i64 0) := hrl 13 _ rfl
  have cl14 : w21.cell? ⟨gl, ol + 14, none⟩ = some (.int .i64 0) := hrl 14 _ rfl
  have cl15 : w21.cell? ⟨gl, ol + 15, none⟩ = some (.slice B5 0 b5) := hrl 15 _ rfl
  have p0 : w21.cell? ⟨gp, op, none⟩ = some (.int .u16 5) := (hp 0 5 1 rfl).1
  have p1 : w21.cell? ⟨gp, op + 1, none⟩ = some (.int .u16 1) := (hp 0 5 1 rfl).2
  have p2 : w21.cell? ⟨gp, op + 2, none⟩ = some (.int .u16 30) := (hp 1 30 0 rfl).1
  have p3 : w21.cell? ⟨gp, op + 2 + 1, none⟩ = some (.int .u16 0) := (hp 1 30 0 rfl).2
  have p4 : w21.cell? ⟨gp, op + 4, none⟩ = some (.int .u16 65535) := (hp 2 65535 1 rfl).1
  have p5 : w21.cell? ⟨gp, op + 4 + 1, none⟩ = some (.int .u16 1) := (hp 2 65535 1 rfl).2
  have HRC : Hid (Calls Try.prog 28 #[.agg #[.int .i64 6, .int .u32 1, .int .u32 0, .int .u64 0, .int .u32 0, .int .u32 0, .int .u32 0, .slice B1 0 b1, .slice B2 0 b2, .slice B3 0 b3, .int .i64 1, .int .u32 3, .slice B4 0 b4, .int .i64 0, .int .i64 0, .slice B5 0 b5]] w21 fun e w' => e = .returned (.int .u64 6) ∧ Below w21.heap.size w21 w') := (rateV_c _ _ _ hvl (by decide) (by decide) (by decide)).mono fun e w' h => ⟨h.1.trans (congrArg (fun z => Ending.returned (.int .u64 z)) kn_rate), h.2⟩
  have HGS : Hid (gj < w21.heap.size ∧ gl < w21.heap.size ∧ gp < w21.heap.size) := ⟨hgj, hgl, hgp⟩
  clear hvj hlj hrj hj hgj hvl hll hrl hl hgl hp hgp j0 j13 j14 j15 HP21 HJ20 HL20 HBN HB21
  have eqa := eqp_a
  have eqb := eqp_b
  have eqc := eqp_c
  go_upto_region 20 with fail
  go_wp2_with fail
  refine HRC.out.mono ?_
  rintro e0 w22 ⟨rfl, hb22⟩
  have HG := HGS.out
  have d0 : w22.cell? ⟨gp, op, none⟩ = some (.int .u16 5) := (hb22.cell (p := ⟨gp, op, none⟩) HG.2.2).trans p0
  have d1 : w22.cell? ⟨gp, op + 1, none⟩ = some (.int .u16 1) := (hb22.cell (p := ⟨gp, op + 1, none⟩) HG.2.2).trans p1
  have d2 : w22.cell? ⟨gp, op + 2, none⟩ = some (.int .u16 30) := (hb22.cell (p := ⟨gp, op + 2, none⟩) HG.2.2).trans p2
  have d3 : w22.cell? ⟨gp, op + 2 + 1, none⟩ = some (.int .u16 0) := (hb22.cell (p := ⟨gp, op + 2 + 1, none⟩) HG.2.2).trans p3
  have d4 : w22.cell? ⟨gp, op + 4, none⟩ = some (.int .u16 65535) := (hb22.cell (p := ⟨gp, op + 4, none⟩) HG.2.2).trans p4
  have d5 : w22.cell? ⟨gp, op + 4 + 1, none⟩ = some (.int .u16 1) := (hb22.cell (p := ⟨gp, op + 4 + 1, none⟩) HG.2.2).trans p5
  have HB22 : Hid (Below w.heap.size w w22) := bcall HBM.out hb22
  have HS1 : Hid (SlV (w22.alloc (.cells #[.int .u8 200] 5)) (.slice (some ⟨w22.heap.size, 0, none⟩) 1 1) [200]) := SlV.lit w22 #[.int .u8 200] (0, 0) 1 [200] rfl rfl
  clear hb22 HG p0 p1 p2 p3 p4 p5
  go_wp2_with fail
  refine (is_c [200] (some ⟨w22.heap.size, 0, none⟩) 1 1 (w22.alloc (.cells #[.int .u8 200] 5)) HS1.out).mono ?_
  rintro e0 _ ⟨he, rfl⟩
  rw [kn_is1] at he
  subst he
  obtain ⟨w25, hw25⟩ : ∃ w25, w25 = w22.alloc (.cells #[.int .u8 200] 5) := ⟨_, rfl⟩
  have HB25 : Hid (Below w.heap.size w w25) := by show Below _ _ _; rw [hw25]; exact balloc HB22.out _
  have HS2 : Hid (SlV (w25.alloc (.cells #[.int .u8 128, .int .u8 224] 5)) (.slice (some ⟨w25.heap.size, 0, none⟩) 2 2) [128, 224]) := SlV.lit w25 #[.int .u8 128, .int .u8 224] (0, 0) 2 [128, 224] rfl rfl
  rw [← hw25]
  clear hw25
  go_wp2_with fail
  refine (is_c [128, 224] (some ⟨w25.heap.size, 0, none⟩) 2 2 (w25.alloc (.cells #[.int .u8 128, .int .u8 224] 5)) HS2.out).mono ?_
  rintro e0 _ ⟨he, rfl⟩
  rw [kn_is2] at he
  subst he
  go_wp2_with fail
  go_ret
  exact ⟨rfl, balloc HB25.out _⟩
end Go.Proofs.Ytkfimncbfbbopaa
