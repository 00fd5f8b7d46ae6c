/- What RatchetKnown does. Conditions: none. -/
import Derived.Test.YtlapgccfgkokcaaGo
set_option linter.unusedVariables false
set_option linter.unusedSimpArgs false
namespace Go.Proofs.Ytlapgccfgkokcaa
open Go.RowKit
attribute [local go_sem ↓] Go.wp_at_zero Go.wp_at_succ

/-- Bytes do not lie in the chain's block. -/
theorem SlV.set2 {w : World} {v : Value} {b : List UInt8} {p : Nat} {z : Int} {A : Option Addr} {n c : Nat} (h : SlV w v b) (hk : Blk w p 94 #[.int .i64 z, .slice A n c]) (u1 u2 : Value) : SlV ((w.setCell ⟨p, 0, none⟩ u1).setCell ⟨p, 1, none⟩ u2) v b := by
  obtain ⟨A1, c1, rfl, hc, hr⟩ := h
  refine ⟨A1, c1, rfl, hc, hr.1, fun hp => ?_⟩
  obtain ⟨g, o, rfl, hg, hcs⟩ := head_cells hr hp
  have hne : g ≠ p := by
    rintro rfl
    have h0 := hcs 0 hp
    rw [Nat.add_zero] at h0
    have hb := hk.cell o
    rw [h0] at hb
    match o, hb with
    | 0, hb => simp at hb
    | 1, hb => simp at hb
    | k + 2, hb => simp at hb
  refine ⟨_, rfl, by simpa using hg, fun j u hj => ?_⟩
  obtain ⟨ad, e, _, hc2⟩ := hr.2 hp
  injection e with e
  have := hc2 j u hj
  rw [← e] at this
  rw [← this]
  have e1 : ∀ (wx : World) (i : Nat) (x : Value), (wx.setCell ⟨p, i, none⟩ x).cell? (Addr.add ⟨g, o, none⟩ j) = wx.cell? (Addr.add ⟨g, o, none⟩ j) := fun wx i x => World.cell?_of_block (by rw [block_of_add]; exact Below.heap_setCell _ _ _ _ hne)
  exact (e1 _ _ _).trans (e1 _ _ _)
theorem set_blk {w : World} {p : Nat} {x y x' y' : Value} (h : Blk w p 94 #[x, y]) : Blk ((w.setCell ⟨p, 0, none⟩ x').setCell ⟨p, 1, none⟩ y') p 94 #[x', y'] := (h.set_ 0 x').set_ 1 y'
set_option maxRecDepth 100000 in
set_option maxHeartbeats 6400000 in
theorem rknown_walk (w : World) : Calls Try.prog 19 #[] w fun e w' => e = .returned (.bool true) ∧ Below w.heap.size w w' := by
  have kc := fun (w : World) (C : Array Value) (n c : Nat) => Lib.run_convert_bytes_const (P := Try.prog) w 27 5 C n c Try.underlying27 Try.underlying5
  go_enter Try.func19, Try.ntmps19
  go_upto_region 7 with
   (first
    | (go_at_call 41
       refine (awake4_c w).mono ?_
       rintro e0 w1 ⟨rfl, hb1⟩
       have HB1 := Lib.hid hb1
       clear hb1)
    | (go_at_call 44
       first
         | ((with_reducible show Calls _ _ #[.int .i64 32, _] _ _)
            refine (cnew_bad none 0 0 32 w1 (.inr (by decide))).mono ?_
            rintro e0 wx ⟨rfl, rfl⟩)
         | ((with_reducible show Calls _ _ #[.int .i64 (-1), _] _ _)
            refine (cnew_bad none 0 0 (-1) w1 (.inl (by decide))).mono ?_
            rintro e0 wx ⟨rfl, rfl⟩))
    | (go_at_call 42
       first
         | ((with_reducible show Calls _ _ #[_, .int .i64 32] _ _)
            refine (after_bad none 0 0 32 w1 (.inr (by decide))).mono ?_
            rintro e0 wx ⟨rfl, rfl⟩)
         | ((with_reducible show Calls _ _ #[_, .int .i64 (-1)] _ _)
            refine (after_bad none 0 0 (-1) w1 (.inl (by decide))).mono ?_
            rintro e0 wx ⟨rfl, rfl⟩)))
  go_upto_region 11 with
   (first
    | (go_at_call 42
       refine (after_c [97, 98] _ 2 2 0 _ (SlV.lit w1 _ _ 2 _ rfl rfl) (by decide) (by decide)).mono ?_
       rintro e0 w2 ⟨A2, n2, c2, rfl, hs2, hb2⟩
       have hn2 : n2 = 2 := hs2.num
       subst hn2
       have HZ2 : Hid (SlV w2 (.slice A2 2 c2) [97, 98]) := hs2
       have HB2 : Hid (Below w.heap.size w w2) := bcall (balloc HB1.out _) hb2
       clear hs2 hb2)
    | (go_at_call 44
       refine (cnew_c base4 _ 4 4 30 _ (SlV.lit w2 _ _ 4 _ rfl rfl) (by decide) (by decide)).mono ?_
       rintro e0 w3 ⟨p, A3, c3, rfl, hp, hk3, hs3, hb3⟩
       have HK3 := Lib.hid hk3
       have HS3 := Lib.hid hs3
       have HZ3 := Lib.hid ((HZ2.out.below (balloc (Below.refl _ _) _)).below hb3)
       have HB3 : Hid (Below w.heap.size w w3) := bcall (balloc HB2.out _) hb3
       have HPW : Hid (w.heap.size ≤ p) := by show _ ≤ _; have h1 := HB2.out.size; rw [World.size_alloc] at hp; omega
       clear hp hk3 hs3 hb3))
  go_upto_region 15 with
   (first
    | (go_at_call 45
       first
         | ((with_reducible show Calls _ _ #[_, .int .i64 32] _ _)
            refine (at_bad p 32 w3 (.inr (by decide))).mono ?_
            rintro e0 wx ⟨rfl, rfl⟩)
         | ((with_reducible show Calls _ _ #[_, .int .i64 (-1)] _ _)
            refine (at_bad p (-1) w3 (.inl (by decide))).mono ?_
            rintro e0 wx ⟨rfl, rfl⟩)
         | (refine (at_c base4 A3 4 c3 p 30 31 w3 HK3.out HS3.out (by decide) (by decide) (by decide)).mono ?_
            rintro e0 w4 ⟨A4, n4, c4, rfl, hs4, hb4⟩
            have hn4 : n4 = 32 := hs4.num.trans (nextS_len _)
            subst hn4
            have HS4 : Hid (SlV w4 (.slice A4 32 c4) (nextS base4)) := hs4
            have HB4 : Hid (Below w.heap.size w w4) := bcall HB3.out hb4
            have HK4 := Lib.hid (Blk.below HK3.out hb4)
            have HC4 := Lib.hid (HS3.out.below hb4)
            have HZ4 := Lib.hid (HZ3.out.below hb4)
            clear hs4 hb4))
    | (go_at_call 42
       refine (after_c base4 _ 4 4 1 _ (SlV.lit w4 _ _ 4 _ rfl rfl) (by decide) (by decide)).mono ?_
       rintro e0 w5 ⟨A5, n5, c5, rfl, hs5, hb5⟩
       have hn5 : n5 = 32 := hs5.num.trans (nextS_len _)
       subst hn5
       have hb45 := bcall (balloc (Below.refl _ w4) (.cells #[.int .u8 98, .int .u8 97, .int .u8 115, .int .u8 101] 5 (4, 5))) hb5
       have HQ5 : Hid (SlV w5 (.slice A5 32 c5) (nextS base4)) := hs5
       have HP5 := Lib.hid (HS4.out.below hb45)
       have HB5 : Hid (Below w.heap.size w w5) := bcall HB4.out hb45
       have HK5 := Lib.hid (Blk.below HK4.out hb45)
       have HC5 := Lib.hid (HC4.out.below hb45)
       have HZ5 := Lib.hid (HZ4.out.below hb45)
       clear hs5 hb5 hb45))
  clear HB1 HB2 HB3 HB4 HZ2 HZ3 HZ4 HK3 HK4 HS3 HC4 HS4
  go_upto_region 16 with
   (first
    | (go_at_call 46
       first
         | ((with_reducible show Calls _ _ #[_, .int .i64 32] _ _)
            refine (go_bad p 32 w5 (.inr (by decide))).mono ?_
            rintro e0 wx ⟨rfl, rfl⟩)
         | ((with_reducible show Calls _ _ #[_, .int .i64 29] _ _)
            refine (go_old p 30 29 _ w5 HK5.out (by decide) (by decide)).mono ?_
            rintro e0 wx ⟨n6, rfl, rfl⟩
            have HK6 : Hid (Blk (w5.drewN n6) p 94 #[.int .i64 30, .slice A3 4 c3]) := HK5.out
            have hb56 : Below w5.heap.size w5 (w5.drewN n6) := below_drewN (Below.refl _ _) n6
            have HC6 := Lib.hid (HC5.out.below hb56)
            have HQ6 := Lib.hid (HQ5.out.below hb56)
            have HP6 := Lib.hid (HP5.out.below hb56)
            have HZ6 := Lib.hid (HZ5.out.below hb56)
            have HB6 : Hid (Below w.heap.size w (w5.drewN n6)) := bcall HB5.out hb56
            clear hb56)
         | ((with_reducible show Calls _ _ #[_, .int .i64 31] _ _)
            refine (go_c base4 A3 4 c3 p 30 31 _ HK6.out HC6.out (by decide) (by decide) (by decide)).mono ?_
            rintro e0 wx ⟨A7, n7, c7, w7, rfl, hs7, hb7, rfl⟩
            obtain ⟨w8, hw8⟩ : ∃ w8, w8 = (w7.setCell ⟨p, 0, none⟩ (.int .i64 (31 : Nat))).setCell ⟨p, 1, none⟩ (.slice A7 n7 c7) := ⟨_, rfl⟩
            have hk7 : Blk w7 p 94 #[.int .i64 30, .slice A3 4 c3] := Blk.below HK6.out hb7
            have HK8 : Hid (Blk w8 p 94 #[.int .i64 31, .slice A7 n7 c7]) := by show Blk _ _ _ _; rw [hw8]; exact set_blk hk7
            have HQ8 : Hid (SlV w8 (.slice A5 32 c5) (nextS base4)) := by show SlV _ _ _; rw [hw8]; exact (HQ6.out.below hb7).set2 hk7 _ _
            have HP8 : Hid (SlV w8 (.slice A4 32 c4) (nextS base4)) := by show SlV _ _ _; rw [hw8]; exact (HP6.out.below hb7).set2 hk7 _ _
            have HZ8 : Hid (SlV w8 (.slice A2 2 c2) [97, 98]) := by show SlV _ _ _; rw [hw8]; exact (HZ6.out.below hb7).set2 hk7 _ _
            have HB8 : Hid (Below w.heap.size w w8) := by show Below _ _ _; rw [hw8]; exact bset (bset (bcall HB6.out hb7) HPW.out _) HPW.out _
            rw [← hw8]
            clear hw8 hk7 hb7 hs7)
         | ((with_reducible show Calls _ _ #[_, .int .i64 30] _ _)
            refine (go_old p 31 30 _ w8 HK8.out (by decide) (by decide)).mono ?_
            rintro e0 wx ⟨n9, rfl, rfl⟩
            have HK9 : Hid (Blk (w8.drewN n9) p 94 #[.int .i64 31, .slice A7 n7 c7]) := HK8.out
            have hb89 : Below w8.heap.size w8 (w8.drewN n9) := below_drewN (Below.refl _ _) n9
            have HQ9 := Lib.hid (HQ8.out.below hb89)
            have HP9 := Lib.hid (HP8.out.below hb89)
            have HZ9 := Lib.hid (HZ8.out.below hb89)
            have HB9 : Hid (Below w.heap.size w (w8.drewN n9)) := bcall HB8.out hb89
            clear hb89)))
  have hstr := slv_str4 HZ9.out
  have HSM := Lib.hid (same_s (r := true) (beq_self_eq_true _) HP9.out HQ9.out)
  have HST := Lib.hid (step_c p 31 _ _ HK9.out)
  go_wp2_with
   (first
    | (go_at_call 40
       refine HSM.out.mono ?_
       rintro e0 wx ⟨rfl, rfl⟩)
    | (go_at_call 47
       refine HST.out.mono ?_
       rintro e0 wx ⟨rfl, rfl⟩))
  go_ret
  exact ⟨rfl, HB9.out⟩
end Go.Proofs.Ytlapgccfgkokcaa
