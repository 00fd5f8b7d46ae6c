/- What the reference's mixed does (contract). Conditions: the piece lies in memory. (Printed by gen1m.py.) -/
import Derived.Test.YtlapgccfgkokcaaConsts
import Derived.StillTailTactics
set_option linter.unusedVariables false
set_option linter.unusedSimpArgs false
namespace Go.Proofs.Ytlapgccfgkokcaa
open Go.RowKit
attribute [local go_sem ↓] Go.wp_at_zero Go.wp_at_succ

/-- What mixed keeps: its words, the constants, its result, all that was there. -/
def MX (w wx : World) (H : List UInt32) : Prop := WB wx w.heap.size 69 H ∧ WB wx (w.heap.size + 1) 40 kL ∧ WB wx (w.heap.size + 1 + 1) 69 z8 ∧ Below w.heap.size w wx
theorem MX.set {w wx : World} {H : List UInt32} (h : MX w wx H) {p : Addr} (hp : w.heap.size + 1 + 1 < p.block) (u : Value) : MX w (wx.setCell p u) H :=
  ⟨h.1.far (by omega) u, h.2.1.far (by omega) u, h.2.2.1.far (by omega) u, bset h.2.2.2 (by omega) u⟩
theorem MX.drew {w wx : World} {H : List UInt32} (h : MX w wx H) : MX w wx.drew H := ⟨h.1, h.2.1, h.2.2.1, bdrew h.2.2.2⟩
theorem WB.setKeep {w : World} {g : Nat} {t : TypeId} {l : List UInt32} (h : WB w.drew g t l) : WB w g t l := h
set_option maxRecDepth 100000 in
set_option maxHeartbeats 6400000 in
theorem mixed_c (H : List UInt32) (m : List UInt8) (gb o c : Nat) (Z : List Value) (w : World) (hZ : Z = kL.map u32v) (hH : H.length = 8) (hm : m.length = 64) (hb : gb < w.heap.size)
    (hr : ∀ i, i < 64 → w.cell? ⟨gb, o + i, none⟩ = some (.int .u8 ((m.getD i 0).toNat : Int))) :
    Calls Try.prog 49 #[.agg (H.map u32v).toArray, .slice (some ⟨gb, o, none⟩) 64 c, .agg Z.toArray] w fun e w' => e = .returned (.agg ((cmp H m).map u32v).toArray) ∧ Below w.heap.size w w' := by
  have HH := Lib.hid hH
  have HM := Lib.hid hm
  have HR := Lib.hid hr
  have HB := Lib.hid hb
  have HZ := Lib.hid hZ
  clear hH hm hr hb hZ
  go_enter Try.func49, Try.ntmps49
  go_upto_region 3 with fail
  obtain ⟨w1, hw1⟩ : ∃ w1, w1 = (((w.alloc (.cells (H.map u32v).toArray 69)).alloc (.cells Z.toArray 40)).alloc (.cells (z8.map u32v).toArray 69)).alloc (.cells (z64.map u32v).toArray 40) := ⟨_, rfl⟩
  change Code.wp _ _ _ _ ((((w.alloc (.cells (H.map u32v).toArray 69)).alloc (.cells Z.toArray 40)).alloc (.cells (z8.map u32v).toArray 69)).alloc (.cells (z64.map u32v).toArray 40))
  obtain ⟨F, hF⟩ : ∃ F, F = wf m := ⟨_, rfl⟩
  have HF := Lib.hid hF
  have HX1 : Hid (MX w w1 H) := by
    show MX _ _ _
    rw [hw1, HZ.out]
    exact ⟨Blk.alloc (Blk.alloc (Blk.alloc (Blk.new _ _ _) _) _) _, Blk.alloc (Blk.alloc (Blk.newAt (by simp) _ _) _) _, Blk.alloc (Blk.newAt (by simp) _ _) _, balloc (balloc (balloc (balloc (Below.refl _ _) _) _) _) _⟩
  have HW1 : Hid (WB w1 (w.heap.size + 1 + 1 + 1) 40 (upW 64 0 F (fun _ => 0))) := by
    show WB _ _ _ _
    rw [← z64_up, hw1]
    exact Blk.newAt (by simp) _ _
  rw [← hw1]
  clear hw1 hF
  go_loopg [8] 16 (fun gg v8 wx => ∃ i : Nat, i ≤ 16 ∧ gg = 16 - i ∧ v8 = .int .i64 (i : Int) ∧ WB wx (w.heap.size + 1 + 1 + 1) 40 (upW 64 i F (fun _ => 0)) ∧ MX w wx H)
  case atStart => exact ⟨0, by omega, rfl, rfl, HW1.out, HX1.out⟩
  case round =>
    obtain ⟨i, hi, rfl, rfl, hw, hx⟩ := hrel
    clear HW1 HX1
    have HW := Lib.hid hw
    have HX := Lib.hid hx
    by_cases hi2 : i < 16
    · have hii : (i : Int) < 16 := by omega
      have fi := hw.free i
      have ci := hw.cell i (by rw [upW_len]; omega)
      obtain ⟨i4, hi4⟩ : ∃ i4, i4 = 4 * i := ⟨_, rfl⟩
      have hmul : 4 * (i : Int) = (i4 : Int) := by omega
      have hmulw := wrap64 i4 (by omega)
      have hl60 : i4 ≤ 60 := by omega
      have a1 : IntKind.i64.wrap ((i4 : Int) + 1) = (i4 : Int) + 1 := by rw [IntKind.wrap_i64]; omega
      have a2 : IntKind.i64.wrap ((i4 : Int) + 2) = (i4 : Int) + 2 := by rw [IntKind.wrap_i64]; omega
      have a3 : IntKind.i64.wrap ((i4 : Int) + 3) = (i4 : Int) + 3 := by rw [IntKind.wrap_i64]; omega
      have hcl : ∀ j, j < 64 → wr.cell? ⟨gb, o + j, none⟩ = some (.int .u8 ((m.getD j 0).toNat : Int)) := fun j hj => (hx.2.2.2.cell (p := ⟨gb, o + j, none⟩) HB.out).trans (HR.out j hj)
      have c0 := hcl i4 (by omega)
      have c1 := hcl (i4 + 1) (by omega)
      have c2 := hcl (i4 + 2) (by omega)
      have c3 := hcl (i4 + 3) (by omega)
      have hfi : F i = word4 (m.getD i4 0) (m.getD (i4 + 1) 0) (m.getD (i4 + 2) 0) (m.getD (i4 + 3) 0) := by rw [HF.out, wf_lo m i hi2, ← hi4, wd_eq]
      obtain ⟨b0, hb0⟩ : ∃ z, z = m.getD i4 0 := ⟨_, rfl⟩
      obtain ⟨b1, hb1⟩ : ∃ z, z = m.getD (i4 + 1) 0 := ⟨_, rfl⟩
      obtain ⟨b2, hb2⟩ : ∃ z, z = m.getD (i4 + 2) 0 := ⟨_, rfl⟩
      obtain ⟨b3, hb3⟩ : ∃ z, z = m.getD (i4 + 3) 0 := ⟨_, rfl⟩
      rw [← hb0, ← hb1, ← hb2, ← hb3] at hfi
      rw [← hb0] at c0
      rw [← hb1] at c1
      rw [← hb2] at c2
      rw [← hb3] at c3
      clear hb0 hb1 hb2 hb3 hcl hi4
      have h0 := W.shl_byte b0 24 (by decide)
      have h1 := W.shl_byte b1 16 (by decide)
      have h2 := W.shl_byte b2 8 (by decide)
      have h3 := W.of_byte b3
      have o1 := W.or (b0.toUInt32 <<< UInt32.ofNat 24) (b1.toUInt32 <<< UInt32.ofNat 16)
      have o2 := W.or (b0.toUInt32 <<< UInt32.ofNat 24 ||| b1.toUInt32 <<< UInt32.ofNat 16) (b2.toUInt32 <<< UInt32.ofNat 8)
      have o3 := W.or (b0.toUInt32 <<< UInt32.ofNat 24 ||| b1.toUInt32 <<< UInt32.ofNat 16 ||| b2.toUInt32 <<< UInt32.ofNat 8) b3.toUInt32
      rw [show b0.toUInt32 <<< UInt32.ofNat 24 ||| b1.toUInt32 <<< UInt32.ofNat 16 ||| b2.toUInt32 <<< UInt32.ofNat 8 ||| b3.toUInt32 = word4 b0 b1 b2 b3 from rfl] at o3
      simp only [Int.reducePow] at h0 h1 h2
      have l0 := U8.lt b0
      have l1 := U8.lt b1
      have l2 := U8.lt b2
      have l3 := U8.lt b3
      generalize word4 b0 b1 b2 b3 = y at *
      generalize b0.toUInt32 <<< UInt32.ofNat 24 ||| b1.toUInt32 <<< UInt32.ofNat 16 ||| b2.toUInt32 <<< UInt32.ofNat 8 = x2 at *
      generalize b0.toUInt32 <<< UInt32.ofNat 24 ||| b1.toUInt32 <<< UInt32.ofNat 16 = x1 at *
      generalize b0.toUInt32 <<< UInt32.ofNat 24 = y0 at *
      generalize b1.toUInt32 <<< UInt32.ofNat 16 = y1 at *
      generalize b2.toUInt32 <<< UInt32.ofNat 8 = y2 at *
      generalize b3.toUInt32 = y3 at *
      have q0 : (b0.toNat : Int) * 16777216 = (y0.toNat : Int) := by omega
      have q1 : (b1.toNat : Int) * 65536 = (y1.toNat : Int) := by omega
      have q2 : (b2.toNat : Int) * 256 = (y2.toNat : Int) := by omega
      rw [h3] at o3
      have HFI := Lib.hid hfi
      have i64a : (i : Int) < 64 := by omega
      have i64b : i < 64 := by omega
      have n0 : (i4 : Int) < 64 := by omega
      have n00 : i4 < 64 := by omega
      have n1 : (i4 : Int) + 1 < 64 := by omega
      have p1 : 0 ≤ (i4 : Int) + 1 := by omega
      have t1 : ((i4 : Int) + 1).toNat = i4 + 1 := by omega
      have m1 : i4 + 1 < 64 := by omega
      have n2 : (i4 : Int) + 2 < 64 := by omega
      have p2 : 0 ≤ (i4 : Int) + 2 := by omega
      have t2 : ((i4 : Int) + 2).toNat = i4 + 2 := by omega
      have m2 : i4 + 2 < 64 := by omega
      have n3 : (i4 : Int) + 3 < 64 := by omega
      have p3 : 0 ≤ (i4 : Int) + 3 := by omega
      have t3 : ((i4 : Int) + 3).toNat = i4 + 3 := by omega
      have m3 : i4 + 3 < 64 := by omega
      have v0 : IntKind.u32.wrap (b0.toNat : Int) = (b0.toNat : Int) := by rw [W.wrap]; omega
      have v1 : IntKind.u32.wrap (b1.toNat : Int) = (b1.toNat : Int) := by rw [W.wrap]; omega
      have v2 : IntKind.u32.wrap (b2.toNat : Int) = (b2.toNat : Int) := by rw [W.wrap]; omega
      have v3 : IntKind.u32.wrap (b3.toNat : Int) = (b3.toNat : Int) := by rw [W.wrap]; omega
      have w0' : IntKind.u32.wrap (y0.toNat : Int) = (y0.toNat : Int) := by have := W.lt y0; rw [W.wrap]; omega
      have w1' : IntKind.u32.wrap (y1.toNat : Int) = (y1.toNat : Int) := by have := W.lt y1; rw [W.wrap]; omega
      have w2' : IntKind.u32.wrap (y2.toNat : Int) = (y2.toNat : Int) := by have := W.lt y2; rw [W.wrap]; omega
      clear hfi h0 h1 h2 h3 hw hx
      go_upto_region 5 with fail
      go_still_tail 35, (by kernel_rfl)
      change wpList _ _ _ _ _ wr.drew
      go_wp2_with fail
      go_roundg (16 - (i + 1))
      case measure => omega
      case rel =>
        refine ⟨i + 1, by omega, rfl, by go_num, ?_, MX.set (wx := wr.drew) HX.out.drew (p := ⟨w.heap.size + 1 + 1 + 1, i, none⟩) (by show w.heap.size + 1 + 1 < w.heap.size + 1 + 1 + 1; omega) _⟩
        rw [← upW_set F _ (show i < 64 by omega), HFI.out]
        exact WB.set (w := wr.drew) HW.out i y
    · have hi3 : i = 16 := by omega
      subst hi3
      clear hw hx
      go_upto_region 7 with fail
      go_loopg [9] 48 (fun gg v9 wx => ∃ i : Nat, 16 ≤ i ∧ i ≤ 64 ∧ gg = 64 - i ∧ v9 = .int .i64 (i : Int) ∧ WB wx (w.heap.size + 1 + 1 + 1) 40 (upW 64 i F (fun _ => 0)) ∧ MX w wx H)
      case atStart => exact ⟨16, by omega, by omega, by omega, rfl, HW.out, HX.out⟩
      case round =>
        obtain ⟨i, hge, hi, rfl, rfl, hw, hx⟩ := hrel
        clear HW HX
        have HW := Lib.hid hw
        have HX := Lib.hid hx
        by_cases hi2 : i < 64
        · have hii : (i : Int) < 64 := by omega
          have fi := hw.free i
          have ci := hw.cell i (by rw [upW_len]; omega)
          obtain ⟨i16, hi16⟩ : ∃ j, j = i - 16 := ⟨_, rfl⟩
          obtain ⟨i15, hi15⟩ : ∃ j, j = i - 15 := ⟨_, rfl⟩
          obtain ⟨i7, hi7⟩ : ∃ j, j = i - 7 := ⟨_, rfl⟩
          obtain ⟨i2, hi2'⟩ : ∃ j, j = i - 2 := ⟨_, rfl⟩
          have s16 : (i : Int) - 16 = (i16 : Int) := by omega
          have s15 : (i : Int) - 15 = (i15 : Int) := by omega
          have s7 : (i : Int) - 7 = (i7 : Int) := by omega
          have s2 : (i : Int) - 2 = (i2 : Int) := by omega
          have w16 := wrap64 i16 (by omega)
          have w15 := wrap64 i15 (by omega)
          have w7 := wrap64 i7 (by omega)
          have w2' := wrap64 i2 (by omega)
          have b16 : i16 < 64 := by omega
          have b15 : i15 < 64 := by omega
          have b7 : i7 < 64 := by omega
          have b2 : i2 < 64 := by omega
          have n16 : (i16 : Int) < 64 := by omega
          have n15 : (i15 : Int) < 64 := by omega
          have n7 : (i7 : Int) < 64 := by omega
          have n2 : (i2 : Int) < 64 := by omega
          have hg : ∀ j, j < i → wr.cell? ⟨w.heap.size + 1 + 1 + 1, j, none⟩ = some (.int .u32 ((F j).toNat : Int)) := fun j hj => by
            have := hw.cell j (by rw [upW_len]; omega)
            rwa [upW_getD _ _ (by omega), if_pos hj] at this
          have c16 := hg i16 (by omega)
          have c15 := hg i15 (by omega)
          have c7 := hg i7 (by omega)
          have c2 := hg i2 (by omega)
          have hfi : F i = F i16 + g0 (F i15) + F i7 + g1 (F i2) := by rw [HF.out, hi16, hi15, hi7, hi2', wf_hi m i (by omega)]
          obtain ⟨a, ha⟩ : ∃ z, z = F i16 := ⟨_, rfl⟩
          obtain ⟨x, hx'⟩ : ∃ z, z = F i15 := ⟨_, rfl⟩
          obtain ⟨b, hb'⟩ : ∃ z, z = F i7 := ⟨_, rfl⟩
          obtain ⟨y, hy⟩ : ∃ z, z = F i2 := ⟨_, rfl⟩
          rw [← ha, ← hx', ← hb', ← hy] at hfi
          rw [← ha] at c16
          rw [← hx'] at c15
          rw [← hb'] at c7
          rw [← hy] at c2
          have HFI := Lib.hid hfi
          clear hg hfi ha hx' hb' hy hi16 hi15 hi7 hi2' hw hx
          obtain ⟨r7, h_r7⟩ : ∃ z : UInt32, z = rr x 7 := ⟨_, rfl⟩
          have T_r7 : Hid (∀ wx, Calls Try.prog 56 #[.int .u32 (x.toNat : Int), .int .u64 7] wx fun e w' => e = .returned (.int .u32 (r7.toNat : Int)) ∧ wx = w') := fun wx => by rw [h_r7]; exact right_7 x wx
          have H_r7 := Lib.hid h_r7
          clear h_r7
          obtain ⟨r18, h_r18⟩ : ∃ z : UInt32, z = rr x 18 := ⟨_, rfl⟩
          have T_r18 : Hid (∀ wx, Calls Try.prog 56 #[.int .u32 (x.toNat : Int), .int .u64 18] wx fun e w' => e = .returned (.int .u32 (r18.toNat : Int)) ∧ wx = w') := fun wx => by rw [h_r18]; exact right_18 x wx
          have H_r18 := Lib.hid h_r18
          clear h_r18
          obtain ⟨p1, h_p1⟩ : ∃ z : UInt32, z = r7 ^^^ r18 := ⟨_, rfl⟩
          have f_p1 := W.xor r7 r18
          rw [← h_p1] at f_p1
          have H_p1 := Lib.hid h_p1
          clear h_p1
          obtain ⟨p2, h_p2⟩ : ∃ z : UInt32, z = x >>> 3 := ⟨_, rfl⟩
          have f_p2 : (x.toNat : Int) / 8 = (p2.toNat : Int) := by rw [h_p2]; exact W.shr x 3 (by decide)
          have H_p2 := Lib.hid h_p2
          clear h_p2
          obtain ⟨p3, h_p3⟩ : ∃ z : UInt32, z = p1 ^^^ p2 := ⟨_, rfl⟩
          have f_p3 := W.xor p1 p2
          rw [← h_p3] at f_p3
          have H_p3 := Lib.hid h_p3
          clear h_p3
          obtain ⟨r17, h_r17⟩ : ∃ z : UInt32, z = rr y 17 := ⟨_, rfl⟩
          have T_r17 : Hid (∀ wx, Calls Try.prog 56 #[.int .u32 (y.toNat : Int), .int .u64 17] wx fun e w' => e = .returned (.int .u32 (r17.toNat : Int)) ∧ wx = w') := fun wx => by rw [h_r17]; exact right_17 y wx
          have H_r17 := Lib.hid h_r17
          clear h_r17
          obtain ⟨r19, h_r19⟩ : ∃ z : UInt32, z = rr y 19 := ⟨_, rfl⟩
          have T_r19 : Hid (∀ wx, Calls Try.prog 56 #[.int .u32 (y.toNat : Int), .int .u64 19] wx fun e w' => e = .returned (.int .u32 (r19.toNat : Int)) ∧ wx = w') := fun wx => by rw [h_r19]; exact right_19 y wx
          have H_r19 := Lib.hid h_r19
          clear h_r19
          obtain ⟨q1, h_q1⟩ : ∃ z : UInt32, z = r17 ^^^ r19 := ⟨_, rfl⟩
          have f_q1 := W.xor r17 r19
          rw [← h_q1] at f_q1
          have H_q1 := Lib.hid h_q1
          clear h_q1
          obtain ⟨q2, h_q2⟩ : ∃ z : UInt32, z = y >>> 10 := ⟨_, rfl⟩
          have f_q2 : (y.toNat : Int) / 1024 = (q2.toNat : Int) := by rw [h_q2]; exact W.shr y 10 (by decide)
          have H_q2 := Lib.hid h_q2
          clear h_q2
          obtain ⟨q3, h_q3⟩ : ∃ z : UInt32, z = q1 ^^^ q2 := ⟨_, rfl⟩
          have f_q3 := W.xor q1 q2
          rw [← h_q3] at f_q3
          have H_q3 := Lib.hid h_q3
          clear h_q3
          obtain ⟨m1, h_m1⟩ : ∃ z : UInt32, z = a + p3 := ⟨_, rfl⟩
          have f_m1 := W.add a p3
          have e_m1 := W.addw a p3
          rw [← h_m1] at f_m1 e_m1
          have H_m1 := Lib.hid h_m1
          clear h_m1
          obtain ⟨m2, h_m2⟩ : ∃ z : UInt32, z = m1 + b := ⟨_, rfl⟩
          have f_m2 := W.add m1 b
          have e_m2 := W.addw m1 b
          rw [← h_m2] at f_m2 e_m2
          have H_m2 := Lib.hid h_m2
          clear h_m2
          obtain ⟨m3, h_m3⟩ : ∃ z : UInt32, z = m2 + q3 := ⟨_, rfl⟩
          have f_m3 := W.add m2 q3
          have e_m3 := W.addw m2 q3
          rw [← h_m3] at f_m3 e_m3
          have H_m3 := Lib.hid h_m3
          clear h_m3
          have HZ3 : Hid (F i = m3) := by show _ = _; rw [HFI.out, H_m3.out, H_m2.out, H_m1.out, H_p3.out, H_p1.out, H_r7.out, H_r18.out, H_p2.out, H_q3.out, H_q1.out, H_q2.out, H_r17.out, H_r19.out]; rfl
          go_upto_region 9 with fail
          refine wp_region_held_drew (S := (fun w' => w'.cell? ⟨w.heap.size + 1 + 1 + 1, i15, none⟩ = some (.int .u32 (x.toNat : Int)))) (by kernel_rfl) (c15) (fun hHeld => ?_)
          refine wpAnyH_takeAt (i := 0) (v := (.int .i64 (i : Int))) rfl (by kernel_rfl) (by kernel_rfl) (by kernel_rfl) (fun _ _ _ h => h) rfl (Or.inl ⟨by rfl, fun w' hS => ?_⟩) hHeld ?_
          · go_simp
          simp only [List.set_cons_zero, List.set_cons_succ]
          refine wpAnyH_takeAt (i := 1) (v := (.int .i64 (i15 : Int))) rfl (by kernel_rfl) (by kernel_rfl) (by kernel_rfl) (fun _ _ _ h => h) rfl (Or.inl ⟨by rfl, fun w' hS => ?_⟩) hHeld ?_
          · go_simp
          simp only [List.set_cons_zero, List.set_cons_succ]
          refine wpAnyH_takeAt (i := 2) (v := (.pointer (some ⟨w.heap.size + 1 + 1 + 1, i15, none⟩))) rfl (by kernel_rfl) (by kernel_rfl) (by kernel_rfl) (fun _ _ _ h => h) rfl (Or.inl ⟨by rfl, fun w' hS => ?_⟩) hHeld ?_
          · go_simp
          simp only [List.set_cons_zero, List.set_cons_succ]
          refine wpAnyH_takeAt (i := 3) (v := (.int .u32 (x.toNat : Int))) rfl (by kernel_rfl) (by kernel_rfl) (by kernel_rfl) (fun _ _ _ h => h) rfl (Or.inl ⟨by rfl, fun w' hS => ?_⟩) hHeld ?_
          · have hc := hS
            go_simp
          simp only [List.set_cons_zero, List.set_cons_succ]
          refine wpAnyH_takeAt (i := 5) (v := (.int .i64 (i : Int))) rfl (by kernel_rfl) (by kernel_rfl) (by kernel_rfl) (fun _ _ _ h => h) rfl (Or.inl ⟨by rfl, fun w' hS => ?_⟩) hHeld ?_
          · go_simp
          simp only [List.set_cons_zero, List.set_cons_succ]
          refine wpAnyH_takeAt (i := 6) (v := (.int .i64 (i15 : Int))) rfl (by kernel_rfl) (by kernel_rfl) (by kernel_rfl) (fun _ _ _ h => h) rfl (Or.inl ⟨by rfl, fun w' hS => ?_⟩) hHeld ?_
          · go_simp
          simp only [List.set_cons_zero, List.set_cons_succ]
          refine wpAnyH_takeAt (i := 7) (v := (.pointer (some ⟨w.heap.size + 1 + 1 + 1, i15, none⟩))) rfl (by kernel_rfl) (by kernel_rfl) (by kernel_rfl) (fun _ _ _ h => h) rfl (Or.inl ⟨by rfl, fun w' hS => ?_⟩) hHeld ?_
          · go_simp
          simp only [List.set_cons_zero, List.set_cons_succ]
          refine wpAnyH_takeAt (i := 8) (v := (.int .u32 (x.toNat : Int))) rfl (by kernel_rfl) (by kernel_rfl) (by kernel_rfl) (fun _ _ _ h => h) rfl (Or.inl ⟨by rfl, fun w' hS => ?_⟩) hHeld ?_
          · have hc := hS
            go_simp
          simp only [List.set_cons_zero, List.set_cons_succ]
          refine wpAnyH_takeAt (i := 11) (v := (.int .i64 (i : Int))) rfl (by kernel_rfl) (by kernel_rfl) (by kernel_rfl) (fun _ _ _ h => h) rfl (Or.inl ⟨by rfl, fun w' hS => ?_⟩) hHeld ?_
          · go_simp
          simp only [List.set_cons_zero, List.set_cons_succ]
          refine wpAnyH_takeAt (i := 12) (v := (.int .i64 (i15 : Int))) rfl (by kernel_rfl) (by kernel_rfl) (by kernel_rfl) (fun _ _ _ h => h) rfl (Or.inl ⟨by rfl, fun w' hS => ?_⟩) hHeld ?_
          · go_simp
          simp only [List.set_cons_zero, List.set_cons_succ]
          refine wpAnyH_takeAt (i := 13) (v := (.pointer (some ⟨w.heap.size + 1 + 1 + 1, i15, none⟩))) rfl (by kernel_rfl) (by kernel_rfl) (by kernel_rfl) (fun _ _ _ h => h) rfl (Or.inl ⟨by rfl, fun w' hS => ?_⟩) hHeld ?_
          · go_simp
          simp only [List.set_cons_zero, List.set_cons_succ]
          refine wpAnyH_takeAt (i := 14) (v := (.int .u32 (x.toNat : Int))) rfl (by kernel_rfl) (by kernel_rfl) (by kernel_rfl) (fun _ _ _ h => h) rfl (Or.inl ⟨by rfl, fun w' hS => ?_⟩) hHeld ?_
          · have hc := hS
            go_simp
          simp only [List.set_cons_zero, List.set_cons_succ]
          refine wpAnyH_takeAt (i := 15) (v := (.int .u32 (p2.toNat : Int))) rfl (by kernel_rfl) (by kernel_rfl) (by kernel_rfl) (fun _ _ _ h => h) rfl (Or.inl ⟨by rfl, fun w' hS => ?_⟩) hHeld ?_
          · go_simp
          simp only [List.set_cons_zero, List.set_cons_succ]
          refine wpAnyH_ready (rs := [4]) (by kernel_rfl) (by simp) (AllReadyH.cons rfl (fun K' hK => ?_) AllReadyH.nil)
          go_simp
          go_at_call 56
          refine (T_r7.out _).mono ?_
          rintro e0 w' ⟨rfl, rfl⟩
          go_wp2_with fail
          refine hK.out _ _ hHeld (fun hHeld' => ?_)
          clear hK hHeld
          have hHeld := hHeld'
          clear hHeld'
          refine wpAnyH_ready (rs := [9]) (by kernel_rfl) (by simp) (AllReadyH.cons rfl (fun K' hK => ?_) AllReadyH.nil)
          go_simp
          go_at_call 56
          refine (T_r18.out _).mono ?_
          rintro e0 w' ⟨rfl, rfl⟩
          go_wp2_with fail
          refine hK.out _ _ hHeld (fun hHeld' => ?_)
          clear hK hHeld
          have hHeld := hHeld'
          clear hHeld'
          refine wpAnyH_takeAt (i := 10) (v := (.int .u32 (p1.toNat : Int))) rfl (by kernel_rfl) (by kernel_rfl) (by kernel_rfl) (fun _ _ _ h => h) rfl (Or.inl ⟨by rfl, fun w' hS => ?_⟩) hHeld ?_
          · go_simp
          simp only [List.set_cons_zero, List.set_cons_succ]
          refine wpAnyH_takeAt (i := 16) (v := (.int .u32 (p3.toNat : Int))) rfl (by kernel_rfl) (by kernel_rfl) (by kernel_rfl) (fun _ _ _ h => h) rfl (Or.inl ⟨by rfl, fun w' hS => ?_⟩) hHeld ?_
          · go_simp
          simp only [List.set_cons_zero, List.set_cons_succ]
          refine wpAnyH_ready (rs := [17]) (by kernel_rfl) (by simp) (AllReadyH.cons rfl (fun K' hK => ?_) AllReadyH.nil)
          go_simp
          refine hK.out _ _ hHeld (fun hHeld' => ?_)
          clear hK hHeld
          have hHeld := hHeld'
          clear hHeld'
          refine wpAnyH_done (by kernel_rfl) ?_ _
          clear hHeld
          go_upto_region 10 with fail
          refine wp_region_held_drew (S := (fun w' => w'.cell? ⟨w.heap.size + 1 + 1 + 1, i2, none⟩ = some (.int .u32 (y.toNat : Int)))) (by kernel_rfl) (c2) (fun hHeld => ?_)
          refine wpAnyH_takeAt (i := 0) (v := (.int .i64 (i : Int))) rfl (by kernel_rfl) (by kernel_rfl) (by kernel_rfl) (fun _ _ _ h => h) rfl (Or.inl ⟨by rfl, fun w' hS => ?_⟩) hHeld ?_
          · go_simp
          simp only [List.set_cons_zero, List.set_cons_succ]
          refine wpAnyH_takeAt (i := 1) (v := (.int .i64 (i2 : Int))) rfl (by kernel_rfl) (by kernel_rfl) (by kernel_rfl) (fun _ _ _ h => h) rfl (Or.inl ⟨by rfl, fun w' hS => ?_⟩) hHeld ?_
          · go_simp
          simp only [List.set_cons_zero, List.set_cons_succ]
          refine wpAnyH_takeAt (i := 2) (v := (.pointer (some ⟨w.heap.size + 1 + 1 + 1, i2, none⟩))) rfl (by kernel_rfl) (by kernel_rfl) (by kernel_rfl) (fun _ _ _ h => h) rfl (Or.inl ⟨by rfl, fun w' hS => ?_⟩) hHeld ?_
          · go_simp
          simp only [List.set_cons_zero, List.set_cons_succ]
          refine wpAnyH_takeAt (i := 3) (v := (.int .u32 (y.toNat : Int))) rfl (by kernel_rfl) (by kernel_rfl) (by kernel_rfl) (fun _ _ _ h => h) rfl (Or.inl ⟨by rfl, fun w' hS => ?_⟩) hHeld ?_
          · have hc := hS
            go_simp
          simp only [List.set_cons_zero, List.set_cons_succ]
          refine wpAnyH_takeAt (i := 5) (v := (.int .i64 (i : Int))) rfl (by kernel_rfl) (by kernel_rfl) (by kernel_rfl) (fun _ _ _ h => h) rfl (Or.inl ⟨by rfl, fun w' hS => ?_⟩) hHeld ?_
          · go_simp
          simp only [List.set_cons_zero, List.set_cons_succ]
          refine wpAnyH_takeAt (i := 6) (v := (.int .i64 (i2 : Int))) rfl (by kernel_rfl) (by kernel_rfl) (by kernel_rfl) (fun _ _ _ h => h) rfl (Or.inl ⟨by rfl, fun w' hS => ?_⟩) hHeld ?_
          · go_simp
          simp only [List.set_cons_zero, List.set_cons_succ]
          refine wpAnyH_takeAt (i := 7) (v := (.pointer (some ⟨w.heap.size + 1 + 1 + 1, i2, none⟩))) rfl (by kernel_rfl) (by kernel_rfl) (by kernel_rfl) (fun _ _ _ h => h) rfl (Or.inl ⟨by rfl, fun w' hS => ?_⟩) hHeld ?_
          · go_simp
          simp only [List.set_cons_zero, List.set_cons_succ]
          refine wpAnyH_takeAt (i := 8) (v := (.int .u32 (y.toNat : Int))) rfl (by kernel_rfl) (by kernel_rfl) (by kernel_rfl) (fun _ _ _ h => h) rfl (Or.inl ⟨by rfl, fun w' hS => ?_⟩) hHeld ?_
          · have hc := hS
            go_simp
          simp only [List.set_cons_zero, List.set_cons_succ]
          refine wpAnyH_takeAt (i := 11) (v := (.int .i64 (i : Int))) rfl (by kernel_rfl) (by kernel_rfl) (by kernel_rfl) (fun _ _ _ h => h) rfl (Or.inl ⟨by rfl, fun w' hS => ?_⟩) hHeld ?_
          · go_simp
          simp only [List.set_cons_zero, List.set_cons_succ]
          refine wpAnyH_takeAt (i := 12) (v := (.int .i64 (i2 : Int))) rfl (by kernel_rfl) (by kernel_rfl) (by kernel_rfl) (fun _ _ _ h => h) rfl (Or.inl ⟨by rfl, fun w' hS => ?_⟩) hHeld ?_
          · go_simp
          simp only [List.set_cons_zero, List.set_cons_succ]
          refine wpAnyH_takeAt (i := 13) (v := (.pointer (some ⟨w.heap.size + 1 + 1 + 1, i2, none⟩))) rfl (by kernel_rfl) (by kernel_rfl) (by kernel_rfl) (fun _ _ _ h => h) rfl (Or.inl ⟨by rfl, fun w' hS => ?_⟩) hHeld ?_
          · go_simp
          simp only [List.set_cons_zero, List.set_cons_succ]
          refine wpAnyH_takeAt (i := 14) (v := (.int .u32 (y.toNat : Int))) rfl (by kernel_rfl) (by kernel_rfl) (by kernel_rfl) (fun _ _ _ h => h) rfl (Or.inl ⟨by rfl, fun w' hS => ?_⟩) hHeld ?_
          · have hc := hS
            go_simp
          simp only [List.set_cons_zero, List.set_cons_succ]
          refine wpAnyH_takeAt (i := 15) (v := (.int .u32 (q2.toNat : Int))) rfl (by kernel_rfl) (by kernel_rfl) (by kernel_rfl) (fun _ _ _ h => h) rfl (Or.inl ⟨by rfl, fun w' hS => ?_⟩) hHeld ?_
          · go_simp
          simp only [List.set_cons_zero, List.set_cons_succ]
          refine wpAnyH_ready (rs := [4]) (by kernel_rfl) (by simp) (AllReadyH.cons rfl (fun K' hK => ?_) AllReadyH.nil)
          go_simp
          go_at_call 56
          refine (T_r17.out _).mono ?_
          rintro e0 w' ⟨rfl, rfl⟩
          go_wp2_with fail
          refine hK.out _ _ hHeld (fun hHeld' => ?_)
          clear hK hHeld
          have hHeld := hHeld'
          clear hHeld'
          refine wpAnyH_ready (rs := [9]) (by kernel_rfl) (by simp) (AllReadyH.cons rfl (fun K' hK => ?_) AllReadyH.nil)
          go_simp
          go_at_call 56
          refine (T_r19.out _).mono ?_
          rintro e0 w' ⟨rfl, rfl⟩
          go_wp2_with fail
          refine hK.out _ _ hHeld (fun hHeld' => ?_)
          clear hK hHeld
          have hHeld := hHeld'
          clear hHeld'
          refine wpAnyH_takeAt (i := 10) (v := (.int .u32 (q1.toNat : Int))) rfl (by kernel_rfl) (by kernel_rfl) (by kernel_rfl) (fun _ _ _ h => h) rfl (Or.inl ⟨by rfl, fun w' hS => ?_⟩) hHeld ?_
          · go_simp
          simp only [List.set_cons_zero, List.set_cons_succ]
          refine wpAnyH_takeAt (i := 16) (v := (.int .u32 (q3.toNat : Int))) rfl (by kernel_rfl) (by kernel_rfl) (by kernel_rfl) (fun _ _ _ h => h) rfl (Or.inl ⟨by rfl, fun w' hS => ?_⟩) hHeld ?_
          · go_simp
          simp only [List.set_cons_zero, List.set_cons_succ]
          refine wpAnyH_ready (rs := [17]) (by kernel_rfl) (by simp) (AllReadyH.cons rfl (fun K' hK => ?_) AllReadyH.nil)
          go_simp
          refine hK.out _ _ hHeld (fun hHeld' => ?_)
          clear hK hHeld
          have hHeld := hHeld'
          clear hHeld'
          refine wpAnyH_done (by kernel_rfl) ?_ _
          clear hHeld
          go_upto_region 11 with fail
          obtain ⟨w5, hw5⟩ : ∃ w5, w5 = World.drew (World.drew wr) := ⟨_, rfl⟩
          change Code.wp _ _ _ _ (World.drew (World.drew wr))
          have c16 : w5.cell? ⟨w.heap.size + 1 + 1 + 1, i16, none⟩ = some (.int .u32 (a.toNat : Int)) := by rw [hw5]; exact c16
          have c7 : w5.cell? ⟨w.heap.size + 1 + 1 + 1, i7, none⟩ = some (.int .u32 (b.toNat : Int)) := by rw [hw5]; exact c7
          have fi : w5.frozen? ⟨w.heap.size + 1 + 1 + 1, i, none⟩ = false := by rw [hw5]; exact fi
          have ci : w5.cell? ⟨w.heap.size + 1 + 1 + 1, i, none⟩ = some (.int .u32 (((upW 64 i F (fun _ => 0)).getD i 0).toNat : Int)) := by rw [hw5]; exact ci
          have HW5 : Hid (WB w5 (w.heap.size + 1 + 1 + 1) 40 (upW 64 i F (fun _ => 0))) := by show WB _ _ _ _; rw [hw5]; exact HW.out
          have HX5 : Hid (MX w w5 H) := by show MX _ _ _; rw [hw5]; exact HX.out.drew.drew
          rw [← hw5]
          clear hw5 HW HX
          go_still_tail 15, (by kernel_rfl)
          change wpList _ _ _ _ _ w5.drew
          go_wp2_with fail
          go_roundg (64 - (i + 1))
          case measure => omega
          case rel =>
            refine ⟨i + 1, by omega, by omega, rfl, by go_num, ?_, MX.set (wx := w5.drew) HX5.out.drew (p := ⟨w.heap.size + 1 + 1 + 1, i, none⟩) (by show w.heap.size + 1 + 1 < w.heap.size + 1 + 1 + 1; omega) _⟩
            rw [← upW_set F _ hi2, HZ3.out]
            exact WB.set (w := w5.drew) HW5.out i m3
        · have hi3 : i = 64 := by omega
          subst hi3
          clear hw hx
          have hRG : wr.rangeAt w.heap.size 0 (H.map u32v) := HX.out.1.range
          have HRG := Lib.hid hRG
          have HI : Hid ((Try.prog.info? 69).map (·.size) = some (H.map u32v).length) := by show _ = _; rw [List.length_map, HH.out]; exact info8
          have HJ : Hid ((Try.prog.info? 69).map (·.size) = some (H.map u32v).toArray.size) := by show _ = _; rw [List.size_toArray, List.length_map, HH.out]; exact info8
          have HV0 : Hid (WB (wr.alloc (.cells (z8.map u32v).toArray 69)) wr.heap.size 69 z8) := WB.new wr _ z8
          have HTH : Hid ((wr.alloc (.cells (z8.map u32v).toArray 69)).there wr.heap.size 0 (H.map u32v).toArray.size) := by show World.there _ _ _ (H.map u32v).toArray.size; rw [show (H.map u32v).toArray.size = 8 by rw [List.size_toArray, List.length_map, HH.out]]; exact wb_there HV0.out rfl
          clear hRG
          go_upto_region 13 with (first
            | ((with_reducible show wpList _ _ _ (⟨some 112, .load 69 (.tmp 3), _, _, _, _⟩ :: _) _ _); refine wpList_load_mid rfl 69 (.tmp 3) rfl w.heap.size 0 rfl (H.map u32v) _ HRG.out Try.underlying69 rfl HI.out ?_)
            | ((with_reducible show wpList _ _ _ (⟨none, .store 69 (.tmp 12) (.tmp 112), _, _, _, _⟩ :: _) _ _); refine wpList_store_mid rfl 69 (.tmp 12) (.tmp 112) rfl wr.heap.size 0 (H.map u32v).toArray rfl rfl HTH.out HJ.out (all_oneCell_toArray (u32_one _)) ?_))
          obtain ⟨w6, hw6⟩ : ∃ w6, w6 = (wr.alloc (.cells (z8.map u32v).toArray 69)).setCells wr.heap.size 0 (H.map u32v) := ⟨_, rfl⟩
          change Code.wp _ _ _ _ ((wr.alloc (.cells (z8.map u32v).toArray 69)).setCells wr.heap.size 0 (H.map u32v))
          have hgl : w.heap.size + 1 + 1 + 1 < wr.heap.size := HW.out.lt
          have HV6 : Hid (WB w6 wr.heap.size 69 H) := by show WB _ _ _ _; rw [hw6]; exact WB.setAll HV0.out (by rw [HH.out]; rfl)
          have HW6 : Hid (WB w6 (w.heap.size + 1 + 1 + 1) 40 (upW 64 64 F (fun _ => 0))) := by show WB _ _ _ _; rw [hw6]; exact Blk.farAll (by omega) _ _ _ (HW.out.alloc _)
          have HX6 : Hid (MX w w6 H) := by
            show MX _ _ _
            rw [hw6]
            exact ⟨Blk.farAll (by omega) _ _ _ (HX.out.1.alloc _), Blk.farAll (by omega) _ _ _ (HX.out.2.1.alloc _), Blk.farAll (by omega) _ _ _ (HX.out.2.2.1.alloc _), below_setCells (balloc HX.out.2.2.2 _) (by omega) _ _⟩
          rw [← hw6]
          obtain ⟨gv, hgv⟩ : ∃ gv, gv = wr.heap.size := ⟨_, rfl⟩
          rw [← hgv] at hgl HV6
          rw [← hgv]
          have HGL := Lib.hid hgl
          clear hw6 HW HX HRG HI HV0 HTH hgl
          clear hgv
          go_upto_region 14 with fail
          go_loopg [13] 64 (fun gg v13 wx => ∃ i : Nat, i ≤ 64 ∧ gg = 64 - i ∧ v13 = .int .i64 (i : Int) ∧ WB wx gv 69 (vS H m i) ∧ WB wx (w.heap.size + 1 + 1 + 1) 40 (upW 64 64 F (fun _ => 0)) ∧ MX w wx H)
          case atStart => exact ⟨0, by omega, rfl, rfl, HV6.out, HW6.out, HX6.out⟩
          case round =>
            obtain ⟨i, hi, rfl, rfl, hv, hw, hx⟩ := hrel
            clear HV6 HW6 HX6
            have HV := Lib.hid hv
            have HW := Lib.hid hw
            have HX := Lib.hid hx
            have HVL : Hid ((vS H m i).length = 8) := vS_len m HH.out i
            by_cases hi2 : i < 64
            · have hii : (i : Int) < 64 := by omega
              obtain ⟨V, hV⟩ : ∃ V, V = vS H m i := ⟨_, rfl⟩
              have hvl : V.length = 8 := by rw [hV]; exact HVL.out
              rw [← hV] at hv
              have c0 := hv.cell 0 (by omega)
              have c1 := hv.cell 1 (by omega)
              have c2 := hv.cell 2 (by omega)
              have c3 := hv.cell 3 (by omega)
              have c4 := hv.cell 4 (by omega)
              have c5 := hv.cell 5 (by omega)
              have c6 := hv.cell 6 (by omega)
              have c7 := hv.cell 7 (by omega)
              have ck := hx.2.1.cell i (by rw [kL_len]; exact hi2)
              have cw := hw.cell i (by rw [upW_len]; exact hi2)
              rw [upW_getD _ _ hi2, if_pos hi2] at cw
              obtain ⟨a, ha⟩ : ∃ z, z = V.getD 0 0 := ⟨_, rfl⟩
              obtain ⟨x1, hx1⟩ : ∃ z, z = V.getD 1 0 := ⟨_, rfl⟩
              obtain ⟨x2, hx2⟩ : ∃ z, z = V.getD 2 0 := ⟨_, rfl⟩
              obtain ⟨x3, hx3⟩ : ∃ z, z = V.getD 3 0 := ⟨_, rfl⟩
              obtain ⟨e, he⟩ : ∃ z, z = V.getD 4 0 := ⟨_, rfl⟩
              obtain ⟨x5, hx5⟩ : ∃ z, z = V.getD 5 0 := ⟨_, rfl⟩
              obtain ⟨x6, hx6⟩ : ∃ z, z = V.getD 6 0 := ⟨_, rfl⟩
              obtain ⟨x7, hx7⟩ : ∃ z, z = V.getD 7 0 := ⟨_, rfl⟩
              obtain ⟨kk, hkk⟩ : ∃ z, z = kL.getD i 0 := ⟨_, rfl⟩
              obtain ⟨ww, hww⟩ : ∃ z, z = F i := ⟨_, rfl⟩
              have hT1 : t1 kk ww V = x7 + (rr e 6 ^^^ rr e 11 ^^^ rr e 25) + (e &&& x5 ^^^ ~~~e &&& x6) + kk + ww := by rw [t1, he, hx5, hx6, hx7]
              have hT2 : t2 V = (rr a 2 ^^^ rr a 13 ^^^ rr a 22) + (a &&& x1 ^^^ a &&& x2 ^^^ x1 &&& x2) := by rw [t2, ha, hx1, hx2]
              have hNX : vS H m (i + 1) = [t1 kk ww V + t2 V, a, x1, x2, x3 + t1 kk ww V, e, x5, x6] := by
                rw [vS, ← hV, ← hkk, rnd, ha, hx1, hx2, hx3, he, hx5, hx6, hww, HF.out]
              rw [← ha] at c0
              rw [← hx1] at c1
              rw [← hx2] at c2
              rw [← hx3] at c3
              rw [← he] at c4
              rw [← hx5] at c5
              rw [← hx6] at c6
              rw [← hx7] at c7
              rw [← hkk] at ck
              rw [← hww] at cw
              have HT1 := Lib.hid hT1
              have HT2 := Lib.hid hT2
              have HNX := Lib.hid hNX
              clear hv hw hx ha hx1 hx2 hx3 he hx5 hx6 hx7 hkk hww hT1 hT2 hNX hV hvl
              obtain ⟨s6, h_s6⟩ : ∃ z : UInt32, z = rr e 6 := ⟨_, rfl⟩
              have T_s6 : Hid (∀ wx, Calls Try.prog 56 #[.int .u32 (e.toNat : Int), .int .u64 6] wx fun e w' => e = .returned (.int .u32 (s6.toNat : Int)) ∧ wx = w') := fun wx => by rw [h_s6]; exact right_6 e wx
              have H_s6 := Lib.hid h_s6
              clear h_s6
              obtain ⟨s11, h_s11⟩ : ∃ z : UInt32, z = rr e 11 := ⟨_, rfl⟩
              have T_s11 : Hid (∀ wx, Calls Try.prog 56 #[.int .u32 (e.toNat : Int), .int .u64 11] wx fun e w' => e = .returned (.int .u32 (s11.toNat : Int)) ∧ wx = w') := fun wx => by rw [h_s11]; exact right_11 e wx
              have H_s11 := Lib.hid h_s11
              clear h_s11
              obtain ⟨s25, h_s25⟩ : ∃ z : UInt32, z = rr e 25 := ⟨_, rfl⟩
              have T_s25 : Hid (∀ wx, Calls Try.prog 56 #[.int .u32 (e.toNat : Int), .int .u64 25] wx fun e w' => e = .returned (.int .u32 (s25.toNat : Int)) ∧ wx = w') := fun wx => by rw [h_s25]; exact right_25 e wx
              have H_s25 := Lib.hid h_s25
              clear h_s25
              obtain ⟨g1_, h_g1_⟩ : ∃ z : UInt32, z = s6 ^^^ s11 := ⟨_, rfl⟩
              have f_g1_ := W.xor s6 s11
              rw [← h_g1_] at f_g1_
              have H_g1_ := Lib.hid h_g1_
              clear h_g1_
              obtain ⟨g2_, h_g2_⟩ : ∃ z : UInt32, z = g1_ ^^^ s25 := ⟨_, rfl⟩
              have f_g2_ := W.xor g1_ s25
              rw [← h_g2_] at f_g2_
              have H_g2_ := Lib.hid h_g2_
              clear h_g2_
              obtain ⟨h1, h_h1⟩ : ∃ z : UInt32, z = e &&& x5 := ⟨_, rfl⟩
              have f_h1 := W.and e x5
              rw [← h_h1] at f_h1
              have H_h1 := Lib.hid h_h1
              clear h_h1
              obtain ⟨h2, h_h2⟩ : ∃ z : UInt32, z = ~~~e := ⟨_, rfl⟩
              have f_h2 := W.notx e
              rw [← h_h2] at f_h2
              have H_h2 := Lib.hid h_h2
              clear h_h2
              obtain ⟨h3, h_h3⟩ : ∃ z : UInt32, z = h2 &&& x6 := ⟨_, rfl⟩
              have f_h3 := W.and h2 x6
              rw [← h_h3] at f_h3
              have H_h3 := Lib.hid h_h3
              clear h_h3
              obtain ⟨ch, h_ch⟩ : ∃ z : UInt32, z = h1 ^^^ h3 := ⟨_, rfl⟩
              have f_ch := W.xor h1 h3
              rw [← h_ch] at f_ch
              have H_ch := Lib.hid h_ch
              clear h_ch
              obtain ⟨m1, h_m1⟩ : ∃ z : UInt32, z = x7 + g2_ := ⟨_, rfl⟩
              have f_m1 := W.add x7 g2_
              have e_m1 := W.addw x7 g2_
              rw [← h_m1] at f_m1 e_m1
              have H_m1 := Lib.hid h_m1
              clear h_m1
              obtain ⟨m2, h_m2⟩ : ∃ z : UInt32, z = m1 + ch := ⟨_, rfl⟩
              have f_m2 := W.add m1 ch
              have e_m2 := W.addw m1 ch
              rw [← h_m2] at f_m2 e_m2
              have H_m2 := Lib.hid h_m2
              clear h_m2
              obtain ⟨m3, h_m3⟩ : ∃ z : UInt32, z = m2 + kk := ⟨_, rfl⟩
              have f_m3 := W.add m2 kk
              have e_m3 := W.addw m2 kk
              rw [← h_m3] at f_m3 e_m3
              have H_m3 := Lib.hid h_m3
              clear h_m3
              obtain ⟨m4, h_m4⟩ : ∃ z : UInt32, z = m3 + ww := ⟨_, rfl⟩
              have f_m4 := W.add m3 ww
              have e_m4 := W.addw m3 ww
              rw [← h_m4] at f_m4 e_m4
              have H_m4 := Lib.hid h_m4
              clear h_m4
              obtain ⟨s2_, h_s2_⟩ : ∃ z : UInt32, z = rr a 2 := ⟨_, rfl⟩
              have T_s2_ : Hid (∀ wx, Calls Try.prog 56 #[.int .u32 (a.toNat : Int), .int .u64 2] wx fun e w' => e = .returned (.int .u32 (s2_.toNat : Int)) ∧ wx = w') := fun wx => by rw [h_s2_]; exact right_2 a wx
              have H_s2_ := Lib.hid h_s2_
              clear h_s2_
              obtain ⟨s13, h_s13⟩ : ∃ z : UInt32, z = rr a 13 := ⟨_, rfl⟩
              have T_s13 : Hid (∀ wx, Calls Try.prog 56 #[.int .u32 (a.toNat : Int), .int .u64 13] wx fun e w' => e = .returned (.int .u32 (s13.toNat : Int)) ∧ wx = w') := fun wx => by rw [h_s13]; exact right_13 a wx
              have H_s13 := Lib.hid h_s13
              clear h_s13
              obtain ⟨s22, h_s22⟩ : ∃ z : UInt32, z = rr a 22 := ⟨_, rfl⟩
              have T_s22 : Hid (∀ wx, Calls Try.prog 56 #[.int .u32 (a.toNat : Int), .int .u64 22] wx fun e w' => e = .returned (.int .u32 (s22.toNat : Int)) ∧ wx = w') := fun wx => by rw [h_s22]; exact right_22 a wx
              have H_s22 := Lib.hid h_s22
              clear h_s22
              obtain ⟨y1, h_y1⟩ : ∃ z : UInt32, z = s2_ ^^^ s13 := ⟨_, rfl⟩
              have f_y1 := W.xor s2_ s13
              rw [← h_y1] at f_y1
              have H_y1 := Lib.hid h_y1
              clear h_y1
              obtain ⟨y2, h_y2⟩ : ∃ z : UInt32, z = y1 ^^^ s22 := ⟨_, rfl⟩
              have f_y2 := W.xor y1 s22
              rw [← h_y2] at f_y2
              have H_y2 := Lib.hid h_y2
              clear h_y2
              obtain ⟨z1, h_z1⟩ : ∃ z : UInt32, z = a &&& x1 := ⟨_, rfl⟩
              have f_z1 := W.and a x1
              rw [← h_z1] at f_z1
              have H_z1 := Lib.hid h_z1
              clear h_z1
              obtain ⟨z2, h_z2⟩ : ∃ z : UInt32, z = a &&& x2 := ⟨_, rfl⟩
              have f_z2 := W.and a x2
              rw [← h_z2] at f_z2
              have H_z2 := Lib.hid h_z2
              clear h_z2
              obtain ⟨z3, h_z3⟩ : ∃ z : UInt32, z = z1 ^^^ z2 := ⟨_, rfl⟩
              have f_z3 := W.xor z1 z2
              rw [← h_z3] at f_z3
              have H_z3 := Lib.hid h_z3
              clear h_z3
              obtain ⟨z4, h_z4⟩ : ∃ z : UInt32, z = x1 &&& x2 := ⟨_, rfl⟩
              have f_z4 := W.and x1 x2
              rw [← h_z4] at f_z4
              have H_z4 := Lib.hid h_z4
              clear h_z4
              obtain ⟨z5, h_z5⟩ : ∃ z : UInt32, z = z3 ^^^ z4 := ⟨_, rfl⟩
              have f_z5 := W.xor z3 z4
              rw [← h_z5] at f_z5
              have H_z5 := Lib.hid h_z5
              clear h_z5
              obtain ⟨u1, h_u1⟩ : ∃ z : UInt32, z = m4 + y2 := ⟨_, rfl⟩
              have f_u1 := W.add m4 y2
              have e_u1 := W.addw m4 y2
              rw [← h_u1] at f_u1 e_u1
              have H_u1 := Lib.hid h_u1
              clear h_u1
              obtain ⟨n0, h_n0⟩ : ∃ z : UInt32, z = u1 + z5 := ⟨_, rfl⟩
              have f_n0 := W.add u1 z5
              have e_n0 := W.addw u1 z5
              rw [← h_n0] at f_n0 e_n0
              have H_n0 := Lib.hid h_n0
              clear h_n0
              obtain ⟨n4, h_n4⟩ : ∃ z : UInt32, z = x3 + m4 := ⟨_, rfl⟩
              have f_n4 := W.add x3 m4
              have e_n4 := W.addw x3 m4
              rw [← h_n4] at f_n4 e_n4
              have H_n4 := Lib.hid h_n4
              clear h_n4
              have HA1 : Hid (t1 kk ww V = m4) := by show _ = _; rw [HT1.out, H_m4.out, H_m3.out, H_m2.out, H_m1.out, H_g2_.out, H_g1_.out, H_ch.out, H_h3.out, H_h2.out, H_h1.out, H_s6.out, H_s11.out, H_s25.out]
              have HA2 : Hid (t1 kk ww V + t2 V = n0) := by
                show _ = _
                rw [HA1.out, HT2.out, H_n0.out, H_u1.out, H_z5.out, H_z4.out, H_z3.out, H_z2.out, H_z1.out, H_y2.out, H_y1.out, H_s2_.out, H_s13.out, H_s22.out, UInt32.add_assoc]
              have HNEW : Hid (vS H m (i + 1) = [n0, a, x1, x2, n4, e, x5, x6]) := by show _ = _; rw [HNX.out, HA2.out, HA1.out, ← H_n4.out]
              go_upto_region 16 with fail
              refine wp_region_held_drew (S := (fun w' => w'.cell? ⟨gv, 4, none⟩ = some (.int .u32 (e.toNat : Int)))) (by kernel_rfl) (c4) (fun hHeld => ?_)
              refine wpAnyH_takeAt (i := 0) (v := (.pointer (some ⟨gv, 4, none⟩))) rfl (by kernel_rfl) (by kernel_rfl) (by kernel_rfl) (fun _ _ _ h => h) rfl (Or.inl ⟨by rfl, fun w' hS => ?_⟩) hHeld ?_
              · go_simp
              simp only [List.set_cons_zero, List.set_cons_succ]
              refine wpAnyH_takeAt (i := 1) (v := (.int .u32 (e.toNat : Int))) rfl (by kernel_rfl) (by kernel_rfl) (by kernel_rfl) (fun _ _ _ h => h) rfl (Or.inl ⟨by rfl, fun w' hS => ?_⟩) hHeld ?_
              · have hc := hS
                go_simp
              simp only [List.set_cons_zero, List.set_cons_succ]
              refine wpAnyH_takeAt (i := 3) (v := (.pointer (some ⟨gv, 4, none⟩))) rfl (by kernel_rfl) (by kernel_rfl) (by kernel_rfl) (fun _ _ _ h => h) rfl (Or.inl ⟨by rfl, fun w' hS => ?_⟩) hHeld ?_
              · go_simp
              simp only [List.set_cons_zero, List.set_cons_succ]
              refine wpAnyH_takeAt (i := 4) (v := (.int .u32 (e.toNat : Int))) rfl (by kernel_rfl) (by kernel_rfl) (by kernel_rfl) (fun _ _ _ h => h) rfl (Or.inl ⟨by rfl, fun w' hS => ?_⟩) hHeld ?_
              · have hc := hS
                go_simp
              simp only [List.set_cons_zero, List.set_cons_succ]
              refine wpAnyH_takeAt (i := 7) (v := (.pointer (some ⟨gv, 4, none⟩))) rfl (by kernel_rfl) (by kernel_rfl) (by kernel_rfl) (fun _ _ _ h => h) rfl (Or.inl ⟨by rfl, fun w' hS => ?_⟩) hHeld ?_
              · go_simp
              simp only [List.set_cons_zero, List.set_cons_succ]
              refine wpAnyH_takeAt (i := 8) (v := (.int .u32 (e.toNat : Int))) rfl (by kernel_rfl) (by kernel_rfl) (by kernel_rfl) (fun _ _ _ h => h) rfl (Or.inl ⟨by rfl, fun w' hS => ?_⟩) hHeld ?_
              · have hc := hS
                go_simp
              simp only [List.set_cons_zero, List.set_cons_succ]
              refine wpAnyH_ready (rs := [2]) (by kernel_rfl) (by simp) (AllReadyH.cons rfl (fun K' hK => ?_) AllReadyH.nil)
              go_simp
              go_at_call 56
              refine (T_s6.out _).mono ?_
              rintro e0 w' ⟨rfl, rfl⟩
              go_wp2_with fail
              refine hK.out _ _ hHeld (fun hHeld' => ?_)
              clear hK hHeld
              have hHeld := hHeld'
              clear hHeld'
              refine wpAnyH_ready (rs := [5]) (by kernel_rfl) (by simp) (AllReadyH.cons rfl (fun K' hK => ?_) AllReadyH.nil)
              go_simp
              go_at_call 56
              refine (T_s11.out _).mono ?_
              rintro e0 w' ⟨rfl, rfl⟩
              go_wp2_with fail
              refine hK.out _ _ hHeld (fun hHeld' => ?_)
              clear hK hHeld
              have hHeld := hHeld'
              clear hHeld'
              refine wpAnyH_takeAt (i := 6) (v := (.int .u32 (g1_.toNat : Int))) rfl (by kernel_rfl) (by kernel_rfl) (by kernel_rfl) (fun _ _ _ h => h) rfl (Or.inl ⟨by rfl, fun w' hS => ?_⟩) hHeld ?_
              · go_simp
              simp only [List.set_cons_zero, List.set_cons_succ]
              refine wpAnyH_ready (rs := [9]) (by kernel_rfl) (by simp) (AllReadyH.cons rfl (fun K' hK => ?_) AllReadyH.nil)
              go_simp
              go_at_call 56
              refine (T_s25.out _).mono ?_
              rintro e0 w' ⟨rfl, rfl⟩
              go_wp2_with fail
              refine hK.out _ _ hHeld (fun hHeld' => ?_)
              clear hK hHeld
              have hHeld := hHeld'
              clear hHeld'
              refine wpAnyH_takeAt (i := 10) (v := (.int .u32 (g2_.toNat : Int))) rfl (by kernel_rfl) (by kernel_rfl) (by kernel_rfl) (fun _ _ _ h => h) rfl (Or.inl ⟨by rfl, fun w' hS => ?_⟩) hHeld ?_
              · go_simp
              simp only [List.set_cons_zero, List.set_cons_succ]
              refine wpAnyH_ready (rs := [11]) (by kernel_rfl) (by simp) (AllReadyH.cons rfl (fun K' hK => ?_) AllReadyH.nil)
              go_simp
              refine hK.out _ _ hHeld (fun hHeld' => ?_)
              clear hK hHeld
              have hHeld := hHeld'
              clear hHeld'
              refine wpAnyH_done (by kernel_rfl) ?_ _
              clear hHeld
              go_upto_region 17 with fail
              obtain ⟨w2, hw2⟩ : ∃ w2, w2 = World.drew wr := ⟨_, rfl⟩
              change Code.wp _ _ _ _ (World.drew wr)
              have c0 : w2.cell? ⟨gv, 0, none⟩ = some (.int .u32 (a.toNat : Int)) := by rw [hw2]; exact c0
              have c1 : w2.cell? ⟨gv, 1, none⟩ = some (.int .u32 (x1.toNat : Int)) := by rw [hw2]; exact c1
              have c2 : w2.cell? ⟨gv, 2, none⟩ = some (.int .u32 (x2.toNat : Int)) := by rw [hw2]; exact c2
              have c3 : w2.cell? ⟨gv, 3, none⟩ = some (.int .u32 (x3.toNat : Int)) := by rw [hw2]; exact c3
              have c4 : w2.cell? ⟨gv, 4, none⟩ = some (.int .u32 (e.toNat : Int)) := by rw [hw2]; exact c4
              have c5 : w2.cell? ⟨gv, 5, none⟩ = some (.int .u32 (x5.toNat : Int)) := by rw [hw2]; exact c5
              have c6 : w2.cell? ⟨gv, 6, none⟩ = some (.int .u32 (x6.toNat : Int)) := by rw [hw2]; exact c6
              have c7 : w2.cell? ⟨gv, 7, none⟩ = some (.int .u32 (x7.toNat : Int)) := by rw [hw2]; exact c7
              have ck : w2.cell? ⟨w.heap.size + 1, i, none⟩ = some (.int .u32 (kk.toNat : Int)) := by rw [hw2]; exact ck
              have cw : w2.cell? ⟨w.heap.size + 1 + 1 + 1, i, none⟩ = some (.int .u32 (ww.toNat : Int)) := by rw [hw2]; exact cw
              have HV2 : Hid (WB w2 gv 69 (vS H m i)) := by show WB _ _ _ _; rw [hw2]; exact HV.out
              have HW2 : Hid (WB w2 (w.heap.size + 1 + 1 + 1) 40 (upW 64 64 F (fun _ => 0))) := by show WB _ _ _ _; rw [hw2]; exact HW.out
              have HX2 : Hid (MX w w2 H) := by show MX _ _ _; rw [hw2]; exact HX.out.drew
              rw [← hw2]
              clear hw2 HV HW HX
              go_upto_region 18 with fail
              refine wp_region_held_drew (S := (fun w' => w'.cell? ⟨gv, 7, none⟩ = some (.int .u32 (x7.toNat : Int)) ∧ w'.cell? ⟨w.heap.size + 1, i, none⟩ = some (.int .u32 (kk.toNat : Int)) ∧ w'.cell? ⟨w.heap.size + 1 + 1 + 1, i, none⟩ = some (.int .u32 (ww.toNat : Int)))) (by kernel_rfl) (⟨c7, ck, cw⟩) (fun hHeld => ?_)
              refine wpAnyH_takeAt (i := 0) (v := (.pointer (some ⟨gv, 7, none⟩))) rfl (by kernel_rfl) (by kernel_rfl) (by kernel_rfl) (fun _ _ _ h => h) rfl (Or.inl ⟨by rfl, fun w' hS => ?_⟩) hHeld ?_
              · go_simp
              simp only [List.set_cons_zero, List.set_cons_succ]
              refine wpAnyH_takeAt (i := 1) (v := (.int .u32 (x7.toNat : Int))) rfl (by kernel_rfl) (by kernel_rfl) (by kernel_rfl) (fun _ _ _ h => h) rfl (Or.inl ⟨by rfl, fun w' hS => ?_⟩) hHeld ?_
              · have hc := hS.1
                go_simp
              simp only [List.set_cons_zero, List.set_cons_succ]
              refine wpAnyH_takeAt (i := 2) (v := (.int .u32 (g2_.toNat : Int))) rfl (by kernel_rfl) (by kernel_rfl) (by kernel_rfl) (fun _ _ _ h => h) rfl (Or.inl ⟨by rfl, fun w' hS => ?_⟩) hHeld ?_
              · go_simp
              simp only [List.set_cons_zero, List.set_cons_succ]
              refine wpAnyH_takeAt (i := 3) (v := (.int .u32 (m1.toNat : Int))) rfl (by kernel_rfl) (by kernel_rfl) (by kernel_rfl) (fun _ _ _ h => h) rfl (Or.inl ⟨by rfl, fun w' hS => ?_⟩) hHeld ?_
              · go_simp
              simp only [List.set_cons_zero, List.set_cons_succ]
              refine wpAnyH_takeAt (i := 4) (v := (.int .u32 (ch.toNat : Int))) rfl (by kernel_rfl) (by kernel_rfl) (by kernel_rfl) (fun _ _ _ h => h) rfl (Or.inl ⟨by rfl, fun w' hS => ?_⟩) hHeld ?_
              · go_simp
              simp only [List.set_cons_zero, List.set_cons_succ]
              refine wpAnyH_takeAt (i := 5) (v := (.int .u32 (m2.toNat : Int))) rfl (by kernel_rfl) (by kernel_rfl) (by kernel_rfl) (fun _ _ _ h => h) rfl (Or.inl ⟨by rfl, fun w' hS => ?_⟩) hHeld ?_
              · go_simp
              simp only [List.set_cons_zero, List.set_cons_succ]
              refine wpAnyH_takeAt (i := 6) (v := (.int .i64 (i : Int))) rfl (by kernel_rfl) (by kernel_rfl) (by kernel_rfl) (fun _ _ _ h => h) rfl (Or.inl ⟨by rfl, fun w' hS => ?_⟩) hHeld ?_
              · go_simp
              simp only [List.set_cons_zero, List.set_cons_succ]
              refine wpAnyH_takeAt (i := 7) (v := (.pointer (some ⟨w.heap.size + 1, i, none⟩))) rfl (by kernel_rfl) (by kernel_rfl) (by kernel_rfl) (fun _ _ _ h => h) rfl (Or.inl ⟨by rfl, fun w' hS => ?_⟩) hHeld ?_
              · go_simp
              simp only [List.set_cons_zero, List.set_cons_succ]
              refine wpAnyH_takeAt (i := 8) (v := (.int .u32 (kk.toNat : Int))) rfl (by kernel_rfl) (by kernel_rfl) (by kernel_rfl) (fun _ _ _ h => h) rfl (Or.inl ⟨by rfl, fun w' hS => ?_⟩) hHeld ?_
              · have hc := hS.2.1
                go_simp
              simp only [List.set_cons_zero, List.set_cons_succ]
              refine wpAnyH_takeAt (i := 9) (v := (.int .u32 (m3.toNat : Int))) rfl (by kernel_rfl) (by kernel_rfl) (by kernel_rfl) (fun _ _ _ h => h) rfl (Or.inl ⟨by rfl, fun w' hS => ?_⟩) hHeld ?_
              · go_simp
              simp only [List.set_cons_zero, List.set_cons_succ]
              refine wpAnyH_takeAt (i := 10) (v := (.int .i64 (i : Int))) rfl (by kernel_rfl) (by kernel_rfl) (by kernel_rfl) (fun _ _ _ h => h) rfl (Or.inl ⟨by rfl, fun w' hS => ?_⟩) hHeld ?_
              · go_simp
              simp only [List.set_cons_zero, List.set_cons_succ]
              refine wpAnyH_takeAt (i := 11) (v := (.pointer (some ⟨w.heap.size + 1 + 1 + 1, i, none⟩))) rfl (by kernel_rfl) (by kernel_rfl) (by kernel_rfl) (fun _ _ _ h => h) rfl (Or.inl ⟨by rfl, fun w' hS => ?_⟩) hHeld ?_
              · go_simp
              simp only [List.set_cons_zero, List.set_cons_succ]
              refine wpAnyH_takeAt (i := 12) (v := (.int .u32 (ww.toNat : Int))) rfl (by kernel_rfl) (by kernel_rfl) (by kernel_rfl) (fun _ _ _ h => h) rfl (Or.inl ⟨by rfl, fun w' hS => ?_⟩) hHeld ?_
              · have hc := hS.2.2
                go_simp
              simp only [List.set_cons_zero, List.set_cons_succ]
              refine wpAnyH_takeAt (i := 13) (v := (.int .u32 (m4.toNat : Int))) rfl (by kernel_rfl) (by kernel_rfl) (by kernel_rfl) (fun _ _ _ h => h) rfl (Or.inl ⟨by rfl, fun w' hS => ?_⟩) hHeld ?_
              · go_simp
              simp only [List.set_cons_zero, List.set_cons_succ]
              refine wpAnyH_ready (rs := [14]) (by kernel_rfl) (by simp) (AllReadyH.cons rfl (fun K' hK => ?_) AllReadyH.nil)
              go_simp
              refine hK.out _ _ hHeld (fun hHeld' => ?_)
              clear hK hHeld
              have hHeld := hHeld'
              clear hHeld'
              refine wpAnyH_done (by kernel_rfl) ?_ _
              clear hHeld
              go_upto_region 19 with fail
              refine wp_region_held_drew (S := (fun w' => w'.cell? ⟨gv, 0, none⟩ = some (.int .u32 (a.toNat : Int)))) (by kernel_rfl) (c0) (fun hHeld => ?_)
              refine wpAnyH_takeAt (i := 0) (v := (.pointer (some ⟨gv, 0, none⟩))) rfl (by kernel_rfl) (by kernel_rfl) (by kernel_rfl) (fun _ _ _ h => h) rfl (Or.inl ⟨by rfl, fun w' hS => ?_⟩) hHeld ?_
              · go_simp
              simp only [List.set_cons_zero, List.set_cons_succ]
              refine wpAnyH_takeAt (i := 1) (v := (.int .u32 (a.toNat : Int))) rfl (by kernel_rfl) (by kernel_rfl) (by kernel_rfl) (fun _ _ _ h => h) rfl (Or.inl ⟨by rfl, fun w' hS => ?_⟩) hHeld ?_
              · have hc := hS
                go_simp
              simp only [List.set_cons_zero, List.set_cons_succ]
              refine wpAnyH_takeAt (i := 3) (v := (.pointer (some ⟨gv, 0, none⟩))) rfl (by kernel_rfl) (by kernel_rfl) (by kernel_rfl) (fun _ _ _ h => h) rfl (Or.inl ⟨by rfl, fun w' hS => ?_⟩) hHeld ?_
              · go_simp
              simp only [List.set_cons_zero, List.set_cons_succ]
              refine wpAnyH_takeAt (i := 4) (v := (.int .u32 (a.toNat : Int))) rfl (by kernel_rfl) (by kernel_rfl) (by kernel_rfl) (fun _ _ _ h => h) rfl (Or.inl ⟨by rfl, fun w' hS => ?_⟩) hHeld ?_
              · have hc := hS
                go_simp
              simp only [List.set_cons_zero, List.set_cons_succ]
              refine wpAnyH_takeAt (i := 7) (v := (.pointer (some ⟨gv, 0, none⟩))) rfl (by kernel_rfl) (by kernel_rfl) (by kernel_rfl) (fun _ _ _ h => h) rfl (Or.inl ⟨by rfl, fun w' hS => ?_⟩) hHeld ?_
              · go_simp
              simp only [List.set_cons_zero, List.set_cons_succ]
              refine wpAnyH_takeAt (i := 8) (v := (.int .u32 (a.toNat : Int))) rfl (by kernel_rfl) (by kernel_rfl) (by kernel_rfl) (fun _ _ _ h => h) rfl (Or.inl ⟨by rfl, fun w' hS => ?_⟩) hHeld ?_
              · have hc := hS
                go_simp
              simp only [List.set_cons_zero, List.set_cons_succ]
              refine wpAnyH_ready (rs := [2]) (by kernel_rfl) (by simp) (AllReadyH.cons rfl (fun K' hK => ?_) AllReadyH.nil)
              go_simp
              go_at_call 56
              refine (T_s2_.out _).mono ?_
              rintro e0 w' ⟨rfl, rfl⟩
              go_wp2_with fail
              refine hK.out _ _ hHeld (fun hHeld' => ?_)
              clear hK hHeld
              have hHeld := hHeld'
              clear hHeld'
              refine wpAnyH_ready (rs := [5]) (by kernel_rfl) (by simp) (AllReadyH.cons rfl (fun K' hK => ?_) AllReadyH.nil)
              go_simp
              go_at_call 56
              refine (T_s13.out _).mono ?_
              rintro e0 w' ⟨rfl, rfl⟩
              go_wp2_with fail
              refine hK.out _ _ hHeld (fun hHeld' => ?_)
              clear hK hHeld
              have hHeld := hHeld'
              clear hHeld'
              refine wpAnyH_takeAt (i := 6) (v := (.int .u32 (y1.toNat : Int))) rfl (by kernel_rfl) (by kernel_rfl) (by kernel_rfl) (fun _ _ _ h => h) rfl (Or.inl ⟨by rfl, fun w' hS => ?_⟩) hHeld ?_
              · go_simp
              simp only [List.set_cons_zero, List.set_cons_succ]
              refine wpAnyH_ready (rs := [9]) (by kernel_rfl) (by simp) (AllReadyH.cons rfl (fun K' hK => ?_) AllReadyH.nil)
              go_simp
              go_at_call 56
              refine (T_s22.out _).mono ?_
              rintro e0 w' ⟨rfl, rfl⟩
              go_wp2_with fail
              refine hK.out _ _ hHeld (fun hHeld' => ?_)
              clear hK hHeld
              have hHeld := hHeld'
              clear hHeld'
              refine wpAnyH_takeAt (i := 10) (v := (.int .u32 (y2.toNat : Int))) rfl (by kernel_rfl) (by kernel_rfl) (by kernel_rfl) (fun _ _ _ h => h) rfl (Or.inl ⟨by rfl, fun w' hS => ?_⟩) hHeld ?_
              · go_simp
              simp only [List.set_cons_zero, List.set_cons_succ]
              refine wpAnyH_ready (rs := [11]) (by kernel_rfl) (by simp) (AllReadyH.cons rfl (fun K' hK => ?_) AllReadyH.nil)
              go_simp
              refine hK.out _ _ hHeld (fun hHeld' => ?_)
              clear hK hHeld
              have hHeld := hHeld'
              clear hHeld'
              refine wpAnyH_done (by kernel_rfl) ?_ _
              clear hHeld
              go_upto_region 20 with fail
              obtain ⟨w3, hw3⟩ : ∃ w3, w3 = World.drew (World.drew w2) := ⟨_, rfl⟩
              change Code.wp _ _ _ _ (World.drew (World.drew w2))
              have c0 : w3.cell? ⟨gv, 0, none⟩ = some (.int .u32 (a.toNat : Int)) := by rw [hw3]; exact c0
              have c1 : w3.cell? ⟨gv, 1, none⟩ = some (.int .u32 (x1.toNat : Int)) := by rw [hw3]; exact c1
              have c2 : w3.cell? ⟨gv, 2, none⟩ = some (.int .u32 (x2.toNat : Int)) := by rw [hw3]; exact c2
              have c3 : w3.cell? ⟨gv, 3, none⟩ = some (.int .u32 (x3.toNat : Int)) := by rw [hw3]; exact c3
              have c4 : w3.cell? ⟨gv, 4, none⟩ = some (.int .u32 (e.toNat : Int)) := by rw [hw3]; exact c4
              have c5 : w3.cell? ⟨gv, 5, none⟩ = some (.int .u32 (x5.toNat : Int)) := by rw [hw3]; exact c5
              have c6 : w3.cell? ⟨gv, 6, none⟩ = some (.int .u32 (x6.toNat : Int)) := by rw [hw3]; exact c6
              have HV3 : Hid (WB w3 gv 69 (vS H m i)) := by show WB _ _ _ _; rw [hw3]; exact HV2.out
              have HW3 : Hid (WB w3 (w.heap.size + 1 + 1 + 1) 40 (upW 64 64 F (fun _ => 0))) := by show WB _ _ _ _; rw [hw3]; exact HW2.out
              have HX3 : Hid (MX w w3 H) := by show MX _ _ _; rw [hw3]; exact HX2.out.drew.drew
              rw [← hw3]
              clear hw3 HV2 HW2 HX2
              go_upto_region 21 with fail
              obtain ⟨NV, hNV⟩ : ∃ NV : List UInt32, NV = [n0, a, x1, x2, n4, e, x5, x6] := ⟨_, rfl⟩
              have HNV := Lib.hid hNV
              have hnv : (NV.map u32v).toArray = #[.int .u32 (n0.toNat : Int), .int .u32 (a.toNat : Int), .int .u32 (x1.toNat : Int), .int .u32 (x2.toNat : Int), .int .u32 (n4.toNat : Int), .int .u32 (e.toNat : Int), .int .u32 (x5.toNat : Int), .int .u32 (x6.toNat : Int)] := by rw [hNV]; rfl
              have HNVA := Lib.hid hnv
              have HTH7 : Hid (w3.there gv 0 (NV.map u32v).toArray.size) := by show World.there _ _ _ (NV.map u32v).toArray.size; rw [hnv]; exact wb_there HV3.out HVL.out
              have HJ7 : Hid ((Try.prog.info? 69).map (·.size) = some (NV.map u32v).toArray.size) := by show _ = _; rw [hnv]; exact info8
              clear hNV hnv
              go_wp2_with (first
                | ((with_reducible show wpList _ _ _ (⟨none, .store 69 (.tmp 12) (.tmp 203), _, _, _, _⟩ :: _) _ _); refine wpList_store_mid rfl 69 (.tmp 12) (.tmp 203) rfl gv 0 (NV.map u32v).toArray rfl (congrArg Value.agg HNVA.out.symm) (show World.there _ _ _ _ from HTH7.out) HJ7.out (all_oneCell_toArray (u32_one _)) ?_))
              go_roundg (64 - (i + 1))
              case measure => omega
              case rel =>
                refine ⟨i + 1, by omega, rfl, by go_num, ?_, ?_, ?_⟩
                · rw [HNEW.out, ← HNV.out]
                  exact WB.setAll HV3.out (by rw [HVL.out, HNV.out]; rfl)
                · exact Blk.farAll (by have := HGL.out; omega) _ _ _ HW3.out
                · have := HGL.out
                  exact ⟨Blk.farAll (by omega) _ _ _ HX3.out.1, Blk.farAll (by omega) _ _ _ HX3.out.2.1, Blk.farAll (by omega) _ _ _ HX3.out.2.2.1, below_setCells HX3.out.2.2.2 (by omega) _ _⟩
            · have hi3 : i = 64 := by omega
              subst hi3
              obtain ⟨VV, hVV⟩ : ∃ VV, VV = vS H m 64 := ⟨_, rfl⟩
              rw [← hVV] at hv
              obtain ⟨G, hG⟩ : ∃ G : Nat → UInt32, G = fun j => H.getD j 0 + VV.getD j 0 := ⟨_, rfl⟩
              have HCM : Hid (cmp H m = (List.range 8).map G) := by show _ = _; rw [cmp, ← hVV, hG]
              have HG := Lib.hid hG
              have HVV := Lib.hid hv
              have HVVL : Hid (VV.length = 8) := by show _ = _; rw [hVV]; exact HVL.out
              have HX0 : Hid (MX w wr (upW 8 0 G (fun j => H.getD j 0))) := by show MX _ _ _; rw [upW_zero, ← HH.out, listW_range]; exact hx
              clear hv hw hx hVV hG HV HW HX HVL
              go_upto_region 23 with fail
              go_loopg [19] 8 (fun gg v19 wx => ∃ j : Nat, j ≤ 8 ∧ gg = 8 - j ∧ v19 = .int .i64 (j : Int) ∧ WB wx gv 69 VV ∧ MX w wx (upW 8 j G (fun j => H.getD j 0)))
              case atStart => exact ⟨0, by omega, rfl, rfl, HVV.out, HX0.out⟩
              case round =>
                obtain ⟨j, hj, rfl, rfl, hv, hx⟩ := hrel
                clear HVV HX0
                have HV := Lib.hid hv
                have HX := Lib.hid hx
                by_cases hj2 : j < 8
                · have hji : (j : Int) < 8 := by omega
                  have cv := hv.cell j (by rw [HVVL.out]; exact hj2)
                  have cs := hx.1.cell j (by rw [upW_len]; exact hj2)
                  rw [upW_getD _ _ hj2, if_neg (by omega)] at cs
                  have fs := hx.1.free j
                  obtain ⟨a, ha⟩ : ∃ z, z = H.getD j 0 := ⟨_, rfl⟩
                  obtain ⟨b, hb'⟩ : ∃ z, z = VV.getD j 0 := ⟨_, rfl⟩
                  obtain ⟨y, hy⟩ : ∃ z, z = a + b := ⟨_, rfl⟩
                  rw [← ha] at cs
                  rw [← hb'] at cv
                  have hGj : G j = y := by rw [HG.out, hy, ha, hb']
                  have f1 := W.add a b
                  have f2 := W.addw a b
                  rw [← hy] at f1 f2
                  have HGJ := Lib.hid hGj
                  clear hv hx ha hb' hy hGj
                  go_upto_region 25 with fail
                  go_still_tail 9, (by kernel_rfl)
                  change wpList _ _ _ _ _ wr.drew
                  go_wp2_with fail
                  go_roundg (8 - (j + 1))
                  case measure => omega
                  case rel =>
                    have hgl := HGL.out
                    refine ⟨j + 1, by omega, rfl, by go_num, WB.far (w := wr.drew) HV.out (p := ⟨w.heap.size, j, none⟩) (by show gv ≠ w.heap.size; omega) _, ?_, WB.far (w := wr.drew) HX.out.2.1 (p := ⟨w.heap.size, j, none⟩) (by show w.heap.size + 1 ≠ w.heap.size; omega) _, WB.far (w := wr.drew) HX.out.2.2.1 (p := ⟨w.heap.size, j, none⟩) (by show w.heap.size + 1 + 1 ≠ w.heap.size; omega) _, bset (bdrew HX.out.2.2.2) (p := ⟨w.heap.size, j, none⟩) (Nat.le_refl _) _⟩
                    rw [← upW_set G _ hj2, HGJ.out]
                    exact WB.set (w := wr.drew) HX.out.1 j y
                · have hj3 : j = 8 := by omega
                  subst hj3
                  obtain ⟨R, hR⟩ : ∃ R, R = cmp H m := ⟨_, rfl⟩
                  have hRl : R.length = 8 := by rw [hR]; exact cmp_len _ _
                  have HS : Hid (WB wr w.heap.size 69 R) := by show WB _ _ _ _; rw [hR, HCM.out, ← upW_full 8 G (fun j => H.getD j 0)]; exact hx.1
                  have HRE := Lib.hid hR
                  have HRG := Lib.hid HS.out.range
                  have HI : Hid ((Try.prog.info? 69).map (·.size) = some (R.map u32v).length) := by show _ = _; rw [List.length_map, hRl]; exact info8
                  have HJ9 : Hid ((Try.prog.info? 69).map (·.size) = some (R.map u32v).toArray.size) := by show _ = _; rw [List.size_toArray, List.length_map, hRl]; exact info8
                  have HTH : Hid (wr.there (w.heap.size + 1 + 1) 0 (R.map u32v).toArray.size) := by show World.there _ _ _ (R.map u32v).toArray.size; rw [show (R.map u32v).toArray.size = 8 by rw [List.size_toArray, List.length_map, hRl]]; exact wb_there hx.2.2.1 rfl
                  have hst := WB.setAll (l' := R) hx.2.2.1 (by rw [hRl]; rfl)
                  have hload := run_loadVar_mid (P := Try.prog) (wr.setCells (w.heap.size + 1 + 1) 0 (R.map u32v)) (w.heap.size + 1 + 1) 0 69 (R.map u32v) _ hst.range Try.underlying69 rfl HI.out
                  have HLOAD := Lib.hid hload
                  clear hv hx hR hRl hst hload
                  go_wp2_with (first
                    | ((with_reducible show wpList _ _ _ (⟨some 217, .load 69 (.tmp 3), _, _, _, _⟩ :: _) _ _); refine wpList_load_mid rfl 69 (.tmp 3) rfl w.heap.size 0 rfl (R.map u32v) _ HRG.out Try.underlying69 rfl HI.out ?_)
                    | ((with_reducible show wpList _ _ _ (⟨none, .store 69 (.tmp 6) (.tmp 217), _, _, _, _⟩ :: _) _ _); refine wpList_store_mid rfl 69 (.tmp 6) (.tmp 217) rfl (w.heap.size + 1 + 1) 0 (R.map u32v).toArray rfl rfl HTH.out HJ9.out (all_oneCell_toArray (u32_one _)) ?_))
                  refine bodyPost_ret (results_one rfl _ _ (w.heap.size + 1 + 1) _ rfl HLOAD.out) rfl (And.intro (by rw [HRE.out]) ?_)
                  exact below_setCells HX.out.2.2.2 (by omega) _ _
end Go.Proofs.Ytlapgccfgkokcaa
