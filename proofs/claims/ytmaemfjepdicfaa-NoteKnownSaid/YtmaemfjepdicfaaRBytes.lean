/- What the reference's Bytes returns (contract). Conditions: the note's bytes read. -/
import Derived.Test.YtmaemfjepdicfaaGoodR
import Derived.Test.YtmaemfjepdicfaaBytes
set_option linter.unusedVariables false
namespace Go.Proofs.Ytmaemfjepdicfaa
open Go.RowKit
attribute [local go_sem ↓] Go.wp_at_zero Go.wp_at_succ

theorem beS_be16 (x : Nat) : beS x 2 = be16 (x : Int) := by
  simp [beS, beTake, be16]
theorem pre_nextN (d : NoteD) (k x : Nat) (h : (vals d)[k]? = some (x : Int)) : preS d k ++ beS x 2 = preS d (k + 1) := by
  rw [pre_next d k x h, beS_be16]
theorem ByteRow.reads {w : World} {B : Nat} {A : Option Addr} {c : Nat} {bs : List UInt8} (h : ByteRow w B (.slice A bs.length c) bs) : Reads w w.heap.size 1 A bs.length (bs.map u8v) := Reads.of_own h
theorem ByteRow.form {w : World} {B : Nat} {v : Value} {bs : List UInt8} (h : ByteRow w B v bs) : ∃ A c, v = .slice A bs.length c := by
  obtain ⟨A, c, hv⟩ := own_slice h
  rcases h.2 with ⟨e, h0⟩ | ⟨g, cap, cur, e, _⟩
  · exact ⟨none, 0, by rw [e, h0]⟩
  · exact ⟨_, _, e⟩

set_option maxHeartbeats 400000 in
theorem rbytes_c (d : NoteD) (A : Option Addr) (c : Nat) (w : World) (hr : Reads w w.heap.size 1 A d.bs.length (d.bs.map u8v)) (hlen : d.bs.length ≤ 9223372036854775807) :
    Calls Try.prog 10 #[noteV d A c] w (BytesRet d w) := by
  obtain ⟨iB, hiB, hz0, hz1, hz2⟩ := info_parts infoByte
  have HR := Lib.hid hr
  obtain ⟨g, hgd⟩ : ∃ g, g = good d := ⟨_, rfl⟩
  have hgc := goodr_c d A c
  rw [← hgd] at hgc
  obtain ⟨Q, hQ⟩ : ∃ Q, Q = BytesRet d w := ⟨_, rfl⟩
  rw [← hQ]
  have HQ := Lib.hid hQ
  have HG := Lib.hid hgc
  have HGD := Lib.hid hgd
  clear hr hgc hQ hgd
  obtain ⟨kind, room, slot, epoch, n, m, bs⟩ := d
  simp only at hlen
  unfold noteV
  go_enter Try.func10, Try.ntmps10
  go_wp2_with fail
  refine ((HG.out _ (HR.out.to_ (balloc (Below.refl _ _) _)) hlen)).mono ?_
  rintro e0 w1 ⟨rfl, hb1⟩
  have k1 := bcall (balloc (Below.refl w.heap.size w) (.cells #[.int .i64 kind, .int .i64 room, .int .i64 slot, .int .i64 epoch, .int .i64 n, .int .i64 m, .slice A bs.length c] 26)) hb1
  have bx := (Blk.new w 26 #[.int .i64 kind, .int .i64 room, .int .i64 slot, .int .i64 epoch, .int .i64 n, .int .i64 m, .slice A bs.length c]).below hb1
  cases g with
  | false =>
    clear bx
    go_wp2
    rw [HQ.out]
    exact BytesRet.no HGD.out.symm k1
  | true =>
    have hfit := good_fit HGD.out.symm
    simp only at hfit
    obtain ⟨f1, f2, f3, f4, f5, f6, f7, f8, f9, f10, f11, f12, f13⟩ := hfit
    obtain ⟨E, rfl⟩ := Int.eq_ofNat_of_zero_le f7
    obtain ⟨N, rfl⟩ := Int.eq_ofNat_of_zero_le f9
    obtain ⟨M, rfl⟩ := Int.eq_ofNat_of_zero_le f11
    have x0 : w1.cell? ⟨w.heap.size, 0, none⟩ = some (.int .i64 kind) := bx.cell 0
    have x1 : w1.cell? ⟨w.heap.size, 1, none⟩ = some (.int .i64 room) := bx.cell 1
    have x2 : w1.cell? ⟨w.heap.size, 2, none⟩ = some (.int .i64 slot) := bx.cell 2
    have x3 : w1.cell? ⟨w.heap.size, 3, none⟩ = some (.int .i64 (E : Int)) := bx.cell 3
    have hlt := bx.lt
    have HK1 := Lib.hid k1
    have HBX := Lib.hid (bx.alloc (.cells #[.int .u8 kind, .int .u8 room, .int .u8 slot] 5))
    have H3 := Lib.hid (row3 w1 kind room slot f1 (by omega) f3 (by omega) f5 (by omega))
    have HP1 : Hid (preS ⟨kind, room, slot, E, N, M, bs⟩ 0 ++ beS E 2 = preS ⟨kind, room, slot, E, N, M, bs⟩ 1) := pre_nextN ⟨kind, room, slot, E, N, M, bs⟩ 0 E rfl
    have HP2 : Hid (preS ⟨kind, room, slot, E, N, M, bs⟩ 1 ++ beS N 2 = preS ⟨kind, room, slot, E, N, M, bs⟩ 2) := pre_nextN ⟨kind, room, slot, E, N, M, bs⟩ 1 N rfl
    have HP3 : Hid (preS ⟨kind, room, slot, E, N, M, bs⟩ 2 ++ beS M 2 = preS ⟨kind, room, slot, E, N, M, bs⟩ 3) := pre_nextN ⟨kind, room, slot, E, N, M, bs⟩ 2 M rfl
    have HP4 : Hid (preS ⟨kind, room, slot, E, N, M, bs⟩ 3 ++ beS bs.length 2 = preS ⟨kind, room, slot, E, N, M, bs⟩ 4) := pre_nextN ⟨kind, room, slot, E, N, M, bs⟩ 3 bs.length rfl
    have HPA := Lib.hid (pre_all ⟨kind, room, slot, E, N, M, bs⟩)
    clear k1 bx hb1
    go_wp2_with fail
    refine (U_c (some ⟨w1.heap.size, 0, none⟩) 3 E 2 (preS ⟨kind, room, slot, E, N, M, bs⟩ 0) _ (Reads.of_own H3.out) (by simp [preS]) (by omega) (by omega)).mono ?_
    rintro e0 w2 ⟨v2, rfl, hv2, hb2⟩
    rw [HP1.out] at hv2
    have bx2 := HBX.out.below hb2
    have y4 : w2.cell? ⟨w.heap.size, 4, none⟩ = some (.int .i64 (N : Int)) := bx2.cell 4
    obtain ⟨A2, c2, rfl⟩ := hv2.form
    have HV2 := Lib.hid hv2
    have HB2 := Lib.hid (bcall (balloc HK1.out _) hb2)
    have HBX2 := Lib.hid bx2
    clear hv2 hb2 bx2 x0 x1 x2 x3
    go_wp2_with fail
    refine (U_c A2 c2 N 2 (preS ⟨kind, room, slot, E, N, M, bs⟩ 1) _ HV2.out.reads (by rw [pre_len _ _ (by omega)]; omega) (by omega) (by omega)).mono ?_
    rintro e0 w3 ⟨v3, rfl, hv3, hb3⟩
    rw [HP2.out] at hv3
    have bx3 := HBX2.out.below hb3
    have y5 : w3.cell? ⟨w.heap.size, 5, none⟩ = some (.int .i64 (M : Int)) := bx3.cell 5
    obtain ⟨A3, c3, rfl⟩ := hv3.form
    have HV3 := Lib.hid hv3
    have HB3 := Lib.hid (bcall HB2.out hb3)
    have HBX3 := Lib.hid bx3
    clear hv3 hb3 bx3 y4
    go_wp2_with fail
    refine (U_c A3 c3 M 2 (preS ⟨kind, room, slot, E, N, M, bs⟩ 2) _ HV3.out.reads (by rw [pre_len _ _ (by omega)]; omega) (by omega) (by omega)).mono ?_
    rintro e0 w4 ⟨v4, rfl, hv4, hb4⟩
    rw [HP3.out] at hv4
    have bx4 := HBX3.out.below hb4
    have y6 : w4.cell? ⟨w.heap.size, 6, none⟩ = some (.slice A bs.length c) := bx4.cell 6
    obtain ⟨A4, c4, rfl⟩ := hv4.form
    have HV4 := Lib.hid hv4
    have HB4 := Lib.hid (bcall HB3.out hb4)
    have hlt4 := bx4.lt
    have HBX4 := Lib.hid bx4
    clear hv4 hb4 bx4 y5
    have HC4 := Lib.hid (U_c A4 c4 bs.length 2 (preS ⟨kind, room, slot, E, N, M, bs⟩ 3) w4.drew (show Reads w4.drew w4.drew.heap.size 1 _ _ _ from HV4.out.reads) (by rw [pre_len _ _ (by omega)]; omega) (by omega) (by omega))
    have HW : Hid (IntKind.u64.wrap (bs.length : Int) = (bs.length : Int)) := by show IntKind.u64.wrap (bs.length : Int) = _; simp [IntKind.wrap, IntKind.bits, IntKind.signed]; omega
    have HL4 := Lib.hid (pre_len ⟨kind, room, slot, E, N, M, bs⟩ 4 (by omega))
    go_wp2_with fail
    have y6d : w4.drew.cell? ⟨w.heap.size, 6, none⟩ = some (.slice A bs.length c) := y6
    go_region_held3 (fun w' => w'.cell? ⟨w.heap.size, 6, none⟩ = some (.slice A bs.length c)) (first | exact y6d | exact y6b | exact y6c)
      (first
        | (refine step_append_any _ (by rfl) (.tmp 38) (.tmp 40) _ (by rfl) w.heap.size 5 iB _ 1 1 Try.underlying22 hiB hz0 hz1 hz2 rfl (by omega) (.slice A5 (preS ⟨kind, room, slot, E, N, M, bs⟩ 4).length c5) (preS ⟨kind, room, slot, E, N, M, bs⟩ 4).length ((preS ⟨kind, room, slot, E, N, M, bs⟩ 4).map u8v) (by rfl) (own_lower HV5.out HB4.out.size)
               w5.heap.size A bs.length c (bs.map u8v) (by rfl) (HR.out.to_ HB5.out) (u8_one bs) (by have := HL4.out; simp only [maxLen]; omega) (by have := HL4.out; omega) HB5.out.size ?_
           intro v6 w6 hown6 hg6 hat6
           have HB6 := Lib.hid (own_grow_below HB5.out (own_lower HV5.out HB4.out.size) hg6)
           rw [← List.map_append, HPA.out] at hown6
           have HO6 := Lib.hid hown6
           have y6c : w6.cell? ⟨w.heap.size, 6, none⟩ = some (.slice A bs.length c) := (Blk.grown HBX5.out hg6 (fun e => by have := (HO5.out.lt _ e.symm).1; have : w4.heap.size ≤ w.heap.size := this; omega)).cell 6
           clear hown6 hg6 hat6)
        | (go_at_call 17
           rw [HW.out]
           refine HC4.out.mono ?_
           rintro e0 w5 ⟨v5, rfl, hv5, hb5⟩
           rw [HP4.out] at hv5
           have y6b : w5.cell? ⟨w.heap.size, 6, none⟩ = some (.slice A bs.length c) := (hb5.cell (p := ⟨w.heap.size, 6, none⟩) hlt4).trans y6
           obtain ⟨A5, c5, rfl⟩ := hv5.form
           have HV5 := Lib.hid hv5
           have HB5 : Hid (Below w.heap.size w w5) := Lib.hid (bcall (bdrew HB4.out) hb5)
           have HBX5 : Hid (Blk w5 w.heap.size 26 #[.int .i64 kind, .int .i64 room, .int .i64 slot, .int .i64 (E : Int), .int .i64 (N : Int), .int .i64 (M : Int), .slice A bs.length c]) := Lib.hid (Blk.below (w := w4.drew) HBX4.out hb5)
           have HO5 := Lib.hid (own_lower HV5.out (Nat.le_refl _))
           clear hv5 hb5))
    go_wp2
    rw [HQ.out]
    refine BytesRet.yes HGD.out.symm ?_ HB6.out
    rw [bytesS_len]
    rw [← show (preS ⟨kind, room, slot, E, N, M, bs⟩ 4).length = 11 from HL4.out]
    exact HO6.out
end Go.Proofs.Ytmaemfjepdicfaa
