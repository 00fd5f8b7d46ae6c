/- Texts of this claim, one behind the other: Ur, BodyD, Body1, Body2. Each says ahead of itself what it proves, and its conditions. -/
import Derived.Test.YtkfimncbfbbopaaHl
/- What the reference's U returns: its bytes and a number's bytes behind, the highest first (contract). Conditions: the bytes read; they are no more than fit. -/
set_option linter.unusedVariables false
set_option linter.unusedSimpArgs false
namespace Go.Proofs.Ytkfimncbfbbopaa
open Go.RowKit
attribute [local go_sem ↓] Go.wp_at_zero Go.wp_at_succ

set_option maxHeartbeats 1600000 in
theorem U_c (A : Option Addr) (c x n : Nat) (bs : List UInt8) (w : World) (hr : Reads w w.heap.size 1 A bs.length (bs.map u8v)) (hl : bs.length ≤ 140737488355000) (hn : n ≤ 8) (hx : x < 18446744073709551616) :
    Calls Try.prog 48 #[.slice A bs.length c, .int .u64 (x : Int), .int .i64 (n : Int)] w fun e w' => ∃ v, e = .returned v ∧ ByteRow w' w.heap.size v (bs ++ beS x n) ∧ Below w.heap.size w w' := by
  obtain ⟨iB, hiB, hz0, hz1, hz2⟩ := info_parts infoByte
  have HR := Lib.hid hr
  clear hr
  have hni : (n : Int) ≤ 8 := by omega
  go_enter Try.func48, Try.ntmps48
  go_wp2_with (first
    | (at_builtin
       refine wpList_append_any _ rfl (.tmp 9) (.tmp 10) _ rfl w.heap.size 5 iB _ 1 1 Try.underlying22 hiB hz0 hz1 hz2 rfl (by omega) (.slice (some ⟨w.heap.size, 0, none⟩) 0 0) 0 [] rfl (own_empty w _ _)
         (w.alloc (.cells #[] 5)).heap.size A bs.length c (bs.map u8v) rfl (HR.out.to_ (balloc (Below.refl _ _) _)) (u8_one bs) (by simp only [maxLen]; omega) (by omega) (by simp) ?_
       intro v1 w1 hown1 hg1 hat1
       rw [Nat.zero_add, List.nil_append] at hown1
       have HO1 := Lib.hid hown1
       have HB1 := Lib.hid (fresh_below hg1)
       clear hown1 hg1 hat1))
  go_loopg [7, 8] n (fun gg v i wr => ∃ j k, j + k = n ∧ j = gg ∧ i = .int .i64 ((j : Int) - 1) ∧ wr.ownsRow w.heap.size 5 1 v (bs.length + k) ((bs ++ beTake x n k).map u8v) ∧ Below w.heap.size w wr)
  case atStart => exact ⟨n, 0, rfl, rfl, rfl, by rw [beTake, List.append_nil]; exact HO1.out, HB1.out⟩
  case round =>
    obtain ⟨j, k, hjk, rfl, rfl, hown, hbel⟩ := hrel
    have HOWN := Lib.hid hown
    have HBEL := Lib.hid hbel
    have HJK := Lib.hid hjk
    clear hown hbel
    cases j with
    | zero =>
      have hk : k = n := by omega
      subst hk
      clear hjk
      go_wp2
      go_ret
      exact ⟨_, rfl, by unfold ByteRow; rw [List.length_append, beS_len]; exact HOWN.out, HBEL.out⟩
    | succ j =>
      rw [show (((j + 1 : Nat) : Int) - 1) = (j : Int) by omega]
      have hj8 : j < 8 := by omega
      have hj9 : (j : Int) < 8 := by omega
      have HV := Lib.hid (byte_at x (8 * j))
      have HT := Lib.hid (beTake_next x hjk)
      clear hjk
      have hkl : k < 8 := by have := HJK.out; omega
      go_wp2_with (first
        | (at_builtin
           refine wpList_append_any _ rfl (.tmp 18) (.tmp 25) _ rfl w.heap.size 5 iB _ 1 1 Try.underlying22 hiB hz0 hz1 hz2 rfl (by omega) u7 (bs.length + k) ((bs ++ beTake x n k).map u8v) rfl (HOWN.out.alloc _)
             (wr.alloc (.cells #[.int .u8 ((x : Int) / 2 ^ (8 * j) % 256)] 5)).heap.size (some ⟨wr.heap.size, 0, none⟩) 1 1 [.int .u8 ((x : Int) / 2 ^ (8 * j) % 256)] rfl (Reads.of_own (own_one wr 5 _)) (by simp [Value.oneCell']) (by simp only [maxLen]; omega) (by omega) (by have := HBEL.out.size; simp; omega) ?_
           intro v2 w2 hown2 hg2 hat2
           have HB2 := Lib.hid (own_grow_below (balloc HBEL.out _) (HOWN.out.alloc _) hg2)
           rw [HV.out, show ∀ l : List Value, ∀ u, l ++ [u8v u] = l ++ [u].map u8v from fun _ _ => rfl, ← List.map_append, List.append_assoc, ← HT.out] at hown2
           have HO2 := Lib.hid hown2
           clear hown2 hg2 hat2))
      go_roundg j
      case measure => omega
      case rel => exact ⟨j, k + 1, by have := HJK.out; omega, rfl, rfl, HO2.out, HB2.out⟩
theorem U_z {A : Option Addr} {m c x n : Nat} {bs : List UInt8} {w : World} (h : SlV w (.slice A m c) bs) (hl : bs.length ≤ 100000000) (hn : n ≤ 8) (hx : x < 18446744073709551616) :
    Calls Try.prog 48 #[.slice A m c, .int .u64 (x : Int), .int .i64 (n : Int)] w fun e w' => ∃ v, e = .returned v ∧ ByteRow w' w.heap.size v (bs ++ beS x n) ∧ Below w.heap.size w w' := by
  have hm := h.num
  have hr := h.rd
  subst hm
  exact U_c A c x n bs w hr (by omega) hn hx
end Go.Proofs.Ytkfimncbfbbopaa
/- What the reference's body returns (plain). Conditions: none. (Printed by gen8g.py.) -/
set_option linter.unusedVariables false
set_option linter.unusedSimpArgs false
namespace Go.Proofs.Ytkfimncbfbbopaa
open Go.RowKit
attribute [local go_sem ↓] Go.wp_at_zero Go.wp_at_succ

/-- What the reference's body returns. -/
def BodyR (r : Rep) (vd : Value) (w : World) (e : Ending) (w' : World) : Prop := ∃ v, e = .returned (.tuple #[.int .i64 (typS r), .int .i64 (cntS r), v]) ∧ (ByteRow w' w.heap.size v (bodyS r) ∨ (v = vd ∧ bodyS r = r.body)) ∧ Below w.heap.size w w'
end Go.Proofs.Ytkfimncbfbbopaa
/- What the reference makes of a report of kind 1 (contract). Conditions: what it tells lies in memory. (Printed by gen8g.py.) -/
set_option linter.unusedVariables false
set_option linter.unusedSimpArgs false
namespace Go.Proofs.Ytkfimncbfbbopaa
open Go.RowKit
attribute [local go_sem ↓] Go.wp_at_zero Go.wp_at_succ

set_option maxRecDepth 100000 in
set_option maxHeartbeats 12800000 in
theorem body1_c (fr ab ntp ts pk oc mt nb cb np cp nf cf ns cs nd cd : Nat) (ex ty ct : Int) (Ab Ap Af As Ad : Option Addr) (w : World) (r : Rep) (hr : r.kind = 1) (hbs : SlR w ks7 (.slice Ab nb cb) r.blocks) (hfb : FitL r.blocks) (hnb : nb ≤ 100000) (hntp : ntp < 18446744073709551616) (hts : ts < 4294967296) (hpk : pk < 4294967296) (hoc : oc < 4294967296) (e3 : r.ntp = ntp) (e4 : r.ts = ts) (e5 : r.pk = pk) (e6 : r.oc = oc)
    (hfr : fr < 4294967296) (hab : ab < 4294967296) (e1 : r.fr = fr) (e2 : r.ab = ab) :
    Calls Try.prog 47 #[.agg #[.int .i64 1, .int .u32 (fr : Int), .int .u32 (ab : Int), .int .u64 (ntp : Int), .int .u32 (ts : Int), .int .u32 (pk : Int), .int .u32 (oc : Int), .slice Ab nb cb, .slice Ap np cp, .slice Af nf cf, .int .i64 ex, .int .u32 (mt : Int), .slice As ns cs, .int .i64 ty, .int .i64 ct, .slice Ad nd cd]] w (BodyR r (.slice Ad nd cd) w) := by
  obtain ⟨iB, hiB, hz0, hz1, hz2⟩ := info_parts infoByte
  obtain ⟨g1, hg1⟩ : ∃ g1, g1 = w.heap.size := ⟨_, rfl⟩
  obtain ⟨w1, hw1⟩ : ∃ w1, w1 = w.alloc (.cells #[.int .i64 1, .int .u32 (fr : Int), .int .u32 (ab : Int), .int .u64 (ntp : Int), .int .u32 (ts : Int), .int .u32 (pk : Int), .int .u32 (oc : Int), .slice Ab nb cb, .slice Ap np cp, .slice Af nf cf, .int .i64 ex, .int .u32 (mt : Int), .slice As ns cs, .int .i64 ty, .int .i64 ct, .slice Ad nd cd] 40) := ⟨_, rfl⟩
  have HX1 : Hid (Blk w1 g1 40 #[.int .i64 1, .int .u32 (fr : Int), .int .u32 (ab : Int), .int .u64 (ntp : Int), .int .u32 (ts : Int), .int .u32 (pk : Int), .int .u32 (oc : Int), .slice Ab nb cb, .slice Ap np cp, .slice Af nf cf, .int .i64 ex, .int .u32 (mt : Int), .slice As ns cs, .int .i64 ty, .int .i64 ct, .slice Ad nd cd]) := by show Blk _ _ _ _; rw [hw1]; exact Blk.newAt hg1 _ _
  have HB1 : Hid (Below w.heap.size w w1) := by show Below _ _ _; rw [hw1]; exact balloc (Below.refl _ _) _
  have HB0 : Hid (Below w1.heap.size w1 w1) := Below.refl _ _
  have HO0 : Hid (ByteRow w1 w1.heap.size (.slice none 0 0) []) := World.ownsRow_nil _ _ _ _
  have z1 := wrap64 hfr
  have z2 := wrap64 hab
  have HFR := Lib.hid hfr
  have HAB := Lib.hid hab
  have HR4 := Lib.hid hr
  have HE1 := Lib.hid e1
  have HE2 := Lib.hid e2
  have HBS : Hid (SlR w1 ks7 (.slice Ab nb cb) r.blocks) := hbs.below HB1.out
  have HFB := Lib.hid hfb
  have HLEN : Hid (r.blocks.length = nb) := by obtain ⟨_, _, e, _⟩ := hbs; injection e with _ e; exact e.symm
  clear hbs hfb
  have zt := wrap64 hts
  have zp := wrap64 hpk
  have zo := wrap64 hoc
  have HNTP := Lib.hid hntp
  have HTS := Lib.hid hts
  have HPK := Lib.hid hpk
  have HOC := Lib.hid hoc
  have HE3 := Lib.hid e3
  have HE4 := Lib.hid e4
  have HE5 := Lib.hid e5
  have HE6 := Lib.hid e6
  clear hntp hts hpk hoc e3 e4 e5 e6
  clear hr hfr hab e1 e2
  go_enter Try.func47, Try.ntmps47
  go_upto_region 1 with fail
  rw [← hw1, ← hg1]
  clear hw1 hg1
  have k1 : w1.cell? ⟨g1, 1, none⟩ = some (.int .u32 (fr : Int)) := HX1.out.cell 1
  go_upto_region 2 with
   (go_at_call 48
    refine (U_z (SlV.own HO0.out) (by decide) (by decide) (by have := HFR.out; omega)).mono ?_
    rintro e9 w_1 ⟨v9, rfl, ho9, hb9⟩
    obtain ⟨A_1, c_1, hv9⟩ := own_slice ho9
    subst hv9
    have HO_1 : Hid (ByteRow w_1 w1.heap.size (.slice A_1 (([] : List UInt8) ++ beS fr 4).length c_1) (([] : List UInt8) ++ beS fr 4)) := own_lower ho9 HB0.out.size
    have HB_1 : Hid (Below w1.heap.size w1 w_1) := bcall HB0.out hb9
    obtain ⟨m_1, hm⟩ : ∃ m, m = (([] : List UInt8) ++ beS fr 4).length := ⟨_, rfl⟩
    have HM_1 := Lib.hid hm
    rw [← hm] at HO_1 ⊢
    clear ho9 hb9 hm
    have k0 : w_1.cell? ⟨g1, 0, none⟩ = some (.int .i64 1) := (HX1.out.below HB_1.out).cell 0
    have k3 : w_1.cell? ⟨g1, 3, none⟩ = some (.int .u64 (ntp : Int)) := (HX1.out.below HB_1.out).cell 3
    clear k1
    skip)
  go_upto_region 7 with
   (go_at_call 48
    refine (U_z (SlV.own HO_1.out) (by simp [beS_len]) (by decide) (by have := HNTP.out; omega)).mono ?_
    rintro e9 w_2 ⟨v9, rfl, ho9, hb9⟩
    obtain ⟨A_2, c_2, hv9⟩ := own_slice ho9
    subst hv9
    have HO_2 : Hid (ByteRow w_2 w1.heap.size (.slice A_2 (([] ++ beS fr 4) ++ beS ntp 8).length c_2) (([] ++ beS fr 4) ++ beS ntp 8)) := own_lower ho9 HB_1.out.size
    have HB_2 : Hid (Below w1.heap.size w1 w_2) := bcall HB_1.out hb9
    obtain ⟨m_2, hm⟩ : ∃ m, m = (([] ++ beS fr 4) ++ beS ntp 8).length := ⟨_, rfl⟩
    have HM_2 := Lib.hid hm
    rw [← hm] at HO_2 ⊢
    clear ho9 hb9 hm
    have k4 : w_2.cell? ⟨g1, 4, none⟩ = some (.int .u32 (ts : Int)) := (HX1.out.below HB_2.out).cell 4
    clear k0 k3
    skip)
  go_upto_region 8 with
   (go_at_call 48
    refine (U_z (SlV.own HO_2.out) (by simp [beS_len]) (by decide) (by have := HTS.out; omega)).mono ?_
    rintro e9 w_3 ⟨v9, rfl, ho9, hb9⟩
    obtain ⟨A_3, c_3, hv9⟩ := own_slice ho9
    subst hv9
    have HO_3 : Hid (ByteRow w_3 w1.heap.size (.slice A_3 (([] ++ beS fr 4 ++ beS ntp 8) ++ beS ts 4).length c_3) (([] ++ beS fr 4 ++ beS ntp 8) ++ beS ts 4)) := own_lower ho9 HB_2.out.size
    have HB_3 : Hid (Below w1.heap.size w1 w_3) := bcall HB_2.out hb9
    obtain ⟨m_3, hm⟩ : ∃ m, m = (([] ++ beS fr 4 ++ beS ntp 8) ++ beS ts 4).length := ⟨_, rfl⟩
    have HM_3 := Lib.hid hm
    rw [← hm] at HO_3 ⊢
    clear ho9 hb9 hm
    have k5 : w_3.cell? ⟨g1, 5, none⟩ = some (.int .u32 (pk : Int)) := (HX1.out.below HB_3.out).cell 5
    clear k4
    skip)
  go_upto_region 9 with
   (go_at_call 48
    refine (U_z (SlV.own HO_3.out) (by simp [beS_len]) (by decide) (by have := HPK.out; omega)).mono ?_
    rintro e9 w_4 ⟨v9, rfl, ho9, hb9⟩
    obtain ⟨A_4, c_4, hv9⟩ := own_slice ho9
    subst hv9
    have HO_4 : Hid (ByteRow w_4 w1.heap.size (.slice A_4 (([] ++ beS fr 4 ++ beS ntp 8 ++ beS ts 4) ++ beS pk 4).length c_4) (([] ++ beS fr 4 ++ beS ntp 8 ++ beS ts 4) ++ beS pk 4)) := own_lower ho9 HB_3.out.size
    have HB_4 : Hid (Below w1.heap.size w1 w_4) := bcall HB_3.out hb9
    obtain ⟨m_4, hm⟩ : ∃ m, m = (([] ++ beS fr 4 ++ beS ntp 8 ++ beS ts 4) ++ beS pk 4).length := ⟨_, rfl⟩
    have HM_4 := Lib.hid hm
    rw [← hm] at HO_4 ⊢
    clear ho9 hb9 hm
    have k6 : w_4.cell? ⟨g1, 6, none⟩ = some (.int .u32 (oc : Int)) := (HX1.out.below HB_4.out).cell 6
    clear k5
    skip)
  go_upto_region 10 with
   (go_at_call 48
    refine (U_z (SlV.own HO_4.out) (by simp [beS_len]) (by decide) (by have := HOC.out; omega)).mono ?_
    rintro e9 w_5 ⟨v9, rfl, ho9, hb9⟩
    obtain ⟨A_5, c_5, hv9⟩ := own_slice ho9
    subst hv9
    have HO_5 : Hid (ByteRow w_5 w1.heap.size (.slice A_5 (([] ++ beS fr 4 ++ beS ntp 8 ++ beS ts 4 ++ beS pk 4) ++ beS oc 4).length c_5) (([] ++ beS fr 4 ++ beS ntp 8 ++ beS ts 4 ++ beS pk 4) ++ beS oc 4)) := own_lower ho9 HB_4.out.size
    have HB_5 : Hid (Below w1.heap.size w1 w_5) := bcall HB_4.out hb9
    obtain ⟨m_5, hm⟩ : ∃ m, m = (([] ++ beS fr 4 ++ beS ntp 8 ++ beS ts 4 ++ beS pk 4) ++ beS oc 4).length := ⟨_, rfl⟩
    have HM_5 := Lib.hid hm
    rw [← hm] at HO_5 ⊢
    clear ho9 hb9 hm
    have k7 : w_5.cell? ⟨g1, 7, none⟩ = some (.slice Ab nb cb) := (HX1.out.below HB_5.out).cell 7
    clear k6
    skip)
  obtain ⟨L4, hL4⟩ : ∃ L4, L4 = ([] ++ beS fr 4 ++ beS ntp 8 ++ beS ts 4 ++ beS pk 4 ++ beS oc 4) := ⟨_, rfl⟩
  have HGS : Hid (ByteRow w_5 w1.heap.size (.slice A_5 m_5 c_5) (L4 ++ blksB (r.blocks.take 0))) := by
    show ByteRow _ _ _ _
    rw [hL4]
    simpa [blksB] using HO_5.out
  have HL4 := Lib.hid hL4
  have HL4l : Hid (L4.length ≤ 10000) := by show _ ≤ _; rw [hL4]; simp [beS_len, fours_len]
  clear hL4
  go_upto_region 11 with fail
  go_loopg [5, 6] nb (fun gg vv vi wx => ∃ i : Nat, gg = nb - i ∧ i ≤ nb ∧ vi = .int .i64 (i : Int) ∧ ByteRow wx w1.heap.size vv (L4 ++ blksB (r.blocks.take i)) ∧ Below w1.heap.size w1 wx)
  case atStart => exact ⟨0, rfl, by omega, rfl, HGS.out, HB_5.out⟩
  case round =>
    obtain ⟨i, hgg, hi, rfl, hg, hbx⟩ := hrel
    obtain ⟨Av, cv, hv⟩ := own_slice hg
    subst hv
    have HGG := Lib.hid hgg
    obtain ⟨L, hL⟩ : ∃ L, L = L4 ++ blksB (r.blocks.take i) := ⟨_, rfl⟩
    have HLE := Lib.hid hL
    have HLl : Hid (L.length ≤ 90000000) := by show _ ≤ _; have := HL4l.out; rw [hL, List.length_append, blksB_len, List.length_take]; omega
    rw [← hL] at hg ⊢
    have HO := Lib.hid hg
    have HB := Lib.hid hbx
    obtain ⟨m, hm⟩ : ∃ m, m = L.length := ⟨_, rfl⟩
    have HM := Lib.hid hm
    rw [← hm] at HO ⊢
    have kl : wr.cell? ⟨g1, 7, none⟩ = some (.slice Ab nb cb) := (HX1.out.below HB.out).cell 7
    clear hL hm hg hbx hgg HGS
    by_cases hin : i < nb
    · have hini : (i : Int) < (nb : Int) := by omega
      have hin0 : (0 : Int) ≤ (i : Int) := by omega
      have hw1 : IntKind.i64.wrap ((i : Int) + 1) = ((i + 1 : Nat) : Int) := by rw [IntKind.wrap_i64]; omega
      obtain ⟨e, hei⟩ : ∃ e, r.blocks[i]? = some e := ⟨r.blocks[i]'(by have := HLEN.out; omega), List.getElem?_eq_getElem _⟩
      obtain ⟨hz, ga, oa, hA, hga, hc⟩ := SlR.cells HBS.out (by omega) (by decide)
      subst hA
      obtain ⟨hel, hcc⟩ := hc i e hei
      obtain ⟨a0, a1, a2, a3, a4, a5, a6, rr, he⟩ := of7 (ks := ks7) rfl hel
      have u0 : wr.cell? ⟨ga, oa + i * 7, none⟩ = some (.int .u32 (a0 : Int)) := (HB.out.cell (p := ⟨ga, oa + i * 7, none⟩) hga).trans (hcc 0 _ (by rw [he]; rfl))
      have u1 : wr.cell? ⟨ga, oa + i * 7 + 1, none⟩ = some (.int .u8 (a1 : Int)) := (HB.out.cell (p := ⟨ga, oa + i * 7 + 1, none⟩) hga).trans (hcc 1 _ (by rw [he]; rfl))
      have u2 : wr.cell? ⟨ga, oa + i * 7 + 2, none⟩ = some (.int .u32 (a2 : Int)) := (HB.out.cell (p := ⟨ga, oa + i * 7 + 2, none⟩) hga).trans (hcc 2 _ (by rw [he]; rfl))
      have u3 : wr.cell? ⟨ga, oa + i * 7 + 3, none⟩ = some (.int .u32 (a3 : Int)) := (HB.out.cell (p := ⟨ga, oa + i * 7 + 3, none⟩) hga).trans (hcc 3 _ (by rw [he]; rfl))
      have u4 : wr.cell? ⟨ga, oa + i * 7 + 4, none⟩ = some (.int .u32 (a4 : Int)) := (HB.out.cell (p := ⟨ga, oa + i * 7 + 4, none⟩) hga).trans (hcc 4 _ (by rw [he]; rfl))
      have u5 : wr.cell? ⟨ga, oa + i * 7 + 5, none⟩ = some (.int .u32 (a5 : Int)) := (HB.out.cell (p := ⟨ga, oa + i * 7 + 5, none⟩) hga).trans (hcc 5 _ (by rw [he]; rfl))
      have u6 : wr.cell? ⟨ga, oa + i * 7 + 6, none⟩ = some (.int .u32 (a6 : Int)) := (HB.out.cell (p := ⟨ga, oa + i * 7 + 6, none⟩) hga).trans (hcc 6 _ (by rw [he]; rfl))
      have hfx := HFB.out e (List.mem_of_getElem? hei)
      rw [he] at hfx
      have HA1 : Hid (a1 < 256) := hfx.2
      have HA0 : Hid (a0 < 4294967296) := hfx.1 a0 (by simp)
      have za0 : IntKind.u64.wrap (a0 : Int) = (a0 : Int) := wrap64 HA0.out
      have HA2 : Hid (a2 < 4294967296) := hfx.1 a2 (by simp)
      have za2 : IntKind.u64.wrap (a2 : Int) = (a2 : Int) := wrap64 HA2.out
      have HA3 : Hid (a3 < 4294967296) := hfx.1 a3 (by simp)
      have za3 : IntKind.u64.wrap (a3 : Int) = (a3 : Int) := wrap64 HA3.out
      have HA4 : Hid (a4 < 4294967296) := hfx.1 a4 (by simp)
      have za4 : IntKind.u64.wrap (a4 : Int) = (a4 : Int) := wrap64 HA4.out
      have HA5 : Hid (a5 < 4294967296) := hfx.1 a5 (by simp)
      have za5 : IntKind.u64.wrap (a5 : Int) = (a5 : Int) := wrap64 HA5.out
      have HA6 : Hid (a6 < 4294967296) := hfx.1 a6 (by simp)
      have za6 : IntKind.u64.wrap (a6 : Int) = (a6 : Int) := wrap64 HA6.out
      have HTK : Hid (L4 ++ blksB (r.blocks.take (i + 1)) = L ++ blkB (a0 :: a1 :: a2 :: a3 :: a4 :: a5 :: a6 :: rr)) := by
        show _ = _
        rw [takeN_snoc hei, blksB_snoc, ← List.append_assoc, HLE.out, he]
      have HLT := Lib.hid hin
      have HN1 : Hid ([Value.int .u8 (a1 : Int)] = ([UInt8.ofNat a1] : List UInt8).map u8v) := by
        show _ = _
        simp only [List.map_cons, List.map_nil]
        rw [u8v_of HA1.out]
      clear hc hcc hei hin he hel hz hi hfx hga
      go_upto_region 14 with fail
      clear kl u0 u1 u2 u3 u4 u5 u6
      obtain ⟨gx, hgx⟩ : ∃ gx, gx = wr.heap.size := ⟨_, rfl⟩
      obtain ⟨wb, hwb⟩ : ∃ wb, wb = wr.alloc (.cells #[.int .u32 (a0 : Int), .int .u8 (a1 : Int), .int .u32 (a2 : Int), .int .u32 (a3 : Int), .int .u32 (a4 : Int), .int .u32 (a5 : Int), .int .u32 (a6 : Int)] 77) := ⟨_, rfl⟩
      rw [← hwb, ← hgx]
      have HX2 : Hid (Blk wb gx 77 #[.int .u32 (a0 : Int), .int .u8 (a1 : Int), .int .u32 (a2 : Int), .int .u32 (a3 : Int), .int .u32 (a4 : Int), .int .u32 (a5 : Int), .int .u32 (a6 : Int)]) := by show Blk _ _ _ _; rw [hwb]; exact Blk.newAt hgx _ _
      have HO2 : Hid (ByteRow wb w1.heap.size (.slice Av m cv) L) := by show ByteRow _ _ _ _; rw [hwb]; exact World.ownsRow.alloc HO.out _
      have HB2 : Hid (Below w1.heap.size w1 wb) := by show Below _ _ _; rw [hwb]; exact balloc HB.out _
      clear hwb hgx
      have HOD14 : Hid (ByteRow (World.drew wb) w1.heap.size (.slice Av m cv) L) := HO2.out
      have HBD14 : Hid (Below w1.heap.size w1 (World.drew wb)) := bdrew HB2.out
      have HXD14 : Hid (Blk (World.drew wb) gx 77 #[.int .u32 (a0 : Int), .int .u8 (a1 : Int), .int .u32 (a2 : Int), .int .u32 (a3 : Int), .int .u32 (a4 : Int), .int .u32 (a5 : Int), .int .u32 (a6 : Int)]) := HX2.out
      have HRD14 : Hid (Below wb.heap.size wb (World.drew wb)) := bdrew (Below.refl _ _)
      go_cut [5] (fun v5 wx => ∃ A9 c9 m9, v5 = .slice A9 m9 c9 ∧ m9 = L.length + 5 ∧ ByteRow wx w1.heap.size v5 (L ++ beS a0 4 ++ [UInt8.ofNat a1]) ∧ Below w1.heap.size w1 wx ∧ Blk wx gx 77 #[.int .u32 (a0 : Int), .int .u8 (a1 : Int), .int .u32 (a2 : Int), .int .u32 (a3 : Int), .int .u32 (a4 : Int), .int .u32 (a5 : Int), .int .u32 (a6 : Int)])
      case first =>
        refine wp_region_held_drew (S := (fun w3 => Blk w3 gx 77 #[.int .u32 (a0 : Int), .int .u8 (a1 : Int), .int .u32 (a2 : Int), .int .u32 (a3 : Int), .int .u32 (a4 : Int), .int .u32 (a5 : Int), .int .u32 (a6 : Int)])) (by kernel_rfl) (HXD14.out) (fun hHeld => ?_)
        refine wpAnyH_takeAt (i := 0) (v := (.slice Av m cv)) rfl (by kernel_rfl) (by kernel_rfl) (by kernel_rfl) (fun _ _ _ h => h) rfl (Or.inl ⟨by rfl, fun w' hS => ?_⟩) hHeld ?_
        · go_simp
        simp only [List.set_cons_zero, List.set_cons_succ]
        refine wpAnyH_takeAt (i := 1) (v := (.pointer (some ⟨gx, 0, none⟩))) rfl (by kernel_rfl) (by kernel_rfl) (by kernel_rfl) (fun _ _ _ h => h) rfl (Or.inl ⟨by rfl, fun w' hS => ?_⟩) hHeld ?_
        · go_simp
        simp only [List.set_cons_zero, List.set_cons_succ]
        refine wpAnyH_takeAt (i := 2) (v := (.int .u32 (a0 : Int))) rfl (by kernel_rfl) (by kernel_rfl) (by kernel_rfl) (fun _ _ _ h => h) rfl (Or.inl ⟨by rfl, fun w' hS => ?_⟩) hHeld ?_
        · have hc := hS.cell 0
          have hc' : w'.cell? ⟨gx, 0, none⟩ = some (.int .u32 (a0 : Int)) := hc
          go_simp
        simp only [List.set_cons_zero, List.set_cons_succ]
        refine wpAnyH_takeAt (i := 3) (v := (.int .u64 (a0 : Int))) rfl (by kernel_rfl) (by kernel_rfl) (by kernel_rfl) (fun _ _ _ h => h) rfl (Or.inl ⟨by rfl, fun w' hS => ?_⟩) hHeld ?_
        · go_simp
        simp only [List.set_cons_zero, List.set_cons_succ]
        refine wpAnyH_takeAt (i := 5) (v := (.pointer (some ⟨gx, 1, none⟩))) rfl (by kernel_rfl) (by kernel_rfl) (by kernel_rfl) (fun _ _ _ h => h) rfl (Or.inl ⟨by rfl, fun w' hS => ?_⟩) hHeld ?_
        · go_simp
        simp only [List.set_cons_zero, List.set_cons_succ]
        refine wpAnyH_takeAt (i := 6) (v := (.int .u8 (a1 : Int))) rfl (by kernel_rfl) (by kernel_rfl) (by kernel_rfl) (fun _ _ _ h => h) rfl (Or.inl ⟨by rfl, fun w' hS => ?_⟩) hHeld ?_
        · have hc := hS.cell 1
          have hc' : w'.cell? ⟨gx, 1, none⟩ = some (.int .u8 (a1 : Int)) := hc
          go_simp
        simp only [List.set_cons_zero, List.set_cons_succ]
        refine wpAnyH_ready (rs := [4, 7]) (by kernel_rfl) (by simp) (AllReadyH.cons rfl (fun K' hK => ?_) (AllReadyH.cons rfl (fun K' hK => ?_) AllReadyH.nil))
        · go_simp
          go_at_call 48
          refine (U_z (SlV.own HOD14.out) (by have := HLl.out; omega) (by decide) (by have := HA0.out; omega)).mono ?_
          rintro e9 w_1 ⟨v9, rfl, ho9, hb9⟩
          obtain ⟨A_1, c_1, hv9⟩ := own_slice ho9
          subst hv9
          have HO_1 : Hid (ByteRow w_1 w1.heap.size (.slice A_1 (L ++ beS a0 4).length c_1) (L ++ beS a0 4)) := own_lower ho9 HBD14.out.size
          have HB_1 : Hid (Below w1.heap.size w1 w_1) := bcall HBD14.out hb9
          have HR_1 : Hid (Below wb.heap.size wb w_1) := bcall HRD14.out hb9
          have HOW_1 : Hid (ByteRow w_1 wb.heap.size (.slice A_1 (L ++ beS a0 4).length c_1) (L ++ beS a0 4)) := own_lower ho9 HRD14.out.size
          have HX_1 := Lib.hid (HXD14.out.below hb9)
          obtain ⟨m_1, hm⟩ : ∃ m, m = (L ++ beS a0 4).length := ⟨_, rfl⟩
          have HM_1 := Lib.hid hm
          rw [← hm] at HO_1 HOW_1 ⊢
          clear ho9 hb9 hm
          go_wp2_with fail
          refine hK.out _ _ HX_1.out (fun hHeld' => ?_)
          clear hK hHeld
          have hHeld := hHeld'
          clear hHeld'
          refine wpAnyH_ready (rs := [7]) (by kernel_rfl) (by simp) (AllReadyH.cons rfl (fun K' hK => ?_) AllReadyH.nil)
          go_simp
          obtain ⟨gy_, hgy_⟩ : ∃ gy_, gy_ = (World.heap w_1).size := ⟨_, rfl⟩
          have HY_2 : Hid (Blk (World.alloc w_1 (.cells #[.int .u8 (a1 : Int)] 5)) gy_ 5 #[.int .u8 (a1 : Int)]) := Blk.newAt hgy_ _ _
          have HGE : Hid ((w_1).heap.size = gy_) := hgy_.symm
          have HO_2 : Hid (ByteRow (World.alloc w_1 (.cells #[.int .u8 (a1 : Int)] 5)) w1.heap.size (.slice A_1 m_1 c_1) (L ++ beS a0 4)) := World.ownsRow.alloc HO_1.out _
          have HB_2 : Hid (Below w1.heap.size w1 (World.alloc w_1 (.cells #[.int .u8 (a1 : Int)] 5))) := balloc HB_1.out _
          have HR_2 : Hid (Below wb.heap.size wb (World.alloc w_1 (.cells #[.int .u8 (a1 : Int)] 5))) := balloc HR_1.out _
          have HOW_2 : Hid (ByteRow (World.alloc w_1 (.cells #[.int .u8 (a1 : Int)] 5)) wb.heap.size (.slice A_1 m_1 c_1) (L ++ beS a0 4)) := World.ownsRow.alloc HOW_1.out _
          have HX_2 : Hid (Blk (World.alloc w_1 (.cells #[.int .u8 (a1 : Int)] 5)) gx 77 #[.int .u32 (a0 : Int), .int .u8 (a1 : Int), .int .u32 (a2 : Int), .int .u32 (a3 : Int), .int .u32 (a4 : Int), .int .u32 (a5 : Int), .int .u32 (a6 : Int)]) := Blk.alloc HX_1.out _
          refine hK.out _ _ HX_2.out (fun hHeld' => ?_)
          clear hK hHeld
          have hHeld := hHeld'
          clear hHeld'
          rw [HGE.out]
          clear hgy_
          refine wpAnyH_ready (rs := [8]) (by kernel_rfl) (by simp) (AllReadyH.cons rfl (fun K' hK => ?_) AllReadyH.nil)
          have HO_3' : Hid (World.ownsRow (World.alloc w_1 (.cells #[.int .u8 (a1 : Int)] 5)) w1.heap.size 5 1 (.slice A_1 m_1 c_1) m_1 ((L ++ beS a0 4).map u8v)) := by
            have := HO_2.out
            unfold ByteRow at this
            rw [← HM_1.out] at this
            exact this
          refine step_append_any _ (by rfl) (.tmp 58) (.tmp 61) _ (by rfl) w1.heap.size 5 iB _ 1 1 Try.underlying22 hiB hz0 hz1 hz2 rfl (by omega) (.slice A_1 m_1 c_1) m_1 ((L ++ beS a0 4).map u8v) (by rfl) HO_3'.out
            _ (some ⟨gy_, 0, none⟩) 1 1 [.int .u8 (a1 : Int)] (by rfl) (reads_blk HY_2.out rfl) (by simp [Value.oneCell']) (by have h1 := HM_1.out; rw [List.length_append, beS_len] at h1; have := HLl.out; simp only [maxLen]; omega) (by have h1 := HM_1.out; rw [List.length_append, beS_len] at h1; have := HLl.out; omega) HB_2.out.size ?_
          intro v_3 w_3 hown_3 hg_3 hat_3
          obtain ⟨A_3, c_3, hv_3⟩ := own_slice hown_3
          subst hv_3
          have HO_3 : Hid (ByteRow w_3 w1.heap.size (.slice A_3 (m_1 + 1) c_3) ((L ++ beS a0 4) ++ [UInt8.ofNat a1])) := by
            have := hown_3
            rw [HN1.out, HM_1.out, ← List.map_append] at this
            show World.ownsRow _ _ _ _ _ _ _
            rw [List.length_append, HM_1.out]
            exact this
          have HB_3 : Hid (Below w1.heap.size w1 w_3) := own_grow_below HB_2.out HO_3'.out hg_3
          have HR_3 : Hid (Below wb.heap.size wb w_3) := own_grow_below HR_2.out HOW_2.out hg_3
          have HX_3 := Lib.hid (Blk.grown HX_2.out hg_3 (Ne.symm (own_blk_ne HO_3'.out HX_2.out (by decide))))
          clear hown_3 hg_3 hat_3
          refine hK.out _ _ HX_3.out (fun hHeld' => ?_)
          clear hK hHeld
          have hHeld := hHeld'
          clear hHeld'
          refine wpAnyH_putAt rfl ?_
          simp only [List.set_cons_zero, List.set_cons_succ]
          refine wpAnyH_takeAt (i := 9) (v := (.slice A_3 (m_1 + 1) c_3)) rfl (by kernel_rfl) (by kernel_rfl) (by kernel_rfl) (fun _ _ _ h => h) rfl (Or.inl ⟨by rfl, fun w' hS => ?_⟩) hHeld ?_
          · go_simp
          simp only [List.set_cons_zero, List.set_cons_succ]
          refine wpAnyH_done (by kernel_rfl) ?_ _
          go_wp2_with fail
          go_meet
          refine ⟨_, _, _, rfl, ?_, HO_3.out, HB_3.out, HX_3.out⟩
          have h1 := HM_1.out
          rw [List.length_append, beS_len] at h1
          omega
        · go_simp
          obtain ⟨gy_, hgy_⟩ : ∃ gy_, gy_ = (World.heap (World.drew wb)).size := ⟨_, rfl⟩
          have HY_4 : Hid (Blk (World.drew (World.alloc wb (.cells #[.int .u8 (a1 : Int)] 5))) gy_ 5 #[.int .u8 (a1 : Int)]) := Blk.newAt hgy_ _ _
          have HGE : Hid ((wb).heap.size = gy_) := hgy_.symm
          have HO_4 : Hid (ByteRow (World.drew (World.alloc wb (.cells #[.int .u8 (a1 : Int)] 5))) w1.heap.size (.slice Av m cv) L) := World.ownsRow.alloc HOD14.out _
          have HB_4 : Hid (Below w1.heap.size w1 (World.drew (World.alloc wb (.cells #[.int .u8 (a1 : Int)] 5)))) := balloc HBD14.out _
          have HR_4 : Hid (Below wb.heap.size wb (World.drew (World.alloc wb (.cells #[.int .u8 (a1 : Int)] 5)))) := balloc HRD14.out _
          have HX_4 : Hid (Blk (World.drew (World.alloc wb (.cells #[.int .u8 (a1 : Int)] 5))) gx 77 #[.int .u32 (a0 : Int), .int .u8 (a1 : Int), .int .u32 (a2 : Int), .int .u32 (a3 : Int), .int .u32 (a4 : Int), .int .u32 (a5 : Int), .int .u32 (a6 : Int)]) := Blk.alloc HXD14.out _
          refine hK.out _ _ HX_4.out (fun hHeld' => ?_)
          clear hK hHeld
          have hHeld := hHeld'
          clear hHeld'
          rw [HGE.out]
          clear hgy_
          refine wpAnyH_ready (rs := [4]) (by kernel_rfl) (by simp) (AllReadyH.cons rfl (fun K' hK => ?_) AllReadyH.nil)
          go_simp
          go_at_call 48
          refine (U_z (SlV.own HO_4.out) (by have := HLl.out; omega) (by decide) (by have := HA0.out; omega)).mono ?_
          rintro e9 w_5 ⟨v9, rfl, ho9, hb9⟩
          obtain ⟨A_5, c_5, hv9⟩ := own_slice ho9
          subst hv9
          have HO_5 : Hid (ByteRow w_5 w1.heap.size (.slice A_5 (L ++ beS a0 4).length c_5) (L ++ beS a0 4)) := own_lower ho9 HB_4.out.size
          have HB_5 : Hid (Below w1.heap.size w1 w_5) := bcall HB_4.out hb9
          have HR_5 : Hid (Below wb.heap.size wb w_5) := bcall HR_4.out hb9
          have HOW_5 : Hid (ByteRow w_5 wb.heap.size (.slice A_5 (L ++ beS a0 4).length c_5) (L ++ beS a0 4)) := own_lower ho9 HR_4.out.size
          have HY_5 := Lib.hid (HY_4.out.below hb9)
          have HX_5 := Lib.hid (HX_4.out.below hb9)
          obtain ⟨m_5, hm⟩ : ∃ m, m = (L ++ beS a0 4).length := ⟨_, rfl⟩
          have HM_5 := Lib.hid hm
          rw [← hm] at HO_5 HOW_5 ⊢
          clear ho9 hb9 hm
          go_wp2_with fail
          refine hK.out _ _ HX_5.out (fun hHeld' => ?_)
          clear hK hHeld
          have hHeld := hHeld'
          clear hHeld'
          refine wpAnyH_ready (rs := [8]) (by kernel_rfl) (by simp) (AllReadyH.cons rfl (fun K' hK => ?_) AllReadyH.nil)
          have HO_6' : Hid (World.ownsRow w_5 w1.heap.size 5 1 (.slice A_5 m_5 c_5) m_5 ((L ++ beS a0 4).map u8v)) := by
            have := HO_5.out
            unfold ByteRow at this
            rw [← HM_5.out] at this
            exact this
          refine step_append_any _ (by rfl) (.tmp 58) (.tmp 61) _ (by rfl) w1.heap.size 5 iB _ 1 1 Try.underlying22 hiB hz0 hz1 hz2 rfl (by omega) (.slice A_5 m_5 c_5) m_5 ((L ++ beS a0 4).map u8v) (by rfl) HO_6'.out
            _ (some ⟨gy_, 0, none⟩) 1 1 [.int .u8 (a1 : Int)] (by rfl) (reads_blk HY_5.out rfl) (by simp [Value.oneCell']) (by have h1 := HM_5.out; rw [List.length_append, beS_len] at h1; have := HLl.out; simp only [maxLen]; omega) (by have h1 := HM_5.out; rw [List.length_append, beS_len] at h1; have := HLl.out; omega) HB_5.out.size ?_
          intro v_6 w_6 hown_6 hg_6 hat_6
          obtain ⟨A_6, c_6, hv_6⟩ := own_slice hown_6
          subst hv_6
          have HO_6 : Hid (ByteRow w_6 w1.heap.size (.slice A_6 (m_5 + 1) c_6) ((L ++ beS a0 4) ++ [UInt8.ofNat a1])) := by
            have := hown_6
            rw [HN1.out, HM_5.out, ← List.map_append] at this
            show World.ownsRow _ _ _ _ _ _ _
            rw [List.length_append, HM_5.out]
            exact this
          have HB_6 : Hid (Below w1.heap.size w1 w_6) := own_grow_below HB_5.out HO_6'.out hg_6
          have HR_6 : Hid (Below wb.heap.size wb w_6) := own_grow_below HR_5.out HOW_5.out hg_6
          have HX_6 := Lib.hid (Blk.grown HX_5.out hg_6 (Ne.symm (own_blk_ne HO_6'.out HX_5.out (by decide))))
          clear hown_6 hg_6 hat_6
          refine hK.out _ _ HX_6.out (fun hHeld' => ?_)
          clear hK hHeld
          have hHeld := hHeld'
          clear hHeld'
          refine wpAnyH_putAt rfl ?_
          simp only [List.set_cons_zero, List.set_cons_succ]
          refine wpAnyH_takeAt (i := 9) (v := (.slice A_6 (m_5 + 1) c_6)) rfl (by kernel_rfl) (by kernel_rfl) (by kernel_rfl) (fun _ _ _ h => h) rfl (Or.inl ⟨by rfl, fun w' hS => ?_⟩) hHeld ?_
          · go_simp
          simp only [List.set_cons_zero, List.set_cons_succ]
          refine wpAnyH_done (by kernel_rfl) ?_ _
          go_wp2_with fail
          go_meet
          refine ⟨_, _, _, rfl, ?_, HO_6.out, HB_6.out, HX_6.out⟩
          have h1 := HM_5.out
          rw [List.length_append, beS_len] at h1
          omega
      case rest =>
        obtain ⟨A9, c9, m9, rfl, hm9, ho9, hb9, hx9⟩ := hcut
        obtain ⟨L5, hL5⟩ : ∃ L5, L5 = L ++ beS a0 4 ++ [UInt8.ofNat a1] := ⟨_, rfl⟩
        rw [← hL5] at ho9
        have HO9 := Lib.hid ho9
        have HB9 := Lib.hid hb9
        have HX9 := Lib.hid hx9
        have HL5 : Hid (L5.length ≤ 95000000) := by show _ ≤ _; have := HLl.out; rw [hL5, List.length_append, List.length_append, beS_len, List.length_singleton]; omega
        have HM9 : Hid (m9 = L5.length) := by show _ = _; rw [hm9, hL5, List.length_append, List.length_append, beS_len, List.length_singleton]
        have HL5E := Lib.hid hL5
        clear ho9 hb9 hx9 hm9 hL5
        go_upto_region 15 with fail
        have HOD15 : Hid (ByteRow (World.drew wc) w1.heap.size (.slice A9 m9 c9) L5) := HO9.out
        have HBD15 : Hid (Below w1.heap.size w1 (World.drew wc)) := bdrew HB9.out
        have HXD15 : Hid (Blk (World.drew wc) gx 77 #[.int .u32 (a0 : Int), .int .u8 (a1 : Int), .int .u32 (a2 : Int), .int .u32 (a3 : Int), .int .u32 (a4 : Int), .int .u32 (a5 : Int), .int .u32 (a6 : Int)]) := HX9.out
        have HRD15 : Hid (Below wc.heap.size wc (World.drew wc)) := bdrew (Below.refl _ _)
        refine wp_region_held_drew (S := (fun w3 => Blk w3 gx 77 #[.int .u32 (a0 : Int), .int .u8 (a1 : Int), .int .u32 (a2 : Int), .int .u32 (a3 : Int), .int .u32 (a4 : Int), .int .u32 (a5 : Int), .int .u32 (a6 : Int)])) (by kernel_rfl) (HXD15.out) (fun hHeld => ?_)
        refine wpAnyH_takeAt (i := 0) (v := (.slice A9 m9 c9)) rfl (by kernel_rfl) (by kernel_rfl) (by kernel_rfl) (fun _ _ _ h => h) rfl (Or.inl ⟨by rfl, fun w' hS => ?_⟩) hHeld ?_
        · go_simp
        simp only [List.set_cons_zero, List.set_cons_succ]
        refine wpAnyH_takeAt (i := 1) (v := (.pointer (some ⟨gx, 2, none⟩))) rfl (by kernel_rfl) (by kernel_rfl) (by kernel_rfl) (fun _ _ _ h => h) rfl (Or.inl ⟨by rfl, fun w' hS => ?_⟩) hHeld ?_
        · go_simp
        simp only [List.set_cons_zero, List.set_cons_succ]
        refine wpAnyH_takeAt (i := 2) (v := (.int .u32 (a2 : Int))) rfl (by kernel_rfl) (by kernel_rfl) (by kernel_rfl) (fun _ _ _ h => h) rfl (Or.inl ⟨by rfl, fun w' hS => ?_⟩) hHeld ?_
        · have hc := hS.cell 2
          have hc' : w'.cell? ⟨gx, 2, none⟩ = some (.int .u32 (a2 : Int)) := hc
          go_simp
        simp only [List.set_cons_zero, List.set_cons_succ]
        refine wpAnyH_takeAt (i := 3) (v := (.int .u64 (a2 : Int))) rfl (by kernel_rfl) (by kernel_rfl) (by kernel_rfl) (fun _ _ _ h => h) rfl (Or.inl ⟨by rfl, fun w' hS => ?_⟩) hHeld ?_
        · go_simp
        simp only [List.set_cons_zero, List.set_cons_succ]
        refine wpAnyH_takeAt (i := 5) (v := (.pointer (some ⟨gx, 3, none⟩))) rfl (by kernel_rfl) (by kernel_rfl) (by kernel_rfl) (fun _ _ _ h => h) rfl (Or.inl ⟨by rfl, fun w' hS => ?_⟩) hHeld ?_
        · go_simp
        simp only [List.set_cons_zero, List.set_cons_succ]
        refine wpAnyH_takeAt (i := 6) (v := (.int .u32 (a3 : Int))) rfl (by kernel_rfl) (by kernel_rfl) (by kernel_rfl) (fun _ _ _ h => h) rfl (Or.inl ⟨by rfl, fun w' hS => ?_⟩) hHeld ?_
        · have hc := hS.cell 3
          have hc' : w'.cell? ⟨gx, 3, none⟩ = some (.int .u32 (a3 : Int)) := hc
          go_simp
        simp only [List.set_cons_zero, List.set_cons_succ]
        refine wpAnyH_takeAt (i := 7) (v := (.int .u64 (a3 : Int))) rfl (by kernel_rfl) (by kernel_rfl) (by kernel_rfl) (fun _ _ _ h => h) rfl (Or.inl ⟨by rfl, fun w' hS => ?_⟩) hHeld ?_
        · go_simp
        simp only [List.set_cons_zero, List.set_cons_succ]
        refine wpAnyH_ready (rs := [4]) (by kernel_rfl) (by simp) (AllReadyH.cons rfl (fun K' hK => ?_) AllReadyH.nil)
        go_simp
        go_at_call 48
        refine (U_z (SlV.own HOD15.out) (by have := HL5.out; omega) (by decide) (by have := HA2.out; omega)).mono ?_
        rintro e9 w_7 ⟨v9, rfl, ho9, hb9⟩
        obtain ⟨A_7, c_7, hv9⟩ := own_slice ho9
        subst hv9
        have HO_7 : Hid (ByteRow w_7 w1.heap.size (.slice A_7 (L5 ++ beS a2 3).length c_7) (L5 ++ beS a2 3)) := own_lower ho9 HBD15.out.size
        have HB_7 : Hid (Below w1.heap.size w1 w_7) := bcall HBD15.out hb9
        have HR_7 : Hid (Below wc.heap.size wc w_7) := bcall HRD15.out hb9
        have HOW_7 : Hid (ByteRow w_7 wc.heap.size (.slice A_7 (L5 ++ beS a2 3).length c_7) (L5 ++ beS a2 3)) := own_lower ho9 HRD15.out.size
        have HX_7 := Lib.hid (HXD15.out.below hb9)
        obtain ⟨m_7, hm⟩ : ∃ m, m = (L5 ++ beS a2 3).length := ⟨_, rfl⟩
        have HM_7 := Lib.hid hm
        rw [← hm] at HO_7 HOW_7 ⊢
        clear ho9 hb9 hm
        go_wp2_with fail
        refine hK.out _ _ HX_7.out (fun hHeld' => ?_)
        clear hK hHeld
        have hHeld := hHeld'
        clear hHeld'
        refine wpAnyH_ready (rs := [8]) (by kernel_rfl) (by simp) (AllReadyH.cons rfl (fun K' hK => ?_) AllReadyH.nil)
        go_simp
        go_at_call 48
        refine (U_z (SlV.own HO_7.out) (by have := HL5.out; simp only [List.length_append, beS_len]; omega) (by decide) (by have := HA3.out; omega)).mono ?_
        rintro e9 w_8 ⟨v9, rfl, ho9, hb9⟩
        obtain ⟨A_8, c_8, hv9⟩ := own_slice ho9
        subst hv9
        have HO_8 : Hid (ByteRow w_8 w1.heap.size (.slice A_8 ((L5 ++ beS a2 3) ++ beS a3 4).length c_8) ((L5 ++ beS a2 3) ++ beS a3 4)) := own_lower ho9 HB_7.out.size
        have HB_8 : Hid (Below w1.heap.size w1 w_8) := bcall HB_7.out hb9
        have HR_8 : Hid (Below wc.heap.size wc w_8) := bcall HR_7.out hb9
        have HOW_8 : Hid (ByteRow w_8 wc.heap.size (.slice A_8 ((L5 ++ beS a2 3) ++ beS a3 4).length c_8) ((L5 ++ beS a2 3) ++ beS a3 4)) := own_lower ho9 HR_7.out.size
        have HX_8 := Lib.hid (HX_7.out.below hb9)
        obtain ⟨m_8, hm⟩ : ∃ m, m = ((L5 ++ beS a2 3) ++ beS a3 4).length := ⟨_, rfl⟩
        have HM_8 := Lib.hid hm
        rw [← hm] at HO_8 HOW_8 ⊢
        clear ho9 hb9 hm
        go_wp2_with fail
        refine hK.out _ _ HX_8.out (fun hHeld' => ?_)
        clear hK hHeld
        have hHeld := hHeld'
        clear hHeld'
        refine wpAnyH_takeAt (i := 9) (v := (.slice A_8 m_8 c_8)) rfl (by kernel_rfl) (by kernel_rfl) (by kernel_rfl) (fun _ _ _ h => h) rfl (Or.inl ⟨by rfl, fun w' hS => ?_⟩) hHeld ?_
        · go_simp
        simp only [List.set_cons_zero, List.set_cons_succ]
        refine wpAnyH_done (by kernel_rfl) ?_ _
        have u4 : w_8.cell? ⟨gx, 4, none⟩ = some (.int .u32 (a4 : Int)) := HX_8.out.cell 4
        go_upto_region 17 with
         (go_at_call 48
          refine (U_z (SlV.own HO_8.out) (by have := HL5.out; simp only [List.length_append, beS_len]; omega) (by decide) (by have := HA4.out; omega)).mono ?_
          rintro e9 w_9 ⟨v9, rfl, ho9, hb9⟩
          obtain ⟨A_9, c_9, hv9⟩ := own_slice ho9
          subst hv9
          have HO_9 : Hid (ByteRow w_9 w1.heap.size (.slice A_9 (((L5 ++ beS a2 3) ++ beS a3 4) ++ beS a4 4).length c_9) (((L5 ++ beS a2 3) ++ beS a3 4) ++ beS a4 4)) := own_lower ho9 HB_8.out.size
          have HBX_9 := Lib.hid hb9
          have HB_9 : Hid (Below w1.heap.size w1 w_9) := bcall HB_8.out hb9
          obtain ⟨m_9, hm⟩ : ∃ m, m = (((L5 ++ beS a2 3) ++ beS a3 4) ++ beS a4 4).length := ⟨_, rfl⟩
          have HM_9 := Lib.hid hm
          rw [← hm] at HO_9 ⊢
          clear ho9 hb9 hm
          have HX_9 := Lib.hid (HX_8.out.below HBX_9.out)
          clear u4 HBX_9
          skip)
        go_upto_region 17 with fail
        have HOD17 : Hid (ByteRow (World.drew w_9) w1.heap.size (.slice A_9 m_9 c_9) (((L5 ++ beS a2 3) ++ beS a3 4) ++ beS a4 4)) := HO_9.out
        have HBD17 : Hid (Below w1.heap.size w1 (World.drew w_9)) := bdrew HB_9.out
        have HXD17 : Hid (Blk (World.drew w_9) gx 77 #[.int .u32 (a0 : Int), .int .u8 (a1 : Int), .int .u32 (a2 : Int), .int .u32 (a3 : Int), .int .u32 (a4 : Int), .int .u32 (a5 : Int), .int .u32 (a6 : Int)]) := HX_9.out
        have HRD17 : Hid (Below w_9.heap.size w_9 (World.drew w_9)) := bdrew (Below.refl _ _)
        refine wp_region_held_drew (S := (fun w3 => Blk w3 gx 77 #[.int .u32 (a0 : Int), .int .u8 (a1 : Int), .int .u32 (a2 : Int), .int .u32 (a3 : Int), .int .u32 (a4 : Int), .int .u32 (a5 : Int), .int .u32 (a6 : Int)])) (by kernel_rfl) (HXD17.out) (fun hHeld => ?_)
        refine wpAnyH_takeAt (i := 0) (v := (.slice A_9 m_9 c_9)) rfl (by kernel_rfl) (by kernel_rfl) (by kernel_rfl) (fun _ _ _ h => h) rfl (Or.inl ⟨by rfl, fun w' hS => ?_⟩) hHeld ?_
        · go_simp
        simp only [List.set_cons_zero, List.set_cons_succ]
        refine wpAnyH_takeAt (i := 1) (v := (.pointer (some ⟨gx, 5, none⟩))) rfl (by kernel_rfl) (by kernel_rfl) (by kernel_rfl) (fun _ _ _ h => h) rfl (Or.inl ⟨by rfl, fun w' hS => ?_⟩) hHeld ?_
        · go_simp
        simp only [List.set_cons_zero, List.set_cons_succ]
        refine wpAnyH_takeAt (i := 2) (v := (.int .u32 (a5 : Int))) rfl (by kernel_rfl) (by kernel_rfl) (by kernel_rfl) (fun _ _ _ h => h) rfl (Or.inl ⟨by rfl, fun w' hS => ?_⟩) hHeld ?_
        · have hc := hS.cell 5
          have hc' : w'.cell? ⟨gx, 5, none⟩ = some (.int .u32 (a5 : Int)) := hc
          go_simp
        simp only [List.set_cons_zero, List.set_cons_succ]
        refine wpAnyH_takeAt (i := 3) (v := (.int .u64 (a5 : Int))) rfl (by kernel_rfl) (by kernel_rfl) (by kernel_rfl) (fun _ _ _ h => h) rfl (Or.inl ⟨by rfl, fun w' hS => ?_⟩) hHeld ?_
        · go_simp
        simp only [List.set_cons_zero, List.set_cons_succ]
        refine wpAnyH_takeAt (i := 5) (v := (.pointer (some ⟨gx, 6, none⟩))) rfl (by kernel_rfl) (by kernel_rfl) (by kernel_rfl) (fun _ _ _ h => h) rfl (Or.inl ⟨by rfl, fun w' hS => ?_⟩) hHeld ?_
        · go_simp
        simp only [List.set_cons_zero, List.set_cons_succ]
        refine wpAnyH_takeAt (i := 6) (v := (.int .u32 (a6 : Int))) rfl (by kernel_rfl) (by kernel_rfl) (by kernel_rfl) (fun _ _ _ h => h) rfl (Or.inl ⟨by rfl, fun w' hS => ?_⟩) hHeld ?_
        · have hc := hS.cell 6
          have hc' : w'.cell? ⟨gx, 6, none⟩ = some (.int .u32 (a6 : Int)) := hc
          go_simp
        simp only [List.set_cons_zero, List.set_cons_succ]
        refine wpAnyH_takeAt (i := 7) (v := (.int .u64 (a6 : Int))) rfl (by kernel_rfl) (by kernel_rfl) (by kernel_rfl) (fun _ _ _ h => h) rfl (Or.inl ⟨by rfl, fun w' hS => ?_⟩) hHeld ?_
        · go_simp
        simp only [List.set_cons_zero, List.set_cons_succ]
        refine wpAnyH_ready (rs := [4]) (by kernel_rfl) (by simp) (AllReadyH.cons rfl (fun K' hK => ?_) AllReadyH.nil)
        go_simp
        go_at_call 48
        refine (U_z (SlV.own HOD17.out) (by have := HL5.out; simp only [List.length_append, beS_len]; omega) (by decide) (by have := HA5.out; omega)).mono ?_
        rintro e9 w_10 ⟨v9, rfl, ho9, hb9⟩
        obtain ⟨A_10, c_10, hv9⟩ := own_slice ho9
        subst hv9
        have HO_10 : Hid (ByteRow w_10 w1.heap.size (.slice A_10 ((((L5 ++ beS a2 3) ++ beS a3 4) ++ beS a4 4) ++ beS a5 4).length c_10) ((((L5 ++ beS a2 3) ++ beS a3 4) ++ beS a4 4) ++ beS a5 4)) := own_lower ho9 HBD17.out.size
        have HB_10 : Hid (Below w1.heap.size w1 w_10) := bcall HBD17.out hb9
        have HR_10 : Hid (Below w_9.heap.size w_9 w_10) := bcall HRD17.out hb9
        have HOW_10 : Hid (ByteRow w_10 w_9.heap.size (.slice A_10 ((((L5 ++ beS a2 3) ++ beS a3 4) ++ beS a4 4) ++ beS a5 4).length c_10) ((((L5 ++ beS a2 3) ++ beS a3 4) ++ beS a4 4) ++ beS a5 4)) := own_lower ho9 HRD17.out.size
        have HX_10 := Lib.hid (HXD17.out.below hb9)
        obtain ⟨m_10, hm⟩ : ∃ m, m = ((((L5 ++ beS a2 3) ++ beS a3 4) ++ beS a4 4) ++ beS a5 4).length := ⟨_, rfl⟩
        have HM_10 := Lib.hid hm
        rw [← hm] at HO_10 HOW_10 ⊢
        clear ho9 hb9 hm
        go_wp2_with fail
        refine hK.out _ _ HX_10.out (fun hHeld' => ?_)
        clear hK hHeld
        have hHeld := hHeld'
        clear hHeld'
        refine wpAnyH_ready (rs := [8]) (by kernel_rfl) (by simp) (AllReadyH.cons rfl (fun K' hK => ?_) AllReadyH.nil)
        go_simp
        go_at_call 48
        refine (U_z (SlV.own HO_10.out) (by have := HL5.out; simp only [List.length_append, beS_len]; omega) (by decide) (by have := HA6.out; omega)).mono ?_
        rintro e9 w_11 ⟨v9, rfl, ho9, hb9⟩
        obtain ⟨A_11, c_11, hv9⟩ := own_slice ho9
        subst hv9
        have HO_11 : Hid (ByteRow w_11 w1.heap.size (.slice A_11 (((((L5 ++ beS a2 3) ++ beS a3 4) ++ beS a4 4) ++ beS a5 4) ++ beS a6 4).length c_11) (((((L5 ++ beS a2 3) ++ beS a3 4) ++ beS a4 4) ++ beS a5 4) ++ beS a6 4)) := own_lower ho9 HB_10.out.size
        have HB_11 : Hid (Below w1.heap.size w1 w_11) := bcall HB_10.out hb9
        have HR_11 : Hid (Below w_9.heap.size w_9 w_11) := bcall HR_10.out hb9
        have HOW_11 : Hid (ByteRow w_11 w_9.heap.size (.slice A_11 (((((L5 ++ beS a2 3) ++ beS a3 4) ++ beS a4 4) ++ beS a5 4) ++ beS a6 4).length c_11) (((((L5 ++ beS a2 3) ++ beS a3 4) ++ beS a4 4) ++ beS a5 4) ++ beS a6 4)) := own_lower ho9 HR_10.out.size
        have HX_11 := Lib.hid (HX_10.out.below hb9)
        obtain ⟨m_11, hm⟩ : ∃ m, m = (((((L5 ++ beS a2 3) ++ beS a3 4) ++ beS a4 4) ++ beS a5 4) ++ beS a6 4).length := ⟨_, rfl⟩
        have HM_11 := Lib.hid hm
        rw [← hm] at HO_11 HOW_11 ⊢
        clear ho9 hb9 hm
        go_wp2_with fail
        refine hK.out _ _ HX_11.out (fun hHeld' => ?_)
        clear hK hHeld
        have hHeld := hHeld'
        clear hHeld'
        refine wpAnyH_takeAt (i := 9) (v := (.slice A_11 m_11 c_11)) rfl (by kernel_rfl) (by kernel_rfl) (by kernel_rfl) (fun _ _ _ h => h) rfl (Or.inl ⟨by rfl, fun w' hS => ?_⟩) hHeld ?_
        · go_simp
        simp only [List.set_cons_zero, List.set_cons_succ]
        refine wpAnyH_done (by kernel_rfl) ?_ _
        go_wp2_with fail
        go_roundg (nb - (i + 1))
        case measure => have := HLT.out; have := HGG.out; omega
        case rel =>
          have hlt := HLT.out
          refine ⟨i + 1, rfl, by omega, by first | rfl | go_num, ?_, HB_11.out⟩
          rw [HTK.out]
          have hs := HO_11.out
          rw [HL5E.out] at hs
          have he : L ++ beS a0 4 ++ [UInt8.ofNat a1] ++ beS a2 3 ++ beS a3 4 ++ beS a4 4 ++ beS a5 4 ++ beS a6 4 = L ++ blkB (a0 :: a1 :: a2 :: a3 :: a4 :: a5 :: a6 :: rr) := by
            simp [blkB, fours, List.append_assoc]
          rw [he] at hs
          exact hs
    · have hini : ¬ (i : Int) < (nb : Int) := by omega
      have hie : nb = i := by omega
      subst hie
      have HT : Hid (r.blocks.take nb = r.blocks) := List.take_of_length_le (by have := HLEN.out; omega)
      clear hin hi
      have d0 : wr.cell? ⟨g1, 0, none⟩ = some (.int .i64 1) := (HX1.out.below HB.out).cell 0
      go_upto_region 18 with fail
      go_quiet (fail)
      go_wp2_with fail
      go_ret3
      refine ⟨_, by unfold typS cntS; rw [HR4.out, HLEN.out]; rfl, ?_, below_drewN (bcall HB1.out HB.out) _⟩
      have hs : ByteRow _ w.heap.size _ _ := own_lower HO.out HB1.out.size
      unfold bodyS
      rw [HR4.out, HE1.out, HE3.out, HE4.out, HE5.out, HE6.out]
      rw [HLE.out, HT.out, HL4.out] at hs
      have hs2 : ByteRow (World.drewN wr nq) w.heap.size _ _ := hs
      exact .inl (by simpa [fours] using hs2)
end Go.Proofs.Ytkfimncbfbbopaa
/- What the reference makes of a report of kind 2 (contract). Conditions: what it tells lies in memory. (Printed by gen8g.py.) -/
set_option linter.unusedVariables false
set_option linter.unusedSimpArgs false
namespace Go.Proofs.Ytkfimncbfbbopaa
open Go.RowKit
attribute [local go_sem ↓] Go.wp_at_zero Go.wp_at_succ

set_option maxRecDepth 100000 in
set_option maxHeartbeats 12800000 in
theorem body2_c (fr ab ntp ts pk oc mt nb cb np cp nf cf ns cs nd cd : Nat) (ex ty ct : Int) (Ab Ap Af As Ad : Option Addr) (w : World) (r : Rep) (hr : r.kind = 2) (hbs : SlR w ks7 (.slice Ab nb cb) r.blocks) (hfb : FitL r.blocks) (hnb : nb ≤ 100000)
    (hfr : fr < 4294967296) (hab : ab < 4294967296) (e1 : r.fr = fr) (e2 : r.ab = ab) :
    Calls Try.prog 47 #[.agg #[.int .i64 2, .int .u32 (fr : Int), .int .u32 (ab : Int), .int .u64 (ntp : Int), .int .u32 (ts : Int), .int .u32 (pk : Int), .int .u32 (oc : Int), .slice Ab nb cb, .slice Ap np cp, .slice Af nf cf, .int .i64 ex, .int .u32 (mt : Int), .slice As ns cs, .int .i64 ty, .int .i64 ct, .slice Ad nd cd]] w (BodyR r (.slice Ad nd cd) w) := by
  obtain ⟨iB, hiB, hz0, hz1, hz2⟩ := info_parts infoByte
  obtain ⟨g1, hg1⟩ : ∃ g1, g1 = w.heap.size := ⟨_, rfl⟩
  obtain ⟨w1, hw1⟩ : ∃ w1, w1 = w.alloc (.cells #[.int .i64 2, .int .u32 (fr : Int), .int .u32 (ab : Int), .int .u64 (ntp : Int), .int .u32 (ts : Int), .int .u32 (pk : Int), .int .u32 (oc : Int), .slice Ab nb cb, .slice Ap np cp, .slice Af nf cf, .int .i64 ex, .int .u32 (mt : Int), .slice As ns cs, .int .i64 ty, .int .i64 ct, .slice Ad nd cd] 40) := ⟨_, rfl⟩
  have HX1 : Hid (Blk w1 g1 40 #[.int .i64 2, .int .u32 (fr : Int), .int .u32 (ab : Int), .int .u64 (ntp : Int), .int .u32 (ts : Int), .int .u32 (pk : Int), .int .u32 (oc : Int), .slice Ab nb cb, .slice Ap np cp, .slice Af nf cf, .int .i64 ex, .int .u32 (mt : Int), .slice As ns cs, .int .i64 ty, .int .i64 ct, .slice Ad nd cd]) := by show Blk _ _ _ _; rw [hw1]; exact Blk.newAt hg1 _ _
  have HB1 : Hid (Below w.heap.size w w1) := by show Below _ _ _; rw [hw1]; exact balloc (Below.refl _ _) _
  have HB0 : Hid (Below w1.heap.size w1 w1) := Below.refl _ _
  have HO0 : Hid (ByteRow w1 w1.heap.size (.slice none 0 0) []) := World.ownsRow_nil _ _ _ _
  have z1 := wrap64 hfr
  have z2 := wrap64 hab
  have HFR := Lib.hid hfr
  have HAB := Lib.hid hab
  have HR4 := Lib.hid hr
  have HE1 := Lib.hid e1
  have HE2 := Lib.hid e2
  have HBS : Hid (SlR w1 ks7 (.slice Ab nb cb) r.blocks) := hbs.below HB1.out
  have HFB := Lib.hid hfb
  have HLEN : Hid (r.blocks.length = nb) := by obtain ⟨_, _, e, _⟩ := hbs; injection e with _ e; exact e.symm
  clear hbs hfb
  clear hr hfr hab e1 e2
  go_enter Try.func47, Try.ntmps47
  go_upto_region 1 with fail
  rw [← hw1, ← hg1]
  clear hw1 hg1
  have k1 : w1.cell? ⟨g1, 1, none⟩ = some (.int .u32 (fr : Int)) := HX1.out.cell 1
  go_upto_region 2 with
   (go_at_call 48
    refine (U_z (SlV.own HO0.out) (by decide) (by decide) (by have := HFR.out; omega)).mono ?_
    rintro e9 w_1 ⟨v9, rfl, ho9, hb9⟩
    obtain ⟨A_1, c_1, hv9⟩ := own_slice ho9
    subst hv9
    have HO_1 : Hid (ByteRow w_1 w1.heap.size (.slice A_1 (([] : List UInt8) ++ beS fr 4).length c_1) (([] : List UInt8) ++ beS fr 4)) := own_lower ho9 HB0.out.size
    have HB_1 : Hid (Below w1.heap.size w1 w_1) := bcall HB0.out hb9
    obtain ⟨m_1, hm⟩ : ∃ m, m = (([] : List UInt8) ++ beS fr 4).length := ⟨_, rfl⟩
    have HM_1 := Lib.hid hm
    rw [← hm] at HO_1 ⊢
    clear ho9 hb9 hm
    have k0 : w_1.cell? ⟨g1, 0, none⟩ = some (.int .i64 2) := (HX1.out.below HB_1.out).cell 0
    have k7 : w_1.cell? ⟨g1, 7, none⟩ = some (.slice Ab nb cb) := (HX1.out.below HB_1.out).cell 7
    clear k1
    skip)
  obtain ⟨L4, hL4⟩ : ∃ L4, L4 = ([] ++ beS fr 4) := ⟨_, rfl⟩
  have HGS : Hid (ByteRow w_1 w1.heap.size (.slice A_1 m_1 c_1) (L4 ++ blksB (r.blocks.take 0))) := by
    show ByteRow _ _ _ _
    rw [hL4]
    simpa [blksB] using HO_1.out
  have HL4 := Lib.hid hL4
  have HL4l : Hid (L4.length ≤ 10000) := by show _ ≤ _; rw [hL4]; simp [beS_len, fours_len]
  clear hL4
  go_upto_region 11 with fail
  go_loopg [5, 6] nb (fun gg vv vi wx => ∃ i : Nat, gg = nb - i ∧ i ≤ nb ∧ vi = .int .i64 (i : Int) ∧ ByteRow wx w1.heap.size vv (L4 ++ blksB (r.blocks.take i)) ∧ Below w1.heap.size w1 wx)
  case atStart => exact ⟨0, rfl, by omega, rfl, HGS.out, HB_1.out⟩
  case round =>
    obtain ⟨i, hgg, hi, rfl, hg, hbx⟩ := hrel
    obtain ⟨Av, cv, hv⟩ := own_slice hg
    subst hv
    have HGG := Lib.hid hgg
    obtain ⟨L, hL⟩ : ∃ L, L = L4 ++ blksB (r.blocks.take i) := ⟨_, rfl⟩
    have HLE := Lib.hid hL
    have HLl : Hid (L.length ≤ 90000000) := by show _ ≤ _; have := HL4l.out; rw [hL, List.length_append, blksB_len, List.length_take]; omega
    rw [← hL] at hg ⊢
    have HO := Lib.hid hg
    have HB := Lib.hid hbx
    obtain ⟨m, hm⟩ : ∃ m, m = L.length := ⟨_, rfl⟩
    have HM := Lib.hid hm
    rw [← hm] at HO ⊢
    have kl : wr.cell? ⟨g1, 7, none⟩ = some (.slice Ab nb cb) := (HX1.out.below HB.out).cell 7
    clear hL hm hg hbx hgg HGS
    by_cases hin : i < nb
    · have hini : (i : Int) < (nb : Int) := by omega
      have hin0 : (0 : Int) ≤ (i : Int) := by omega
      have hw1 : IntKind.i64.wrap ((i : Int) + 1) = ((i + 1 : Nat) : Int) := by rw [IntKind.wrap_i64]; omega
      obtain ⟨e, hei⟩ : ∃ e, r.blocks[i]? = some e := ⟨r.blocks[i]'(by have := HLEN.out; omega), List.getElem?_eq_getElem _⟩
      obtain ⟨hz, ga, oa, hA, hga, hc⟩ := SlR.cells HBS.out (by omega) (by decide)
      subst hA
      obtain ⟨hel, hcc⟩ := hc i e hei
      obtain ⟨a0, a1, a2, a3, a4, a5, a6, rr, he⟩ := of7 (ks := ks7) rfl hel
      have u0 : wr.cell? ⟨ga, oa + i * 7, none⟩ = some (.int .u32 (a0 : Int)) := (HB.out.cell (p := ⟨ga, oa + i * 7, none⟩) hga).trans (hcc 0 _ (by rw [he]; rfl))
      have u1 : wr.cell? ⟨ga, oa + i * 7 + 1, none⟩ = some (.int .u8 (a1 : Int)) := (HB.out.cell (p := ⟨ga, oa + i * 7 + 1, none⟩) hga).trans (hcc 1 _ (by rw [he]; rfl))
      have u2 : wr.cell? ⟨ga, oa + i * 7 + 2, none⟩ = some (.int .u32 (a2 : Int)) := (HB.out.cell (p := ⟨ga, oa + i * 7 + 2, none⟩) hga).trans (hcc 2 _ (by rw [he]; rfl))
      have u3 : wr.cell? ⟨ga, oa + i * 7 + 3, none⟩ = some (.int .u32 (a3 : Int)) := (HB.out.cell (p := ⟨ga, oa + i * 7 + 3, none⟩) hga).trans (hcc 3 _ (by rw [he]; rfl))
      have u4 : wr.cell? ⟨ga, oa + i * 7 + 4, none⟩ = some (.int .u32 (a4 : Int)) := (HB.out.cell (p := ⟨ga, oa + i * 7 + 4, none⟩) hga).trans (hcc 4 _ (by rw [he]; rfl))
      have u5 : wr.cell? ⟨ga, oa + i * 7 + 5, none⟩ = some (.int .u32 (a5 : Int)) := (HB.out.cell (p := ⟨ga, oa + i * 7 + 5, none⟩) hga).trans (hcc 5 _ (by rw [he]; rfl))
      have u6 : wr.cell? ⟨ga, oa + i * 7 + 6, none⟩ = some (.int .u32 (a6 : Int)) := (HB.out.cell (p := ⟨ga, oa + i * 7 + 6, none⟩) hga).trans (hcc 6 _ (by rw [he]; rfl))
      have hfx := HFB.out e (List.mem_of_getElem? hei)
      rw [he] at hfx
      have HA1 : Hid (a1 < 256) := hfx.2
      have HA0 : Hid (a0 < 4294967296) := hfx.1 a0 (by simp)
      have za0 : IntKind.u64.wrap (a0 : Int) = (a0 : Int) := wrap64 HA0.out
      have HA2 : Hid (a2 < 4294967296) := hfx.1 a2 (by simp)
      have za2 : IntKind.u64.wrap (a2 : Int) = (a2 : Int) := wrap64 HA2.out
      have HA3 : Hid (a3 < 4294967296) := hfx.1 a3 (by simp)
      have za3 : IntKind.u64.wrap (a3 : Int) = (a3 : Int) := wrap64 HA3.out
      have HA4 : Hid (a4 < 4294967296) := hfx.1 a4 (by simp)
      have za4 : IntKind.u64.wrap (a4 : Int) = (a4 : Int) := wrap64 HA4.out
      have HA5 : Hid (a5 < 4294967296) := hfx.1 a5 (by simp)
      have za5 : IntKind.u64.wrap (a5 : Int) = (a5 : Int) := wrap64 HA5.out
      have HA6 : Hid (a6 < 4294967296) := hfx.1 a6 (by simp)
      have za6 : IntKind.u64.wrap (a6 : Int) = (a6 : Int) := wrap64 HA6.out
      have HTK : Hid (L4 ++ blksB (r.blocks.take (i + 1)) = L ++ blkB (a0 :: a1 :: a2 :: a3 :: a4 :: a5 :: a6 :: rr)) := by
        show _ = _
        rw [takeN_snoc hei, blksB_snoc, ← List.append_assoc, HLE.out, he]
      have HLT := Lib.hid hin
      have HN1 : Hid ([Value.int .u8 (a1 : Int)] = ([UInt8.ofNat a1] : List UInt8).map u8v) := by
        show _ = _
        simp only [List.map_cons, List.map_nil]
        rw [u8v_of HA1.out]
      clear hc hcc hei hin he hel hz hi hfx hga
      go_upto_region 14 with fail
      clear kl u0 u1 u2 u3 u4 u5 u6
      obtain ⟨gx, hgx⟩ : ∃ gx, gx = wr.heap.size := ⟨_, rfl⟩
      obtain ⟨wb, hwb⟩ : ∃ wb, wb = wr.alloc (.cells #[.int .u32 (a0 : Int), .int .u8 (a1 : Int), .int .u32 (a2 : Int), .int .u32 (a3 : Int), .int .u32 (a4 : Int), .int .u32 (a5 : Int), .int .u32 (a6 : Int)] 77) := ⟨_, rfl⟩
      rw [← hwb, ← hgx]
      have HX2 : Hid (Blk wb gx 77 #[.int .u32 (a0 : Int), .int .u8 (a1 : Int), .int .u32 (a2 : Int), .int .u32 (a3 : Int), .int .u32 (a4 : Int), .int .u32 (a5 : Int), .int .u32 (a6 : Int)]) := by show Blk _ _ _ _; rw [hwb]; exact Blk.newAt hgx _ _
      have HO2 : Hid (ByteRow wb w1.heap.size (.slice Av m cv) L) := by show ByteRow _ _ _ _; rw [hwb]; exact World.ownsRow.alloc HO.out _
      have HB2 : Hid (Below w1.heap.size w1 wb) := by show Below _ _ _; rw [hwb]; exact balloc HB.out _
      clear hwb hgx
      have HOD14 : Hid (ByteRow (World.drew wb) w1.heap.size (.slice Av m cv) L) := HO2.out
      have HBD14 : Hid (Below w1.heap.size w1 (World.drew wb)) := bdrew HB2.out
      have HXD14 : Hid (Blk (World.drew wb) gx 77 #[.int .u32 (a0 : Int), .int .u8 (a1 : Int), .int .u32 (a2 : Int), .int .u32 (a3 : Int), .int .u32 (a4 : Int), .int .u32 (a5 : Int), .int .u32 (a6 : Int)]) := HX2.out
      have HRD14 : Hid (Below wb.heap.size wb (World.drew wb)) := bdrew (Below.refl _ _)
      go_cut [5] (fun v5 wx => ∃ A9 c9 m9, v5 = .slice A9 m9 c9 ∧ m9 = L.length + 5 ∧ ByteRow wx w1.heap.size v5 (L ++ beS a0 4 ++ [UInt8.ofNat a1]) ∧ Below w1.heap.size w1 wx ∧ Blk wx gx 77 #[.int .u32 (a0 : Int), .int .u8 (a1 : Int), .int .u32 (a2 : Int), .int .u32 (a3 : Int), .int .u32 (a4 : Int), .int .u32 (a5 : Int), .int .u32 (a6 : Int)])
      case first =>
        refine wp_region_held_drew (S := (fun w3 => Blk w3 gx 77 #[.int .u32 (a0 : Int), .int .u8 (a1 : Int), .int .u32 (a2 : Int), .int .u32 (a3 : Int), .int .u32 (a4 : Int), .int .u32 (a5 : Int), .int .u32 (a6 : Int)])) (by kernel_rfl) (HXD14.out) (fun hHeld => ?_)
        refine wpAnyH_takeAt (i := 0) (v := (.slice Av m cv)) rfl (by kernel_rfl) (by kernel_rfl) (by kernel_rfl) (fun _ _ _ h => h) rfl (Or.inl ⟨by rfl, fun w' hS => ?_⟩) hHeld ?_
        · go_simp
        simp only [List.set_cons_zero, List.set_cons_succ]
        refine wpAnyH_takeAt (i := 1) (v := (.pointer (some ⟨gx, 0, none⟩))) rfl (by kernel_rfl) (by kernel_rfl) (by kernel_rfl) (fun _ _ _ h => h) rfl (Or.inl ⟨by rfl, fun w' hS => ?_⟩) hHeld ?_
        · go_simp
        simp only [List.set_cons_zero, List.set_cons_succ]
        refine wpAnyH_takeAt (i := 2) (v := (.int .u32 (a0 : Int))) rfl (by kernel_rfl) (by kernel_rfl) (by kernel_rfl) (fun _ _ _ h => h) rfl (Or.inl ⟨by rfl, fun w' hS => ?_⟩) hHeld ?_
        · have hc := hS.cell 0
          have hc' : w'.cell? ⟨gx, 0, none⟩ = some (.int .u32 (a0 : Int)) := hc
          go_simp
        simp only [List.set_cons_zero, List.set_cons_succ]
        refine wpAnyH_takeAt (i := 3) (v := (.int .u64 (a0 : Int))) rfl (by kernel_rfl) (by kernel_rfl) (by kernel_rfl) (fun _ _ _ h => h) rfl (Or.inl ⟨by rfl, fun w' hS => ?_⟩) hHeld ?_
        · go_simp
        simp only [List.set_cons_zero, List.set_cons_succ]
        refine wpAnyH_takeAt (i := 5) (v := (.pointer (some ⟨gx, 1, none⟩))) rfl (by kernel_rfl) (by kernel_rfl) (by kernel_rfl) (fun _ _ _ h => h) rfl (Or.inl ⟨by rfl, fun w' hS => ?_⟩) hHeld ?_
        · go_simp
        simp only [List.set_cons_zero, List.set_cons_succ]
        refine wpAnyH_takeAt (i := 6) (v := (.int .u8 (a1 : Int))) rfl (by kernel_rfl) (by kernel_rfl) (by kernel_rfl) (fun _ _ _ h => h) rfl (Or.inl ⟨by rfl, fun w' hS => ?_⟩) hHeld ?_
        · have hc := hS.cell 1
          have hc' : w'.cell? ⟨gx, 1, none⟩ = some (.int .u8 (a1 : Int)) := hc
          go_simp
        simp only [List.set_cons_zero, List.set_cons_succ]
        refine wpAnyH_ready (rs := [4, 7]) (by kernel_rfl) (by simp) (AllReadyH.cons rfl (fun K' hK => ?_) (AllReadyH.cons rfl (fun K' hK => ?_) AllReadyH.nil))
        · go_simp
          go_at_call 48
          refine (U_z (SlV.own HOD14.out) (by have := HLl.out; omega) (by decide) (by have := HA0.out; omega)).mono ?_
          rintro e9 w_18 ⟨v9, rfl, ho9, hb9⟩
          obtain ⟨A_18, c_18, hv9⟩ := own_slice ho9
          subst hv9
          have HO_18 : Hid (ByteRow w_18 w1.heap.size (.slice A_18 (L ++ beS a0 4).length c_18) (L ++ beS a0 4)) := own_lower ho9 HBD14.out.size
          have HB_18 : Hid (Below w1.heap.size w1 w_18) := bcall HBD14.out hb9
          have HR_18 : Hid (Below wb.heap.size wb w_18) := bcall HRD14.out hb9
          have HOW_18 : Hid (ByteRow w_18 wb.heap.size (.slice A_18 (L ++ beS a0 4).length c_18) (L ++ beS a0 4)) := own_lower ho9 HRD14.out.size
          have HX_18 := Lib.hid (HXD14.out.below hb9)
          obtain ⟨m_18, hm⟩ : ∃ m, m = (L ++ beS a0 4).length := ⟨_, rfl⟩
          have HM_18 := Lib.hid hm
          rw [← hm] at HO_18 HOW_18 ⊢
          clear ho9 hb9 hm
          go_wp2_with fail
          refine hK.out _ _ HX_18.out (fun hHeld' => ?_)
          clear hK hHeld
          have hHeld := hHeld'
          clear hHeld'
          refine wpAnyH_ready (rs := [7]) (by kernel_rfl) (by simp) (AllReadyH.cons rfl (fun K' hK => ?_) AllReadyH.nil)
          go_simp
          obtain ⟨gy_, hgy_⟩ : ∃ gy_, gy_ = (World.heap w_18).size := ⟨_, rfl⟩
          have HY_19 : Hid (Blk (World.alloc w_18 (.cells #[.int .u8 (a1 : Int)] 5)) gy_ 5 #[.int .u8 (a1 : Int)]) := Blk.newAt hgy_ _ _
          have HGE : Hid ((w_18).heap.size = gy_) := hgy_.symm
          have HO_19 : Hid (ByteRow (World.alloc w_18 (.cells #[.int .u8 (a1 : Int)] 5)) w1.heap.size (.slice A_18 m_18 c_18) (L ++ beS a0 4)) := World.ownsRow.alloc HO_18.out _
          have HB_19 : Hid (Below w1.heap.size w1 (World.alloc w_18 (.cells #[.int .u8 (a1 : Int)] 5))) := balloc HB_18.out _
          have HR_19 : Hid (Below wb.heap.size wb (World.alloc w_18 (.cells #[.int .u8 (a1 : Int)] 5))) := balloc HR_18.out _
          have HOW_19 : Hid (ByteRow (World.alloc w_18 (.cells #[.int .u8 (a1 : Int)] 5)) wb.heap.size (.slice A_18 m_18 c_18) (L ++ beS a0 4)) := World.ownsRow.alloc HOW_18.out _
          have HX_19 : Hid (Blk (World.alloc w_18 (.cells #[.int .u8 (a1 : Int)] 5)) gx 77 #[.int .u32 (a0 : Int), .int .u8 (a1 : Int), .int .u32 (a2 : Int), .int .u32 (a3 : Int), .int .u32 (a4 : Int), .int .u32 (a5 : Int), .int .u32 (a6 : Int)]) := Blk.alloc HX_18.out _
          refine hK.out _ _ HX_19.out (fun hHeld' => ?_)
          clear hK hHeld
          have hHeld := hHeld'
          clear hHeld'
          rw [HGE.out]
          clear hgy_
          refine wpAnyH_ready (rs := [8]) (by kernel_rfl) (by simp) (AllReadyH.cons rfl (fun K' hK => ?_) AllReadyH.nil)
          have HO_20' : Hid (World.ownsRow (World.alloc w_18 (.cells #[.int .u8 (a1 : Int)] 5)) w1.heap.size 5 1 (.slice A_18 m_18 c_18) m_18 ((L ++ beS a0 4).map u8v)) := by
            have := HO_19.out
            unfold ByteRow at this
            rw [← HM_18.out] at this
            exact this
          refine step_append_any _ (by rfl) (.tmp 58) (.tmp 61) _ (by rfl) w1.heap.size 5 iB _ 1 1 Try.underlying22 hiB hz0 hz1 hz2 rfl (by omega) (.slice A_18 m_18 c_18) m_18 ((L ++ beS a0 4).map u8v) (by rfl) HO_20'.out
            _ (some ⟨gy_, 0, none⟩) 1 1 [.int .u8 (a1 : Int)] (by rfl) (reads_blk HY_19.out rfl) (by simp [Value.oneCell']) (by have h1 := HM_18.out; rw [List.length_append, beS_len] at h1; have := HLl.out; simp only [maxLen]; omega) (by have h1 := HM_18.out; rw [List.length_append, beS_len] at h1; have := HLl.out; omega) HB_19.out.size ?_
          intro v_20 w_20 hown_20 hg_20 hat_20
          obtain ⟨A_20, c_20, hv_20⟩ := own_slice hown_20
          subst hv_20
          have HO_20 : Hid (ByteRow w_20 w1.heap.size (.slice A_20 (m_18 + 1) c_20) ((L ++ beS a0 4) ++ [UInt8.ofNat a1])) := by
            have := hown_20
            rw [HN1.out, HM_18.out, ← List.map_append] at this
            show World.ownsRow _ _ _ _ _ _ _
            rw [List.length_append, HM_18.out]
            exact this
          have HB_20 : Hid (Below w1.heap.size w1 w_20) := own_grow_below HB_19.out HO_20'.out hg_20
          have HR_20 : Hid (Below wb.heap.size wb w_20) := own_grow_below HR_19.out HOW_19.out hg_20
          have HX_20 := Lib.hid (Blk.grown HX_19.out hg_20 (Ne.symm (own_blk_ne HO_20'.out HX_19.out (by decide))))
          clear hown_20 hg_20 hat_20
          refine hK.out _ _ HX_20.out (fun hHeld' => ?_)
          clear hK hHeld
          have hHeld := hHeld'
          clear hHeld'
          refine wpAnyH_putAt rfl ?_
          simp only [List.set_cons_zero, List.set_cons_succ]
          refine wpAnyH_takeAt (i := 9) (v := (.slice A_20 (m_18 + 1) c_20)) rfl (by kernel_rfl) (by kernel_rfl) (by kernel_rfl) (fun _ _ _ h => h) rfl (Or.inl ⟨by rfl, fun w' hS => ?_⟩) hHeld ?_
          · go_simp
          simp only [List.set_cons_zero, List.set_cons_succ]
          refine wpAnyH_done (by kernel_rfl) ?_ _
          go_wp2_with fail
          go_meet
          refine ⟨_, _, _, rfl, ?_, HO_20.out, HB_20.out, HX_20.out⟩
          have h1 := HM_18.out
          rw [List.length_append, beS_len] at h1
          omega
        · go_simp
          obtain ⟨gy_, hgy_⟩ : ∃ gy_, gy_ = (World.heap (World.drew wb)).size := ⟨_, rfl⟩
          have HY_21 : Hid (Blk (World.drew (World.alloc wb (.cells #[.int .u8 (a1 : Int)] 5))) gy_ 5 #[.int .u8 (a1 : Int)]) := Blk.newAt hgy_ _ _
          have HGE : Hid ((wb).heap.size = gy_) := hgy_.symm
          have HO_21 : Hid (ByteRow (World.drew (World.alloc wb (.cells #[.int .u8 (a1 : Int)] 5))) w1.heap.size (.slice Av m cv) L) := World.ownsRow.alloc HOD14.out _
          have HB_21 : Hid (Below w1.heap.size w1 (World.drew (World.alloc wb (.cells #[.int .u8 (a1 : Int)] 5)))) := balloc HBD14.out _
          have HR_21 : Hid (Below wb.heap.size wb (World.drew (World.alloc wb (.cells #[.int .u8 (a1 : Int)] 5)))) := balloc HRD14.out _
          have HX_21 : Hid (Blk (World.drew (World.alloc wb (.cells #[.int .u8 (a1 : Int)] 5))) gx 77 #[.int .u32 (a0 : Int), .int .u8 (a1 : Int), .int .u32 (a2 : Int), .int .u32 (a3 : Int), .int .u32 (a4 : Int), .int .u32 (a5 : Int), .int .u32 (a6 : Int)]) := Blk.alloc HXD14.out _
          refine hK.out _ _ HX_21.out (fun hHeld' => ?_)
          clear hK hHeld
          have hHeld := hHeld'
          clear hHeld'
          rw [HGE.out]
          clear hgy_
          refine wpAnyH_ready (rs := [4]) (by kernel_rfl) (by simp) (AllReadyH.cons rfl (fun K' hK => ?_) AllReadyH.nil)
          go_simp
          go_at_call 48
          refine (U_z (SlV.own HO_21.out) (by have := HLl.out; omega) (by decide) (by have := HA0.out; omega)).mono ?_
          rintro e9 w_22 ⟨v9, rfl, ho9, hb9⟩
          obtain ⟨A_22, c_22, hv9⟩ := own_slice ho9
          subst hv9
          have HO_22 : Hid (ByteRow w_22 w1.heap.size (.slice A_22 (L ++ beS a0 4).length c_22) (L ++ beS a0 4)) := own_lower ho9 HB_21.out.size
          have HB_22 : Hid (Below w1.heap.size w1 w_22) := bcall HB_21.out hb9
          have HR_22 : Hid (Below wb.heap.size wb w_22) := bcall HR_21.out hb9
          have HOW_22 : Hid (ByteRow w_22 wb.heap.size (.slice A_22 (L ++ beS a0 4).length c_22) (L ++ beS a0 4)) := own_lower ho9 HR_21.out.size
          have HY_22 := Lib.hid (HY_21.out.below hb9)
          have HX_22 := Lib.hid (HX_21.out.below hb9)
          obtain ⟨m_22, hm⟩ : ∃ m, m = (L ++ beS a0 4).length := ⟨_, rfl⟩
          have HM_22 := Lib.hid hm
          rw [← hm] at HO_22 HOW_22 ⊢
          clear ho9 hb9 hm
          go_wp2_with fail
          refine hK.out _ _ HX_22.out (fun hHeld' => ?_)
          clear hK hHeld
          have hHeld := hHeld'
          clear hHeld'
          refine wpAnyH_ready (rs := [8]) (by kernel_rfl) (by simp) (AllReadyH.cons rfl (fun K' hK => ?_) AllReadyH.nil)
          have HO_23' : Hid (World.ownsRow w_22 w1.heap.size 5 1 (.slice A_22 m_22 c_22) m_22 ((L ++ beS a0 4).map u8v)) := by
            have := HO_22.out
            unfold ByteRow at this
            rw [← HM_22.out] at this
            exact this
          refine step_append_any _ (by rfl) (.tmp 58) (.tmp 61) _ (by rfl) w1.heap.size 5 iB _ 1 1 Try.underlying22 hiB hz0 hz1 hz2 rfl (by omega) (.slice A_22 m_22 c_22) m_22 ((L ++ beS a0 4).map u8v) (by rfl) HO_23'.out
            _ (some ⟨gy_, 0, none⟩) 1 1 [.int .u8 (a1 : Int)] (by rfl) (reads_blk HY_22.out rfl) (by simp [Value.oneCell']) (by have h1 := HM_22.out; rw [List.length_append, beS_len] at h1; have := HLl.out; simp only [maxLen]; omega) (by have h1 := HM_22.out; rw [List.length_append, beS_len] at h1; have := HLl.out; omega) HB_22.out.size ?_
          intro v_23 w_23 hown_23 hg_23 hat_23
          obtain ⟨A_23, c_23, hv_23⟩ := own_slice hown_23
          subst hv_23
          have HO_23 : Hid (ByteRow w_23 w1.heap.size (.slice A_23 (m_22 + 1) c_23) ((L ++ beS a0 4) ++ [UInt8.ofNat a1])) := by
            have := hown_23
            rw [HN1.out, HM_22.out, ← List.map_append] at this
            show World.ownsRow _ _ _ _ _ _ _
            rw [List.length_append, HM_22.out]
            exact this
          have HB_23 : Hid (Below w1.heap.size w1 w_23) := own_grow_below HB_22.out HO_23'.out hg_23
          have HR_23 : Hid (Below wb.heap.size wb w_23) := own_grow_below HR_22.out HOW_22.out hg_23
          have HX_23 := Lib.hid (Blk.grown HX_22.out hg_23 (Ne.symm (own_blk_ne HO_23'.out HX_22.out (by decide))))
          clear hown_23 hg_23 hat_23
          refine hK.out _ _ HX_23.out (fun hHeld' => ?_)
          clear hK hHeld
          have hHeld := hHeld'
          clear hHeld'
          refine wpAnyH_putAt rfl ?_
          simp only [List.set_cons_zero, List.set_cons_succ]
          refine wpAnyH_takeAt (i := 9) (v := (.slice A_23 (m_22 + 1) c_23)) rfl (by kernel_rfl) (by kernel_rfl) (by kernel_rfl) (fun _ _ _ h => h) rfl (Or.inl ⟨by rfl, fun w' hS => ?_⟩) hHeld ?_
          · go_simp
          simp only [List.set_cons_zero, List.set_cons_succ]
          refine wpAnyH_done (by kernel_rfl) ?_ _
          go_wp2_with fail
          go_meet
          refine ⟨_, _, _, rfl, ?_, HO_23.out, HB_23.out, HX_23.out⟩
          have h1 := HM_22.out
          rw [List.length_append, beS_len] at h1
          omega
      case rest =>
        obtain ⟨A9, c9, m9, rfl, hm9, ho9, hb9, hx9⟩ := hcut
        obtain ⟨L5, hL5⟩ : ∃ L5, L5 = L ++ beS a0 4 ++ [UInt8.ofNat a1] := ⟨_, rfl⟩
        rw [← hL5] at ho9
        have HO9 := Lib.hid ho9
        have HB9 := Lib.hid hb9
        have HX9 := Lib.hid hx9
        have HL5 : Hid (L5.length ≤ 95000000) := by show _ ≤ _; have := HLl.out; rw [hL5, List.length_append, List.length_append, beS_len, List.length_singleton]; omega
        have HM9 : Hid (m9 = L5.length) := by show _ = _; rw [hm9, hL5, List.length_append, List.length_append, beS_len, List.length_singleton]
        have HL5E := Lib.hid hL5
        clear ho9 hb9 hx9 hm9 hL5
        go_upto_region 15 with fail
        have HOD15 : Hid (ByteRow (World.drew wc) w1.heap.size (.slice A9 m9 c9) L5) := HO9.out
        have HBD15 : Hid (Below w1.heap.size w1 (World.drew wc)) := bdrew HB9.out
        have HXD15 : Hid (Blk (World.drew wc) gx 77 #[.int .u32 (a0 : Int), .int .u8 (a1 : Int), .int .u32 (a2 : Int), .int .u32 (a3 : Int), .int .u32 (a4 : Int), .int .u32 (a5 : Int), .int .u32 (a6 : Int)]) := HX9.out
        have HRD15 : Hid (Below wc.heap.size wc (World.drew wc)) := bdrew (Below.refl _ _)
        refine wp_region_held_drew (S := (fun w3 => Blk w3 gx 77 #[.int .u32 (a0 : Int), .int .u8 (a1 : Int), .int .u32 (a2 : Int), .int .u32 (a3 : Int), .int .u32 (a4 : Int), .int .u32 (a5 : Int), .int .u32 (a6 : Int)])) (by kernel_rfl) (HXD15.out) (fun hHeld => ?_)
        refine wpAnyH_takeAt (i := 0) (v := (.slice A9 m9 c9)) rfl (by kernel_rfl) (by kernel_rfl) (by kernel_rfl) (fun _ _ _ h => h) rfl (Or.inl ⟨by rfl, fun w' hS => ?_⟩) hHeld ?_
        · go_simp
        simp only [List.set_cons_zero, List.set_cons_succ]
        refine wpAnyH_takeAt (i := 1) (v := (.pointer (some ⟨gx, 2, none⟩))) rfl (by kernel_rfl) (by kernel_rfl) (by kernel_rfl) (fun _ _ _ h => h) rfl (Or.inl ⟨by rfl, fun w' hS => ?_⟩) hHeld ?_
        · go_simp
        simp only [List.set_cons_zero, List.set_cons_succ]
        refine wpAnyH_takeAt (i := 2) (v := (.int .u32 (a2 : Int))) rfl (by kernel_rfl) (by kernel_rfl) (by kernel_rfl) (fun _ _ _ h => h) rfl (Or.inl ⟨by rfl, fun w' hS => ?_⟩) hHeld ?_
        · have hc := hS.cell 2
          have hc' : w'.cell? ⟨gx, 2, none⟩ = some (.int .u32 (a2 : Int)) := hc
          go_simp
        simp only [List.set_cons_zero, List.set_cons_succ]
        refine wpAnyH_takeAt (i := 3) (v := (.int .u64 (a2 : Int))) rfl (by kernel_rfl) (by kernel_rfl) (by kernel_rfl) (fun _ _ _ h => h) rfl (Or.inl ⟨by rfl, fun w' hS => ?_⟩) hHeld ?_
        · go_simp
        simp only [List.set_cons_zero, List.set_cons_succ]
        refine wpAnyH_takeAt (i := 5) (v := (.pointer (some ⟨gx, 3, none⟩))) rfl (by kernel_rfl) (by kernel_rfl) (by kernel_rfl) (fun _ _ _ h => h) rfl (Or.inl ⟨by rfl, fun w' hS => ?_⟩) hHeld ?_
        · go_simp
        simp only [List.set_cons_zero, List.set_cons_succ]
        refine wpAnyH_takeAt (i := 6) (v := (.int .u32 (a3 : Int))) rfl (by kernel_rfl) (by kernel_rfl) (by kernel_rfl) (fun _ _ _ h => h) rfl (Or.inl ⟨by rfl, fun w' hS => ?_⟩) hHeld ?_
        · have hc := hS.cell 3
          have hc' : w'.cell? ⟨gx, 3, none⟩ = some (.int .u32 (a3 : Int)) := hc
          go_simp
        simp only [List.set_cons_zero, List.set_cons_succ]
        refine wpAnyH_takeAt (i := 7) (v := (.int .u64 (a3 : Int))) rfl (by kernel_rfl) (by kernel_rfl) (by kernel_rfl) (fun _ _ _ h => h) rfl (Or.inl ⟨by rfl, fun w' hS => ?_⟩) hHeld ?_
        · go_simp
        simp only [List.set_cons_zero, List.set_cons_succ]
        refine wpAnyH_ready (rs := [4]) (by kernel_rfl) (by simp) (AllReadyH.cons rfl (fun K' hK => ?_) AllReadyH.nil)
        go_simp
        go_at_call 48
        refine (U_z (SlV.own HOD15.out) (by have := HL5.out; omega) (by decide) (by have := HA2.out; omega)).mono ?_
        rintro e9 w_24 ⟨v9, rfl, ho9, hb9⟩
        obtain ⟨A_24, c_24, hv9⟩ := own_slice ho9
        subst hv9
        have HO_24 : Hid (ByteRow w_24 w1.heap.size (.slice A_24 (L5 ++ beS a2 3).length c_24) (L5 ++ beS a2 3)) := own_lower ho9 HBD15.out.size
        have HB_24 : Hid (Below w1.heap.size w1 w_24) := bcall HBD15.out hb9
        have HR_24 : Hid (Below wc.heap.size wc w_24) := bcall HRD15.out hb9
        have HOW_24 : Hid (ByteRow w_24 wc.heap.size (.slice A_24 (L5 ++ beS a2 3).length c_24) (L5 ++ beS a2 3)) := own_lower ho9 HRD15.out.size
        have HX_24 := Lib.hid (HXD15.out.below hb9)
        obtain ⟨m_24, hm⟩ : ∃ m, m = (L5 ++ beS a2 3).length := ⟨_, rfl⟩
        have HM_24 := Lib.hid hm
        rw [← hm] at HO_24 HOW_24 ⊢
        clear ho9 hb9 hm
        go_wp2_with fail
        refine hK.out _ _ HX_24.out (fun hHeld' => ?_)
        clear hK hHeld
        have hHeld := hHeld'
        clear hHeld'
        refine wpAnyH_ready (rs := [8]) (by kernel_rfl) (by simp) (AllReadyH.cons rfl (fun K' hK => ?_) AllReadyH.nil)
        go_simp
        go_at_call 48
        refine (U_z (SlV.own HO_24.out) (by have := HL5.out; simp only [List.length_append, beS_len]; omega) (by decide) (by have := HA3.out; omega)).mono ?_
        rintro e9 w_25 ⟨v9, rfl, ho9, hb9⟩
        obtain ⟨A_25, c_25, hv9⟩ := own_slice ho9
        subst hv9
        have HO_25 : Hid (ByteRow w_25 w1.heap.size (.slice A_25 ((L5 ++ beS a2 3) ++ beS a3 4).length c_25) ((L5 ++ beS a2 3) ++ beS a3 4)) := own_lower ho9 HB_24.out.size
        have HB_25 : Hid (Below w1.heap.size w1 w_25) := bcall HB_24.out hb9
        have HR_25 : Hid (Below wc.heap.size wc w_25) := bcall HR_24.out hb9
        have HOW_25 : Hid (ByteRow w_25 wc.heap.size (.slice A_25 ((L5 ++ beS a2 3) ++ beS a3 4).length c_25) ((L5 ++ beS a2 3) ++ beS a3 4)) := own_lower ho9 HR_24.out.size
        have HX_25 := Lib.hid (HX_24.out.below hb9)
        obtain ⟨m_25, hm⟩ : ∃ m, m = ((L5 ++ beS a2 3) ++ beS a3 4).length := ⟨_, rfl⟩
        have HM_25 := Lib.hid hm
        rw [← hm] at HO_25 HOW_25 ⊢
        clear ho9 hb9 hm
        go_wp2_with fail
        refine hK.out _ _ HX_25.out (fun hHeld' => ?_)
        clear hK hHeld
        have hHeld := hHeld'
        clear hHeld'
        refine wpAnyH_takeAt (i := 9) (v := (.slice A_25 m_25 c_25)) rfl (by kernel_rfl) (by kernel_rfl) (by kernel_rfl) (fun _ _ _ h => h) rfl (Or.inl ⟨by rfl, fun w' hS => ?_⟩) hHeld ?_
        · go_simp
        simp only [List.set_cons_zero, List.set_cons_succ]
        refine wpAnyH_done (by kernel_rfl) ?_ _
        have u4 : w_25.cell? ⟨gx, 4, none⟩ = some (.int .u32 (a4 : Int)) := HX_25.out.cell 4
        go_upto_region 17 with
         (go_at_call 48
          refine (U_z (SlV.own HO_25.out) (by have := HL5.out; simp only [List.length_append, beS_len]; omega) (by decide) (by have := HA4.out; omega)).mono ?_
          rintro e9 w_26 ⟨v9, rfl, ho9, hb9⟩
          obtain ⟨A_26, c_26, hv9⟩ := own_slice ho9
          subst hv9
          have HO_26 : Hid (ByteRow w_26 w1.heap.size (.slice A_26 (((L5 ++ beS a2 3) ++ beS a3 4) ++ beS a4 4).length c_26) (((L5 ++ beS a2 3) ++ beS a3 4) ++ beS a4 4)) := own_lower ho9 HB_25.out.size
          have HBX_26 := Lib.hid hb9
          have HB_26 : Hid (Below w1.heap.size w1 w_26) := bcall HB_25.out hb9
          obtain ⟨m_26, hm⟩ : ∃ m, m = (((L5 ++ beS a2 3) ++ beS a3 4) ++ beS a4 4).length := ⟨_, rfl⟩
          have HM_26 := Lib.hid hm
          rw [← hm] at HO_26 ⊢
          clear ho9 hb9 hm
          have HX_26 := Lib.hid (HX_25.out.below HBX_26.out)
          clear u4 HBX_26
          skip)
        go_upto_region 17 with fail
        have HOD17 : Hid (ByteRow (World.drew w_26) w1.heap.size (.slice A_26 m_26 c_26) (((L5 ++ beS a2 3) ++ beS a3 4) ++ beS a4 4)) := HO_26.out
        have HBD17 : Hid (Below w1.heap.size w1 (World.drew w_26)) := bdrew HB_26.out
        have HXD17 : Hid (Blk (World.drew w_26) gx 77 #[.int .u32 (a0 : Int), .int .u8 (a1 : Int), .int .u32 (a2 : Int), .int .u32 (a3 : Int), .int .u32 (a4 : Int), .int .u32 (a5 : Int), .int .u32 (a6 : Int)]) := HX_26.out
        have HRD17 : Hid (Below w_26.heap.size w_26 (World.drew w_26)) := bdrew (Below.refl _ _)
        refine wp_region_held_drew (S := (fun w3 => Blk w3 gx 77 #[.int .u32 (a0 : Int), .int .u8 (a1 : Int), .int .u32 (a2 : Int), .int .u32 (a3 : Int), .int .u32 (a4 : Int), .int .u32 (a5 : Int), .int .u32 (a6 : Int)])) (by kernel_rfl) (HXD17.out) (fun hHeld => ?_)
        refine wpAnyH_takeAt (i := 0) (v := (.slice A_26 m_26 c_26)) rfl (by kernel_rfl) (by kernel_rfl) (by kernel_rfl) (fun _ _ _ h => h) rfl (Or.inl ⟨by rfl, fun w' hS => ?_⟩) hHeld ?_
        · go_simp
        simp only [List.set_cons_zero, List.set_cons_succ]
        refine wpAnyH_takeAt (i := 1) (v := (.pointer (some ⟨gx, 5, none⟩))) rfl (by kernel_rfl) (by kernel_rfl) (by kernel_rfl) (fun _ _ _ h => h) rfl (Or.inl ⟨by rfl, fun w' hS => ?_⟩) hHeld ?_
        · go_simp
        simp only [List.set_cons_zero, List.set_cons_succ]
        refine wpAnyH_takeAt (i := 2) (v := (.int .u32 (a5 : Int))) rfl (by kernel_rfl) (by kernel_rfl) (by kernel_rfl) (fun _ _ _ h => h) rfl (Or.inl ⟨by rfl, fun w' hS => ?_⟩) hHeld ?_
        · have hc := hS.cell 5
          have hc' : w'.cell? ⟨gx, 5, none⟩ = some (.int .u32 (a5 : Int)) := hc
          go_simp
        simp only [List.set_cons_zero, List.set_cons_succ]
        refine wpAnyH_takeAt (i := 3) (v := (.int .u64 (a5 : Int))) rfl (by kernel_rfl) (by kernel_rfl) (by kernel_rfl) (fun _ _ _ h => h) rfl (Or.inl ⟨by rfl, fun w' hS => ?_⟩) hHeld ?_
        · go_simp
        simp only [List.set_cons_zero, List.set_cons_succ]
        refine wpAnyH_takeAt (i := 5) (v := (.pointer (some ⟨gx, 6, none⟩))) rfl (by kernel_rfl) (by kernel_rfl) (by kernel_rfl) (fun _ _ _ h => h) rfl (Or.inl ⟨by rfl, fun w' hS => ?_⟩) hHeld ?_
        · go_simp
        simp only [List.set_cons_zero, List.set_cons_succ]
        refine wpAnyH_takeAt (i := 6) (v := (.int .u32 (a6 : Int))) rfl (by kernel_rfl) (by kernel_rfl) (by kernel_rfl) (fun _ _ _ h => h) rfl (Or.inl ⟨by rfl, fun w' hS => ?_⟩) hHeld ?_
        · have hc := hS.cell 6
          have hc' : w'.cell? ⟨gx, 6, none⟩ = some (.int .u32 (a6 : Int)) := hc
          go_simp
        simp only [List.set_cons_zero, List.set_cons_succ]
        refine wpAnyH_takeAt (i := 7) (v := (.int .u64 (a6 : Int))) rfl (by kernel_rfl) (by kernel_rfl) (by kernel_rfl) (fun _ _ _ h => h) rfl (Or.inl ⟨by rfl, fun w' hS => ?_⟩) hHeld ?_
        · go_simp
        simp only [List.set_cons_zero, List.set_cons_succ]
        refine wpAnyH_ready (rs := [4]) (by kernel_rfl) (by simp) (AllReadyH.cons rfl (fun K' hK => ?_) AllReadyH.nil)
        go_simp
        go_at_call 48
        refine (U_z (SlV.own HOD17.out) (by have := HL5.out; simp only [List.length_append, beS_len]; omega) (by decide) (by have := HA5.out; omega)).mono ?_
        rintro e9 w_27 ⟨v9, rfl, ho9, hb9⟩
        obtain ⟨A_27, c_27, hv9⟩ := own_slice ho9
        subst hv9
        have HO_27 : Hid (ByteRow w_27 w1.heap.size (.slice A_27 ((((L5 ++ beS a2 3) ++ beS a3 4) ++ beS a4 4) ++ beS a5 4).length c_27) ((((L5 ++ beS a2 3) ++ beS a3 4) ++ beS a4 4) ++ beS a5 4)) := own_lower ho9 HBD17.out.size
        have HB_27 : Hid (Below w1.heap.size w1 w_27) := bcall HBD17.out hb9
        have HR_27 : Hid (Below w_26.heap.size w_26 w_27) := bcall HRD17.out hb9
        have HOW_27 : Hid (ByteRow w_27 w_26.heap.size (.slice A_27 ((((L5 ++ beS a2 3) ++ beS a3 4) ++ beS a4 4) ++ beS a5 4).length c_27) ((((L5 ++ beS a2 3) ++ beS a3 4) ++ beS a4 4) ++ beS a5 4)) := own_lower ho9 HRD17.out.size
        have HX_27 := Lib.hid (HXD17.out.below hb9)
        obtain ⟨m_27, hm⟩ : ∃ m, m = ((((L5 ++ beS a2 3) ++ beS a3 4) ++ beS a4 4) ++ beS a5 4).length := ⟨_, rfl⟩
        have HM_27 := Lib.hid hm
        rw [← hm] at HO_27 HOW_27 ⊢
        clear ho9 hb9 hm
        go_wp2_with fail
        refine hK.out _ _ HX_27.out (fun hHeld' => ?_)
        clear hK hHeld
        have hHeld := hHeld'
        clear hHeld'
        refine wpAnyH_ready (rs := [8]) (by kernel_rfl) (by simp) (AllReadyH.cons rfl (fun K' hK => ?_) AllReadyH.nil)
        go_simp
        go_at_call 48
        refine (U_z (SlV.own HO_27.out) (by have := HL5.out; simp only [List.length_append, beS_len]; omega) (by decide) (by have := HA6.out; omega)).mono ?_
        rintro e9 w_28 ⟨v9, rfl, ho9, hb9⟩
        obtain ⟨A_28, c_28, hv9⟩ := own_slice ho9
        subst hv9
        have HO_28 : Hid (ByteRow w_28 w1.heap.size (.slice A_28 (((((L5 ++ beS a2 3) ++ beS a3 4) ++ beS a4 4) ++ beS a5 4) ++ beS a6 4).length c_28) (((((L5 ++ beS a2 3) ++ beS a3 4) ++ beS a4 4) ++ beS a5 4) ++ beS a6 4)) := own_lower ho9 HB_27.out.size
        have HB_28 : Hid (Below w1.heap.size w1 w_28) := bcall HB_27.out hb9
        have HR_28 : Hid (Below w_26.heap.size w_26 w_28) := bcall HR_27.out hb9
        have HOW_28 : Hid (ByteRow w_28 w_26.heap.size (.slice A_28 (((((L5 ++ beS a2 3) ++ beS a3 4) ++ beS a4 4) ++ beS a5 4) ++ beS a6 4).length c_28) (((((L5 ++ beS a2 3) ++ beS a3 4) ++ beS a4 4) ++ beS a5 4) ++ beS a6 4)) := own_lower ho9 HR_27.out.size
        have HX_28 := Lib.hid (HX_27.out.below hb9)
        obtain ⟨m_28, hm⟩ : ∃ m, m = (((((L5 ++ beS a2 3) ++ beS a3 4) ++ beS a4 4) ++ beS a5 4) ++ beS a6 4).length := ⟨_, rfl⟩
        have HM_28 := Lib.hid hm
        rw [← hm] at HO_28 HOW_28 ⊢
        clear ho9 hb9 hm
        go_wp2_with fail
        refine hK.out _ _ HX_28.out (fun hHeld' => ?_)
        clear hK hHeld
        have hHeld := hHeld'
        clear hHeld'
        refine wpAnyH_takeAt (i := 9) (v := (.slice A_28 m_28 c_28)) rfl (by kernel_rfl) (by kernel_rfl) (by kernel_rfl) (fun _ _ _ h => h) rfl (Or.inl ⟨by rfl, fun w' hS => ?_⟩) hHeld ?_
        · go_simp
        simp only [List.set_cons_zero, List.set_cons_succ]
        refine wpAnyH_done (by kernel_rfl) ?_ _
        go_wp2_with fail
        go_roundg (nb - (i + 1))
        case measure => have := HLT.out; have := HGG.out; omega
        case rel =>
          have hlt := HLT.out
          refine ⟨i + 1, rfl, by omega, by first | rfl | go_num, ?_, HB_28.out⟩
          rw [HTK.out]
          have hs := HO_28.out
          rw [HL5E.out] at hs
          have he : L ++ beS a0 4 ++ [UInt8.ofNat a1] ++ beS a2 3 ++ beS a3 4 ++ beS a4 4 ++ beS a5 4 ++ beS a6 4 = L ++ blkB (a0 :: a1 :: a2 :: a3 :: a4 :: a5 :: a6 :: rr) := by
            simp [blkB, fours, List.append_assoc]
          rw [he] at hs
          exact hs
    · have hini : ¬ (i : Int) < (nb : Int) := by omega
      have hie : nb = i := by omega
      subst hie
      have HT : Hid (r.blocks.take nb = r.blocks) := List.take_of_length_le (by have := HLEN.out; omega)
      clear hin hi
      have d0 : wr.cell? ⟨g1, 0, none⟩ = some (.int .i64 2) := (HX1.out.below HB.out).cell 0
      go_upto_region 18 with fail
      go_quiet (fail)
      go_wp2_with fail
      go_ret3
      refine ⟨_, by unfold typS cntS; rw [HR4.out, HLEN.out]; rfl, ?_, below_drewN (bcall HB1.out HB.out) _⟩
      have hs : ByteRow _ w.heap.size _ _ := own_lower HO.out HB1.out.size
      unfold bodyS
      rw [HR4.out, HE1.out]
      rw [HLE.out, HT.out, HL4.out] at hs
      exact .inl hs
end Go.Proofs.Ytkfimncbfbbopaa
