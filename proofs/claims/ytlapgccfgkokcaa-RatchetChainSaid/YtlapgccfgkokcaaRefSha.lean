/- What the reference's Sha does (contract). Conditions: the bytes lie in memory; they are no more than fit. (Printed by gen1R.py.) -/
import Derived.Test.YtlapgccfgkokcaaMixed
import Derived.Test.YtlapgccfgkokcaaRefU
import Derived.Test.YtlapgccfgkokcaaTagOf
import Derived.Test.YtlapgccfgkokcaaBlocks
set_option linter.unusedVariables false
set_option linter.unusedSimpArgs false
namespace Go.Proofs.Ytlapgccfgkokcaa
open Go.RowKit
attribute [local go_sem ↓] Go.wp_at_zero Go.wp_at_succ

theorem SlV.rd {w : World} {A : Option Addr} {n c : Nat} {b : List UInt8} (h : SlV w (.slice A n c) b) : Reads w w.heap.size 1 A n (b.map u8v) := by
  obtain ⟨A', c', e, hc, hr⟩ := h
  injection e with e1 e2 e3
  subst e1 e2
  exact hr
theorem SlV.form {w : World} {v : Value} {b : List UInt8} (h : SlV w v b) : ∃ A c, v = .slice A b.length c ∧ b.length ≤ c := by
  obtain ⟨A, c, e, hc, hr⟩ := h
  exact ⟨A, c, e, hc⟩
theorem sv_setCells {w : World} {g : Nat} : ∀ {w' : World}, Sv (fun k => k = g) w w' → ∀ (vs : List Value) (o : Nat), Sv (fun k => k = g) w (w'.setCells g o vs)
  | w', h, [], o => h
  | w', h, v :: vs, o => sv_setCells (w' := w'.setCell ⟨g, o, none⟩ v) (h.set (p := ⟨g, o, none⟩) (.inl rfl) v) vs (o + 1)
theorem still_load_mid {P : Program} {op : Oper} {a : Act} {w : World} {next : Act → Prop} (ty : TypeId) (x : Operand) (ho : op.op = .load ty x)
    (b o : Nat) (hx : a.eval x = .pointer (some ⟨b, o, none⟩)) (cs : List Value) (d : TypeDesc) (hc : w.rangeAt b o cs)
    (hu : P.underlying ty = some d) (hd : d.isRow = true) (hi : (P.info? ty).map (·.size) = some cs.length)
    (h : next (a.put op.dst (.agg cs.toArray))) : op.still P a w next := by
  unfold Oper.still execOp
  simp only [ho, hx, Instr.loadAt, Instr.sureAddr, Sem.run_bind, Sem.run_pure, Result.andThen_ok, run_loadVar_mid w b o ty cs d hc hu hd hi]
  exact ⟨rfl, h⟩
theorem wrap_len (n : Nat) (h : n ≤ 140737488354000) : IntKind.u64.wrap ((n : Int) * 8) = ((8 * n : Nat) : Int) := by
  simp [IntKind.wrap, IntKind.bits, IntKind.signed]; omega
set_option maxRecDepth 100000 in
set_option maxHeartbeats 6400000 in
theorem rsha_c (m : List UInt8) (A : Option Addr) (n c : Nat) (w : World) (h : SlV w (.slice A n c) m) (hl : n ≤ 140737488354000) :
    Calls Try.prog 23 #[.slice A n c] w fun e w' => e = .returned (.agg ((shaS m).map u8v).toArray) ∧ Below w.heap.size w w' := by
  obtain ⟨i5, hi5, hz0, hz1, hz2⟩ := info_parts infoByte
  have hn := h.num
  have H0 := Lib.hid h
  obtain ⟨q, hq⟩ : ∃ q, q = noughts m.length := ⟨_, rfl⟩
  have hq1 : q < 64 := by rw [hq]; unfold noughts; omega
  have hq2 : (n + 1 + q) % 64 = 56 := by rw [hq, hn]; unfold noughts; omega
  have hq3 : ∀ k, k < q → (n + 1 + k) % 64 ≠ 56 := by intro k hk; rw [hq] at hk; rw [hn]; unfold noughts at hk; omega
  have HN := Lib.hid hn
  have HQ := Lib.hid hq
  have HQ2 := Lib.hid hq2
  have HQ3 := Lib.hid hq3
  clear h hn hq hq2 hq3
  go_enter Try.func23, Try.ntmps23
  go_upto_region 1 with fail
  obtain ⟨w0, hw0⟩ : ∃ w0, w0 = w.alloc (.cells (z32.map u8v).toArray 24) := ⟨_, rfl⟩
  change Code.wp _ _ _ _ (w.alloc (.cells (z32.map u8v).toArray 24))
  have HU0 : Hid (UB w0 w.heap.size 24 z32) := by show UB _ _ _ _; rw [hw0]; exact Blk.new _ _ _
  have HB0 : Hid (Below w.heap.size w w0) := by show Below _ _ _; rw [hw0]; exact balloc (Below.refl _ _) _
  have HW0 : Hid (w.heap.size < w0.heap.size) := HU0.out.lt
  rw [← hw0]
  clear hw0
  have HRD : Hid (Reads (w0.alloc (.cells #[] 5)) (w0.alloc (.cells #[] 5)).heap.size 1 A n (m.map u8v)) := ((H0.out.below HB0.out).below (balloc (Below.refl _ _) _)).rd
  go_upto_region 2 with (first
    | (at_builtin
       refine wpList_append_any _ rfl (.tmp 9) (.tmp 10) _ rfl w0.heap.size 5 i5 _ 1 1 Try.underlying27 hi5 hz0 hz1 hz2 rfl (by omega) (.slice (some ⟨w0.heap.size, 0, none⟩) 0 0) 0 [] rfl (own_empty w0 _ _)
         _ A n c (m.map u8v) rfl HRD.out (u8_one m) (by simp only [maxLen]; omega) (by omega) (by simp) ?_
       intro v1 w1 hown1 hg1 hv1
       rw [Nat.zero_add, List.nil_append] at hown1
       obtain ⟨A1, c1, rfl⟩ := own_slice hown1
       have HO1 := Lib.hid hown1
       have HB1 : Hid (Below w0.heap.size w0 w1) := fresh_below hg1
       have HRD1 : Hid (Reads (w1.alloc (.cells #[.int .u8 128] 5)) (w1.alloc (.cells #[.int .u8 128] 5)).heap.size 1 (some ⟨w1.heap.size, 0, none⟩) 1 [.int .u8 128]) := Reads.of_own (own_one w1 5 _)
       have HBS1 : Hid (w0.heap.size ≤ (w1.alloc (.cells #[.int .u8 128] 5)).heap.size) := Nat.le_trans HB1.out.size (by rw [World.size_alloc]; omega)
       clear hown1 hg1 hv1)
    | (at_builtin
       refine wpList_append_any _ rfl (.tmp 11) (.tmp 12) _ rfl w0.heap.size 5 i5 _ 1 1 Try.underlying27 hi5 hz0 hz1 hz2 rfl (by omega) (.slice A1 n c1) n (m.map u8v) rfl (HO1.out.alloc _)
         _ (some ⟨w1.heap.size, 0, none⟩) 1 1 [.int .u8 128] rfl HRD1.out (u8_one [128]) (by simp only [maxLen]; omega) (by omega) HBS1.out ?_
       intro v2 w2 hown2 hg2 hv2
       obtain ⟨A2, c2, rfl⟩ := own_slice hown2
       have HO2 : Hid (w2.ownsRow w0.heap.size 5 1 (.slice A2 (n + 1) c2) (n + 1) ((m ++ 0x80 :: List.replicate 0 0).map u8v)) := by
         show World.ownsRow _ _ _ _ _ _ _
         rw [List.map_append]
         exact hown2
       have HB2 : Hid (Below w0.heap.size w0 w2) := own_grow_below (balloc HB1.out (.cells #[.int .u8 128] 5)) (HO1.out.alloc _) hg2
       clear hown2 hg2 hv2))
  clear HRD HO1 HB1 HRD1 HBS1
  go_loopg [3] q (fun gg v3 wx => ∃ (k d : Nat) (Ao : Option Addr) (co : Nat), k ≤ q ∧ gg = q - k ∧ d = n + 1 + k ∧ v3 = .slice Ao d co ∧ wx.ownsRow w0.heap.size 5 1 (.slice Ao d co) d ((m ++ 0x80 :: List.replicate k 0).map u8v) ∧ Below w0.heap.size w0 wx)
  case atStart => exact ⟨0, n + 1, A2, c2, Nat.zero_le _, rfl, rfl, rfl, HO2.out, HB2.out⟩
  case round =>
    obtain ⟨k, d, Ao, co, hk, rfl, hd, rfl, ho, hb⟩ := hrel
    clear HO2 HB2
    have HO := Lib.hid ho
    have HB := Lib.hid hb
    clear ho hb
    by_cases hk2 : k < q
    · have hmod : ¬ (d : Int) % 64 = 56 := by have := HQ3.out k hk2; omega
      have hdl : d ≤ 140737488354100 := by omega
      have HD := Lib.hid hd
      have HRD : Hid (Reads (wr.alloc (.cells #[.int .u8 0] 5)) (wr.alloc (.cells #[.int .u8 0] 5)).heap.size 1 (some ⟨wr.heap.size, 0, none⟩) 1 [.int .u8 0]) := Reads.of_own (own_one wr 5 (.int .u8 0))
      have HBS : Hid (w0.heap.size ≤ (wr.alloc (.cells #[.int .u8 0] 5)).heap.size) := Nat.le_trans HB.out.size (by rw [World.size_alloc]; omega)
      clear hd
      go_wp2_with
       (at_builtin
        refine wpList_append_any _ rfl (.tmp 18) (.tmp 19) _ rfl w0.heap.size 5 i5 _ 1 1 Try.underlying27 hi5 hz0 hz1 hz2 rfl (by omega) (.slice Ao d co) d ((m ++ 0x80 :: List.replicate k 0).map u8v) rfl (HO.out.alloc _)
         _ (some ⟨wr.heap.size, 0, none⟩) 1 1 [.int .u8 0] rfl HRD.out (u8_one [0]) (by simp only [maxLen]; omega) (by omega) HBS.out ?_
        intro v5 w5 hown5 hg5 hv5
        obtain ⟨A5, c5, rfl⟩ := own_slice hown5
        have HO5 : Hid (w5.ownsRow w0.heap.size 5 1 (.slice A5 (d + 1) c5) (d + 1) ((m ++ 0x80 :: List.replicate (k + 1) 0).map u8v)) := by
          show World.ownsRow _ _ _ _ _ _ _
          rw [List.replicate_succ', ← List.cons_append, ← List.append_assoc, List.map_append]
          exact hown5
        have HB5 : Hid (Below w0.heap.size w0 w5) := own_grow_below (balloc HB.out (.cells #[.int .u8 0] 5)) (HO.out.alloc _) hg5
        clear hown5 hg5 hv5)
      go_roundg (q - (k + 1))
      case measure => omega
      case rel => exact ⟨k + 1, d + 1, A5, c5, by omega, rfl, by have := HD.out; omega, rfl, HO5.out, HB5.out⟩
    · have hkq : k = q := by omega
      have hmod : (d : Int) % 64 = 56 := by have := HQ2.out; omega
      have hdl : d ≤ 140737488354100 := by omega
      subst hkq
      obtain ⟨P0, hP0⟩ : ∃ P, P = m ++ 0x80 :: List.replicate k 0 := ⟨_, rfl⟩
      have HS0 : Hid (SlV wr (.slice Ao d co) P0) := SlV.own (show ByteRow wr w0.heap.size (.slice Ao d co) P0 by
        have hlen : P0.length = d := by rw [hP0, List.length_append, List.length_cons, List.length_replicate, ← HN.out]; omega
        unfold ByteRow
        rw [hlen, hP0]
        exact HO.out)
      have HP : Hid (P0 ++ be8 (8 * n) = padS m) := by
        show _ = _
        rw [hP0, padS, endS, ← HQ.out, ← HN.out, List.append_assoc]
      obtain ⟨x, hx⟩ : ∃ x, x = 8 * n := ⟨_, rfl⟩
      have hxl : x < 18446744073709551616 := by omega
      have hmul : (n : Int) * 8 = (x : Int) := by omega
      have HU8 := Lib.hid (U8_s (x := x) HS0.out (by omega) hxl)
      have HX := Lib.hid hx
      clear hP0 hd HO hx
      go_upto_region 5 with (first
        | (go_at_call 48
           refine HU8.out.mono ?_
           rintro e0 w3 ⟨v3, rfl, hrow3, hb3⟩
           have HR3 := Lib.hid hrow3
           have HB3 : Hid (Below w0.heap.size w0 w3) := bcall HB.out hb3
           clear hrow3 hb3))
      obtain ⟨P, hPe⟩ : ∃ P, P = padS m := ⟨_, rfl⟩
      have HS3 : Hid (SlV w3 v3 P) := by show SlV _ _ _; rw [hPe, ← HP.out, ← HX.out]; exact SlV.own HR3.out
      obtain ⟨Ap, cp, rfl, hcp⟩ := HS3.out.form
      have hpm : P.length % 64 = 0 := by rw [hPe]; exact padS_len m
      have hpp : 0 < P.length := by rw [hPe, padS, List.length_append, endS_len]; omega
      obtain ⟨gp, op, rfl, hgp, hcells⟩ := head_cells HS3.out.rd hpp
      have HPC := Lib.hid hcells
      obtain ⟨L, hL⟩ : ∃ L, L = P.length := ⟨_, rfl⟩
      rw [← hL] at hcp hpm hpp
      rw [← hL]
      have hLb : L ≤ 140737488354200 := by
        rw [hL, hPe, ← HP.out, List.length_append, be8_len]
        have := HS0.out.num
        omega
      have HLE := Lib.hid hL
      have HPE := Lib.hid hPe
      have HPM := Lib.hid hpm
      have HB3w : Hid (Below w.heap.size w w3) := bcall HB0.out HB3.out
      have HU3 : Hid (UB w3 w.heap.size 24 z32) := Blk.below HU0.out HB3.out
      clear hcells hL hPe hpm hmul HU8 HS0 HP HX HR3 HB3 HB0 HU0 HN HQ HQ2 HQ3 HB hmod hdl hxl
      go_upto_region 6 with fail
      obtain ⟨w4, hw4⟩ : ∃ w4, w4 = w3.alloc (.cells (h0L.map u32v).toArray 69) := ⟨_, rfl⟩
      change Code.wp _ _ _ _ (w3.alloc (.cells (h0L.map u32v).toArray 69))
      have HH4 : Hid (WB w4 w3.heap.size 69 h0L) := by show WB _ _ _ _; rw [hw4]; exact WB.new _ _ _
      have HB34 : Hid (Below w3.heap.size w3 w4) := by show Below _ _ _; rw [hw4]; exact balloc (Below.refl _ _) _
      rw [← hw4]
      obtain ⟨gh, hgh⟩ : ∃ gh, gh = w3.heap.size := ⟨_, rfl⟩
      have HGH := Lib.hid hgh
      rw [← hgh] at HH4
      rw [← hgh]
      have HJ64 : Hid ((Try.prog.info? 40).map (·.size) = some (kL.map u32v).toArray.size) := by show _ = _; rw [List.size_toArray, List.length_map, kL_len]; exact info40
      have HI64 : Hid ((Try.prog.info? 40).map (·.size) = some (kL.map u32v).length) := by show _ = _; rw [List.length_map, kL_len]; exact info40
      clear hw4 hgh
      go_upto_region 7 with (first
        | (go_at_call 30
           refine (rconsts_c w4).mono ?_
           rintro e0 w5 ⟨rfl, hb5⟩
           have HB5 : Hid (Below w3.heap.size w3 w5) := bcall HB34.out hb5
           have HU5 : Hid (WB (w5.alloc (.cells (z64.map u32v).toArray 40)) w5.heap.size 40 z64) := WB.new _ _ _
           have HTH5 : Hid ((w5.alloc (.cells (z64.map u32v).toArray 40)).there w5.heap.size 0 (kL.map u32v).toArray.size) := by show World.there _ _ _ (kL.map u32v).toArray.size; rw [show (kL.map u32v).toArray.size = 64 by rw [List.size_toArray, List.length_map, kL_len]]; exact wb_there HU5.out rfl
           have HH5 : Hid (WB w5 gh 69 h0L) := HH4.out.below hb5
           clear hb5)
        | ((with_reducible show wpList _ _ _ (⟨none, .store 40 (.tmp 5) (.tmp 28), _, _, _, _⟩ :: _) _ _); refine wpList_store_mid rfl 40 (.tmp 5) (.tmp 28) rfl w5.heap.size 0 (kL.map u32v).toArray rfl rfl HTH5.out HJ64.out (all_oneCell_toArray (u32_one _)) ?_))
      obtain ⟨w6, hw6⟩ : ∃ w6, w6 = (w5.alloc (.cells (z64.map u32v).toArray 40)).setCells w5.heap.size 0 (kL.map u32v) := ⟨_, rfl⟩
      change Code.wp _ _ _ _ ((w5.alloc (.cells (z64.map u32v).toArray 40)).setCells w5.heap.size 0 (kL.map u32v))
      have hlt5 : gh < w5.heap.size := HH5.out.lt
      have HK6 : Hid (WB w6 w5.heap.size 40 kL) := by show WB _ _ _ _; rw [hw6]; exact WB.setAll HU5.out (by rw [kL_len]; rfl)
      have HV6 : Hid (WB w6 gh 69 h0L) := by show WB _ _ _ _; rw [hw6]; exact Blk.farAll (by omega) _ _ _ (HH5.out.alloc _)
      have HB6 : Hid (Below w3.heap.size w3 w6) := by show Below _ _ _; rw [hw6]; exact below_setCells (balloc HB5.out _) (by have := HGH.out; omega) _ _
      rw [← hw6]
      obtain ⟨gk, hgk⟩ : ∃ gk, gk = w5.heap.size := ⟨_, rfl⟩
      rw [← hgk] at hlt5 HK6
      rw [← hgk]
      have HGK := Lib.hid hlt5
      clear hw6 hgk HH4 HB34 HB5 HU5 HTH5 HH5 hlt5
      go_upto_region 8 with fail
      obtain ⟨R, hR⟩ : ∃ R, R = L / 64 := ⟨_, rfl⟩
      have hLR : L = 64 * R := by have := HPM.out; omega
      have HR := Lib.hid hR
      have HLR := Lib.hid hLR
      have hRb : R ≤ 140737488354200 := by omega
      clear hR hLR
      go_loopg [6] R (fun gg v6 wx => ∃ (r t : Nat), r ≤ R ∧ gg = R - r ∧ t = 64 * r ∧ v6 = .int .i64 (t : Int) ∧ WB wx gh 69 (hS P r) ∧ Sv (fun k => k = gh) w6 wx)
      case atStart => exact ⟨0, 0, Nat.zero_le _, rfl, rfl, rfl, HV6.out, Sv.refl _ _⟩
      case round =>
        obtain ⟨r, t, hr, rfl, ht, rfl, hv, hsv⟩ := hrel
        clear HV6
        obtain ⟨H, hH⟩ : ∃ H, H = hS P r := ⟨_, rfl⟩
        rw [← hH] at hv
        have HH := Lib.hid hH
        have HH8 : Hid (H.length = 8) := by show _ = _; rw [hH]; exact hS_len _ _
        have HV := Lib.hid hv
        have HSV := Lib.hid hsv
        have HT := Lib.hid ht
        have hk := hsv.blk HK6.out (fun e => by have := HGK.out; omega)
        have HK := Lib.hid hk
        clear hH hv hsv hk
        by_cases hr2 : r < R
        · have htl : t + 64 ≤ L := by have := HLR.out; omega
          have hti : (t : Int) < (L : Int) := by omega
          have hti2 : (t : Int) + 64 ≤ (L : Int) := by omega
          have htw : IntKind.i64.wrap ((t : Int) + 64) = (t : Int) + 64 := by rw [IntKind.wrap_i64]; omega
          have ht0 : (0 : Int) ≤ (t : Int) := by omega
          have hc1 : (0 : Int) ≤ (t : Int) + 64 := by omega
          have hc2 : (t : Int) + 64 ≤ (cp : Int) := by omega
          have hc3 : ((t : Int) + 64).toNat = t + 64 := by omega
          have hc4 : ¬ cp = t := by omega
          have hc5 : t + 64 - t = 64 := by omega
          obtain ⟨M, hM⟩ : ∃ M, M = pc P r := ⟨_, rfl⟩
          have HM := Lib.hid hM
          have HML : Hid (M.length = 64) := by
            show _ = _
            rw [hM, pc, List.length_take, List.length_drop, ← HLE.out]
            omega
          have HMC : Hid (∀ wx : World, Below wr.heap.size wr wx → ∀ i, i < 64 → wx.cell? ⟨gp, op + t + i, none⟩ = some (.int .u8 ((M.getD i 0).toNat : Int))) := fun wx hbx i hi => by
            have h1 := HPC.out (t + i) (by rw [← HLE.out]; omega)
            have hgs : gp < w3.heap.size := hgp
            have h2 : w6.cell? ⟨gp, op + (t + i), none⟩ = _ := (HB6.out.cell (p := ⟨gp, op + (t + i), none⟩) hgs).trans h1
            have h3 := HSV.out.cell (p := ⟨gp, op + (t + i), none⟩) (Nat.lt_of_lt_of_le hgs HB6.out.size) (fun e => by have := HGH.out; have e' : gp = gh := e; omega)
            have h4 := hbx.cell (p := ⟨gp, op + (t + i), none⟩) (Nat.lt_of_lt_of_le hgs (Nat.le_trans HB6.out.size HSV.out.size))
            rw [Nat.add_assoc, h4, h3, h2, hM, pc]
            have ht' := HT.out
            simp [List.getD_eq_getElem?_getD, List.getElem?_take, List.getElem?_drop, hi, ht']
          have HGP : Hid (gp < wr.heap.size) := Nat.lt_of_lt_of_le hgp (Nat.le_trans HB6.out.size HSV.out.size)
          obtain ⟨H2, hH2⟩ : ∃ H2, H2 = cmp H M := ⟨_, rfl⟩
          have HH2 : Hid (H2.length = 8) := by show _ = _; rw [hH2]; exact cmp_len _ _
          have HNX : Hid (H2 = hS P (r + 1)) := by show _ = _; rw [hH2, HH.out, HM.out, hS]
          have HMX : Hid (∀ wx, Below wr.heap.size wr wx → Calls Try.prog 49 #[.agg (H.map u32v).toArray, .slice (some ⟨gp, op + t, none⟩) 64 (cp - t), .agg (kL.map u32v).toArray] wx fun e w' => e = .returned (.agg (H2.map u32v).toArray) ∧ Below wx.heap.size wx w') := fun wx hbx => by
            rw [hH2]
            exact mixed_c H M gp (op + t) (cp - t) (kL.map u32v) wx rfl HH8.out HML.out (Nat.lt_of_lt_of_le HGP.out hbx.size) (HMC.out wx hbx)
          have HI8 : Hid ((Try.prog.info? 69).map (·.size) = some (H.map u32v).length) := by show _ = _; rw [List.length_map, HH8.out]; exact info8
          have HJ8 : Hid ((Try.prog.info? 69).map (·.size) = some (H2.map u32v).toArray.size) := by show _ = _; rw [List.size_toArray, List.length_map, HH2.out]; exact info8
          have KH : Hid (∀ w', Below wr.heap.size wr w' → w'.rangeAt gh 0 (H.map u32v)) := fun w' hb => (WB.below HV.out hb).range
          have KK : Hid (∀ w', Below wr.heap.size wr w' → w'.rangeAt gk 0 (kL.map u32v)) := fun w' hb => (WB.below HK.out hb).range
          clear hM hH2 ht
          go_upto_region 10 with fail
          have HRH : Hid ((World.drew wr).rangeAt gh 0 (H.map u32v)) := KH.out _ (bdrew (Below.refl _ _))
          have HRK : Hid ((World.drew wr).rangeAt gk 0 (kL.map u32v)) := KK.out _ (bdrew (Below.refl _ _))
          refine wp_region_still_tail 7 (by kernel_rfl) (by kernel_rfl) ?_
          simp only [List.take_succ_cons, List.take_zero, List.drop_succ_cons, List.drop_zero]
          refine wpStill_step (fun K hK => ?_)
          rw [if_pos (by rfl)]
          refine still_load_mid 69 (.tmp 4) (by rfl) gh 0 (by rfl) (H.map u32v) _ HRH.out Try.underlying69 rfl HI8.out ?_
          refine hK _ ?_
          clear hK K
          repeat still_step
          refine wpStill_step (fun K hK => ?_)
          rw [if_pos (by rfl)]
          refine still_load_mid 40 (.tmp 5) (by rfl) gk 0 (by rfl) (kL.map u32v) _ HRK.out Try.underlying40 rfl HI64.out ?_
          refine hK _ ?_
          clear hK K
          refine wpStill_nil ?_
          change wpList _ _ _ _ _ (World.drew wr)
          go_wp2_with (first
            | (go_at_call 49
               refine (HMX.out (World.drew wr) (bdrew (Below.refl _ _))).mono ?_
               rintro e0 w7 ⟨rfl, hb7⟩
               have HB7 : Hid (Below wr.heap.size wr w7) := bcall (bdrew (Below.refl _ _)) hb7
               have HV7 : Hid (WB w7 gh 69 H) := WB.below HV.out HB7.out
               have HTH7 : Hid (w7.there gh 0 (H2.map u32v).toArray.size) := by show World.there _ _ _ (H2.map u32v).toArray.size; rw [show (H2.map u32v).toArray.size = 8 by rw [List.size_toArray, List.length_map, HH2.out]]; exact wb_there HV7.out HH8.out
               clear hb7)
            | ((with_reducible show wpList _ _ _ (⟨none, .store 69 (.tmp 4) (.tmp 42), _, _, _, _⟩ :: _) _ _); refine wpList_store_mid rfl 69 (.tmp 4) (.tmp 42) rfl gh 0 (H2.map u32v).toArray rfl rfl HTH7.out HJ8.out (all_oneCell_toArray (u32_one _)) ?_))
          go_roundg (R - (r + 1))
          case measure => omega
          case rel =>
            refine ⟨r + 1, t + 64, by omega, rfl, by have := HT.out; omega, by go_num, ?_, ?_⟩
            · rw [← HNX.out]
              exact WB.setAll HV7.out (by rw [HH2.out, HH8.out])
            · exact sv_setCells (HSV.out.call HB7.out) _ _
        · have hrR : r = R := by omega
          have hnot : ¬ (t : Int) < (L : Int) := by have := HLR.out; omega
          subst hrR
          clear HR
          have HU : Hid (UB wr w.heap.size 24 z32) := HSV.out.blk (Blk.below HU3.out HB6.out) (fun e => by
            have h1 := HU3.out.lt
            have := HGH.out
            omega)
          have HBR : Hid (Below w.heap.size w wr) := bcall HB3w.out (HB6.out.trans (HSV.out.toBelow (B := w3.heap.size) (fun k hk => by have := HGH.out; omega) HB6.out.size))
          have HHE : Hid (outS H = shaS m) := by
            show _ = _
            rw [shaS, ← HPE.out, ← HLE.out, HH.out, HLR.out, Nat.mul_div_cancel_left _ (by decide)]
          have hcells : ∀ j, j < 8 → wr.cell? ⟨gh, j, none⟩ = some (.int .u32 ((H.getD j 0).toNat : Int)) := fun j hj => HV.out.cell j (by rw [HH8.out]; exact hj)
          have HHC := Lib.hid hcells
          clear hcells HH HT HK HSV HPC HLE HPE HPM HU3 HB3w HB6 HK6 HLR
          clear hcp hgp hpp hLb ht hr2 hr hRb
          obtain ⟨wb, rfl⟩ : ∃ wb : World, wb = wr := ⟨_, rfl⟩
          go_upto_region 12 with fail
          obtain ⟨wo, hwo⟩ : ∃ wo, wo = wb.alloc (.cells (z32.map u8v).toArray 24) := ⟨_, rfl⟩
          change Code.wp _ _ _ _ (wb.alloc (.cells (z32.map u8v).toArray 24))
          obtain ⟨F, hF⟩ : ∃ F : Nat → UInt8, F = fun i => ((H.getD (i / 4) 0) >>> UInt32.ofNat (24 - 8 * (i % 4))).toUInt8 := ⟨_, rfl⟩
          have HUO : Hid (UB wo wb.heap.size 24 (upL 32 0 F (fun _ => 0))) := by show UB _ _ _ _; rw [upL_zero, hwo]; exact Blk.new _ _ _
          have HBO : Hid (Below wb.heap.size wb wo) := by show Below _ _ _; rw [hwo]; exact balloc (Below.refl _ _) _
          have HF := Lib.hid hF
          have HGHL : Hid (gh < wb.heap.size) := HV.out.lt
          rw [← hwo]
          obtain ⟨go, hgo⟩ : ∃ go, go = wb.heap.size := ⟨_, rfl⟩
          have HGO := Lib.hid hgo
          rw [← hgo] at HUO
          rw [← hgo]
          clear hwo hF hgo
          go_upto_region 13 with fail
          go_loopg [8] 32 (fun gg v8 wx => ∃ i : Nat, i ≤ 32 ∧ gg = 32 - i ∧ v8 = .int .i64 (i : Int) ∧ UB wx go 24 (upL 32 i F (fun _ => 0)) ∧ Below wb.heap.size wb wx)
          case atStart => exact ⟨0, by omega, rfl, rfl, HUO.out, HBO.out⟩
          case round =>
            obtain ⟨i, hi, rfl, rfl, ho, hb⟩ := hrel
            clear HUO HBO
            have HO := Lib.hid ho
            have HB := Lib.hid hb
            by_cases hi2 : i < 32
            · have hii : (i : Int) < 32 := by omega
              obtain ⟨q4, hq4⟩ : ∃ q4, q4 = i / 4 := ⟨_, rfl⟩
              obtain ⟨s, hs⟩ : ∃ s, s = 24 - 8 * (i % 4) := ⟨_, rfl⟩
              have hq8 : q4 < 8 := by omega
              have hqi : (i : Int) / 4 = (q4 : Int) := by omega
              have hsi : 24 - 8 * ((i : Int) % 4) = (s : Int) := by omega
              have hs32 : s < 32 := by omega
              have hs32i : (s : Int) < 32 := by omega
              have hq8i : (q4 : Int) < 8 := by omega
              obtain ⟨x, hx⟩ : ∃ x, x = H.getD q4 0 := ⟨_, rfl⟩
              obtain ⟨y, hy⟩ : ∃ y, y = (x >>> UInt32.ofNat s).toUInt8 := ⟨_, rfl⟩
              have hxy : (x.toNat : Int) / 2 ^ s % 256 = (y.toNat : Int) := by rw [hy]; exact W.byte x s hs32
              have hFi : F i = y := by rw [HF.out, hy, hx, hq4, hs]
              have hcx := HHC.out q4 hq8
              rw [← hx] at hcx
              have cx : wr.cell? ⟨gh, q4, none⟩ = some (.int .u32 (x.toNat : Int)) := (hb.cell (p := ⟨gh, q4, none⟩) HGHL.out).trans hcx
              have co := ho.cell i (by rw [upL_len]; exact hi2)
              have fo := ho.free i
              have HFI := Lib.hid hFi
              clear hx hy hFi hq4 hs hcx ho hb
              go_wp2_with fail
              go_roundg (32 - (i + 1))
              case measure => omega
              case rel =>
                refine ⟨i + 1, by omega, rfl, by go_num, ?_, bset HB.out (p := ⟨go, i, none⟩) (by have := HGO.out; show _ ≤ go; omega) _⟩
                rw [← upL_set F _ hi2, HFI.out]
                exact HO.out.set i y
            · have hi3 : i = 32 := by omega
              subst hi3
              obtain ⟨O, hO⟩ : ∃ O, O = shaS m := ⟨_, rfl⟩
              have HO9 : Hid (UB wr go 24 O) := by show UB _ _ _ _; rw [hO, ← HHE.out, outS, ← HF.out, ← upL_full 32 F (fun _ => 0)]; exact ho
              have hOl : O.length = 32 := by rw [hO]; exact shaS_len _
              have HOE := Lib.hid hO
              have HRG := Lib.hid HO9.out.range
              have HI := Lib.hid (infoL hOl)
              have HJ := Lib.hid (infoO hOl)
              have hu : UB wr w.heap.size 24 z32 := Blk.below HU.out hb
              have HTH : Hid (wr.there w.heap.size 0 (O.map u8v).toArray.size) := there32 hu rfl hOl
              have hst : UB (wr.setCells w.heap.size 0 (O.map u8v)) w.heap.size 24 O := blk_setAll hu (by rw [List.length_map, hOl]; rfl)
              have hload := run_loadVar_mid (P := Try.prog) (wr.setCells w.heap.size 0 (O.map u8v)) w.heap.size 0 24 (O.map u8v) _ hst.range Try.underlying24 rfl HI.out
              have HLOAD := Lib.hid hload
              clear hO hOl hu hst hload ho hb HF HHC HHE
              go_wp2_with (first
                | ((with_reducible show wpList _ _ _ (⟨some 60, .load 24 (.tmp 7), _, _, _, _⟩ :: _) _ _); refine wpList_load_mid rfl 24 (.tmp 7) rfl go 0 rfl (O.map u8v) _ HRG.out Try.underlying24 rfl HI.out ?_)
                | ((with_reducible show wpList _ _ _ (⟨none, .store 24 (.tmp 2) (.tmp 60), _, _, _, _⟩ :: _) _ _); refine wpList_store_mid rfl 24 (.tmp 2) (.tmp 60) rfl w.heap.size 0 (O.map u8v).toArray rfl rfl HTH.out HJ.out (bytes_one _) ?_))
              refine bodyPost_ret (results_one rfl _ _ w.heap.size _ rfl HLOAD.out) rfl (And.intro (by rw [HOE.out]) ?_)
              exact below_setCells (bcall HBR.out HB.out) (Nat.le_refl _) _ _
end Go.Proofs.Ytlapgccfgkokcaa
