/- What the program's Add does to a stream (contract). Conditions: the stream's own row, the bytes away from the stream. -/
import Derived.Test.YtlapgccfgkokcaaSrc
import Derived.StillTailTactics
set_option linter.unusedVariables false
set_option linter.unusedSimpArgs false
namespace Go.Proofs.Ytlapgccfgkokcaa
open Go.RowKit
attribute [local go_sem ↓] Go.wp_at_zero Go.wp_at_succ

theorem add64 (a b : Nat) : IntKind.u64.wrap (((a : Int) % 18446744073709551616) + IntKind.u64.wrap (b : Int)) = (((a + b) % 18446744073709551616 : Nat) : Int) := by
  simp [IntKind.wrap, IntKind.bits, IntKind.signed]
theorem cut_to0 (wx : World) (p : Addr) (n c k : Nat) (hk : k ≤ c) : (Instr.slice 27 (.slice (some p) n c) none (some (.int .i64 (k : Int))) none).run Try.prog wx = .ok (.slice (some p) k c) wx := by
  rw [cut_to wx (some p) n c k hk]
  unfold cutA
  split
  · rfl
  · simp [Go.Addr.add]
set_option maxRecDepth 100000 in
set_option maxHeartbeats 6400000 in
theorem add_c (m b : List UInt8) (v : Value) (A : Option Addr) (B gs gc c : Nat) (w : World) (hB : B ≤ w.heap.size) (hs : StrV w B gs gc v m) (hb : Src w gs gc v A c b) :
    Calls Try.prog 26 #[.pointer (some ⟨gs, 0, none⟩), .slice A b.length c] w fun e w' => e = .returned (.tuple #[]) ∧ (∃ v', StrV w' B gs gc v' (m ++ b) ∧ (v'.ownBlock = v.ownBlock ∨ ∀ g, v'.ownBlock = some g → w.heap.size ≤ g)) ∧ Sv (Own3 gs gc v) w w' := by
  have h8 := hS_len m (m.length / 64)
  have hn := hs.1.num h8
  have hf := hs.1.free 9
  have hbuf := hs.1.buf h8
  go_enter Try.func26, Try.ntmps26
  go_upto_region 1 with fail
  rw [add64]
  obtain ⟨N, hN⟩ : ∃ N, N = (m.length + b.length) % 18446744073709551616 := ⟨_, rfl⟩
  rw [← hN]
  have HN := Lib.hid hN
  obtain ⟨w1, hw1⟩ : ∃ w1, w1 = w.setCell ⟨gs, 9, none⟩ (.int .u64 (N : Int)) := ⟨_, rfl⟩
  have hS1 : StrN w1 B gs gc v m N := by rw [hw1]; exact StrN.setNum hs N
  have hV1 : Sv (Own3 gs gc v) w w1 := by rw [hw1]; exact (Sv.refl _ _).set (.inl (.inl rfl)) _
  have hB1 : Src w1 gs gc v A c b := hb.sv hV1 (fun _ _ h => h) (.inl rfl)
  rw [← hw1]
  have HB := Lib.hid hb
  have HS1 := Lib.hid hS1
  have HV1 := Lib.hid hV1
  have HB1 := Lib.hid hB1
  clear hw1 hS1 hV1 hB1 hN hs hb hn hf hbuf h8
  obtain ⟨A0, c0, hv⟩ := own_slice HS1.out.2.1
  have hbuf : w1.cell? ⟨gs, 8, none⟩ = some (.slice A0 (m.length % 64) c0) := by rw [← hv]; exact HS1.out.1.buf HS1.out.len
  have HV := Lib.hid hv
  obtain ⟨r, hr⟩ : ∃ r, r = m.length % 64 := ⟨_, rfl⟩
  have HR := Lib.hid hr
  rw [← hr] at hbuf
  clear hv hr
  go_upto_if 20 with fail
  go_cut [1] (fun v1 wx => ∃ k v' A' c', k ≤ b.length ∧ (m.length + k) % 64 = 0 ∧ v1 = .slice A' (b.length - k) c' ∧ StrN wx B gs gc v' (m ++ b.take k) N ∧ Src wx gs gc v' A' c' (b.drop k) ∧ (v'.ownBlock = v.ownBlock ∨ ∀ g, v'.ownBlock = some g → w.heap.size ≤ g) ∧ Sv (Own3 gs gc v) w wx)
  case first =>
    by_cases h0 : r = 0
    · subst h0
      go_wp2_with fail
      go_meet
      exact ⟨0, v, A, c, Nat.zero_le _, by have := HR.out; omega, rfl, by rw [List.take_zero, List.append_nil]; exact HS1.out, HB1.out, .inl rfl, HV1.out⟩
    · have hr0 : (0 : Int) < (r : Int) := by omega
      have H0 := Lib.hid h0
      clear h0
      go_upto_region 3 with fail
      obtain ⟨t, ht⟩ : ∃ t, t = min (64 - r) b.length := ⟨_, rfl⟩
      have hr64 : r < 64 := by have := HR.out; omega
      have ew : RowKit.wrap64 (64 - (r : Int)) = ((64 - r : Nat) : Int) := by simp [RowKit.wrap64]; omega
      have et : (if (b.length : Int) < RowKit.wrap64 (64 - (r : Int)) then (b.length : Int) else RowKit.wrap64 (64 - (r : Int))) = (t : Int) := by rw [ew]; split <;> omega
      rw [et, ew]
      have htb : t ≤ b.length := by omega
      have hcut := fun wx : World => cut_to wx A b.length c t (by have := HB1.out.1; omega)
      have HT := Lib.hid ht
      obtain ⟨R, hR⟩ : ∃ R, R = m.drop (64 * (m.length / 64)) := ⟨_, rfl⟩
      have HOW : Hid (w1.ownsRow B 5 1 (.slice A0 r c0) r (R.map u8v)) := by show World.ownsRow _ _ _ _ _ _ _; rw [hR, HR.out, ← HV.out]; exact HS1.out.2.1
      have HRE : Hid (R = m.drop (64 * (m.length / 64))) := hR
      have hsrc := HB1.out.take htb
      have HRD : Hid (Reads w1 w1.heap.size 1 (cutA A c 0) t ((b.take t).map u8v)) := by have := hsrc.reads; rwa [List.length_take, Nat.min_eq_left htb] at this
      obtain ⟨i5, hi5, hz0, hz1, hz2⟩ := info_parts infoByte
      have HBS : Hid (B ≤ w1.heap.size) := Nat.le_trans hB HV1.out.size
      have ht64 : t ≤ 64 - r := by omega
      clear ht ew et hR hsrc htb
      refine wp_region_held_drew (S := (fun _ => True)) (by kernel_rfl) (trivial) (fun hHeld => ?_)
      refine wpAnyH_takeAt (i := 0) (v := (.pointer (some ⟨gs, 0, none⟩))) rfl (by kernel_rfl) (by kernel_rfl) (by kernel_rfl) (fun _ _ _ h => h) rfl (Or.inl ⟨by rfl, fun w' hS => ?_⟩) hHeld ?_
      · go_simp
      simp only [List.set_cons_zero, List.set_cons_succ]
      refine wpAnyH_takeAt (i := 1) (v := (.pointer (some ⟨gs, 0, none⟩))) rfl (by kernel_rfl) (by kernel_rfl) (by kernel_rfl) (fun _ _ _ h => h) rfl (Or.inl ⟨by rfl, fun w' hS => ?_⟩) hHeld ?_
      · go_simp
      simp only [List.set_cons_zero, List.set_cons_succ]
      refine wpAnyH_takeAt (i := 2) (v := (.pointer (some ⟨gs, 0, none⟩))) rfl (by kernel_rfl) (by kernel_rfl) (by kernel_rfl) (fun _ _ _ h => h) rfl (Or.inl ⟨by rfl, fun w' hS => ?_⟩) hHeld ?_
      · go_simp
      simp only [List.set_cons_zero, List.set_cons_succ]
      refine wpAnyH_takeAt (i := 3) (v := (.pointer (some ⟨gs, 8, none⟩))) rfl (by kernel_rfl) (by kernel_rfl) (by kernel_rfl) (fun _ _ _ h => h) rfl (Or.inl ⟨by rfl, fun w' hS => ?_⟩) hHeld ?_
      · go_simp
      simp only [List.set_cons_zero, List.set_cons_succ]
      refine wpAnyH_takeAt (i := 5) (v := (.slice A b.length c)) rfl (by kernel_rfl) (by kernel_rfl) (by kernel_rfl) (fun _ _ _ h => h) rfl (Or.inl ⟨by rfl, fun w' hS => ?_⟩) hHeld ?_
      · go_simp
      simp only [List.set_cons_zero, List.set_cons_succ]
      refine wpAnyH_takeAt (i := 6) (v := (.int .i64 (t : Int))) rfl (by kernel_rfl) (by kernel_rfl) (by kernel_rfl) (fun _ _ _ h => h) rfl (Or.inl ⟨by rfl, fun w' hS => ?_⟩) hHeld ?_
      · go_simp
      simp only [List.set_cons_zero, List.set_cons_succ]
      refine wpAnyH_takeAt (i := 7) (v := (.slice (cutA A c 0) t c)) rfl (by kernel_rfl) (by kernel_rfl) (by kernel_rfl) (fun _ _ _ h => h) rfl (Or.inl ⟨by rfl, fun w' hS => ?_⟩) hHeld ?_
      · go_simp
      simp only [List.set_cons_zero, List.set_cons_succ]
      refine wpAnyH_ready (rs := [4]) (by kernel_rfl) (by simp) (AllReadyH.cons rfl (fun K' hK => ?_) AllReadyH.nil)
      go_simp
      refine hK.out _ _ hHeld (fun hHeld' => ?_)
      clear hK hHeld
      have hHeld := hHeld'
      clear hHeld'
      refine wpAnyH_ready (rs := [8]) (by kernel_rfl) (by simp) (AllReadyH.cons rfl (fun K' hK => ?_) AllReadyH.nil)
      refine step_append_any _ (by rfl) (.tmp 34) (.tmp 37) _ (by rfl) B 5 i5 _ 1 1 Try.underlying27 hi5 hz0 hz1 hz2 rfl (by omega) (.slice A0 r c0) r (R.map u8v) (by rfl) HOW.out
        w1.heap.size (cutA A c 0) t c ((b.take t).map u8v) (by rfl) HRD.out (u8_one _) (by simp only [maxLen]; omega) (by omega) HBS.out ?_
      intro v5 w5 hown5 hg5 hv5
      obtain ⟨A5, c5, rfl⟩ := own_slice hown5
      replace hg5 : w1.grownBy w5 (Value.slice A0 r c0).ownBlock := ⟨hg5.os, hg5.tape, hg5.output, hg5.size, hg5.block⟩
      have HV5 := Lib.hid (HV1.out.grown (w'' := w5) hg5 (fun g hg => .inl (.inr (.inr (by rw [HV.out, ← HR.out]; exact hg)))))
      have HV5o : Hid ((Value.slice A5 (r + t) c5).ownBlock = v.ownBlock ∨ ∀ g, (Value.slice A5 (r + t) c5).ownBlock = some g → w.heap.size ≤ g) := by
        rcases hv5 with hv5 | hv5
        · exact .inl (by rw [HV.out, ← HR.out]; exact hv5)
        · exact .inr (fun g hg => by rw [hv5] at hg; injection hg with hg; rw [← hg]; exact HV1.out.size)
      have HO5 := Lib.hid (show w5.ownsRow B 5 1 (.slice A5 (r + t) c5) (r + t) ((R ++ b.take t).map u8v) by rw [List.map_append]; exact hown5)
      have HSB5 : Hid (SB w5 gs (hS m (m.length / 64)) v N gc) := Blk.grown (w := w1) HS1.out.1 hg5 (by have := HS1.out.own_s; rw [HV.out, ← HR.out] at this; exact Ne.symm this)
      have HC5 : Hid (CI w5 gc) := HS1.out.2.2.same (hg5.block gc HS1.out.2.2.lt (by have := HS1.out.own_c; rw [HV.out, ← HR.out] at this; exact Ne.symm this))
      have hfz := HSB5.out.free 8
      have hcl := HSB5.out.buf HS1.out.len
      refine hK.out _ _ trivial (fun hHeld' => ?_)
      clear hK hHeld hown5 hg5 hv5
      have hHeld := hHeld'
      clear hHeld'
      refine wpAnyH_putAt rfl ?_
      simp only [List.set_cons_zero, List.set_cons_succ]
      refine wpAnyH_takeAt (i := 9) (v := (.pointer (some ⟨gs, 0, none⟩))) rfl (by kernel_rfl) (by kernel_rfl) (by kernel_rfl) (fun _ _ _ h => h) rfl (Or.inl ⟨by rfl, fun w' hS => ?_⟩) hHeld ?_
      · go_simp
      simp only [List.set_cons_zero, List.set_cons_succ]
      refine wpAnyH_takeAt (i := 10) (v := (.pointer (some ⟨gs, 8, none⟩))) rfl (by kernel_rfl) (by kernel_rfl) (by kernel_rfl) (fun _ _ _ h => h) rfl (Or.inl ⟨by rfl, fun w' hS => ?_⟩) hHeld ?_
      · go_simp
      simp only [List.set_cons_zero, List.set_cons_succ]
      refine wpAnyH_ready (rs := [11]) (by kernel_rfl) (by simp) (AllReadyH.cons rfl (fun K' hK => ?_) AllReadyH.nil)
      go_simp
      refine hK.out _ _ hHeld (fun hHeld' => ?_)
      clear hK hHeld
      have hHeld := hHeld'
      clear hHeld'
      refine wpAnyH_done (by kernel_rfl) ?_ _
      obtain ⟨q, hq⟩ : ∃ q, q = r + t := ⟨_, rfl⟩
      rw [← hq] at HV5o HO5
      rw [← hq]
      obtain ⟨w6, hw6⟩ : ∃ w6, w6 = w5.setCell ⟨gs, 8, none⟩ (.slice A5 q c5) := ⟨_, rfl⟩
      have HSB6 : Hid (SB w6 gs (hS m (m.length / 64)) (.slice A5 q c5) N gc) := by show SB _ _ _ _ _ _; rw [hw6]; exact HSB5.out.setBuf HS1.out.len _
      have HO6 : Hid (w6.ownsRow B 5 1 (.slice A5 q c5) q ((R ++ b.take t).map u8v)) := by show World.ownsRow _ _ _ _ _ _ _; rw [hw6]; exact own_set HO5.out (own_blk_ne HO5.out HSB5.out (by decide)) 8 _
      have HC6 : Hid (CI w6 gc) := by show CI _ _; rw [hw6]; exact HC5.out.same (Below.heap_setCell _ _ _ _ (by show gc ≠ gs; exact Ne.symm HS1.out.ne))
      have HV6 : Hid (Sv (Own3 gs gc v) w w6) := by show Sv _ _ _; rw [hw6]; exact HV5.out.set (.inl (.inl rfl)) _
      rw [← hw6]
      have HQ := Lib.hid hq
      have hq64 : q ≤ 64 := by omega
      have hcf := fun wx : World => cut_from wx A b.length c t (by have := HT.out; omega)
      clear hcl hfz hHeld hw6 HSB5 HO5 HC5 HV5 hbuf hcut hr0
      have hbuf : w6.cell? ⟨gs, 8, none⟩ = some (.slice A5 q c5) := HSB6.out.buf HS1.out.len
      by_cases hq2 : q = 64
      · subst hq2
        have hRl : R.length = r := by have := HOW.out.1; simpa using this
        have hMl : (R ++ b.take t).length = 64 := by rw [List.length_append, hRl, List.length_take]; have := HQ.out; have := HT.out; omega
        obtain ⟨g5, c5', e5, hg5B, hg5l, hcells⟩ := row_form (show ByteRow w6 B (.slice A5 64 c5) (R ++ b.take t) by unfold ByteRow; rw [hMl]; exact HO6.out) (by omega)
        rw [hMl] at e5 hcells
        injection e5 with e5 _ e6
        subst e5 e6
        have hne := own_blk_ne HO6.out HSB6.out (by decide)
        have hcap : 64 ≤ c5 := by have := own_cap (show ByteRow w6 B (.slice (some ⟨g5, 0, none⟩) (R ++ b.take t).length c5) (R ++ b.take t) by unfold ByteRow; rw [hMl]; exact HO6.out); omega
        have hnc : g5 ≠ gc := by
          obtain ⟨cs, hcs⟩ := HC6.out.blk
          have := own_blk_ne HO6.out hcs (by decide)
          exact fun e => this (by rw [e]; rfl)
        have hns : g5 ≠ gs := fun e => hne (by rw [e]; rfl)
        have HP := Lib.hid (piece_c _ (R ++ b.take t) _ gs gc N g5 0 c5 w6 HS1.out.len hMl HSB6.out HC6.out hg5l hns hnc hcap (fun i hi => by rw [Nat.zero_add]; exact hcells i hi))
        have HCAP := Lib.hid hcap
        clear hRl hcells hne hcap hMl hq hq64
        go_upto_region 7 with (first
          | (go_at_call 50; refine HP.out.mono ?_; rintro e0 w7 ⟨rfl, hS7, hD7, hV7⟩))
        have hbuf7 : w7.cell? ⟨gs, 8, none⟩ = some (.slice (some ⟨g5, 0, none⟩) 64 c5) := hS7.buf (cmp_len _ _)
        have hfr7 : w7.frozen? ⟨gs, 8, none⟩ = false := hS7.free 8
        have HS7 := Lib.hid hS7
        have HD7 := Lib.hid hD7
        have HV7 := Lib.hid hV7
        clear hS7 hD7 hV7 hbuf
        have hcut0 := fun wx : World => cut_to wx (some ⟨g5, 0, none⟩) 64 c5 0 (Nat.zero_le _)
        go_upto_region 8 with fail
        go_meet
        have htb : t ≤ b.length := by have := HT.out; omega
        have htl : (b.take t).length = t := by rw [List.length_take]; omega
        have hfull : (b.take t).length + m.length % 64 = 64 := by rw [htl]; have := HQ.out; have := HR.out; omega
        have hmm : (m ++ b.take t).length % 64 = 0 := by rw [List.length_append]; omega
        have hO7 : w7.ownsRow B 5 1 (.slice (some ⟨g5, 0, none⟩) 64 c5) 64 ((R ++ b.take t).map u8v) := HV7.out.own HO6.out (fun g hg => by
          have : g = g5 := by simpa [Value.ownBlock] using hg.symm
          subst this
          rintro (h | h)
          · exact hns h
          · exact hnc h)
        have hSv : Sv (Own3 gs gc v) w (w7.setCell ⟨gs, 8, none⟩ (.slice (some ⟨g5, 0, none⟩) 0 c5)) := (HV6.out.trans HV7.out (fun k _ hk => Or.elim hk .inl (fun h => .inr (.inl h)))).set (.inl (.inl rfl)) _
        refine ⟨t, .slice (some ⟨g5, 0, none⟩) 0 c5, _, _, htb, by have := HQ.out; have := HR.out; omega, rfl, ⟨?_, ?_, ?_⟩, ?_, HV5o.out, hSv⟩
        · rw [hS_full m (b.take t) hfull, ← HRE.out]
          exact HS7.out.setBuf (cmp_len _ _) _
        · rw [hmm, drop_full _ hmm]
          exact own_set (row_zero hO7) (by intro h; exact hns (by simpa [Value.ownBlock] using h)) 8 _
        · exact HD7.out.ci.same (Below.heap_setCell _ _ _ _ (by show gc ≠ gs; exact Ne.symm HS1.out.ne))
        · exact (HB.out.sv hSv (fun _ _ h => h) HV5o.out).drop htb
      · have hlt : (q : Int) < 64 := by omega
        have HQ2 := Lib.hid hq2
        clear hq2
        go_wp2_with fail
        refine bodyPost_ret (results_none rfl _ _ _) rfl ?_
        have ht2 : t = b.length := by have := HT.out; have := HQ.out; have := HQ2.out; omega
        have e : (m ++ b).length / 64 = m.length / 64 := by rw [List.length_append]; have := HR.out; have := HQ.out; have := HQ2.out; omega
        refine ⟨rfl, ⟨.slice A5 q c5, ⟨?_, ?_, HC6.out⟩, HV5o.out⟩, HV6.out⟩
        · rw [hS_rest m b e, List.length_append, ← HN.out]; exact HSB6.out
        · have := HO6.out
          rw [HRE.out, ht2, List.take_length] at this
          rw [drop_rest m b e, show (m ++ b).length % 64 = q by rw [List.length_append]; have := HR.out; have := HQ.out; have := HQ2.out; omega]
          exact this
  case rest =>
    obtain ⟨k, v', A', c', hk, hkm, rfl, hS2, hB2, hv2, hV2⟩ := hcut
    have HK := Lib.hid hk
    have HKM := Lib.hid hkm
    have HS2 := Lib.hid hS2
    have HB2 := Lib.hid hB2
    have HV2 := Lib.hid hv2
    have HSV2 := Lib.hid hV2
    clear hk hkm hS2 hB2 hv2 hV2 HS1 HV1 HB1 hbuf HV HR
    go_upto_region 8 with fail
    go_loopg [1] (b.length - k) (fun gg v1 wx => ∃ k v' A' c', k ≤ b.length ∧ (m.length + k) % 64 = 0 ∧ gg = b.length - k ∧ v1 = .slice A' (b.length - k) c' ∧ StrN wx B gs gc v' (m ++ b.take k) N ∧ Src wx gs gc v' A' c' (b.drop k) ∧ (v'.ownBlock = v.ownBlock ∨ ∀ g, v'.ownBlock = some g → w.heap.size ≤ g) ∧ Sv (Own3 gs gc v) w wx)
    case atStart => exact ⟨k, v', A', c', HK.out, HKM.out, rfl, rfl, HS2.out, HB2.out, HV2.out, HSV2.out⟩
    case round =>
      clear HK HKM HS2 HB2 HV2 HSV2
      obtain ⟨k, v', A', c', hk, hkm, rfl, rfl, hS2, hB2, hv2, hV2⟩ := hrel
      have HK := Lib.hid hk
      have HKM := Lib.hid hkm
      have HS2 := Lib.hid hS2
      have HB2 := Lib.hid hB2
      have HV2 := Lib.hid hv2
      have HSV2 := Lib.hid hV2
      clear hk hkm hS2 hB2 hv2 hV2
      obtain ⟨d, hd⟩ : ∃ d, d = b.length - k := ⟨_, rfl⟩
      have HD := Lib.hid hd
      rw [← hd]
      clear hd
      by_cases hd2 : 64 ≤ d
      · have hge : (64 : Int) ≤ (d : Int) := by omega
        have hdl : (b.drop k).length = d := by rw [List.length_drop]; exact HD.out.symm
        have hdc : d ≤ c' := by have := HB2.out.1; omega
        obtain ⟨gb, o, hA, hgb, hgs, hgc, hown, hcs⟩ := HB2.out.2 (by omega)
        subst hA
        have hct : ∀ wx : World, (Instr.slice 27 (.slice (some ⟨gb, o, none⟩) d c') none (some (.int .i64 64)) none).run Try.prog wx = .ok (.slice (some ⟨gb, o, none⟩) 64 c') wx := fun wx => cut_to0 wx ⟨gb, o, none⟩ d c' 64 (by omega)
        have hcf : ∀ wx : World, (Instr.slice 27 (.slice (some ⟨gb, o, none⟩) d c') (some (.int .i64 64)) none none).run Try.prog wx = .ok (.slice (cutA (some ⟨gb, o, none⟩) c' 64) (d - 64) (c' - 64)) wx := fun wx => cut_from wx (some ⟨gb, o, none⟩) d c' 64 hd2
        have hpl : ((b.drop k).take 64).length = 64 := by rw [List.length_take]; omega
        have HP := Lib.hid (piece_c _ ((b.drop k).take 64) v' gs gc N gb o c' wr HS2.out.len hpl HS2.out.1 HS2.out.2.2 hgb hgs hgc (by omega) (fun i hi => by rw [hcs i (by omega)]; simp [List.getD_eq_getElem?_getD, hi]))
        have HD2 := Lib.hid hd2
        have HOWN := Lib.hid hown
        have HPL := Lib.hid hpl
        clear hdl hdc hpl hgb hgs hgc hown hcs hd2
        go_wp2_with (first
          | (go_at_call 50; refine HP.out.mono ?_; rintro e0 w7 ⟨rfl, hS7, hD7, hV7⟩))
        go_roundg (b.length - (k + 64))
        case measure => have := HD2.out; have := HD.out; omega
        case rel =>
          have hk64 : k + 64 ≤ b.length := by have := HD2.out; have := HD.out; omega
          have htk : b.take (k + 64) = b.take k ++ (b.drop k).take 64 := List.take_add
          have hml : (m ++ b.take k).length % 64 = 0 := by rw [List.length_append, List.length_take, Nat.min_eq_left HK.out]; exact HKM.out
          have hM : ∀ g, g < w.heap.size → (g = gs ∨ g = gc) → Own3 gs gc v g := fun _ _ h => Or.elim h .inl (fun h => .inr (.inl h))
          have hM' : ∀ g, g < wr.heap.size → (g = gs ∨ g = gc) → Own3 gs gc v' g := fun _ _ h => Or.elim h .inl (fun h => .inr (.inl h))
          have hSv : Sv (Own3 gs gc v) w w7 := HSV2.out.trans hV7 hM
          have hrow := HS2.out.2.1
          rw [hml, drop_full _ hml] at hrow
          have hrow7 := hV7.own hrow (fun g hg => by
            rintro (h | h)
            · exact HS2.out.own_s (by rw [← h]; exact hg)
            · exact HS2.out.own_c (by rw [← h]; exact hg))
          have hfull : ((b.drop k).take 64).length + (m ++ b.take k).length % 64 = 64 := by rw [HPL.out, hml]
          have hmm : ((m ++ b.take k) ++ (b.drop k).take 64).length % 64 = 0 := by rw [List.length_append, HPL.out]; omega
          refine ⟨k + 64, v', _, _, hk64, by have := HKM.out; omega, rfl, by rw [HD.out, Nat.sub_sub], ⟨?_, ?_, ?_⟩, ?_, HV2.out, hSv⟩
          · rw [htk, ← List.append_assoc, hS_full _ _ hfull, drop_full _ hml, List.nil_append]
            exact hS7
          · rw [htk, ← List.append_assoc, hmm, drop_full _ hmm]
            exact hrow7
          · exact hD7.ci
          · have := (HB2.out.sv hV7 hM' (.inl rfl)).drop (k := 64) (by rw [List.length_drop]; omega)
            rwa [List.drop_drop] at this
      · have hlt : (d : Int) < 64 := by omega
        have HLT := Lib.hid hd2
        clear hd2
        have hbuf : wr.cell? ⟨gs, 8, none⟩ = some v' := HS2.out.1.buf HS2.out.len
        obtain ⟨A0, c0, hv⟩ := own_slice HS2.out.2.1
        have hml : (m ++ b.take k).length % 64 = 0 := by rw [List.length_append, List.length_take, Nat.min_eq_left HK.out]; exact HKM.out
        rw [hml] at hv
        subst hv
        have HOW : Hid (wr.ownsRow B 5 1 (.slice A0 0 c0) 0 []) := by
          show World.ownsRow _ _ _ _ _ _ _
          have := HS2.out.2.1
          rw [hml, drop_full _ hml] at this
          exact this
        have HRD : Hid (Reads wr wr.heap.size 1 A' d ((b.drop k).map u8v)) := by
          have := HB2.out.reads
          rw [List.length_drop, ← HD.out] at this
          exact this
        obtain ⟨i5, hi5, hz0, hz1, hz2⟩ := info_parts infoByte
        have HBS : Hid (B ≤ wr.heap.size) := Nat.le_trans hB HSV2.out.size
        have HML := Lib.hid hml
        clear hml
        go_upto_region 11 with fail
        go_wp2_with
         (at_builtin
          refine wpList_append_any _ rfl (.tmp 77) (.tmp 78) _ rfl B 5 i5 _ 1 1 Try.underlying27 hi5 hz0 hz1 hz2 rfl (by omega) (.slice A0 0 c0) 0 [] rfl HOW.out
            wr.heap.size A' d c' ((b.drop k).map u8v) rfl HRD.out (u8_one _) (by simp only [maxLen]; omega) (by omega) HBS.out ?_
          intro v5 w5 hown5 hg5 hv5
          obtain ⟨A5, c5, rfl⟩ := own_slice hown5
          replace hg5 : wr.grownBy w5 (Value.slice A0 0 c0).ownBlock := ⟨hg5.os, hg5.tape, hg5.output, hg5.size, hg5.block⟩
          have HV5 : Hid (Sv (Own3 gs gc v) w w5) := HSV2.out.grown (w'' := w5) hg5 (fun g hg => by
            rcases HV2.out with h | h
            · exact .inl (.inr (.inr (by rw [← h]; exact hg)))
            · exact .inr (h g hg))
          have HV5o : Hid ((Value.slice A5 (0 + d) c5).ownBlock = v.ownBlock ∨ ∀ g, (Value.slice A5 (0 + d) c5).ownBlock = some g → w.heap.size ≤ g) := by
            rcases hv5 with hv5 | hv5
            · rcases HV2.out with h | h
              · exact .inl (by rw [← h]; exact hv5)
              · exact .inr (fun g hg => h g (by rw [← hv5]; exact hg))
            · exact .inr (fun g hg => by rw [hv5] at hg; injection hg with hg; rw [← hg]; exact HSV2.out.size)
          have HO5 := Lib.hid (show w5.ownsRow B 5 1 (.slice A5 (0 + d) c5) (0 + d) ((b.drop k).map u8v) from hown5)
          have HSB5 : Hid (SB w5 gs (hS (m ++ b.take k) ((m ++ b.take k).length / 64)) (.slice A0 0 c0) N gc) := Blk.grown (w := wr) HS2.out.1 hg5 (Ne.symm HS2.out.own_s)
          have HC5 : Hid (CI w5 gc) := HS2.out.2.2.same (hg5.block gc HS2.out.2.2.lt (Ne.symm HS2.out.own_c))
          have hfz := HSB5.out.free 8
          have hcl := HSB5.out.buf HS2.out.len
          clear hown5 hg5 hv5)
        rw [Nat.zero_add] at HV5o HO5
        go_end0
        have hne := own_blk_ne HO5.out HSB5.out (by decide)
        have hd2 : d < 64 := by have := HLT.out; omega
        have hl0 : (m ++ b.take k).length % 64 = 0 := HML.out
        have hdl : (b.drop k).length = d := by rw [List.length_drop]; exact HD.out.symm
        have emm : (m ++ b.take k) ++ b.drop k = m ++ b := by rw [List.append_assoc, List.take_append_drop]
        have e : ((m ++ b.take k) ++ b.drop k).length / 64 = (m ++ b.take k).length / 64 := by rw [List.length_append, hdl]; omega
        refine ⟨rfl, ⟨.slice A5 d c5, ?_, HV5o.out⟩, HV5.out.set (.inl (.inl rfl)) _⟩
        rw [← emm]
        refine ⟨?_, ?_, HC5.out.same (Below.heap_setCell _ _ _ _ (by show gc ≠ gs; exact Ne.symm HS2.out.ne))⟩
        · rw [hS_rest _ _ e, emm, show (m ++ b).length % 18446744073709551616 = N by rw [List.length_append]; exact HN.out.symm]; exact HSB5.out.setBuf HS2.out.len _
        · rw [drop_rest _ _ e, drop_full _ hl0, List.nil_append, show ((m ++ b.take k) ++ b.drop k).length % 64 = d by rw [List.length_append, hdl]; omega]
          exact own_set HO5.out hne 8 _
end Go.Proofs.Ytlapgccfgkokcaa
