/- The law RtcpBack (its walk). Conditions: the reports and the bytes lie in memory. (Printed by gen8Z.py.) -/
import Derived.Test.YtkfimncbfbbopaaGn
import Derived.Test.YtkfimncbfbbopaaGd
import Derived.BigQuiet
set_option linter.unusedVariables false
set_option linter.unusedSimpArgs false
namespace Go.Proofs.Ytkfimncbfbbopaa
open Go.RowKit
attribute [local go_sem ↓] Go.wp_at_zero Go.wp_at_succ

theorem good_body {r : Rep} (h : goodS r) : r.body.length ≤ (bodyS r).length ∧ 0 ≤ r.ex ∧ r.ex ≤ 63 := by
  obtain ⟨k, hk, hn, hc⟩ := h
  match k, hn, hc with
  | 1, hn, hc => obtain ⟨_, a, _, _, _, _, _, _, b⟩ := hn; omega
  | 2, hn, hc => obtain ⟨_, _, _, _, _, a, _, _, _, _, _, _, b⟩ := hn; omega
  | 3, hn, hc => obtain ⟨_, _, _, _, a, _, _, _, _, _, _, b⟩ := hn; omega
  | 4, hn, hc => obtain ⟨_, _, _, _, a, _, _, _, _, _, _, _, b⟩ := hn; omega
  | 5, hn, hc => obtain ⟨_, _, _, _, a, _, _, _, _, _, _, b⟩ := hn; omega
  | 6, hn, hc => obtain ⟨_, _, _, _, _, _, _, _, _, b⟩ := hn; obtain ⟨_, c, d, _⟩ := hc; omega
  | 7, hn, hc =>
    obtain ⟨_, _, _, _, _, _, a, _, _, _, _, _⟩ := hn
    have hk7 : r.kind = 7 := hk
    have hb : bodyS r = r.body := by unfold bodyS; rw [if_pos hk7]
    rw [hb]
    omega
  | 0, hn, _ => exact hn.elim
  | k + 8, hn, _ => exact hn.elim
theorem mem_le {rs : List Rep} {r : Rep} (h : r ∈ rs) : (bodyS r).length ≤ (bytesS rs).length := by
  obtain ⟨l1, l2, e⟩ := List.append_of_mem h
  rw [e]
  simp only [bytesS, List.flatMap_append, List.flatMap_cons, List.length_append, oneB_len]
  omega
theorem parse_fit {b : List UInt8} (h : (parseS b).2 = 0) : ∀ r ∈ (parseS b).1, FitM r := by
  intro r hr
  obtain ⟨e1, e2, e3, e4⟩ := bytes_parse h
  obtain ⟨hg, hf⟩ := e3 r hr
  obtain ⟨i, hi⟩ := List.getElem?_of_mem hr
  obtain ⟨s1, s2, s3, s4⟩ := parse_small hi
  have hm := mem_le hr
  rw [e1] at hm
  obtain ⟨g1, g2, g3⟩ := good_body hg
  exact ⟨hf, by omega, by omega, by omega, by omega, by omega, by omega, by omega⟩
theorem FitM.of {r : Rep} (hf : FitR r) (hx : -9223372036854775808 ≤ r.ex ∧ r.ex ≤ 9223372036854775807) (hl : LenLe 1500 r) : FitM r := by
  obtain ⟨h1, h2, h3, h4, h5⟩ := hl
  exact ⟨hf, by omega, by omega, by omega, by omega, by omega, hx.1, hx.2⟩
set_option maxRecDepth 100000 in
set_option maxHeartbeats 12800000 in
theorem backLaw_c (rs : List Rep) (A : Option Addr) (n cap : Nat) (b : List UInt8) (Ab : Option Addr) (nb cb : Nat) (w : World) (h : RepsAt w A n rs) (hl : rs.length = n) (hn : n ≤ 140737488355328) (hf : ∀ r ∈ rs, FitR r ∧ LenLe 140737488355328 r ∧ -9223372036854775808 ≤ r.ex ∧ r.ex ≤ 9223372036854775807)
    (hb : SlV w (.slice Ab nb cb) b) (hnb : nb ≤ 140737488355328) :
    Calls Try.prog 6 #[.slice A n cap, .slice Ab nb cb] w fun e w' => e = .returned (.bool true) ∧ Below w.heap.size w w' := by
  have H := Lib.hid h
  have HLEN := Lib.hid hl
  have HF := Lib.hid hf
  have HSB := Lib.hid hb
  have HN := Lib.hid hn
  have HNB := Lib.hid hnb
  clear h hl hf hb hn hnb
  go_enter Try.func6, Try.ntmps6
  go_upto_if 17 with (first
    | (go_at_call 9
       refine (awake_c _).mono ?_
       rintro e0 w0 ⟨rfl, hb0⟩
       have HB0 := Lib.hid hb0
       clear hb0)
    | (go_at_call 22
       refine (heavy_c rs A n cap w0 (H.out.below HB0.out) HLEN.out HN.out (fun r hr => (HF.out r hr).2.1)).mono ?_
       rintro e1 w1 ⟨q, rfl, hq, hb1⟩
       have HQ := Lib.hid hq
       have HB1 : Hid (Below w.heap.size w w1) := bcall HB0.out hb1
       clear hq hb1))
  clear HB0
  cases q with
  | true =>
    go_wp2_with fail
    go_ret
    exact ⟨rfl, HB1.out⟩
  | false =>
    have HSH := Lib.hid (HQ.out rfl)
    have HFM : Hid (∀ r ∈ rs, FitM r) := fun r hr => FitM.of (HF.out r hr).1 (HF.out r hr).2.2 (HSH.out.2 r hr)
    have HNS : Hid (n ≤ 100) := by show n ≤ 100; rw [← HLEN.out]; exact HSH.out.1
    have hni : (n : Int) ≤ 100 := by have := HNS.out; omega
    clear HQ
    go_upto_region 6 with (first
      | (go_at_call 23
         refine (bytes_c rs A n cap w1 (H.out.below HB1.out) HLEN.out (by have := HNS.out; omega) HFM.out).mono ?_
         rintro e2 w2 ⟨v2, z2, rfl, herr2, hs2, hb2⟩
         obtain ⟨A2, c2, rfl, _, _⟩ := id hs2
         obtain ⟨m2, hm2⟩ : ∃ m2, m2 = (if z2 = 0 then bytesS rs else ([] : List UInt8)).length := ⟨_, rfl⟩
         rw [← hm2] at hs2 ⊢
         have HM2 := Lib.hid hm2
         have HE2 := Lib.hid herr2
         have HS2 := Lib.hid hs2
         have HB2 : Hid (Below w.heap.size w w2) := bcall HB1.out hb2
         clear hm2 herr2 hs2 hb2))
    clear HB1
    go_upto_if 24 with fail
    go_cut [] (fun wx => Below w.heap.size w wx)
    case first =>
      by_cases hz : z2 = 0
      case neg =>
        have q1 : (z2 == 0) = false := by simpa using hz
        clear hz
        go_wp2_with fail
        go_meet
        exact HB2.out
      subst hz
      have HM2' : Hid (m2 = (bytesS rs).length) := by show _ = _; rw [HM2.out, if_pos rfl]
      have HS2' : Hid (SlV w2 (.slice A2 m2 c2) (bytesS rs)) := by have := HS2.out; rw [if_pos rfl] at this; exact this
      have HE2' : Hid (rs ≠ [] ∧ (∀ r ∈ rs, goodS r) ∧ (bytesS rs).length ≤ 1200) := by
        rcases HE2.out with ⟨h, _⟩ | ⟨h, _⟩ | ⟨_, h1, h2, h3⟩
        · exact absurd h (by decide)
        · exact absurd h (by decide)
        · exact ⟨h1, h2, h3⟩
      have hm2 : m2 ≤ 1200 := by rw [HM2'.out]; exact HE2'.out.2.2
      have HGF : Hid (∀ r ∈ rs, goodS r ∧ FitR r) := fun r hr => ⟨HE2'.out.2.1 r hr, (HFM.out r hr).fit⟩
      have HPB : Hid (parseS (bytesS rs) = (rs, 0)) := parse_bytes HE2'.out.1 HGF.out HE2'.out.2.2
      have HIB : Hid (isB (bytesS rs) = true) := isB_bytes HE2'.out.1 HGF.out
      have HZ3 : Hid ((0 : Int) = (parseS (bytesS rs)).2) := by show _ = _; rw [HPB.out]
      have HK3 : Hid (n = (parseS (bytesS rs)).1.length) := by show _ = _; rw [HPB.out]; exact HLEN.out.symm
      have q3 : ((n : Int) == (n : Int)) = true := by simp
      have q4 : ((n : Int) != (n : Int)) = false := by simp
      clear HM2 HS2 HE2
      go_upto_region 11 with (first
        | (go_at_call 10
           refine (parse_z HS2'.out (by omega) HZ3.out HK3.out).mono ?_
           rintro e3 w3 ⟨A3, c3, rfl, hr3, hb3⟩
           have HR3 : Hid (RepsAt w3 A3 n rs) := by have := hr3; rw [HPB.out] at this; exact this
           have HS3 : Hid (SlV w3 (.slice A2 m2 c2) (bytesS rs)) := HS2'.out.below hb3
           have HB3 : Hid (Below w.heap.size w w3) := bcall HB2.out hb3
           clear hr3 hb3)
        | (go_at_call 12
           refine (is_c (bytesS rs) A2 m2 c2 w3 HS3.out).mono ?_
           rintro e4 _ ⟨he, rfl⟩
           rw [HIB.out] at he
           subst he))
      clear q3 q4 HS3 HS2' HB2
      have H3 : Hid (RepsAt w3 A n rs) := H.out.below HB3.out
      go_loopg [9] n (fun gg v9 wx => ∃ i : Nat, gg = n - i ∧ i ≤ n ∧ v9 = .int .i64 (i : Int) ∧ Below w3.heap.size w3 wx)
      case atStart => exact ⟨0, by omega, by omega, rfl, Below.refl _ _⟩
      case round =>
        obtain ⟨i, hgg, hi, rfl, hbx⟩ := hrel
        have HBX := Lib.hid hbx
        have HG := Lib.hid hgg
        clear hbx hgg
        by_cases hin : i < n
        · have hini : (i : Int) < (n : Int) := by omega
          have hw1 : IntKind.i64.wrap ((i : Int) + 1) = ((i + 1 : Nat) : Int) := by rw [IntKind.wrap_i64]; omega
          obtain ⟨r, hr⟩ : ∃ r, rs[i]? = some r := ⟨_, List.getElem?_eq_getElem (by rw [HLEN.out]; exact hin)⟩
          have HFX : Hid (FitM r) := HFM.out r (List.mem_of_getElem? hr)
          have HLT := Lib.hid hin
          obtain ⟨g3, o3, hA3, hg3, h3⟩ := H3.out.at_ (by omega)
          obtain ⟨L3, hv3, hl3, hrg3⟩ := h3 i r hr
          obtain ⟨g4, o4, hA4, hg4, h4⟩ := HR3.out.at_ (by omega)
          obtain ⟨L4, hv4, hl4, hrg4⟩ := h4 i r hr
          have HG3 : Hid (g3 < wr.heap.size) := Nat.lt_of_lt_of_le hg3 HBX.out.size
          have HG4 : Hid (g4 < wr.heap.size) := Nat.lt_of_lt_of_le hg4 HBX.out.size
          have HV3 : Hid (RepV wr L3.toArray r) := hv3.below HBX.out
          have HV4 : Hid (RepV wr L4.toArray r) := hv4.below HBX.out
          have HRG3 : Hid (wr.rangeAt g3 (o3 + i * 16) L3) := below_range hrg3 HBX.out hg3
          have HRG4 : Hid (wr.rangeAt g4 (o4 + i * 16) L4) := below_range hrg4 HBX.out hg4
          have HI3 : Hid ((Try.prog.info? 46).map (·.size) = some L3.length) := by show _ = _; rw [hl3]; exact infoRep
          have HI4 : Hid ((Try.prog.info? 46).map (·.size) = some L4.length) := by show _ = _; rw [hl4]; exact infoRep
          subst hA3 hA4
          clear hr hin hg3 h3 hv3 hl3 hrg3 hg4 h4 hv4 hl4 hrg4
          go_upto_region 13 with fail
          obtain ⟨Bq, hBq⟩ : ∃ Bq, Bq = wr.heap.size := ⟨_, rfl⟩
          have HBQ := Lib.hid hBq
          clear hBq
          have HBD : Hid (Below wr.heap.size wr (World.drew wr)) := bdrew (Below.refl _ _)
          refine wp_region_held_drew (S := (fun w2 => Below Bq wr w2)) (by kernel_rfl) (HBQ.out.symm ▸ HBD.out) (fun hHeld => ?_)
          refine wpAnyH_takeAt (i := 0) (v := (.slice (some ⟨g3, o3, none⟩) n cap)) rfl (by kernel_rfl) (by kernel_rfl) (by kernel_rfl) (fun _ _ _ h => h) rfl (Or.inl ⟨by rfl, fun w' hS => ?_⟩) hHeld ?_
          · go_simp
          simp only [List.set_cons_zero, List.set_cons_succ]
          refine wpAnyH_takeAt (i := 1) (v := (.int .i64 (i : Int))) rfl (by kernel_rfl) (by kernel_rfl) (by kernel_rfl) (fun _ _ _ h => h) rfl (Or.inl ⟨by rfl, fun w' hS => ?_⟩) hHeld ?_
          · go_simp
          simp only [List.set_cons_zero, List.set_cons_succ]
          refine wpAnyH_takeAt (i := 2) (v := (.pointer (some ⟨g3, o3 + i * 16, none⟩))) rfl (by kernel_rfl) (by kernel_rfl) (by kernel_rfl) (fun _ _ _ h => h) rfl (Or.inl ⟨by rfl, fun w' hS => ?_⟩) hHeld ?_
          · go_simp
          simp only [List.set_cons_zero, List.set_cons_succ]
          refine wpAnyH_takeAt (i := 3) (v := (.agg L3.toArray)) rfl (by kernel_rfl) (by kernel_rfl) (by kernel_rfl) (fun _ _ _ h => h) rfl (yieldsIf_load_mid (by rfl) 46 _ rfl g3 (o3 + i * 16) rfl L3 _ (fun w' hS => below_range HRG3.out hS (HBQ.out.symm ▸ HG3.out)) Try.underlying46 rfl HI3.out) hHeld ?_
          simp only [List.set_cons_zero, List.set_cons_succ]
          refine wpAnyH_takeAt (i := 5) (v := (.slice (some ⟨g4, o4, none⟩) n c3)) rfl (by kernel_rfl) (by kernel_rfl) (by kernel_rfl) (fun _ _ _ h => h) rfl (Or.inl ⟨by rfl, fun w' hS => ?_⟩) hHeld ?_
          · go_simp
          simp only [List.set_cons_zero, List.set_cons_succ]
          refine wpAnyH_takeAt (i := 6) (v := (.int .i64 (i : Int))) rfl (by kernel_rfl) (by kernel_rfl) (by kernel_rfl) (fun _ _ _ h => h) rfl (Or.inl ⟨by rfl, fun w' hS => ?_⟩) hHeld ?_
          · go_simp
          simp only [List.set_cons_zero, List.set_cons_succ]
          refine wpAnyH_takeAt (i := 7) (v := (.pointer (some ⟨g4, o4 + i * 16, none⟩))) rfl (by kernel_rfl) (by kernel_rfl) (by kernel_rfl) (fun _ _ _ h => h) rfl (Or.inl ⟨by rfl, fun w' hS => ?_⟩) hHeld ?_
          · go_simp
          simp only [List.set_cons_zero, List.set_cons_succ]
          refine wpAnyH_takeAt (i := 8) (v := (.agg L4.toArray)) rfl (by kernel_rfl) (by kernel_rfl) (by kernel_rfl) (fun _ _ _ h => h) rfl (yieldsIf_load_mid (by rfl) 46 _ rfl g4 (o4 + i * 16) rfl L4 _ (fun w' hS => below_range HRG4.out hS (HBQ.out.symm ▸ HG4.out)) Try.underlying46 rfl HI4.out) hHeld ?_
          simp only [List.set_cons_zero, List.set_cons_succ]
          refine wpAnyH_ready (rs := [4]) (by kernel_rfl) (by simp) (AllReadyH.cons rfl (fun K' hK => ?_) AllReadyH.nil)
          go_simp
          go_at_call 15
          refine (repC_c L3.toArray r _ (HV3.out.below HBD.out) (by have := HFX.out.blocks; omega) (by have := HFX.out.pairs; omega) (by have := HFX.out.firs; omega)).mono ?_
          rintro e0 w11 ⟨cs11, rfl, hv11, hb11⟩
          go_wp2_with fail
          have HV11 := Lib.hid hv11
          have HB11 : Hid (Below wr.heap.size wr w11) := bcall HBD.out hb11
          clear hv11 hb11
          refine hK.out _ _ (HBQ.out.symm ▸ HB11.out) (fun hHeld' => ?_)
          clear hK hHeld
          have hHeld := hHeld'
          clear hHeld'
          refine wpAnyH_ready (rs := [9]) (by kernel_rfl) (by simp) (AllReadyH.cons rfl (fun K' hK => ?_) AllReadyH.nil)
          go_simp
          go_at_call 15
          refine (repC_c L4.toArray r _ (HV4.out.below HB11.out) (by have := HFX.out.blocks; omega) (by have := HFX.out.pairs; omega) (by have := HFX.out.firs; omega)).mono ?_
          rintro e0 w12 ⟨cs12, rfl, hv12, hb12⟩
          go_wp2_with fail
          have HV12 := Lib.hid hv12
          have HB12 : Hid (Below wr.heap.size wr w12) := bcall HB11.out hb12
          have HV11b := Lib.hid (HV11.out.below hb12)
          clear hv12 hb12
          refine hK.out _ _ (HBQ.out.symm ▸ HB12.out) (fun hHeld' => ?_)
          clear hK hHeld
          have hHeld := hHeld'
          clear hHeld'
          refine wpAnyH_ready (rs := [10]) (by kernel_rfl) (by simp) (AllReadyH.cons rfl (fun K' hK => ?_) AllReadyH.nil)
          go_simp
          go_at_call 14
          refine (sameR_c cs11 cs12 r _ HV11b.out HV12.out (by have := HFX.out.blocks; omega) (by have := HFX.out.pairs; omega) (by have := HFX.out.firs; omega) (by have := HFX.out.ssrcs; omega)).mono ?_
          rintro e0 w13 ⟨rfl, hb13⟩
          go_wp2_with fail
          have HB13 : Hid (Below wr.heap.size wr w13) := bcall HB12.out hb13
          clear hb13
          refine hK.out _ _ (HBQ.out.symm ▸ HB13.out) (fun hHeld' => ?_)
          clear hK hHeld
          have hHeld := hHeld'
          clear hHeld'
          refine wpAnyH_takeAt (i := 11) (v := (.bool false)) rfl (by kernel_rfl) (by kernel_rfl) (by kernel_rfl) (fun _ _ _ h => h) rfl (Or.inl ⟨by rfl, fun w' hS => ?_⟩) hHeld ?_
          · go_simp
          simp only [List.set_cons_zero, List.set_cons_succ]
          refine wpAnyH_done (by kernel_rfl) ?_ _
          go_wp2_with fail
          go_roundg (n - (i + 1))
          case measure => have := HLT.out; have := HG.out; omega
          case rel => have hlt := HLT.out; exact ⟨i + 1, rfl, by omega, by first | rfl | go_num, bcall HBX.out HB13.out⟩
        · have hini : ¬ (i : Int) < (n : Int) := by omega
          go_wp2_with fail
          go_meet
          exact bcall HB3.out HBX.out
    case rest =>
      have HBC := Lib.hid hcut
      clear hcut HM2 HE2 HS2 HB2
      obtain ⟨z5, hz5⟩ : ∃ z5, z5 = (parseS b).2 := ⟨_, rfl⟩
      obtain ⟨k5, hk5⟩ : ∃ k5, k5 = (parseS b).1.length := ⟨_, rfl⟩
      have HZ5 := Lib.hid hz5
      have HK5 := Lib.hid hk5
      have hk12 : k5 ≤ 1200 := by rw [hk5]; exact parse_count b
      clear hz5 hk5
      go_upto_region 16 with (first
        | (go_at_call 10
           refine (parse_z (HSB.out.below HBC.out) (by have := HNB.out; omega) HZ5.out HK5.out).mono ?_
           rintro e5 w5 ⟨A5, c5, rfl, hr5, hb5⟩
           have HR5 := Lib.hid hr5
           have HB5 : Hid (Below w.heap.size w w5) := bcall HBC.out hb5
           clear hr5 hb5))
      clear HBC
      by_cases hz : z5 = 0
      case neg =>
        have q1 : (z5 == 0) = false := by simpa using hz
        have q2 : (z5 != 0) = true := by simpa using hz
        clear hz
        go_wp2_with fail
        go_ret
        exact ⟨rfl, HB5.out⟩
      subst hz
      have HPF : Hid (∀ r ∈ (parseS b).1, FitM r) := parse_fit HZ5.out.symm
      have HBP := Lib.hid (bytes_parse HZ5.out.symm)
      go_upto_region 19 with (first
        | (go_at_call 23
           refine (bytes_c (parseS b).1 A5 k5 c5 w5 HR5.out HK5.out.symm (by omega) HPF.out).mono ?_
           rintro e6 w6 ⟨v6, z6, rfl, herr6, hs6, hb6⟩
           have hz6 : z6 = 0 := ErrOf.one herr6 (.inr (.inr ⟨rfl, HBP.out.2.1, fun r hr => (HBP.out.2.2.1 r hr).1, by rw [HBP.out.1]; exact HBP.out.2.2.2⟩))
           subst hz6
           rw [if_pos rfl, HBP.out.1] at hs6
           obtain ⟨A6, c6, hv6, _, _⟩ := id hs6
           have hnb6 : b.length = nb := HSB.out.num.symm
           rw [hnb6] at hv6
           subst hv6
           have HS6 := Lib.hid hs6
           have HB6 : Hid (Below w.heap.size w w6) := bcall HB5.out hb6
           clear herr6 hs6 hb6 hnb6))
      go_wp2_with (first
        | (go_at_call 24
           refine (same_s (r := true) (by simp) HS6.out (HSB.out.below HB6.out)).mono ?_
           rintro e7 w7 ⟨rfl, rfl⟩))
      go_ret
      exact ⟨rfl, HB6.out⟩
end Go.Proofs.Ytkfimncbfbbopaa
