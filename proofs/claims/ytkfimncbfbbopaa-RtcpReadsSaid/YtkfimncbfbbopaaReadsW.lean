/- The law RtcpReads (its walk). Conditions: the bytes lie in memory. (Printed by gen8R.py.) -/
import Derived.Test.YtkfimncbfbbopaaParR
import Derived.Test.YtkfimncbfbbopaaAwake
set_option linter.unusedVariables false
set_option linter.unusedSimpArgs false
namespace Go.Proofs.Ytkfimncbfbbopaa
open Go.RowKit
attribute [local go_sem ↓] Go.wp_at_zero Go.wp_at_succ

theorem parR_z {b : List UInt8} {A : Option Addr} {n cap : Nat} {w : World} {z : Int} {k : Nat} (h : SlV w (.slice A n cap) b) (hn2 : n < 9223372036854775808) (hcap : n ≤ cap) (hz : z = (parseS b).2) (hk : k = (parseS b).1.length) :
    Calls Try.prog 11 #[.slice A n cap] w (ParZ b z k w) := by
  subst hz hk
  exact parR_c b A n cap w h hn2 hcap
set_option maxRecDepth 100000 in
set_option maxHeartbeats 12800000 in
theorem readsLaw_c (b : List UInt8) (A : Option Addr) (n cap : Nat) (w : World) (hb : SlV w (.slice A n cap) b) (hn : n ≤ 140737488355328) (hcap : n ≤ cap) :
    Calls Try.prog 3 #[.slice A n cap] w fun e w' => e = .returned (.bool true) ∧ Below w.heap.size w w' := by
  have HS := Lib.hid hb
  obtain ⟨z, hz⟩ : ∃ z, z = (parseS b).2 := ⟨_, rfl⟩
  obtain ⟨k, hk⟩ : ∃ k, k = (parseS b).1.length := ⟨_, rfl⟩
  obtain ⟨q, hq⟩ : ∃ q, q = isB b := ⟨_, rfl⟩
  have HZ := Lib.hid hz
  have HK := Lib.hid hk
  have HQ := Lib.hid hq
  have hk12 : k ≤ 1200 := by rw [hk]; exact parse_count b
  have q1 : (z == z) = true := by simp
  have q2 : (z != z) = false := by simp
  have q3 : ((k : Int) == (k : Int)) = true := by simp
  have q4 : ((k : Int) != (k : Int)) = false := by simp
  have q5 : (q == q) = true := by simp
  have q6 : (q != q) = false := by simp
  clear hb hz hk hq
  go_enter Try.func3, Try.ntmps3
  go_upto_region 8 with (first
    | (go_at_call 9
       refine (awake_c _).mono ?_
       rintro e0 w0 ⟨rfl, hb0⟩
       have HB0 := Lib.hid hb0
       clear hb0)
    | (go_at_call 10
       refine (parse_z (HS.out.below HB0.out) (by omega) HZ.out HK.out).mono ?_
       rintro e1 w1 ⟨A1, c1, rfl, hr1, hb1⟩
       have HR1 := Lib.hid hr1
       have HB1 : Hid (Below w.heap.size w w1) := bcall HB0.out hb1
       clear hr1 hb1)
    | (go_at_call 11
       refine (parR_z (HS.out.below HB1.out) (by omega) hcap HZ.out HK.out).mono ?_
       rintro e2 w2 ⟨A2, c2, rfl, hr2, hb2⟩
       have HR2 := Lib.hid hr2
       have HR1b : Hid (RepsAt w2 A1 k (parseS b).1) := HR1.out.below hb2
       have HB2 : Hid (Below w.heap.size w w2) := bcall HB1.out hb2
       clear hr2 hb2)
    | (go_at_call 12
       refine (is_c b A n cap w2 (HS.out.below HB2.out)).mono ?_
       rintro e3 _ ⟨rfl, rfl⟩
       rw [← HQ.out])
    | (go_at_call 13
       refine (ris_c b A n cap w2 (HS.out.below HB2.out)).mono ?_
       rintro e3 _ ⟨rfl, rfl⟩
       rw [← HQ.out]))
  clear HB0 HR1 HB1 q1 q2 q3 q4 q5 q6
  go_loopg [7] k (fun gg v wx => ∃ i : Nat, gg = k - i ∧ i ≤ k ∧ v = .int .i64 (i : Int) ∧ Below w2.heap.size w2 wx)
  case atStart => exact ⟨0, by omega, by omega, rfl, Below.refl _ _⟩
  case round =>
    obtain ⟨i, hgg, hi, rfl, hbx⟩ := hrel
    have HBX := Lib.hid hbx
    have HG := Lib.hid hgg
    clear hbx hgg
    by_cases hin : i < k
    · have hini : (i : Int) < (k : Int) := by omega
      have hw1 : IntKind.i64.wrap ((i : Int) + 1) = ((i + 1 : Nat) : Int) := by rw [IntKind.wrap_i64]; omega
      obtain ⟨r, hr⟩ : ∃ r, (parseS b).1[i]? = some r := ⟨_, List.getElem?_eq_getElem (by rw [← HK.out]; exact hin)⟩
      have HSM : Hid (Small r) := parse_small hr
      have HLT := Lib.hid hin
      obtain ⟨g3, o3, hA3, hg3, h3⟩ := HR1b.out.at_ (by omega)
      obtain ⟨L3, hv3, hl3, hrg3⟩ := h3 i r hr
      obtain ⟨g4, o4, hA4, hg4, h4⟩ := HR2.out.at_ (by omega)
      obtain ⟨L4, hv4, hl4, hrg4⟩ := h4 i r hr
      have HG3 : Hid (g3 < wr.heap.size) := Nat.lt_of_lt_of_le hg3 HBX.out.size
      have HG4 : Hid (g4 < wr.heap.size) := Nat.lt_of_lt_of_le hg4 HBX.out.size
      have HV3 : Hid (RepV wr L3.toArray r) := hv3.below HBX.out
      have HV4 : Hid (RepV wr L4.toArray r) := hv4.below HBX.out
      have HRG3 : Hid (wr.rangeAt g3 (o3 + i * 16) L3) := below_range hrg3 HBX.out hg3
      have HRG4 : Hid (wr.rangeAt g4 (o4 + i * 16) L4) := below_range hrg4 HBX.out hg4
      have HI3 : Hid ((Try.prog.info? 46).map (·.size) = some L3.length) := by show _ = _; rw [hl3]; exact infoRep
      have HI4 : Hid ((Try.prog.info? 40).map (·.size) = some L4.length) := by show _ = _; rw [hl4]; exact infoRef40
      subst hA3 hA4
      clear hr hin hg3 h3 hv3 hl3 hrg3 hg4 h4 hv4 hl4 hrg4
      go_upto_region 10 with fail
      obtain ⟨Bq, hBq⟩ : ∃ Bq, Bq = wr.heap.size := ⟨_, rfl⟩
      have HBQ := Lib.hid hBq
      clear hBq
      have HBD : Hid (Below wr.heap.size wr (World.drew wr)) := bdrew (Below.refl _ _)
      refine wp_region_held_drew (S := (fun w2 => Below Bq wr w2)) (by kernel_rfl) (HBQ.out.symm ▸ HBD.out) (fun hHeld => ?_)
      refine wpAnyH_takeAt (i := 0) (v := (.slice (some ⟨g3, o3, none⟩) k c1)) rfl (by kernel_rfl) (by kernel_rfl) (by kernel_rfl) (fun _ _ _ h => h) rfl (Or.inl ⟨by rfl, fun w' hS => ?_⟩) hHeld ?_
      · go_simp
      simp only [List.set_cons_zero, List.set_cons_succ]
      refine wpAnyH_takeAt (i := 1) (v := (.int .i64 (i : Int))) rfl (by kernel_rfl) (by kernel_rfl) (by kernel_rfl) (fun _ _ _ h => h) rfl (Or.inl ⟨by rfl, fun w' hS => ?_⟩) hHeld ?_
      · go_simp
      simp only [List.set_cons_zero, List.set_cons_succ]
      refine wpAnyH_takeAt (i := 2) (v := (.pointer (some ⟨g3, o3 + i * 16, none⟩))) rfl (by kernel_rfl) (by kernel_rfl) (by kernel_rfl) (fun _ _ _ h => h) rfl (Or.inl ⟨by rfl, fun w' hS => ?_⟩) hHeld ?_
      · go_simp
      simp only [List.set_cons_zero, List.set_cons_succ]
      refine wpAnyH_takeAt (i := 3) (v := (.agg L3.toArray)) rfl (by kernel_rfl) (by kernel_rfl) (by kernel_rfl) (fun _ _ _ h => h) rfl (yieldsIf_load_mid (by rfl) 46 _ rfl g3 (o3 + i * 16) rfl L3 _ (fun w' hS => below_range HRG3.out hS (HBQ.out.symm ▸ HG3.out)) Try.underlying46 rfl HI3.out) hHeld ?_
      simp only [List.set_cons_zero, List.set_cons_succ]
      refine wpAnyH_takeAt (i := 5) (v := (.slice (some ⟨g4, o4, none⟩) k c2)) rfl (by kernel_rfl) (by kernel_rfl) (by kernel_rfl) (fun _ _ _ h => h) rfl (Or.inl ⟨by rfl, fun w' hS => ?_⟩) hHeld ?_
      · go_simp
      simp only [List.set_cons_zero, List.set_cons_succ]
      refine wpAnyH_takeAt (i := 6) (v := (.int .i64 (i : Int))) rfl (by kernel_rfl) (by kernel_rfl) (by kernel_rfl) (fun _ _ _ h => h) rfl (Or.inl ⟨by rfl, fun w' hS => ?_⟩) hHeld ?_
      · go_simp
      simp only [List.set_cons_zero, List.set_cons_succ]
      refine wpAnyH_takeAt (i := 7) (v := (.pointer (some ⟨g4, o4 + i * 16, none⟩))) rfl (by kernel_rfl) (by kernel_rfl) (by kernel_rfl) (fun _ _ _ h => h) rfl (Or.inl ⟨by rfl, fun w' hS => ?_⟩) hHeld ?_
      · go_simp
      simp only [List.set_cons_zero, List.set_cons_succ]
      refine wpAnyH_takeAt (i := 8) (v := (.agg L4.toArray)) rfl (by kernel_rfl) (by kernel_rfl) (by kernel_rfl) (fun _ _ _ h => h) rfl (yieldsIf_load_mid (by rfl) 40 _ rfl g4 (o4 + i * 16) rfl L4 _ (fun w' hS => below_range HRG4.out hS (HBQ.out.symm ▸ HG4.out)) Try.underlying40 rfl HI4.out) hHeld ?_
      simp only [List.set_cons_zero, List.set_cons_succ]
      refine wpAnyH_ready (rs := [4]) (by kernel_rfl) (by simp) (AllReadyH.cons rfl (fun K' hK => ?_) AllReadyH.nil)
      go_simp
      go_at_call 15
      refine (repC_c L3.toArray r _ (HV3.out.below HBD.out) (by have := HSM.out.1; omega) (by have := HSM.out.2.1; omega) (by have := HSM.out.2.2.1; omega)).mono ?_
      rintro e0 w11 ⟨cs11, rfl, hv11, hb11⟩
      go_wp2_with fail
      have HV11 := Lib.hid hv11
      have HB11 : Hid (Below wr.heap.size wr w11) := bcall HBD.out hb11
      clear hv11 hb11
      refine hK.out _ _ (HBQ.out.symm ▸ HB11.out) (fun hHeld' => ?_)
      clear hK hHeld
      have hHeld := hHeld'
      clear hHeld'
      refine wpAnyH_ready (rs := [9]) (by kernel_rfl) (by simp) (AllReadyH.cons rfl (fun K' hK => ?_) AllReadyH.nil)
      go_simp
      go_at_call 14
      refine (sameR_c cs11 L4.toArray r _ HV11.out (HV4.out.below HB11.out) (by have := HSM.out.1; omega) (by have := HSM.out.2.1; omega) (by have := HSM.out.2.2.1; omega) (by have := HSM.out.2.2.2; omega)).mono ?_
      rintro e0 w12 ⟨rfl, hb12⟩
      go_wp2_with fail
      have HB12 : Hid (Below wr.heap.size wr w12) := bcall HB11.out hb12
      clear hb12
      refine hK.out _ _ (HBQ.out.symm ▸ HB12.out) (fun hHeld' => ?_)
      clear hK hHeld
      have hHeld := hHeld'
      clear hHeld'
      refine wpAnyH_takeAt (i := 10) (v := (.bool false)) rfl (by kernel_rfl) (by kernel_rfl) (by kernel_rfl) (fun _ _ _ h => h) rfl (Or.inl ⟨by rfl, fun w' hS => ?_⟩) hHeld ?_
      · go_simp
      simp only [List.set_cons_zero, List.set_cons_succ]
      refine wpAnyH_done (by kernel_rfl) ?_ _
      go_wp2_with fail
      go_roundg (k - (i + 1))
      case measure => have := HLT.out; have := HG.out; omega
      case rel => have hlt := HLT.out; exact ⟨i + 1, rfl, by omega, by first | rfl | go_num, bcall HBX.out HB12.out⟩
    · have hini : ¬ (i : Int) < (k : Int) := by omega
      go_wp2_with fail
      go_ret
      exact ⟨rfl, bcall HB2.out HBX.out⟩
end Go.Proofs.Ytkfimncbfbbopaa
