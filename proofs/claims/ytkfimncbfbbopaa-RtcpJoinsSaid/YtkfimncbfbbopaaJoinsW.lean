/- The law RtcpJoins (its walk). Conditions: the bytes lie in memory. (Printed by gen8j.py.) -/
import Derived.Test.YtkfimncbfbbopaaParsB
import Derived.BigQuiet
set_option linter.unusedVariables false
set_option linter.unusedSimpArgs false
namespace Go.Proofs.Ytkfimncbfbbopaa
open Go.RowKit
attribute [local go_sem ↓] Go.wp_at_zero Go.wp_at_succ

theorem RepV.one {w : World} {cs : Array Value} {r : Rep} (h : RepV w cs r) : cs.all (·.oneCell') = true := by
  obtain ⟨vb, vp, vf, vs, vd, e, h1, h2, h3, h4, h5⟩ := h
  obtain ⟨_, _, rfl, _⟩ := h1
  obtain ⟨_, _, rfl, _⟩ := h2
  obtain ⟨_, _, rfl, _⟩ := h3
  obtain ⟨_, _, rfl, _⟩ := h4
  obtain ⟨_, _, rfl, _⟩ := h5
  rw [e]
  simp [repA, Value.oneCell']
set_option maxRecDepth 100000 in
set_option maxHeartbeats 12800000 in
theorem joinsLaw_c (a b : List UInt8) (A D : Option Addr) (na nb ca cb : Nat) (w : World) (ha : SlV w (.slice A na ca) a) (hb : SlV w (.slice D nb cb) b) (hna : na ≤ 140737488355328) (hnb : nb ≤ 140737488355328) (hcb : nb ≤ cb) :
    Calls Try.prog 4 #[.slice A na ca, .slice D nb cb] w fun e w' => e = .returned (.bool true) ∧ Below w.heap.size w w' := by
  obtain ⟨iB, hiB, hz0, hz1, hz2⟩ := info_parts infoByte
  have HLA : Hid (a.length = na) := ha.num.symm
  have HLB : Hid (b.length = nb) := hb.num.symm
  have HA := Lib.hid ha
  have HB := Lib.hid hb
  obtain ⟨z1, e1⟩ : ∃ z1, z1 = (parseS a).2 := ⟨_, rfl⟩
  obtain ⟨z2, e2⟩ : ∃ z2, z2 = (parseS b).2 := ⟨_, rfl⟩
  obtain ⟨k1, f1⟩ : ∃ k1, k1 = (parseS a).1.length := ⟨_, rfl⟩
  obtain ⟨k2, f2⟩ : ∃ k2, k2 = (parseS b).1.length := ⟨_, rfl⟩
  have HE1 := Lib.hid e1
  have HE2 := Lib.hid e2
  have HF1 := Lib.hid f1
  have HF2 := Lib.hid f2
  clear ha hb e1 e2 f1 f2
  go_enter Try.func4, Try.ntmps4
  go_upto_region 5 with (first
    | (go_at_call 9
       refine (awake_c _).mono ?_
       rintro e0 w0 ⟨rfl, hb0⟩
       have HB0 := Lib.hid hb0
       clear hb0)
    | (go_at_call 10
       first
         | ((with_reducible show Calls _ _ _ w0 _)
            refine (parse_z (HA.out.below HB0.out) (by omega) HE1.out HF1.out).mono ?_
            rintro e1 w1 ⟨A1, c1, rfl, hr1, hb1⟩
            have HR1 := Lib.hid hr1
            have HB1 : Hid (Below w.heap.size w w1) := bcall HB0.out hb1
            clear hr1 hb1)
         | ((with_reducible show Calls _ _ _ w1 _)
            refine (parse_z (HB.out.below HB1.out) (by omega) HE2.out HF2.out).mono ?_
            rintro e2 w2 ⟨A2, c2, rfl, hr2, hb2⟩
            have HR2 := Lib.hid hr2
            have HR1b : Hid (RepsAt w2 A1 k1 (parseS a).1) := HR1.out.below hb2
            have HB2 : Hid (Below w.heap.size w w2) := bcall HB1.out hb2
            clear hr2 hb2)))
  clear HB0 HR1 HB1
  by_cases h1 : z1 = 0
  case neg =>
    have q1 : (z1 == 0) = false := by simpa using h1
    have q2 : (z1 != 0) = true := by simpa using h1
    clear h1
    go_wp2_with fail
    go_ret
    exact ⟨rfl, HB2.out⟩
  subst h1
  by_cases h2 : z2 = 0
  case neg =>
    have q1 : (z2 == 0) = false := by simpa using h2
    have q2 : (z2 != 0) = true := by simpa using h2
    clear h2
    go_wp2_with fail
    go_ret
    exact ⟨rfl, HB2.out⟩
  subst h2
  by_cases h3 : 1200 < na + nb
  · have h3i : (1200 : Int) < (na : Int) + (nb : Int) := by omega
    clear h3
    go_wp2_with fail
    go_ret
    exact ⟨rfl, HB2.out⟩
  have h3i : ¬ (1200 : Int) < (na : Int) + (nb : Int) := by omega
  have h3j : decide ((1200 : Int) < (na : Int) + (nb : Int)) = false := by simp; omega
  have h4 : na ≤ 1200 ∧ nb ≤ 1200 := by omega
  obtain ⟨h4a, h4b⟩ := h4
  obtain ⟨hj1, hj2, hj3⟩ := parse_join HE1.out.symm HE2.out.symm (by have := HLA.out; have := HLB.out; omega)
  obtain ⟨z5, e5⟩ : ∃ z5, z5 = (parseS (a ++ b.take (b.length - 1))).2 := ⟨_, rfl⟩
  obtain ⟨k5, f5⟩ : ∃ k5, k5 = (parseS (a ++ b.take (b.length - 1))).1.length := ⟨_, rfl⟩
  obtain ⟨k3, f3⟩ : ∃ k3, k3 = (parseS (a ++ b)).1.length := ⟨_, rfl⟩
  have hk3 : k3 = k1 + k2 := by rw [f3, hj1, HF1.out, HF2.out]; exact List.length_append
  have hkc : k3 ≤ 1200 := by rw [f3]; exact parse_count _
  have HJ0 : Hid (0 = (parseS (a ++ b)).2) := by show _ = _; rw [hj1]
  have HJ1 : Hid ((parseS (a ++ b)).1 = (parseS a).1 ++ (parseS b).1) := by show _ = _; rw [hj1]
  have hz5 : z5 ≠ 0 := by rw [e5]; exact hj2
  have hnb0 : 0 < nb := by have := HLB.out; omega
  have q5 : (z5 == 0) = false := by simpa using hz5
  have q5' : (z5 != 0) = true := by simpa using hz5
  have HE5 := Lib.hid e5
  have HF5 := Lib.hid f5
  have HF3 := Lib.hid f3
  have HK3 := Lib.hid hk3
  clear h3 hj1 hj2 hj3 e5 f5 f3 hz5 h3i
  have hk12 : k1 ≤ 1200 ∧ k2 ≤ 1200 := by have := HK3.out; omega
  obtain ⟨hk1, hk2⟩ := hk12
  clear hk3
  go_upto_region 7 with fail
  clear h3j
  obtain ⟨wz, hwz⟩ : ∃ wz, wz = w2 := ⟨_, rfl⟩
  have HSA : Hid (SlV w2 (.slice A na ca) a) := HA.out.below HB2.out
  have HSB : Hid (SlV w2 (.slice D nb cb) b) := HB.out.below HB2.out
  clear hwz
  go_upto_region 8 with (first
    | (at_builtin
       refine wpList_append_any _ rfl (.tmp 42) (.tmp 43) _ rfl w2.heap.size 5 iB _ 1 1 Try.underlying22 hiB hz0 hz1 hz2 rfl (by omega) (.slice (some ⟨w2.heap.size, 0, none⟩) 0 0) 0 [] rfl (own_empty w2 _ _)
         (w2.alloc (.cells #[] 5)).heap.size A na ca (a.map u8v) rfl (SlV.rd (HSA.out.below (balloc (Below.refl _ _) _))) (u8_one a) (by simp only [maxLen]; omega) (by omega) (by simp) ?_
       intro v3 w3 hown3 hg3 hat3
       rw [Nat.zero_add, List.nil_append] at hown3
       have HO3 := Lib.hid hown3
       have HB3 : Hid (Below w2.heap.size w2 w3) := fresh_below hg3
       have HSB3 : Hid (SlV w3 (.slice D nb cb) b) := HSB.out.below HB3.out
       clear hown3 hg3 hat3)
    | (at_builtin
       refine wpList_append_any _ rfl (.tmp 44) (.tmp 45) _ rfl w2.heap.size 5 iB _ 1 1 Try.underlying22 hiB hz0 hz1 hz2 rfl (by omega) v3 na (a.map u8v) rfl HO3.out
         w3.heap.size D nb cb (b.map u8v) rfl (SlV.rd HSB3.out) (u8_one b) (by simp only [maxLen]; omega) (by omega) HB3.out.size ?_
       intro v4 w4 hown4 hg4 hat4
       obtain ⟨A4, c4, rfl⟩ := own_slice hown4
       have HO4 : Hid (SlV w4 (.slice A4 (na + nb) c4) (a ++ b)) := by
         refine SlV.own (base := w2.heap.size) ?_
         unfold ByteRow
         rw [List.length_append, HLA.out, HLB.out, List.map_append]
         exact hown4
       have HB4 : Hid (Below w2.heap.size w2 w4) := own_grow_below HB3.out HO3.out hg4
       clear hown4 hg4 hat4)
    | (go_at_call 10
       refine (parse_z HO4.out (by omega) HJ0.out HF3.out).mono ?_
       rintro e5 w5 ⟨A3, c3, rfl, hr5, hb5⟩
       have HR3 : Hid (RepsAt w5 A3 k3 ((parseS a).1 ++ (parseS b).1)) := by show RepsAt _ _ _ _; rw [← HJ1.out]; exact hr5
       have HB5 : Hid (Below w2.heap.size w2 w5) := bcall HB4.out hb5
       clear hr5 hb5))
  have HR1c : Hid (RepsAt w5 A1 k1 (parseS a).1) := HR1b.out.below HB5.out
  have HR2c : Hid (RepsAt w5 A2 k2 (parseS b).1) := HR2.out.below HB5.out
  have HB5w : Hid (Below w.heap.size w w5) := bcall HB2.out HB5.out
  clear HR1b HR2 HB5 HB4 HB3 HO3 HO4 HSB3 HSA HSB HB2
  have HSA : Hid (SlV w5 (.slice A na ca) a) := HA.out.below HB5w.out
  have HSB : Hid (SlV w5 (.slice D nb cb) b) := HB.out.below HB5w.out
  have hs1 : IntKind.i64.wrap ((nb : Int) - 1) = ((nb - 1 : Nat) : Int) := by rw [IntKind.wrap_i64]; omega
  have hs2 : (nb : Int) - 1 = ((nb - 1 : Nat) : Int) := by omega
  have hs3 : IntKind.i64.wrap ((nb - 1 : Nat) : Int) = ((nb - 1 : Nat) : Int) := by rw [IntKind.wrap_i64]; omega
  refine wp_region_held_drew (S := (fun _ => True)) (by kernel_rfl) (trivial) (fun hHeld => ?_)
  refine wpAnyH_takeAt (i := 1) (v := (.slice A na ca)) rfl (by kernel_rfl) (by kernel_rfl) (by kernel_rfl) (fun _ _ _ h => h) rfl (Or.inl ⟨by rfl, fun w' hS => ?_⟩) hHeld ?_
  · go_simp
  simp only [List.set_cons_zero, List.set_cons_succ]
  refine wpAnyH_takeAt (i := 3) (v := (.slice D nb cb)) rfl (by kernel_rfl) (by kernel_rfl) (by kernel_rfl) (fun _ _ _ h => h) rfl (Or.inl ⟨by rfl, fun w' hS => ?_⟩) hHeld ?_
  · go_simp
  simp only [List.set_cons_zero, List.set_cons_succ]
  refine wpAnyH_takeAt (i := 4) (v := (.slice D nb cb)) rfl (by kernel_rfl) (by kernel_rfl) (by kernel_rfl) (fun _ _ _ h => h) rfl (Or.inl ⟨by rfl, fun w' hS => ?_⟩) hHeld ?_
  · go_simp
  simp only [List.set_cons_zero, List.set_cons_succ]
  refine wpAnyH_takeAt (i := 5) (v := (.int .i64 (nb : Int))) rfl (by kernel_rfl) (by kernel_rfl) (by kernel_rfl) (fun _ _ _ h => h) rfl (Or.inl ⟨by rfl, fun w' hS => ?_⟩) hHeld ?_
  · go_simp
  simp only [List.set_cons_zero, List.set_cons_succ]
  refine wpAnyH_takeAt (i := 6) (v := (.int .i64 ((nb - 1 : Nat) : Int))) rfl (by kernel_rfl) (by kernel_rfl) (by kernel_rfl) (fun _ _ _ h => h) rfl (Or.inl ⟨by rfl, fun w' hS => ?_⟩) hHeld ?_
  · go_simp
  simp only [List.set_cons_zero, List.set_cons_succ]
  refine wpAnyH_takeAt (i := 7) (v := (.slice (cutA D cb 0) (nb - 1) cb)) rfl (by kernel_rfl) (by kernel_rfl) (by kernel_rfl) (fun _ _ _ h => h) rfl (Or.inl ⟨by rfl, fun w' hS => ?_⟩) hHeld ?_
  · have hcut := cut_to w' D nb cb (nb - 1) (by omega)
    go_simp
  simp only [List.set_cons_zero, List.set_cons_succ]
  refine wpAnyH_ready (rs := [0]) (by kernel_rfl) (by simp) (AllReadyH.cons rfl (fun K' hK => ?_) AllReadyH.nil)
  go_simp
  have HO6 : Hid (World.ownsRow (World.drew (World.alloc w5 (.cells #[] 5))) w5.heap.size 5 1 (.slice (some ⟨w5.heap.size, 0, none⟩) 0 0) 0 []) := own_empty w5 _ _
  have HB6 : Hid (Below w5.heap.size w5 (World.drew (World.alloc w5 (.cells #[] 5)))) := bdrew (balloc (Below.refl _ _) _)
  have HSA6 : Hid (SlV (World.drew (World.alloc w5 (.cells #[] 5))) (.slice A na ca) a) := HSA.out.below HB6.out
  refine hK.out _ _ trivial (fun hHeld' => ?_)
  clear hK hHeld
  have hHeld := hHeld'
  clear hHeld'
  refine wpAnyH_ready (rs := [2]) (by kernel_rfl) (by simp) (AllReadyH.cons rfl (fun K' hK => ?_) AllReadyH.nil)
  refine step_append_any _ (by rfl) (.tmp 51) (.tmp 52) _ (by rfl) w5.heap.size 5 iB _ 1 1 Try.underlying22 hiB hz0 hz1 hz2 rfl (by omega) (.slice (some ⟨w5.heap.size, 0, none⟩) 0 0) 0 [] (by rfl) HO6.out
    _ A na ca (a.map u8v) (by rfl) (SlV.rd HSA6.out) (u8_one a) (by simp only [maxLen]; omega) (by omega) HB6.out.size ?_
  intro v7 w7 hown7 hg7 hat7
  rw [Nat.zero_add, List.nil_append] at hown7
  have HO7 := Lib.hid hown7
  have HB7 : Hid (Below w5.heap.size w5 w7) := own_grow_below HB6.out HO6.out hg7
  have HSB7 : Hid (SlV w7 (.slice D nb cb) b) := HSB.out.below HB7.out
  clear hown7 hg7 hat7
  refine hK.out _ _ trivial (fun hHeld' => ?_)
  clear hK hHeld
  have hHeld := hHeld'
  clear hHeld'
  refine wpAnyH_putAt rfl ?_
  simp only [List.set_cons_zero, List.set_cons_succ]
  refine wpAnyH_ready (rs := [8]) (by kernel_rfl) (by simp) (AllReadyH.cons rfl (fun K' hK => ?_) AllReadyH.nil)
  refine step_append_any _ (by rfl) (.tmp 53) (.tmp 58) _ (by rfl) w5.heap.size 5 iB _ 1 1 Try.underlying22 hiB hz0 hz1 hz2 rfl (by omega) v7 na (a.map u8v) (by rfl) HO7.out
    w7.heap.size (cutA D cb 0) (nb - 1) cb ((b.take (nb - 1)).map u8v) (by rfl) (Reads.to_k (SlV.rd HSB7.out) HLB.out (by omega) hcb) (u8_one _) (by simp only [maxLen]; omega) (by omega) HB7.out.size ?_
  intro v8 w8 hown8 hg8 hat8
  obtain ⟨A8, c8, rfl⟩ := own_slice hown8
  have HO8 : Hid (SlV w8 (.slice A8 (na + (nb - 1)) c8) (a ++ b.take (b.length - 1))) := by
    refine SlV.own (base := w5.heap.size) ?_
    unfold ByteRow
    have hl : (a ++ b.take (b.length - 1)).length = na + (nb - 1) := by rw [List.length_append, List.length_take, HLA.out, HLB.out, Nat.min_eq_left (by omega)]
    rw [hl, List.map_append, HLB.out]
    exact hown8
  have HB8 : Hid (Below w5.heap.size w5 w8) := own_grow_below HB7.out HO7.out hg8
  clear hown8 hg8 hat8
  refine hK.out _ _ trivial (fun hHeld' => ?_)
  clear hK hHeld
  have hHeld := hHeld'
  clear hHeld'
  refine wpAnyH_putAt rfl ?_
  simp only [List.set_cons_zero, List.set_cons_succ]
  refine wpAnyH_ready (rs := [9]) (by kernel_rfl) (by simp) (AllReadyH.cons rfl (fun K' hK => ?_) AllReadyH.nil)
  go_simp
  go_at_call 10
  refine (parse_z HO8.out (by omega) HE5.out HF5.out).mono ?_
  rintro e9 w9 ⟨A9, c9, rfl, hr9, hb9⟩
  go_wp2_with fail
  have HB9 : Hid (Below w5.heap.size w5 w9) := bcall HB8.out hb9
  clear hr9 hb9
  refine hK.out _ _ trivial (fun hHeld' => ?_)
  clear hK hHeld
  have hHeld := hHeld'
  clear hHeld'
  refine wpAnyH_takeAt (i := 10) (v := (.tuple #[.slice A9 k5 c9, .int .i64 z5])) rfl (by kernel_rfl) (by kernel_rfl) (by kernel_rfl) (fun _ _ _ h => h) rfl (Or.inl ⟨by rfl, fun w' hS => ?_⟩) hHeld ?_
  · go_simp
  simp only [List.set_cons_zero, List.set_cons_succ]
  refine wpAnyH_takeAt (i := 11) (v := (.slice A9 k5 c9)) rfl (by kernel_rfl) (by kernel_rfl) (by kernel_rfl) (fun _ _ _ h => h) rfl (Or.inl ⟨by rfl, fun w' hS => ?_⟩) hHeld ?_
  · go_simp
  simp only [List.set_cons_zero, List.set_cons_succ]
  refine wpAnyH_takeAt (i := 12) (v := (.int .i64 z5)) rfl (by kernel_rfl) (by kernel_rfl) (by kernel_rfl) (fun _ _ _ h => h) rfl (Or.inl ⟨by rfl, fun w' hS => ?_⟩) hHeld ?_
  · go_simp
  simp only [List.set_cons_zero, List.set_cons_succ]
  refine wpAnyH_takeAt (i := 13) (v := (.slice A9 k5 c9)) rfl (by kernel_rfl) (by kernel_rfl) (by kernel_rfl) (fun _ _ _ h => h) rfl (Or.inl ⟨by rfl, fun w' hS => ?_⟩) hHeld ?_
  · go_simp
  simp only [List.set_cons_zero, List.set_cons_succ]
  refine wpAnyH_takeAt (i := 14) (v := (.int .i64 z5)) rfl (by kernel_rfl) (by kernel_rfl) (by kernel_rfl) (fun _ _ _ h => h) rfl (Or.inl ⟨by rfl, fun w' hS => ?_⟩) hHeld ?_
  · go_simp
  simp only [List.set_cons_zero, List.set_cons_succ]
  refine wpAnyH_done (by kernel_rfl) ?_ _
  skip
  have HR1 : Hid (RepsAt w9 A1 k1 (parseS a).1) := HR1c.out.below HB9.out
  have HR2 : Hid (RepsAt w9 A2 k2 (parseS b).1) := HR2c.out.below HB9.out
  have HR3b : Hid (RepsAt w9 A3 k3 ((parseS a).1 ++ (parseS b).1)) := HR3.out.below HB9.out
  have HBW : Hid (Below w.heap.size w w9) := bcall HB5w.out HB9.out
  clear HR1c HR2c HR3 HB5w HB9 HB8 HO8 HB7 HSB7 HO7 HSA6 HB6 HO6 HSA HSB hs1 hs2 hs3 q5'
  have hk3a : ((k3 : Int) == (k1 : Int) + (k2 : Int)) = true := by have := HK3.out; simp; omega
  have hk3b : ((k3 : Int) != (k1 : Int) + (k2 : Int)) = false := by have := HK3.out; simp; omega
  go_upto_region 12 with fail
  clear hk3a hk3b q5
  go_loopg [13] k3 (fun gg v13 wx => ∃ i : Nat, gg = k3 - i ∧ i ≤ k3 ∧ v13 = .int .i64 (i : Int) ∧ Below w9.heap.size w9 wx)
  case atStart => exact ⟨0, by omega, by omega, rfl, Below.refl _ _⟩
  case round =>
    obtain ⟨i, hgg, hi, rfl, hbx⟩ := hrel
    have HBX := Lib.hid hbx
    have HG := Lib.hid hgg
    clear hbx hgg
    by_cases hin : i < k3
    · have hini : (i : Int) < (k3 : Int) := by omega
      have hw1 : IntKind.i64.wrap ((i : Int) + 1) = ((i + 1 : Nat) : Int) := by rw [IntKind.wrap_i64]; omega
      obtain ⟨r, hr⟩ : ∃ r, ((parseS a).1 ++ (parseS b).1)[i]? = some r := ⟨_, List.getElem?_eq_getElem (by rw [← HJ1.out, ← HF3.out]; exact hin)⟩
      have HSM : Hid (Small r) := parse_small (b := a ++ b) (i := i) (by rw [HJ1.out]; exact hr)
      have HRI := Lib.hid hr
      have HLT := Lib.hid hin
      obtain ⟨g3, o3, hA3, hg3, h3⟩ := HR3b.out.at_ (by omega)
      obtain ⟨L3, hv3, hl3, hrg3⟩ := h3 i r hr
      have HEA := Lib.hid hA3
      have HG3 := Lib.hid hg3
      have HV3 := Lib.hid hv3
      have HL3 := Lib.hid hl3
      have HRG3 := Lib.hid hrg3
      clear hr hin hA3 hg3 h3 hv3 hl3 hrg3
      go_upto_region 14 with fail
      go_upto_if 89 with fail
      obtain ⟨w10, hw10⟩ : ∃ w10, w10 = wr.alloc (.cells #[.int .i64 0, .int .u32 0, .int .u32 0, .int .u64 0, .int .u32 0, .int .u32 0, .int .u32 0, .slice none 0 0, .slice none 0 0, .slice none 0 0, .int .i64 0, .int .u32 0, .slice none 0 0, .int .i64 0, .int .i64 0, .slice none 0 0] 46) := ⟨_, rfl⟩
      obtain ⟨gx, hgx⟩ : ∃ gx, gx = wr.heap.size := ⟨_, rfl⟩
      have HX10 : Hid (Blk w10 gx 46 #[.int .i64 0, .int .u32 0, .int .u32 0, .int .u64 0, .int .u32 0, .int .u32 0, .int .u32 0, .slice none 0 0, .slice none 0 0, .slice none 0 0, .int .i64 0, .int .u32 0, .slice none 0 0, .int .i64 0, .int .i64 0, .slice none 0 0]) := by show Blk _ _ _ _; rw [hw10]; exact Blk.newAt hgx _ _
      have HB10 : Hid (Below w9.heap.size w9 w10) := by show Below _ _ _; rw [hw10]; exact balloc HBX.out _
      have HGX : Hid (w9.heap.size ≤ gx) := by show _ ≤ _; rw [hgx]; exact HBX.out.size
      rw [← hw10, ← hgx]
      clear hw10 hgx
      go_cut [14] (fun v wx => ∃ L : List Value, v = .pointer (some ⟨gx, 0, none⟩) ∧ RepV wx L.toArray r ∧ L.length = 16 ∧ Blk wx gx 46 L.toArray ∧ Below w9.heap.size w9 wx)
      case first =>
        by_cases hk : i < k1
        · have hki : (i : Int) < (k1 : Int) := by omega
          have hkd : decide (i < k1) = true := by simpa using hk
          have hr1 : (parseS a).1[i]? = some r := by have := HRI.out; rw [List.getElem?_append_left (by rw [← HF1.out]; exact hk)] at this; exact this
          obtain ⟨g1, o1, hA1, hg1, h1⟩ := HR1.out.at_ (by omega)
          obtain ⟨L1, hv1, hl1, hrg1⟩ := h1 i r hr1
          subst hA1
          have HRG : Hid (w10.rangeAt g1 (o1 + i * 16) L1) := below_range hrg1 HB10.out hg1
          have HTH : Hid (w10.there gx 0 L1.toArray.size) := by show World.there _ _ _ L1.toArray.size; rw [List.size_toArray, hl1]; exact blk_there (l := (#[.int .i64 0, .int .u32 0, .int .u32 0, .int .u64 0, .int .u32 0, .int .u32 0, .int .u32 0, .slice none 0 0, .slice none 0 0, .slice none 0 0, .int .i64 0, .int .u32 0, .slice none 0 0, .int .i64 0, .int .i64 0, .slice none 0 0] : Array Value).toList) HX10.out rfl
          have HON : Hid (L1.toArray.all (·.oneCell') = true) := RepV.one hv1
          have HI : Hid ((Try.prog.info? 46).map (·.size) = some L1.length) := by show _ = _; rw [hl1]; exact infoRep
          have HJ : Hid ((Try.prog.info? 46).map (·.size) = some L1.toArray.size) := by show _ = _; rw [List.size_toArray, hl1]; exact infoRep
          have HBS : Hid (Below w9.heap.size w9 (w10.setCells gx 0 L1)) := below_setCells HB10.out HGX.out _ _
          have HVS : Hid (RepV (w10.setCells gx 0 L1) L1.toArray r) := hv1.below HBS.out
          have HLS := Lib.hid hl1
          have HXS : Hid (Blk (w10.setCells gx 0 L1) gx 46 L1.toArray) := blk_setAll (l := (#[.int .i64 0, .int .u32 0, .int .u32 0, .int .u64 0, .int .u32 0, .int .u32 0, .int .u32 0, .slice none 0 0, .slice none 0 0, .slice none 0 0, .int .i64 0, .int .u32 0, .slice none 0 0, .int .i64 0, .int .i64 0, .slice none 0 0] : Array Value).toList) HX10.out (by rw [hl1]; rfl)
          clear hrg1 hv1 hl1 h1 hr1
          go_wp2_with (first
            | ((with_reducible show wpList _ _ _ (⟨some 93, .load 46 (.tmp 92), _, _, _, _⟩ :: _) _ _); refine wpList_load_mid rfl 46 (.tmp 92) rfl g1 (o1 + i * 16) rfl L1 _ HRG.out Try.underlying46 rfl HI.out ?_)
            | ((with_reducible show wpList _ _ _ (⟨none, .store 46 (.tmp 14) (.tmp 93), _, _, _, _⟩ :: _) _ _); refine wpList_store_mid rfl 46 (.tmp 14) (.tmp 93) rfl gx 0 L1.toArray rfl rfl HTH.out HJ.out HON.out ?_))
          go_meet
          exact ⟨L1, rfl, HVS.out, HLS.out, HXS.out, HBS.out⟩
        · have hki : ¬ (i : Int) < (k1 : Int) := by omega
          have hkd : decide (i < k1) = false := by simpa using hk
          obtain ⟨j, hj⟩ : ∃ j, i = k1 + j := ⟨i - k1, by omega⟩
          have hjk : j < k2 := by have := HK3.out; have := HLT.out; omega
          have hji : (j : Int) < (k2 : Int) := by omega
          have hsj : IntKind.i64.wrap ((i : Int) - (k1 : Int)) = (j : Int) := by rw [IntKind.wrap_i64]; omega
          have hsk : (i : Int) - (k1 : Int) = (j : Int) := by omega
          have hr1 : (parseS b).1[j]? = some r := by have := HRI.out; rw [List.getElem?_append_right (by rw [← HF1.out]; omega), ← HF1.out, show i - k1 = j by omega] at this; exact this
          obtain ⟨g1, o1, hA1, hg1, h1⟩ := HR2.out.at_ (by omega)
          obtain ⟨L1, hv1, hl1, hrg1⟩ := h1 j r hr1
          subst hA1
          have HJJ := Lib.hid hj
          clear hj hk
          have HRG : Hid (w10.rangeAt g1 (o1 + j * 16) L1) := below_range hrg1 HB10.out hg1
          have HTH : Hid (w10.there gx 0 L1.toArray.size) := by show World.there _ _ _ L1.toArray.size; rw [List.size_toArray, hl1]; exact blk_there (l := (#[.int .i64 0, .int .u32 0, .int .u32 0, .int .u64 0, .int .u32 0, .int .u32 0, .int .u32 0, .slice none 0 0, .slice none 0 0, .slice none 0 0, .int .i64 0, .int .u32 0, .slice none 0 0, .int .i64 0, .int .i64 0, .slice none 0 0] : Array Value).toList) HX10.out rfl
          have HON : Hid (L1.toArray.all (·.oneCell') = true) := RepV.one hv1
          have HI : Hid ((Try.prog.info? 46).map (·.size) = some L1.length) := by show _ = _; rw [hl1]; exact infoRep
          have HJ : Hid ((Try.prog.info? 46).map (·.size) = some L1.toArray.size) := by show _ = _; rw [List.size_toArray, hl1]; exact infoRep
          have HBS : Hid (Below w9.heap.size w9 (w10.setCells gx 0 L1)) := below_setCells HB10.out HGX.out _ _
          have HVS : Hid (RepV (w10.setCells gx 0 L1) L1.toArray r) := hv1.below HBS.out
          have HLS := Lib.hid hl1
          have HXS : Hid (Blk (w10.setCells gx 0 L1) gx 46 L1.toArray) := blk_setAll (l := (#[.int .i64 0, .int .u32 0, .int .u32 0, .int .u64 0, .int .u32 0, .int .u32 0, .int .u32 0, .slice none 0 0, .slice none 0 0, .slice none 0 0, .int .i64 0, .int .u32 0, .slice none 0 0, .int .i64 0, .int .i64 0, .slice none 0 0] : Array Value).toList) HX10.out (by rw [hl1]; rfl)
          clear hrg1 hv1 hl1 h1 hr1
          go_wp2_with (first
            | ((with_reducible show wpList _ _ _ (⟨some 100, .load 46 (.tmp 99), _, _, _, _⟩ :: _) _ _); refine wpList_load_mid rfl 46 (.tmp 99) rfl g1 (o1 + j * 16) rfl L1 _ HRG.out Try.underlying46 rfl HI.out ?_)
            | ((with_reducible show wpList _ _ _ (⟨none, .store 46 (.tmp 14) (.tmp 100), _, _, _, _⟩ :: _) _ _); refine wpList_store_mid rfl 46 (.tmp 14) (.tmp 100) rfl gx 0 L1.toArray rfl rfl HTH.out HJ.out HON.out ?_))
          go_meet
          exact ⟨L1, rfl, HVS.out, HLS.out, HXS.out, HBS.out⟩
      case rest =>
        obtain ⟨L, rfl, hvL, hlL, hxL, hbL⟩ := hcut
        have HV3c : Hid (RepV wc L3.toArray r) := HV3.out.below hbL
        have HVLc := Lib.hid hvL
        have HRGX : Hid (wc.rangeAt gx 0 L) := blk_range hxL
        have HGXc : Hid (gx < wc.heap.size) := hxL.lt
        have HRG3c : Hid (wc.rangeAt g3 (o3 + i * 16) L3) := below_range HRG3.out hbL HG3.out
        have HG3c : Hid (g3 < wc.heap.size) := Nat.lt_of_lt_of_le HG3.out hbL.size
        have HBL := Lib.hid hbL
        have HI3 : Hid ((Try.prog.info? 46).map (·.size) = some L3.length) := by show _ = _; rw [HL3.out]; exact infoRep
        have HIL : Hid ((Try.prog.info? 46).map (·.size) = some L.length) := by show _ = _; rw [hlL]; exact infoRep
        clear hvL hlL hxL hbL
        have hA3 := HEA.out
        subst hA3
        go_upto_region 18 with fail
        obtain ⟨Bq, hBq⟩ : ∃ Bq, Bq = wc.heap.size := ⟨_, rfl⟩
        have HBQ := Lib.hid hBq
        clear hBq
        have HBD : Hid (Below wc.heap.size wc (World.drew wc)) := bdrew (Below.refl _ _)
        refine wp_region_held_drew (S := (fun w2 => Below Bq wc w2)) (by kernel_rfl) (HBQ.out.symm ▸ HBD.out) (fun hHeld => ?_)
        refine wpAnyH_takeAt (i := 0) (v := (.slice (some ⟨g3, o3, none⟩) k3 c3)) rfl (by kernel_rfl) (by kernel_rfl) (by kernel_rfl) (fun _ _ _ h => h) rfl (Or.inl ⟨by rfl, fun w' hS => ?_⟩) hHeld ?_
        · go_simp
        simp only [List.set_cons_zero, List.set_cons_succ]
        refine wpAnyH_takeAt (i := 1) (v := (.int .i64 (i : Int))) rfl (by kernel_rfl) (by kernel_rfl) (by kernel_rfl) (fun _ _ _ h => h) rfl (Or.inl ⟨by rfl, fun w' hS => ?_⟩) hHeld ?_
        · go_simp
        simp only [List.set_cons_zero, List.set_cons_succ]
        refine wpAnyH_takeAt (i := 2) (v := (.pointer (some ⟨g3, o3 + i * 16, none⟩))) rfl (by kernel_rfl) (by kernel_rfl) (by kernel_rfl) (fun _ _ _ h => h) rfl (Or.inl ⟨by rfl, fun w' hS => ?_⟩) hHeld ?_
        · go_simp
        simp only [List.set_cons_zero, List.set_cons_succ]
        refine wpAnyH_takeAt (i := 3) (v := (.agg L3.toArray)) rfl (by kernel_rfl) (by kernel_rfl) (by kernel_rfl) (fun _ _ _ h => h) rfl (yieldsIf_load_mid (by rfl) 46 _ rfl g3 (o3 + i * 16) rfl L3 _ (fun w' hS => below_range HRG3c.out hS (HBQ.out.symm ▸ HG3c.out)) Try.underlying46 rfl HI3.out) hHeld ?_
        simp only [List.set_cons_zero, List.set_cons_succ]
        refine wpAnyH_takeAt (i := 5) (v := (.agg L.toArray)) rfl (by kernel_rfl) (by kernel_rfl) (by kernel_rfl) (fun _ _ _ h => h) rfl (yieldsIf_load_mid (by rfl) 46 _ rfl gx 0 rfl L _ (fun w' hS => below_range HRGX.out hS (HBQ.out.symm ▸ HGXc.out)) Try.underlying46 rfl HIL.out) hHeld ?_
        simp only [List.set_cons_zero, List.set_cons_succ]
        refine wpAnyH_ready (rs := [4]) (by kernel_rfl) (by simp) (AllReadyH.cons rfl (fun K' hK => ?_) AllReadyH.nil)
        go_simp
        go_at_call 15
        refine (repC_c L3.toArray r _ (HV3c.out.below HBD.out) (by have := HSM.out.1; omega) (by have := HSM.out.2.1; omega) (by have := HSM.out.2.2.1; omega)).mono ?_
        rintro e0 w11 ⟨cs11, rfl, hv11, hb11⟩
        go_wp2_with fail
        have HV11 := Lib.hid hv11
        have HS11 := Lib.hid hb11
        have HB11 : Hid (Below wc.heap.size wc w11) := bcall HBD.out hb11
        clear hv11 hb11
        refine hK.out _ _ (HBQ.out.symm ▸ HB11.out) (fun hHeld' => ?_)
        clear hK hHeld
        have hHeld := hHeld'
        clear hHeld'
        refine wpAnyH_ready (rs := [6]) (by kernel_rfl) (by simp) (AllReadyH.cons rfl (fun K' hK => ?_) AllReadyH.nil)
        go_simp
        go_at_call 15
        refine (repC_c L.toArray r _ (HVLc.out.below HB11.out) (by have := HSM.out.1; omega) (by have := HSM.out.2.1; omega) (by have := HSM.out.2.2.1; omega)).mono ?_
        rintro e0 w12 ⟨cs12, rfl, hv12, hb12⟩
        go_wp2_with fail
        have HV12 := Lib.hid hv12
        have HS12 := Lib.hid hb12
        have HB12 : Hid (Below wc.heap.size wc w12) := bcall HB11.out hb12
        clear hv12 hb12
        refine hK.out _ _ (HBQ.out.symm ▸ HB12.out) (fun hHeld' => ?_)
        clear hK hHeld
        have hHeld := hHeld'
        clear hHeld'
        refine wpAnyH_ready (rs := [7]) (by kernel_rfl) (by simp) (AllReadyH.cons rfl (fun K' hK => ?_) AllReadyH.nil)
        go_simp
        go_at_call 14
        refine (sameR_c cs11 cs12 r _ (HV11.out.below HS12.out) HV12.out (by have := HSM.out.1; omega) (by have := HSM.out.2.1; omega) (by have := HSM.out.2.2.1; omega) (by have := HSM.out.2.2.2; omega)).mono ?_
        rintro e0 w13 ⟨rfl, hb13⟩
        go_wp2_with fail
        have HB13 : Hid (Below wc.heap.size wc w13) := bcall HB12.out hb13
        clear hb13
        refine hK.out _ _ (HBQ.out.symm ▸ HB13.out) (fun hHeld' => ?_)
        clear hK hHeld
        have hHeld := hHeld'
        clear hHeld'
        refine wpAnyH_takeAt (i := 8) (v := (.bool false)) rfl (by kernel_rfl) (by kernel_rfl) (by kernel_rfl) (fun _ _ _ h => h) rfl (Or.inl ⟨by rfl, fun w' hS => ?_⟩) hHeld ?_
        · go_simp
        simp only [List.set_cons_zero, List.set_cons_succ]
        refine wpAnyH_done (by kernel_rfl) ?_ _
        go_wp2_with fail
        go_roundg (k3 - (i + 1))
        case measure => have := HLT.out; have := HG.out; omega
        case rel => have hlt := HLT.out; exact ⟨i + 1, rfl, by omega, by first | rfl | go_num, bcall HBL.out HB13.out⟩
    · have hini : ¬ (i : Int) < (k3 : Int) := by omega
      go_wp2_with fail
      go_ret
      exact ⟨rfl, bcall HBW.out HBX.out⟩
end Go.Proofs.Ytkfimncbfbbopaa
