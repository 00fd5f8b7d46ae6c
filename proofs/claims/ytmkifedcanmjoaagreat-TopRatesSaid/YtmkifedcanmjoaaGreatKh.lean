/- Texts of this claim, one behind the other: QPar, HelpP, SameP. Each says ahead of itself what it proves, and its conditions. -/
import Derived.Test.YtmkifedcanmjoaaGreatJk
import Derived.Test.YtmkifedcanmjoaaGreatJl
import Derived.Test.YtmkifedcanmjoaaGreatJz
import Derived.Test.YtmkifedcanmjoaaGreatJb
import Derived.Test.YtmkifedcanmjoaaGreatJq
/- Reading a rate, a lost picture (plain). No program in sight. -/
set_option linter.unusedVariables false
set_option linter.unusedSimpArgs false
namespace Go.Proofs.YtmkifedcanmjoaaGreat
theorem report_remb (m0 m1 m2 x0 x1 x2 x3 : UInt8) : reportS 206 15 [0, 0, 0, 1, 0, 0, 0, 0, 82, 69, 77, 66, 1, m0, m1, m2, x0, x1, x2, x3] = ({ rep0 with kind := 6, fr := 1, ab := 0, ex := ((beV [m0, m1, m2] / 262144 : Nat) : Int), mt := beV [m0, m1, m2] % 262144, ssrcs := [[beV [x0, x1, x2, x3]]] }, true) := by
  rfl
theorem report_pli (a0 a1 a2 a3 x0 x1 x2 x3 : UInt8) : reportS 206 1 [a0, a1, a2, a3, x0, x1, x2, x3] = ({ rep0 with kind := 4, fr := beV [a0, a1, a2, a3], ab := beV [x0, x1, x2, x3] }, true) := by
  rfl
theorem beV_be4 {x : Nat} (h : x < 4294967296) : beV (be4 x) = x := by
  simp only [beV, be4, List.foldl, UInt8.toNat_ofNat']
  omega
theorem beV_3 {x : Nat} (h : x < 16777216) : beV (beS x 3) = x := by
  simp [beV, beS, beTake, UInt8.toNat_ofNat']
  omega
def rembRep (ex mt x : Nat) : Rep := { rep0 with kind := 6, fr := 1, ab := 0, ex := (ex : Int), mt := mt, ssrcs := [[x]] }
def pliRep (fr ab : Nat) : Rep := { rep0 with kind := 4, fr := fr, ab := ab }
theorem one_remb {ex mt x : Nat} (hex : ex ≤ 63) (hmt : mt < 262144) (hx : x < 4294967296) : oneS (rembD ex mt x) = (rembRep ex mt x, true) ∧ lenS (rembD ex mt x) = (rembD ex mt x).length ∧ (rembD ex mt x).length = 24 := by
  obtain ⟨m0, m1, m2, hm⟩ : ∃ m0 m1 m2, beS (ex * 262144 + mt) 3 = [m0, m1, m2] := ⟨_, _, _, rfl⟩
  obtain ⟨x0, x1, x2, x3, hb⟩ : ∃ x0 x1 x2 x3, be4 x = [x0, x1, x2, x3] := ⟨_, _, _, _, rfl⟩
  have e : rembD ex mt x = [143, 206, 0, 5, 0, 0, 0, 1, 0, 0, 0, 0, 82, 69, 77, 66, 1, m0, m1, m2, x0, x1, x2, x3] := by
    unfold rembD rembF
    rw [hm, hb]
    rfl
  have v1 := beV_3 (x := ex * 262144 + mt) (by omega)
  have v2 := beV_be4 hx
  rw [hm] at v1
  rw [hb] at v2
  rw [e]
  refine ⟨?_, rfl, rfl⟩
  have h := report_remb m0 m1 m2 x0 x1 x2 x3
  rw [v1, v2] at h
  rw [show (ex * 262144 + mt) / 262144 = ex by omega, show (ex * 262144 + mt) % 262144 = mt by omega] at h
  show reportS (UInt8.toNat 206) (UInt8.toNat 143 &&& 31) [0, 0, 0, 1, 0, 0, 0, 0, 82, 69, 77, 66, 1, m0, m1, m2, x0, x1, x2, x3] = _
  rw [show (UInt8.toNat 143 &&& 31) = 15 by decide, show UInt8.toNat 206 = 206 by decide]
  exact h
theorem one_pli {fr ab : Nat} (hf : fr < 4294967296) (ha : ab < 4294967296) : oneS (pliB fr ab) = (pliRep fr ab, true) ∧ lenS (pliB fr ab) = (pliB fr ab).length ∧ (pliB fr ab).length = 12 := by
  obtain ⟨m0, m1, m2, m3, hm⟩ : ∃ m0 m1 m2 m3, be4 fr = [m0, m1, m2, m3] := ⟨_, _, _, _, rfl⟩
  obtain ⟨x0, x1, x2, x3, hb⟩ : ∃ x0 x1 x2 x3, be4 ab = [x0, x1, x2, x3] := ⟨_, _, _, _, rfl⟩
  have e : pliB fr ab = [129, 206, 0, 2, m0, m1, m2, m3, x0, x1, x2, x3] := by
    unfold pliB
    rw [hm, hb]
    rfl
  have v1 := beV_be4 hf
  have v2 := beV_be4 ha
  rw [hm] at v1
  rw [hb] at v2
  rw [e]
  refine ⟨?_, rfl, rfl⟩
  have h := report_pli m0 m1 m2 m3 x0 x1 x2 x3
  rw [v1, v2] at h
  show reportS (UInt8.toNat 206) (UInt8.toNat 129 &&& 31) [m0, m1, m2, m3, x0, x1, x2, x3] = _
  rw [show (UInt8.toNat 129 &&& 31) = 1 by decide, show UInt8.toNat 206 = 206 by decide]
  exact h
theorem head_of {b : List UInt8} {x : UInt8} (h : b.getD 0 0 = x) (hx : x.toNat &&& 224 = 128) : headB b = true := by
  unfold headB
  rw [h, hx]
  rfl
theorem isB_of {b : List UInt8} (h : 2 ≤ b.length) (h1 : b.getD 1 0 = 206) : isB b = true := by
  unfold isB
  rw [h1, decide_eq_true h]
  decide
theorem parse_one {b : List UInt8} {r : Rep} (h1 : oneS b = (r, true)) (h2 : lenS b = b.length) (h4 : 4 ≤ b.length) (h5 : b.length ≤ 1200) (h6 : headB b = true) (h7 : isB b = true) : parseS b = ([r], 0) := by
  unfold parseS
  rw [if_neg (by omega), if_neg (by omega)]
  unfold parN
  rw [if_neg (by omega), if_neg (by omega), if_neg (by rw [h6, h7]; decide), if_neg (by omega), h1, if_neg (by simp), h2, List.drop_length]
  obtain ⟨n, hn⟩ : ∃ n, b.length = n + 1 := ⟨b.length - 1, by omega⟩
  rw [hn]
  rfl
theorem parse_remb {ex mt x : Nat} (hex : ex ≤ 63) (hmt : mt < 262144) (hx : x < 4294967296) : parseS (rembD ex mt x) = ([rembRep ex mt x], 0) := by
  obtain ⟨h1, h2, h3⟩ := one_remb hex hmt hx
  exact parse_one h1 h2 (by omega) (by omega) (head_of (x := 143) rfl (by decide)) (isB_of (by omega) rfl)
theorem parse_pli {fr ab : Nat} (hf : fr < 4294967296) (ha : ab < 4294967296) : parseS (pliB fr ab) = ([pliRep fr ab], 0) := by
  obtain ⟨h1, h2, h3⟩ := one_pli hf ha
  exact parse_one h1 h2 (by omega) (by omega) (head_of (x := 129) rfl (by decide)) (isB_of (by omega) rfl)
theorem rateS_lt {m : Nat} (hm : m < 4294967296) (ex : Int) : rateS m ex < 18446744073709551616 := by
  unfold rateS
  split
  · omega
  split
  · unfold topU; omega
  · rename_i h
    have h1 : m ≤ topU / 2 ^ ex.toNat := by omega
    have h2 : m * 2 ^ ex.toNat ≤ topU := by
      have := Nat.mul_le_mul_right (2 ^ ex.toNat) h1
      exact Nat.le_trans this (Nat.div_mul_le_self _ _)
    unfold topU at h2
    omega
end Go.Proofs.YtmkifedcanmjoaaGreat
/- help.Report of a lost picture; SameReport of it and the document's (contracts). Conditions: none. -/
set_option linter.unusedVariables false
set_option linter.unusedSimpArgs false
namespace Go.Proofs.YtmkifedcanmjoaaGreat
open Go.RowKit
attribute [local go_sem ↓] Go.wp_at_zero Go.wp_at_succ
theorem infoQ : (Tryz.prog.info? 90).map (·.size) = some 16 := by kernel_rfl
set_option maxRecDepth 100000 in
set_option maxHeartbeats 3200000 in
theorem pairs0_c (A : Option Addr) (c : Nat) (w : World) : Calls Tryz.prog 48 #[.slice A 0 c] w fun e w' => e = .returned (.slice none 0 0) ∧ Below w.heap.size w w' := by
  go_enter Tryz.func48, Tryz.ntmps48
  go_upto_region 3 with fail
  go_loopg [3, 4] 0 (fun gg v3 v wx => gg = 0 ∧ v3 = .slice none 0 0 ∧ v = .int .i64 0 ∧ wx = w)
  case atStart => exact ⟨rfl, rfl, rfl, rfl⟩
  case round =>
    obtain ⟨rfl, rfl, rfl, rfl⟩ := hrel
    go_wp2_with fail
    go_ret
    exact ⟨rfl, Below.refl _ _⟩
set_option maxRecDepth 100000 in
set_option maxHeartbeats 12800000 in
theorem helpP_c (fr ab : Nat) (Ab Ap Af As Ad : Option Addr) (cb cp cf cs cd : Nat) (w : World) :
    Calls Tryz.prog 22 #[.agg #[.int .i64 4, .int .u32 (fr : Int), .int .u32 (ab : Int), .int .u64 0, .int .u32 0, .int .u32 0, .int .u32 0, .slice Ab 0 cb, .slice Ap 0 cp, .slice Af 0 cf, .int .i64 0, .int .u32 0, .slice As 0 cs, .int .i64 0, .int .i64 0, .slice Ad 0 cd]] w fun e w' => e = .returned (.agg #[.int .i64 4, .int .u32 (fr : Int), .int .u32 (ab : Int), .int .u64 0, .int .u32 0, .int .u32 0, .int .u32 0, .slice none 0 0, .slice none 0 0, .slice none 0 0, .int .i64 0, .int .u32 0, .slice As 0 cs, .int .i64 0, .int .i64 0, .slice Ad 0 cd]) ∧ Below w.heap.size w w' := by
  obtain ⟨R, hR⟩ : ∃ R : List Value, R = [.int .i64 4, .int .u32 (fr : Int), .int .u32 (ab : Int), .int .u64 0, .int .u32 0, .int .u32 0, .int .u32 0, .slice Ab 0 cb, .slice Ap 0 cp, .slice Af 0 cf, .int .i64 0, .int .u32 0, .slice As 0 cs, .int .i64 0, .int .i64 0, .slice Ad 0 cd] := ⟨_, rfl⟩
  have HRF : Hid (FitL 81 R) := by show FitL _ _; rw [hR]; exact ⟨infoRep, by simp [Value.oneCell']⟩
  have HRE := Lib.hid hR
  obtain ⟨Q, hQ⟩ : ∃ Q : List Value, Q = [.int .i64 4, .int .u32 (fr : Int), .int .u32 (ab : Int), .int .u64 0, .int .u32 0, .int .u32 0, .int .u32 0, .slice none 0 0, .slice none 0 0, .slice none 0 0, .int .i64 0, .int .u32 0, .slice As 0 cs, .int .i64 0, .int .i64 0, .slice Ad 0 cd] := ⟨_, rfl⟩
  have HQF : Hid (FitL 90 Q) := by show FitL _ _; rw [hQ]; exact ⟨infoQ, by simp [Value.oneCell']⟩
  have HQE := Lib.hid hQ
  obtain ⟨Z, hZ⟩ : ∃ Z : List Value, Z = [.int .i64 0, .int .u32 0, .int .u32 0, .int .u64 0, .int .u32 0, .int .u32 0, .int .u32 0, .slice none 0 0, .slice none 0 0, .slice none 0 0, .int .i64 0, .int .u32 0, .slice none 0 0, .int .i64 0, .int .i64 0, .slice none 0 0] := ⟨_, rfl⟩
  have HZF : Hid (FitL 90 Z) := by show FitL _ _; rw [hZ]; exact ⟨infoQ, by simp [Value.oneCell']⟩
  have HZE := Lib.hid hZ
  obtain ⟨Y, hY⟩ : ∃ Y : List Value, Y = [.int .i64 0, .int .u32 0, .int .u32 0, .int .u64 0, .int .u32 0, .int .u32 0, .int .u32 0, .slice none 0 0, .slice none 0 0, .slice none 0 0, .int .i64 0, .int .u32 0, .slice none 0 0, .int .i64 0, .int .i64 0, .slice none 0 0] := ⟨_, rfl⟩
  have HYF : Hid (FitL 90 Y) := by show FitL _ _; rw [hY]; exact ⟨infoQ, by simp [Value.oneCell']⟩
  have HYE := Lib.hid hY
  have HQA : Hid (Q.toArray = #[.int .i64 4, .int .u32 (fr : Int), .int .u32 (ab : Int), .int .u64 0, .int .u32 0, .int .u32 0, .int .u32 0, .slice none 0 0, .slice none 0 0, .slice none 0 0, .int .i64 0, .int .u32 0, .slice As 0 cs, .int .i64 0, .int .i64 0, .slice Ad 0 cd]) := by show _ = _; rw [hQ]
  have HRA : Hid (R.toArray = #[.int .i64 4, .int .u32 (fr : Int), .int .u32 (ab : Int), .int .u64 0, .int .u32 0, .int .u32 0, .int .u32 0, .slice Ab 0 cb, .slice Ap 0 cp, .slice Af 0 cf, .int .i64 0, .int .u32 0, .slice As 0 cs, .int .i64 0, .int .i64 0, .slice Ad 0 cd]) := by show _ = _; rw [hR]
  rw [← HQA.out, ← HRA.out]
  clear hR hQ
  obtain ⟨g1, hg1⟩ : ∃ g1, g1 = w.heap.size := ⟨_, rfl⟩
  obtain ⟨g2, hg2⟩ : ∃ g2, g2 = w.heap.size + 1 := ⟨_, rfl⟩
  obtain ⟨w1, hw1⟩ : ∃ w1, w1 = (w.alloc (.cells R.toArray 81)).alloc (.cells #[.int .i64 0, .int .u32 0, .int .u32 0, .int .u64 0, .int .u32 0, .int .u32 0, .int .u32 0, .slice none 0 0, .slice none 0 0, .slice none 0 0, .int .i64 0, .int .u32 0, .slice none 0 0, .int .i64 0, .int .i64 0, .slice none 0 0] 90) := ⟨_, rfl⟩
  have HM1 : Hid (MW w w1 [(g2, 90, Z), (g1, 81, R)]) := by
    show MW _ _ _
    have h := (((MW.start w).alloc 81 R).alloc 90 Z)
    try simp only [World.size_alloc] at h
    rw [hZ, hw1, hg1, hg2]
    rw [hZ] at h
    exact h
  go_enter Tryz.func22, Tryz.ntmps22
  go_upto_region 1 with fail
  rw [← hw1, ← hg2, ← hg1]
  clear hw1 hg1 hg2 hZ hY
  obtain ⟨w2, hw2⟩ : ∃ w2, w2 = w1.drew := ⟨_, rfl⟩
  have HM2 : Hid (MW w w2 [(g2, 90, Z), (g1, 81, R)]) := by show MW _ _ _; rw [hw2]; exact HM1.out.drew
  refine wp_region_held_drew (S := (fun w' => MW w w' [(g2, 90, Z), (g1, 81, R)])) (by kernel_rfl) (by rw [← hw2]; exact (HM2.out.drop (.cons_cons _ (.cons_cons _ .slnil)))) (fun hHeld => ?_)
  rw [← hw2] at hHeld ⊢
  clear hw2 HM1
  refine wpAnyH_takeAt (i := 0) (v := (.pointer (some ⟨g1, 0, none⟩))) rfl (by kernel_rfl) (by kernel_rfl) (by kernel_rfl) (fun _ _ _ h => h) rfl (Or.inl ⟨by rfl, fun w' hS => ?_⟩) hHeld ?_
  · go_simp
  simp only [List.set_cons_zero, List.set_cons_succ]
  refine wpAnyH_takeAt (i := 1) (v := (.int .i64 4)) rfl (by kernel_rfl) (by kernel_rfl) (by kernel_rfl) (fun _ _ _ h => h) rfl (Or.inl ⟨by rfl, fun w' hS => ?_⟩) hHeld ?_
  · have q0 : w'.cell? ⟨g1, 0, none⟩ = some (.int .i64 4) := by rw [MW.cell hS (.tail _ (.head _)) 0, HRE.out]; rfl
    go_simp
  simp only [List.set_cons_zero, List.set_cons_succ]
  refine wpAnyH_takeAt (i := 2) (v := (.pointer (some ⟨g1, 1, none⟩))) rfl (by kernel_rfl) (by kernel_rfl) (by kernel_rfl) (fun _ _ _ h => h) rfl (Or.inl ⟨by rfl, fun w' hS => ?_⟩) hHeld ?_
  · go_simp
  simp only [List.set_cons_zero, List.set_cons_succ]
  refine wpAnyH_takeAt (i := 3) (v := (.int .u32 (fr : Int))) rfl (by kernel_rfl) (by kernel_rfl) (by kernel_rfl) (fun _ _ _ h => h) rfl (Or.inl ⟨by rfl, fun w' hS => ?_⟩) hHeld ?_
  · have q0 : w'.cell? ⟨g1, 1, none⟩ = some (.int .u32 (fr : Int)) := by rw [MW.cell hS (.tail _ (.head _)) 1, HRE.out]; rfl
    go_simp
  simp only [List.set_cons_zero, List.set_cons_succ]
  refine wpAnyH_takeAt (i := 4) (v := (.pointer (some ⟨g1, 2, none⟩))) rfl (by kernel_rfl) (by kernel_rfl) (by kernel_rfl) (fun _ _ _ h => h) rfl (Or.inl ⟨by rfl, fun w' hS => ?_⟩) hHeld ?_
  · go_simp
  simp only [List.set_cons_zero, List.set_cons_succ]
  refine wpAnyH_takeAt (i := 5) (v := (.int .u32 (ab : Int))) rfl (by kernel_rfl) (by kernel_rfl) (by kernel_rfl) (fun _ _ _ h => h) rfl (Or.inl ⟨by rfl, fun w' hS => ?_⟩) hHeld ?_
  · have q0 : w'.cell? ⟨g1, 2, none⟩ = some (.int .u32 (ab : Int)) := by rw [MW.cell hS (.tail _ (.head _)) 2, HRE.out]; rfl
    go_simp
  simp only [List.set_cons_zero, List.set_cons_succ]
  refine wpAnyH_takeAt (i := 6) (v := (.pointer (some ⟨g1, 3, none⟩))) rfl (by kernel_rfl) (by kernel_rfl) (by kernel_rfl) (fun _ _ _ h => h) rfl (Or.inl ⟨by rfl, fun w' hS => ?_⟩) hHeld ?_
  · go_simp
  simp only [List.set_cons_zero, List.set_cons_succ]
  refine wpAnyH_takeAt (i := 7) (v := (.int .u64 0)) rfl (by kernel_rfl) (by kernel_rfl) (by kernel_rfl) (fun _ _ _ h => h) rfl (Or.inl ⟨by rfl, fun w' hS => ?_⟩) hHeld ?_
  · have q0 : w'.cell? ⟨g1, 3, none⟩ = some (.int .u64 0) := by rw [MW.cell hS (.tail _ (.head _)) 3, HRE.out]; rfl
    go_simp
  simp only [List.set_cons_zero, List.set_cons_succ]
  refine wpAnyH_takeAt (i := 8) (v := (.pointer (some ⟨g1, 4, none⟩))) rfl (by kernel_rfl) (by kernel_rfl) (by kernel_rfl) (fun _ _ _ h => h) rfl (Or.inl ⟨by rfl, fun w' hS => ?_⟩) hHeld ?_
  · go_simp
  simp only [List.set_cons_zero, List.set_cons_succ]
  refine wpAnyH_takeAt (i := 9) (v := (.int .u32 0)) rfl (by kernel_rfl) (by kernel_rfl) (by kernel_rfl) (fun _ _ _ h => h) rfl (Or.inl ⟨by rfl, fun w' hS => ?_⟩) hHeld ?_
  · have q0 : w'.cell? ⟨g1, 4, none⟩ = some (.int .u32 0) := by rw [MW.cell hS (.tail _ (.head _)) 4, HRE.out]; rfl
    go_simp
  simp only [List.set_cons_zero, List.set_cons_succ]
  refine wpAnyH_takeAt (i := 10) (v := (.pointer (some ⟨g1, 5, none⟩))) rfl (by kernel_rfl) (by kernel_rfl) (by kernel_rfl) (fun _ _ _ h => h) rfl (Or.inl ⟨by rfl, fun w' hS => ?_⟩) hHeld ?_
  · go_simp
  simp only [List.set_cons_zero, List.set_cons_succ]
  refine wpAnyH_takeAt (i := 11) (v := (.int .u32 0)) rfl (by kernel_rfl) (by kernel_rfl) (by kernel_rfl) (fun _ _ _ h => h) rfl (Or.inl ⟨by rfl, fun w' hS => ?_⟩) hHeld ?_
  · have q0 : w'.cell? ⟨g1, 5, none⟩ = some (.int .u32 0) := by rw [MW.cell hS (.tail _ (.head _)) 5, HRE.out]; rfl
    go_simp
  simp only [List.set_cons_zero, List.set_cons_succ]
  refine wpAnyH_takeAt (i := 12) (v := (.pointer (some ⟨g1, 6, none⟩))) rfl (by kernel_rfl) (by kernel_rfl) (by kernel_rfl) (fun _ _ _ h => h) rfl (Or.inl ⟨by rfl, fun w' hS => ?_⟩) hHeld ?_
  · go_simp
  simp only [List.set_cons_zero, List.set_cons_succ]
  refine wpAnyH_takeAt (i := 13) (v := (.int .u32 0)) rfl (by kernel_rfl) (by kernel_rfl) (by kernel_rfl) (fun _ _ _ h => h) rfl (Or.inl ⟨by rfl, fun w' hS => ?_⟩) hHeld ?_
  · have q0 : w'.cell? ⟨g1, 6, none⟩ = some (.int .u32 0) := by rw [MW.cell hS (.tail _ (.head _)) 6, HRE.out]; rfl
    go_simp
  simp only [List.set_cons_zero, List.set_cons_succ]
  refine wpAnyH_takeAt (i := 14) (v := (.pointer (some ⟨g1, 8, none⟩))) rfl (by kernel_rfl) (by kernel_rfl) (by kernel_rfl) (fun _ _ _ h => h) rfl (Or.inl ⟨by rfl, fun w' hS => ?_⟩) hHeld ?_
  · go_simp
  simp only [List.set_cons_zero, List.set_cons_succ]
  refine wpAnyH_takeAt (i := 15) (v := (.slice Ap 0 cp)) rfl (by kernel_rfl) (by kernel_rfl) (by kernel_rfl) (fun _ _ _ h => h) rfl (Or.inl ⟨by rfl, fun w' hS => ?_⟩) hHeld ?_
  · have q0 : w'.cell? ⟨g1, 8, none⟩ = some (.slice Ap 0 cp) := by rw [MW.cell hS (.tail _ (.head _)) 8, HRE.out]; rfl
    go_simp
  simp only [List.set_cons_zero, List.set_cons_succ]
  refine wpAnyH_takeAt (i := 17) (v := (.pointer (some ⟨g1, 10, none⟩))) rfl (by kernel_rfl) (by kernel_rfl) (by kernel_rfl) (fun _ _ _ h => h) rfl (Or.inl ⟨by rfl, fun w' hS => ?_⟩) hHeld ?_
  · go_simp
  simp only [List.set_cons_zero, List.set_cons_succ]
  refine wpAnyH_takeAt (i := 18) (v := (.int .i64 0)) rfl (by kernel_rfl) (by kernel_rfl) (by kernel_rfl) (fun _ _ _ h => h) rfl (Or.inl ⟨by rfl, fun w' hS => ?_⟩) hHeld ?_
  · have q0 : w'.cell? ⟨g1, 10, none⟩ = some (.int .i64 0) := by rw [MW.cell hS (.tail _ (.head _)) 10, HRE.out]; rfl
    go_simp
  simp only [List.set_cons_zero, List.set_cons_succ]
  refine wpAnyH_takeAt (i := 19) (v := (.pointer (some ⟨g1, 11, none⟩))) rfl (by kernel_rfl) (by kernel_rfl) (by kernel_rfl) (fun _ _ _ h => h) rfl (Or.inl ⟨by rfl, fun w' hS => ?_⟩) hHeld ?_
  · go_simp
  simp only [List.set_cons_zero, List.set_cons_succ]
  refine wpAnyH_takeAt (i := 20) (v := (.int .u32 0)) rfl (by kernel_rfl) (by kernel_rfl) (by kernel_rfl) (fun _ _ _ h => h) rfl (Or.inl ⟨by rfl, fun w' hS => ?_⟩) hHeld ?_
  · have q0 : w'.cell? ⟨g1, 11, none⟩ = some (.int .u32 0) := by rw [MW.cell hS (.tail _ (.head _)) 11, HRE.out]; rfl
    go_simp
  simp only [List.set_cons_zero, List.set_cons_succ]
  refine wpAnyH_takeAt (i := 21) (v := (.pointer (some ⟨g1, 12, none⟩))) rfl (by kernel_rfl) (by kernel_rfl) (by kernel_rfl) (fun _ _ _ h => h) rfl (Or.inl ⟨by rfl, fun w' hS => ?_⟩) hHeld ?_
  · go_simp
  simp only [List.set_cons_zero, List.set_cons_succ]
  refine wpAnyH_takeAt (i := 22) (v := (.slice As 0 cs)) rfl (by kernel_rfl) (by kernel_rfl) (by kernel_rfl) (fun _ _ _ h => h) rfl (Or.inl ⟨by rfl, fun w' hS => ?_⟩) hHeld ?_
  · have q0 : w'.cell? ⟨g1, 12, none⟩ = some (.slice As 0 cs) := by rw [MW.cell hS (.tail _ (.head _)) 12, HRE.out]; rfl
    go_simp
  simp only [List.set_cons_zero, List.set_cons_succ]
  refine wpAnyH_takeAt (i := 23) (v := (.pointer (some ⟨g1, 13, none⟩))) rfl (by kernel_rfl) (by kernel_rfl) (by kernel_rfl) (fun _ _ _ h => h) rfl (Or.inl ⟨by rfl, fun w' hS => ?_⟩) hHeld ?_
  · go_simp
  simp only [List.set_cons_zero, List.set_cons_succ]
  refine wpAnyH_takeAt (i := 24) (v := (.int .i64 0)) rfl (by kernel_rfl) (by kernel_rfl) (by kernel_rfl) (fun _ _ _ h => h) rfl (Or.inl ⟨by rfl, fun w' hS => ?_⟩) hHeld ?_
  · have q0 : w'.cell? ⟨g1, 13, none⟩ = some (.int .i64 0) := by rw [MW.cell hS (.tail _ (.head _)) 13, HRE.out]; rfl
    go_simp
  simp only [List.set_cons_zero, List.set_cons_succ]
  refine wpAnyH_takeAt (i := 25) (v := (.pointer (some ⟨g1, 14, none⟩))) rfl (by kernel_rfl) (by kernel_rfl) (by kernel_rfl) (fun _ _ _ h => h) rfl (Or.inl ⟨by rfl, fun w' hS => ?_⟩) hHeld ?_
  · go_simp
  simp only [List.set_cons_zero, List.set_cons_succ]
  refine wpAnyH_takeAt (i := 26) (v := (.int .i64 0)) rfl (by kernel_rfl) (by kernel_rfl) (by kernel_rfl) (fun _ _ _ h => h) rfl (Or.inl ⟨by rfl, fun w' hS => ?_⟩) hHeld ?_
  · have q0 : w'.cell? ⟨g1, 14, none⟩ = some (.int .i64 0) := by rw [MW.cell hS (.tail _ (.head _)) 14, HRE.out]; rfl
    go_simp
  simp only [List.set_cons_zero, List.set_cons_succ]
  refine wpAnyH_takeAt (i := 27) (v := (.pointer (some ⟨g1, 15, none⟩))) rfl (by kernel_rfl) (by kernel_rfl) (by kernel_rfl) (fun _ _ _ h => h) rfl (Or.inl ⟨by rfl, fun w' hS => ?_⟩) hHeld ?_
  · go_simp
  simp only [List.set_cons_zero, List.set_cons_succ]
  refine wpAnyH_takeAt (i := 28) (v := (.slice Ad 0 cd)) rfl (by kernel_rfl) (by kernel_rfl) (by kernel_rfl) (fun _ _ _ h => h) rfl (Or.inl ⟨by rfl, fun w' hS => ?_⟩) hHeld ?_
  · have q0 : w'.cell? ⟨g1, 15, none⟩ = some (.slice Ad 0 cd) := by rw [MW.cell hS (.tail _ (.head _)) 15, HRE.out]; rfl
    go_simp
  simp only [List.set_cons_zero, List.set_cons_succ]
  refine wpAnyH_ready (rs := [16, 30]) (by kernel_rfl) (by simp) (AllReadyH.cons rfl (fun K' hK => ?_) (AllReadyH.cons rfl (fun K' hK => ?_) AllReadyH.nil))
  · go_simp
    go_at_call 48
    refine (pairs0_c _ _ w2).mono ?_
    rintro e0 w3 ⟨rfl, hbq⟩
    have HM3 : Hid (MW w w3 [(g2, 90, Z), (g1, 81, R)]) := HM2.out.call hbq
    clear hbq
    go_wp2_with fail
    refine hK.out _ _ (HM3.out.drop (.cons_cons _ (.cons_cons _ .slnil))) (fun hHeld' => ?_)
    clear hK hHeld HM2
    have hHeld := hHeld'
    clear hHeld'
    refine wpAnyH_takeAt (i := 29) (v := (.agg #[.int .i64 4, .int .u32 (fr : Int), .int .u32 (ab : Int), .int .u64 0, .int .u32 0, .int .u32 0, .int .u32 0, .slice none 0 0, .slice none 0 0, .slice none 0 0, .int .i64 0, .int .u32 0, .slice As 0 cs, .int .i64 0, .int .i64 0, .slice Ad 0 cd])) rfl (by kernel_rfl) (by kernel_rfl) (by kernel_rfl) (fun _ _ _ h => h) rfl (Or.inl ⟨by rfl, fun w' hS => ?_⟩) hHeld ?_
    · go_simp
    simp only [List.set_cons_zero, List.set_cons_succ]
    refine wpAnyH_ready (rs := [30]) (by kernel_rfl) (by simp) (AllReadyH.cons rfl (fun K' hK => ?_) AllReadyH.nil)
    go_simp
    obtain ⟨g3, hg3⟩ : ∃ g3, g3 = w3.heap.size := ⟨_, rfl⟩
    obtain ⟨w4, hw4⟩ : ∃ w4, w4 = w3.alloc (.cells #[.int .i64 0, .int .u32 0, .int .u32 0, .int .u64 0, .int .u32 0, .int .u32 0, .int .u32 0, .slice none 0 0, .slice none 0 0, .slice none 0 0, .int .i64 0, .int .u32 0, .slice none 0 0, .int .i64 0, .int .i64 0, .slice none 0 0] 90) := ⟨_, rfl⟩
    have HM4 : Hid (MW w w4 [(g3, 90, Y), (g2, 90, Z), (g1, 81, R)]) := by
      show MW _ _ _
      have h := HM3.out.alloc 90 [.int .i64 0, .int .u32 0, .int .u32 0, .int .u64 0, .int .u32 0, .int .u32 0, .int .u32 0, .slice none 0 0, .slice none 0 0, .slice none 0 0, .int .i64 0, .int .u32 0, .slice none 0 0, .int .i64 0, .int .i64 0, .slice none 0 0]
      rw [hw4, hg3, HYE.out]
      exact h
    rw [← hw4, ← hg3]
    clear hw4 hg3
    refine hK.out _ _ (HM4.out.drop (.cons _ (.cons_cons _ (.cons_cons _ .slnil)))) (fun hHeld' => ?_)
    clear hK hHeld HM3
    have hHeld := hHeld'
    clear hHeld'
    refine wpAnyH_ready (rs := [31]) (by kernel_rfl) (by simp) (AllReadyH.cons rfl (fun K' hK => ?_) AllReadyH.nil)
    rw [if_pos (by rfl)]
    refine wp_store_mid 90 (.tmp 3) (.tmp 35) (by rfl) g3 0 Q.toArray (by rfl) (by rw [HQA.out]; rfl) (HM4.out.there (.head _) 0 _ (by show 0 + Q.length ≤ Y.length; rw [HQF.out.len HYF.out]; omega)) HQF.out.infos HQF.out.one ?_
    obtain ⟨w5, hw5⟩ : ∃ w5, w5 = w4.setCells g3 0 Q := ⟨_, rfl⟩
    have HM5 : Hid (MW w w5 [(g3, 90, Q), (g2, 90, Z), (g1, 81, R)]) := by show MW _ _ _; rw [hw5]; exact MW.set (pre := []) (post := [(g2, 90, Z), (g1, 81, R)]) HM4.out (HQF.out.len HYF.out)
    rw [← hw5]
    clear hw5
    refine hK.out _ _ (HM5.out.drop (.cons _ (.cons_cons _ (.cons_cons _ .slnil)))) (fun hHeld' => ?_)
    clear hK hHeld HM4
    have hHeld := hHeld'
    clear hHeld'
    refine wpAnyH_putNone rfl ?_
    refine wpAnyH_done (by kernel_rfl) ?_ _
    clear hHeld
    have ck7 : w5.cell? ⟨g1, 7, none⟩ = some (.slice Ab 0 cb) := by rw [HM5.out.cell (.tail _ (.tail _ (.head _))) 7, HRE.out]; rfl
    have ck9 : w5.cell? ⟨g1, 9, none⟩ = some (.slice Af 0 cf) := by rw [HM5.out.cell (.tail _ (.tail _ (.head _))) 9, HRE.out]; rfl
    go_upto_region 3 with fail
    go_loopg [4] 0 (fun gg v wx => gg = 0 ∧ v = .int .i64 0 ∧ wx = w5)
    case atStart => exact ⟨rfl, rfl, rfl⟩
    case round =>
      obtain ⟨rfl, rfl, rfl⟩ := hrel
      go_upto_region 7 with fail
      go_loopg [5] 0 (fun gg v wx => gg = 0 ∧ v = .int .i64 0 ∧ wx = wr)
      case atStart => exact ⟨rfl, rfl, rfl⟩
      case round =>
        obtain ⟨rfl, rfl, rfl⟩ := hrel
        go_upto_region 10 with fail
        clear ck7 ck9
        have HRr : Hid (wr.rangeAt g3 0 Q) := HM5.out.range (.head _)
        have HTr : Hid (wr.there g2 0 Q.toArray.size) := HM5.out.there (.tail _ (.head _)) 0 _ (by show 0 + Q.length ≤ Z.length; rw [HQF.out.len HZF.out]; omega)
        go_wp2_with (first
          | ((with_reducible show wpList _ _ _ (⟨some 70, .load _ (.tmp 3), _, _, _, _⟩ :: _) _ _); refine wpList_load_mid rfl 90 (.tmp 3) rfl g3 0 rfl Q _ HRr.out Tryz.underlying90 rfl HQF.out.info ?_)
          | ((with_reducible show wpList _ _ _ (⟨none, .store _ (.tmp 2) _, _, _, _, _⟩ :: _) _ _); refine wpList_store_mid rfl 90 (.tmp 2) (.tmp 70) rfl g2 0 Q.toArray rfl rfl HTr.out HQF.out.infos HQF.out.one ?_))
        have HMr : Hid (MW w (wr.setCells g2 0 Q) [(g3, 90, Q), (g2, 90, Q), (g1, 81, R)]) := MW.set (pre := [(g3, 90, Q)]) (post := [(g1, 81, R)]) HM5.out (HQF.out.len HZF.out)
        (try simp only [Exit.inBlock, Exit.then])
        refine bodyPost_ret (results_c1 rfl rfl (HMr.out.range (.tail _ (.head _))) Tryz.underlying90 rfl HQF.out.info) rfl ?_
        refine ⟨?_, HMr.out.bel⟩
        exact rfl
  · go_simp
    obtain ⟨g3, hg3⟩ : ∃ g3, g3 = w2.heap.size := ⟨_, rfl⟩
    obtain ⟨w3, hw3⟩ : ∃ w3, w3 = w2.alloc (.cells #[.int .i64 0, .int .u32 0, .int .u32 0, .int .u64 0, .int .u32 0, .int .u32 0, .int .u32 0, .slice none 0 0, .slice none 0 0, .slice none 0 0, .int .i64 0, .int .u32 0, .slice none 0 0, .int .i64 0, .int .i64 0, .slice none 0 0] 90) := ⟨_, rfl⟩
    have HM3 : Hid (MW w w3 [(g3, 90, Y), (g2, 90, Z), (g1, 81, R)]) := by
      show MW _ _ _
      have h := HM2.out.alloc 90 [.int .i64 0, .int .u32 0, .int .u32 0, .int .u64 0, .int .u32 0, .int .u32 0, .int .u32 0, .slice none 0 0, .slice none 0 0, .slice none 0 0, .int .i64 0, .int .u32 0, .slice none 0 0, .int .i64 0, .int .i64 0, .slice none 0 0]
      rw [hw3, hg3, HYE.out]
      exact h
    rw [← hw3, ← hg3]
    clear hw3 hg3
    refine hK.out _ _ (HM3.out.drop (.cons _ (.cons_cons _ (.cons_cons _ .slnil)))) (fun hHeld' => ?_)
    clear hK hHeld HM2
    have hHeld := hHeld'
    clear hHeld'
    refine wpAnyH_ready (rs := [16]) (by kernel_rfl) (by simp) (AllReadyH.cons rfl (fun K' hK => ?_) AllReadyH.nil)
    go_simp
    go_at_call 48
    refine (pairs0_c _ _ w3).mono ?_
    rintro e0 w4 ⟨rfl, hbq⟩
    have HM4 : Hid (MW w w4 [(g3, 90, Y), (g2, 90, Z), (g1, 81, R)]) := HM3.out.call hbq
    clear hbq
    go_wp2_with fail
    refine hK.out _ _ (HM4.out.drop (.cons _ (.cons_cons _ (.cons_cons _ .slnil)))) (fun hHeld' => ?_)
    clear hK hHeld HM3
    have hHeld := hHeld'
    clear hHeld'
    refine wpAnyH_takeAt (i := 29) (v := (.agg #[.int .i64 4, .int .u32 (fr : Int), .int .u32 (ab : Int), .int .u64 0, .int .u32 0, .int .u32 0, .int .u32 0, .slice none 0 0, .slice none 0 0, .slice none 0 0, .int .i64 0, .int .u32 0, .slice As 0 cs, .int .i64 0, .int .i64 0, .slice Ad 0 cd])) rfl (by kernel_rfl) (by kernel_rfl) (by kernel_rfl) (fun _ _ _ h => h) rfl (Or.inl ⟨by rfl, fun w' hS => ?_⟩) hHeld ?_
    · go_simp
    simp only [List.set_cons_zero, List.set_cons_succ]
    refine wpAnyH_ready (rs := [31]) (by kernel_rfl) (by simp) (AllReadyH.cons rfl (fun K' hK => ?_) AllReadyH.nil)
    rw [if_pos (by rfl)]
    refine wp_store_mid 90 (.tmp 3) (.tmp 35) (by rfl) g3 0 Q.toArray (by rfl) (by rw [HQA.out]; rfl) (HM4.out.there (.head _) 0 _ (by show 0 + Q.length ≤ Y.length; rw [HQF.out.len HYF.out]; omega)) HQF.out.infos HQF.out.one ?_
    obtain ⟨w5, hw5⟩ : ∃ w5, w5 = w4.setCells g3 0 Q := ⟨_, rfl⟩
    have HM5 : Hid (MW w w5 [(g3, 90, Q), (g2, 90, Z), (g1, 81, R)]) := by show MW _ _ _; rw [hw5]; exact MW.set (pre := []) (post := [(g2, 90, Z), (g1, 81, R)]) HM4.out (HQF.out.len HYF.out)
    rw [← hw5]
    clear hw5
    refine hK.out _ _ (HM5.out.drop (.cons _ (.cons_cons _ (.cons_cons _ .slnil)))) (fun hHeld' => ?_)
    clear hK hHeld HM4
    have hHeld := hHeld'
    clear hHeld'
    refine wpAnyH_putNone rfl ?_
    refine wpAnyH_done (by kernel_rfl) ?_ _
    clear hHeld
    have ck7 : w5.cell? ⟨g1, 7, none⟩ = some (.slice Ab 0 cb) := by rw [HM5.out.cell (.tail _ (.tail _ (.head _))) 7, HRE.out]; rfl
    have ck9 : w5.cell? ⟨g1, 9, none⟩ = some (.slice Af 0 cf) := by rw [HM5.out.cell (.tail _ (.tail _ (.head _))) 9, HRE.out]; rfl
    go_upto_region 3 with fail
    go_loopg [4] 0 (fun gg v wx => gg = 0 ∧ v = .int .i64 0 ∧ wx = w5)
    case atStart => exact ⟨rfl, rfl, rfl⟩
    case round =>
      obtain ⟨rfl, rfl, rfl⟩ := hrel
      go_upto_region 7 with fail
      go_loopg [5] 0 (fun gg v wx => gg = 0 ∧ v = .int .i64 0 ∧ wx = wr)
      case atStart => exact ⟨rfl, rfl, rfl⟩
      case round =>
        obtain ⟨rfl, rfl, rfl⟩ := hrel
        go_upto_region 10 with fail
        clear ck7 ck9
        have HRr : Hid (wr.rangeAt g3 0 Q) := HM5.out.range (.head _)
        have HTr : Hid (wr.there g2 0 Q.toArray.size) := HM5.out.there (.tail _ (.head _)) 0 _ (by show 0 + Q.length ≤ Z.length; rw [HQF.out.len HZF.out]; omega)
        go_wp2_with (first
          | ((with_reducible show wpList _ _ _ (⟨some 70, .load _ (.tmp 3), _, _, _, _⟩ :: _) _ _); refine wpList_load_mid rfl 90 (.tmp 3) rfl g3 0 rfl Q _ HRr.out Tryz.underlying90 rfl HQF.out.info ?_)
          | ((with_reducible show wpList _ _ _ (⟨none, .store _ (.tmp 2) _, _, _, _, _⟩ :: _) _ _); refine wpList_store_mid rfl 90 (.tmp 2) (.tmp 70) rfl g2 0 Q.toArray rfl rfl HTr.out HQF.out.infos HQF.out.one ?_))
        have HMr : Hid (MW w (wr.setCells g2 0 Q) [(g3, 90, Q), (g2, 90, Q), (g1, 81, R)]) := MW.set (pre := [(g3, 90, Q)]) (post := [(g1, 81, R)]) HM5.out (HQF.out.len HZF.out)
        (try simp only [Exit.inBlock, Exit.then])
        refine bodyPost_ret (results_c1 rfl rfl (HMr.out.range (.tail _ (.head _))) Tryz.underlying90 rfl HQF.out.info) rfl ?_
        refine ⟨?_, HMr.out.bel⟩
        exact rfl
end Go.Proofs.YtmkifedcanmjoaaGreat
/- SameReport of a lost picture and the document's (contract). Conditions: none. -/
set_option linter.unusedVariables false
set_option linter.unusedSimpArgs false
namespace Go.Proofs.YtmkifedcanmjoaaGreat
open Go.RowKit
attribute [local go_sem ↓] Go.wp_at_zero Go.wp_at_succ
set_option maxRecDepth 100000 in
set_option maxHeartbeats 12800000 in
theorem sameE_c (A B : Option Addr) (c d : Nat) (w : World) : Calls Tryz.prog 13 #[.slice A 0 c, .slice B 0 d] w fun e w' => e = .returned (.bool true) ∧ Below w.heap.size w w' := by
  refine (same_c (A1 := A) (A2 := B) (c1 := c) (c2 := d) (b1 := []) (b2 := []) ⟨rfl, fun h => absurd h (by decide)⟩ ⟨rfl, fun h => absurd h (by decide)⟩).mono ?_
  rintro e w' ⟨rfl, rfl⟩
  exact ⟨rfl, Below.refl _ _⟩
set_option maxRecDepth 100000 in
set_option maxHeartbeats 25600000 in
theorem sameP_c (fr ab : Nat) (As Ad : Option Addr) (cs cd : Nat) (w : World) :
    Calls Tryz.prog 21 #[.agg #[.int .i64 4, .int .u32 (fr : Int), .int .u32 (ab : Int), .int .u64 0, .int .u32 0, .int .u32 0, .int .u32 0, .slice none 0 0, .slice none 0 0, .slice none 0 0, .int .i64 0, .int .u32 0, .slice As 0 cs, .int .i64 0, .int .i64 0, .slice Ad 0 cd], .agg #[.int .i64 4, .int .u32 (fr : Int), .int .u32 (ab : Int), .int .u64 0, .int .u32 0, .int .u32 0, .int .u32 0, .slice none 0 0, .slice none 0 0, .slice none 0 0, .int .i64 0, .int .u32 0, .slice none 0 0, .int .i64 0, .int .i64 0, .slice none 0 0]] w fun e w' => e = .returned (.bool true) ∧ Below w.heap.size w w' := by
  obtain ⟨h1, h2, h3⟩ := two_blks w 90 90 #[.int .i64 4, .int .u32 (fr : Int), .int .u32 (ab : Int), .int .u64 0, .int .u32 0, .int .u32 0, .int .u32 0, .slice none 0 0, .slice none 0 0, .slice none 0 0, .int .i64 0, .int .u32 0, .slice As 0 cs, .int .i64 0, .int .i64 0, .slice Ad 0 cd] #[.int .i64 4, .int .u32 (fr : Int), .int .u32 (ab : Int), .int .u64 0, .int .u32 0, .int .u32 0, .int .u32 0, .slice none 0 0, .slice none 0 0, .slice none 0 0, .int .i64 0, .int .u32 0, .slice none 0 0, .int .i64 0, .int .i64 0, .slice none 0 0]
  have HX1 := Lib.hid h1
  have HX2 := Lib.hid h2
  have HB1 := Lib.hid h3
  have c0 : World.cell? ((w.alloc (.cells #[.int .i64 4, .int .u32 (fr : Int), .int .u32 (ab : Int), .int .u64 0, .int .u32 0, .int .u32 0, .int .u32 0, .slice none 0 0, .slice none 0 0, .slice none 0 0, .int .i64 0, .int .u32 0, .slice As 0 cs, .int .i64 0, .int .i64 0, .slice Ad 0 cd] 90)).alloc (.cells #[.int .i64 4, .int .u32 (fr : Int), .int .u32 (ab : Int), .int .u64 0, .int .u32 0, .int .u32 0, .int .u32 0, .slice none 0 0, .slice none 0 0, .slice none 0 0, .int .i64 0, .int .u32 0, .slice none 0 0, .int .i64 0, .int .i64 0, .slice none 0 0] 90)) ⟨w.heap.size, 0, none⟩ = some (.int .i64 4) := h1.cell 0
  have d0 : World.cell? ((w.alloc (.cells #[.int .i64 4, .int .u32 (fr : Int), .int .u32 (ab : Int), .int .u64 0, .int .u32 0, .int .u32 0, .int .u32 0, .slice none 0 0, .slice none 0 0, .slice none 0 0, .int .i64 0, .int .u32 0, .slice As 0 cs, .int .i64 0, .int .i64 0, .slice Ad 0 cd] 90)).alloc (.cells #[.int .i64 4, .int .u32 (fr : Int), .int .u32 (ab : Int), .int .u64 0, .int .u32 0, .int .u32 0, .int .u32 0, .slice none 0 0, .slice none 0 0, .slice none 0 0, .int .i64 0, .int .u32 0, .slice none 0 0, .int .i64 0, .int .i64 0, .slice none 0 0] 90)) ⟨w.heap.size + 1, 0, none⟩ = some (.int .i64 4) := h2.cell 0
  have c1 : World.cell? ((w.alloc (.cells #[.int .i64 4, .int .u32 (fr : Int), .int .u32 (ab : Int), .int .u64 0, .int .u32 0, .int .u32 0, .int .u32 0, .slice none 0 0, .slice none 0 0, .slice none 0 0, .int .i64 0, .int .u32 0, .slice As 0 cs, .int .i64 0, .int .i64 0, .slice Ad 0 cd] 90)).alloc (.cells #[.int .i64 4, .int .u32 (fr : Int), .int .u32 (ab : Int), .int .u64 0, .int .u32 0, .int .u32 0, .int .u32 0, .slice none 0 0, .slice none 0 0, .slice none 0 0, .int .i64 0, .int .u32 0, .slice none 0 0, .int .i64 0, .int .i64 0, .slice none 0 0] 90)) ⟨w.heap.size, 1, none⟩ = some (.int .u32 (fr : Int)) := h1.cell 1
  have d1 : World.cell? ((w.alloc (.cells #[.int .i64 4, .int .u32 (fr : Int), .int .u32 (ab : Int), .int .u64 0, .int .u32 0, .int .u32 0, .int .u32 0, .slice none 0 0, .slice none 0 0, .slice none 0 0, .int .i64 0, .int .u32 0, .slice As 0 cs, .int .i64 0, .int .i64 0, .slice Ad 0 cd] 90)).alloc (.cells #[.int .i64 4, .int .u32 (fr : Int), .int .u32 (ab : Int), .int .u64 0, .int .u32 0, .int .u32 0, .int .u32 0, .slice none 0 0, .slice none 0 0, .slice none 0 0, .int .i64 0, .int .u32 0, .slice none 0 0, .int .i64 0, .int .i64 0, .slice none 0 0] 90)) ⟨w.heap.size + 1, 1, none⟩ = some (.int .u32 (fr : Int)) := h2.cell 1
  have c2 : World.cell? ((w.alloc (.cells #[.int .i64 4, .int .u32 (fr : Int), .int .u32 (ab : Int), .int .u64 0, .int .u32 0, .int .u32 0, .int .u32 0, .slice none 0 0, .slice none 0 0, .slice none 0 0, .int .i64 0, .int .u32 0, .slice As 0 cs, .int .i64 0, .int .i64 0, .slice Ad 0 cd] 90)).alloc (.cells #[.int .i64 4, .int .u32 (fr : Int), .int .u32 (ab : Int), .int .u64 0, .int .u32 0, .int .u32 0, .int .u32 0, .slice none 0 0, .slice none 0 0, .slice none 0 0, .int .i64 0, .int .u32 0, .slice none 0 0, .int .i64 0, .int .i64 0, .slice none 0 0] 90)) ⟨w.heap.size, 2, none⟩ = some (.int .u32 (ab : Int)) := h1.cell 2
  have d2 : World.cell? ((w.alloc (.cells #[.int .i64 4, .int .u32 (fr : Int), .int .u32 (ab : Int), .int .u64 0, .int .u32 0, .int .u32 0, .int .u32 0, .slice none 0 0, .slice none 0 0, .slice none 0 0, .int .i64 0, .int .u32 0, .slice As 0 cs, .int .i64 0, .int .i64 0, .slice Ad 0 cd] 90)).alloc (.cells #[.int .i64 4, .int .u32 (fr : Int), .int .u32 (ab : Int), .int .u64 0, .int .u32 0, .int .u32 0, .int .u32 0, .slice none 0 0, .slice none 0 0, .slice none 0 0, .int .i64 0, .int .u32 0, .slice none 0 0, .int .i64 0, .int .i64 0, .slice none 0 0] 90)) ⟨w.heap.size + 1, 2, none⟩ = some (.int .u32 (ab : Int)) := h2.cell 2
  have c3 : World.cell? ((w.alloc (.cells #[.int .i64 4, .int .u32 (fr : Int), .int .u32 (ab : Int), .int .u64 0, .int .u32 0, .int .u32 0, .int .u32 0, .slice none 0 0, .slice none 0 0, .slice none 0 0, .int .i64 0, .int .u32 0, .slice As 0 cs, .int .i64 0, .int .i64 0, .slice Ad 0 cd] 90)).alloc (.cells #[.int .i64 4, .int .u32 (fr : Int), .int .u32 (ab : Int), .int .u64 0, .int .u32 0, .int .u32 0, .int .u32 0, .slice none 0 0, .slice none 0 0, .slice none 0 0, .int .i64 0, .int .u32 0, .slice none 0 0, .int .i64 0, .int .i64 0, .slice none 0 0] 90)) ⟨w.heap.size, 3, none⟩ = some (.int .u64 0) := h1.cell 3
  have d3 : World.cell? ((w.alloc (.cells #[.int .i64 4, .int .u32 (fr : Int), .int .u32 (ab : Int), .int .u64 0, .int .u32 0, .int .u32 0, .int .u32 0, .slice none 0 0, .slice none 0 0, .slice none 0 0, .int .i64 0, .int .u32 0, .slice As 0 cs, .int .i64 0, .int .i64 0, .slice Ad 0 cd] 90)).alloc (.cells #[.int .i64 4, .int .u32 (fr : Int), .int .u32 (ab : Int), .int .u64 0, .int .u32 0, .int .u32 0, .int .u32 0, .slice none 0 0, .slice none 0 0, .slice none 0 0, .int .i64 0, .int .u32 0, .slice none 0 0, .int .i64 0, .int .i64 0, .slice none 0 0] 90)) ⟨w.heap.size + 1, 3, none⟩ = some (.int .u64 0) := h2.cell 3
  have c4 : World.cell? ((w.alloc (.cells #[.int .i64 4, .int .u32 (fr : Int), .int .u32 (ab : Int), .int .u64 0, .int .u32 0, .int .u32 0, .int .u32 0, .slice none 0 0, .slice none 0 0, .slice none 0 0, .int .i64 0, .int .u32 0, .slice As 0 cs, .int .i64 0, .int .i64 0, .slice Ad 0 cd] 90)).alloc (.cells #[.int .i64 4, .int .u32 (fr : Int), .int .u32 (ab : Int), .int .u64 0, .int .u32 0, .int .u32 0, .int .u32 0, .slice none 0 0, .slice none 0 0, .slice none 0 0, .int .i64 0, .int .u32 0, .slice none 0 0, .int .i64 0, .int .i64 0, .slice none 0 0] 90)) ⟨w.heap.size, 4, none⟩ = some (.int .u32 0) := h1.cell 4
  have d4 : World.cell? ((w.alloc (.cells #[.int .i64 4, .int .u32 (fr : Int), .int .u32 (ab : Int), .int .u64 0, .int .u32 0, .int .u32 0, .int .u32 0, .slice none 0 0, .slice none 0 0, .slice none 0 0, .int .i64 0, .int .u32 0, .slice As 0 cs, .int .i64 0, .int .i64 0, .slice Ad 0 cd] 90)).alloc (.cells #[.int .i64 4, .int .u32 (fr : Int), .int .u32 (ab : Int), .int .u64 0, .int .u32 0, .int .u32 0, .int .u32 0, .slice none 0 0, .slice none 0 0, .slice none 0 0, .int .i64 0, .int .u32 0, .slice none 0 0, .int .i64 0, .int .i64 0, .slice none 0 0] 90)) ⟨w.heap.size + 1, 4, none⟩ = some (.int .u32 0) := h2.cell 4
  have c5 : World.cell? ((w.alloc (.cells #[.int .i64 4, .int .u32 (fr : Int), .int .u32 (ab : Int), .int .u64 0, .int .u32 0, .int .u32 0, .int .u32 0, .slice none 0 0, .slice none 0 0, .slice none 0 0, .int .i64 0, .int .u32 0, .slice As 0 cs, .int .i64 0, .int .i64 0, .slice Ad 0 cd] 90)).alloc (.cells #[.int .i64 4, .int .u32 (fr : Int), .int .u32 (ab : Int), .int .u64 0, .int .u32 0, .int .u32 0, .int .u32 0, .slice none 0 0, .slice none 0 0, .slice none 0 0, .int .i64 0, .int .u32 0, .slice none 0 0, .int .i64 0, .int .i64 0, .slice none 0 0] 90)) ⟨w.heap.size, 5, none⟩ = some (.int .u32 0) := h1.cell 5
  have d5 : World.cell? ((w.alloc (.cells #[.int .i64 4, .int .u32 (fr : Int), .int .u32 (ab : Int), .int .u64 0, .int .u32 0, .int .u32 0, .int .u32 0, .slice none 0 0, .slice none 0 0, .slice none 0 0, .int .i64 0, .int .u32 0, .slice As 0 cs, .int .i64 0, .int .i64 0, .slice Ad 0 cd] 90)).alloc (.cells #[.int .i64 4, .int .u32 (fr : Int), .int .u32 (ab : Int), .int .u64 0, .int .u32 0, .int .u32 0, .int .u32 0, .slice none 0 0, .slice none 0 0, .slice none 0 0, .int .i64 0, .int .u32 0, .slice none 0 0, .int .i64 0, .int .i64 0, .slice none 0 0] 90)) ⟨w.heap.size + 1, 5, none⟩ = some (.int .u32 0) := h2.cell 5
  have c6 : World.cell? ((w.alloc (.cells #[.int .i64 4, .int .u32 (fr : Int), .int .u32 (ab : Int), .int .u64 0, .int .u32 0, .int .u32 0, .int .u32 0, .slice none 0 0, .slice none 0 0, .slice none 0 0, .int .i64 0, .int .u32 0, .slice As 0 cs, .int .i64 0, .int .i64 0, .slice Ad 0 cd] 90)).alloc (.cells #[.int .i64 4, .int .u32 (fr : Int), .int .u32 (ab : Int), .int .u64 0, .int .u32 0, .int .u32 0, .int .u32 0, .slice none 0 0, .slice none 0 0, .slice none 0 0, .int .i64 0, .int .u32 0, .slice none 0 0, .int .i64 0, .int .i64 0, .slice none 0 0] 90)) ⟨w.heap.size, 6, none⟩ = some (.int .u32 0) := h1.cell 6
  have d6 : World.cell? ((w.alloc (.cells #[.int .i64 4, .int .u32 (fr : Int), .int .u32 (ab : Int), .int .u64 0, .int .u32 0, .int .u32 0, .int .u32 0, .slice none 0 0, .slice none 0 0, .slice none 0 0, .int .i64 0, .int .u32 0, .slice As 0 cs, .int .i64 0, .int .i64 0, .slice Ad 0 cd] 90)).alloc (.cells #[.int .i64 4, .int .u32 (fr : Int), .int .u32 (ab : Int), .int .u64 0, .int .u32 0, .int .u32 0, .int .u32 0, .slice none 0 0, .slice none 0 0, .slice none 0 0, .int .i64 0, .int .u32 0, .slice none 0 0, .int .i64 0, .int .i64 0, .slice none 0 0] 90)) ⟨w.heap.size + 1, 6, none⟩ = some (.int .u32 0) := h2.cell 6
  have c7 : World.cell? ((w.alloc (.cells #[.int .i64 4, .int .u32 (fr : Int), .int .u32 (ab : Int), .int .u64 0, .int .u32 0, .int .u32 0, .int .u32 0, .slice none 0 0, .slice none 0 0, .slice none 0 0, .int .i64 0, .int .u32 0, .slice As 0 cs, .int .i64 0, .int .i64 0, .slice Ad 0 cd] 90)).alloc (.cells #[.int .i64 4, .int .u32 (fr : Int), .int .u32 (ab : Int), .int .u64 0, .int .u32 0, .int .u32 0, .int .u32 0, .slice none 0 0, .slice none 0 0, .slice none 0 0, .int .i64 0, .int .u32 0, .slice none 0 0, .int .i64 0, .int .i64 0, .slice none 0 0] 90)) ⟨w.heap.size, 7, none⟩ = some (.slice none 0 0) := h1.cell 7
  have d7 : World.cell? ((w.alloc (.cells #[.int .i64 4, .int .u32 (fr : Int), .int .u32 (ab : Int), .int .u64 0, .int .u32 0, .int .u32 0, .int .u32 0, .slice none 0 0, .slice none 0 0, .slice none 0 0, .int .i64 0, .int .u32 0, .slice As 0 cs, .int .i64 0, .int .i64 0, .slice Ad 0 cd] 90)).alloc (.cells #[.int .i64 4, .int .u32 (fr : Int), .int .u32 (ab : Int), .int .u64 0, .int .u32 0, .int .u32 0, .int .u32 0, .slice none 0 0, .slice none 0 0, .slice none 0 0, .int .i64 0, .int .u32 0, .slice none 0 0, .int .i64 0, .int .i64 0, .slice none 0 0] 90)) ⟨w.heap.size + 1, 7, none⟩ = some (.slice none 0 0) := h2.cell 7
  have c8 : World.cell? ((w.alloc (.cells #[.int .i64 4, .int .u32 (fr : Int), .int .u32 (ab : Int), .int .u64 0, .int .u32 0, .int .u32 0, .int .u32 0, .slice none 0 0, .slice none 0 0, .slice none 0 0, .int .i64 0, .int .u32 0, .slice As 0 cs, .int .i64 0, .int .i64 0, .slice Ad 0 cd] 90)).alloc (.cells #[.int .i64 4, .int .u32 (fr : Int), .int .u32 (ab : Int), .int .u64 0, .int .u32 0, .int .u32 0, .int .u32 0, .slice none 0 0, .slice none 0 0, .slice none 0 0, .int .i64 0, .int .u32 0, .slice none 0 0, .int .i64 0, .int .i64 0, .slice none 0 0] 90)) ⟨w.heap.size, 8, none⟩ = some (.slice none 0 0) := h1.cell 8
  have d8 : World.cell? ((w.alloc (.cells #[.int .i64 4, .int .u32 (fr : Int), .int .u32 (ab : Int), .int .u64 0, .int .u32 0, .int .u32 0, .int .u32 0, .slice none 0 0, .slice none 0 0, .slice none 0 0, .int .i64 0, .int .u32 0, .slice As 0 cs, .int .i64 0, .int .i64 0, .slice Ad 0 cd] 90)).alloc (.cells #[.int .i64 4, .int .u32 (fr : Int), .int .u32 (ab : Int), .int .u64 0, .int .u32 0, .int .u32 0, .int .u32 0, .slice none 0 0, .slice none 0 0, .slice none 0 0, .int .i64 0, .int .u32 0, .slice none 0 0, .int .i64 0, .int .i64 0, .slice none 0 0] 90)) ⟨w.heap.size + 1, 8, none⟩ = some (.slice none 0 0) := h2.cell 8
  have c9 : World.cell? ((w.alloc (.cells #[.int .i64 4, .int .u32 (fr : Int), .int .u32 (ab : Int), .int .u64 0, .int .u32 0, .int .u32 0, .int .u32 0, .slice none 0 0, .slice none 0 0, .slice none 0 0, .int .i64 0, .int .u32 0, .slice As 0 cs, .int .i64 0, .int .i64 0, .slice Ad 0 cd] 90)).alloc (.cells #[.int .i64 4, .int .u32 (fr : Int), .int .u32 (ab : Int), .int .u64 0, .int .u32 0, .int .u32 0, .int .u32 0, .slice none 0 0, .slice none 0 0, .slice none 0 0, .int .i64 0, .int .u32 0, .slice none 0 0, .int .i64 0, .int .i64 0, .slice none 0 0] 90)) ⟨w.heap.size, 9, none⟩ = some (.slice none 0 0) := h1.cell 9
  have d9 : World.cell? ((w.alloc (.cells #[.int .i64 4, .int .u32 (fr : Int), .int .u32 (ab : Int), .int .u64 0, .int .u32 0, .int .u32 0, .int .u32 0, .slice none 0 0, .slice none 0 0, .slice none 0 0, .int .i64 0, .int .u32 0, .slice As 0 cs, .int .i64 0, .int .i64 0, .slice Ad 0 cd] 90)).alloc (.cells #[.int .i64 4, .int .u32 (fr : Int), .int .u32 (ab : Int), .int .u64 0, .int .u32 0, .int .u32 0, .int .u32 0, .slice none 0 0, .slice none 0 0, .slice none 0 0, .int .i64 0, .int .u32 0, .slice none 0 0, .int .i64 0, .int .i64 0, .slice none 0 0] 90)) ⟨w.heap.size + 1, 9, none⟩ = some (.slice none 0 0) := h2.cell 9
  have c10 : World.cell? ((w.alloc (.cells #[.int .i64 4, .int .u32 (fr : Int), .int .u32 (ab : Int), .int .u64 0, .int .u32 0, .int .u32 0, .int .u32 0, .slice none 0 0, .slice none 0 0, .slice none 0 0, .int .i64 0, .int .u32 0, .slice As 0 cs, .int .i64 0, .int .i64 0, .slice Ad 0 cd] 90)).alloc (.cells #[.int .i64 4, .int .u32 (fr : Int), .int .u32 (ab : Int), .int .u64 0, .int .u32 0, .int .u32 0, .int .u32 0, .slice none 0 0, .slice none 0 0, .slice none 0 0, .int .i64 0, .int .u32 0, .slice none 0 0, .int .i64 0, .int .i64 0, .slice none 0 0] 90)) ⟨w.heap.size, 10, none⟩ = some (.int .i64 0) := h1.cell 10
  have d10 : World.cell? ((w.alloc (.cells #[.int .i64 4, .int .u32 (fr : Int), .int .u32 (ab : Int), .int .u64 0, .int .u32 0, .int .u32 0, .int .u32 0, .slice none 0 0, .slice none 0 0, .slice none 0 0, .int .i64 0, .int .u32 0, .slice As 0 cs, .int .i64 0, .int .i64 0, .slice Ad 0 cd] 90)).alloc (.cells #[.int .i64 4, .int .u32 (fr : Int), .int .u32 (ab : Int), .int .u64 0, .int .u32 0, .int .u32 0, .int .u32 0, .slice none 0 0, .slice none 0 0, .slice none 0 0, .int .i64 0, .int .u32 0, .slice none 0 0, .int .i64 0, .int .i64 0, .slice none 0 0] 90)) ⟨w.heap.size + 1, 10, none⟩ = some (.int .i64 0) := h2.cell 10
  have c11 : World.cell? ((w.alloc (.cells #[.int .i64 4, .int .u32 (fr : Int), .int .u32 (ab : Int), .int .u64 0, .int .u32 0, .int .u32 0, .int .u32 0, .slice none 0 0, .slice none 0 0, .slice none 0 0, .int .i64 0, .int .u32 0, .slice As 0 cs, .int .i64 0, .int .i64 0, .slice Ad 0 cd] 90)).alloc (.cells #[.int .i64 4, .int .u32 (fr : Int), .int .u32 (ab : Int), .int .u64 0, .int .u32 0, .int .u32 0, .int .u32 0, .slice none 0 0, .slice none 0 0, .slice none 0 0, .int .i64 0, .int .u32 0, .slice none 0 0, .int .i64 0, .int .i64 0, .slice none 0 0] 90)) ⟨w.heap.size, 11, none⟩ = some (.int .u32 0) := h1.cell 11
  have d11 : World.cell? ((w.alloc (.cells #[.int .i64 4, .int .u32 (fr : Int), .int .u32 (ab : Int), .int .u64 0, .int .u32 0, .int .u32 0, .int .u32 0, .slice none 0 0, .slice none 0 0, .slice none 0 0, .int .i64 0, .int .u32 0, .slice As 0 cs, .int .i64 0, .int .i64 0, .slice Ad 0 cd] 90)).alloc (.cells #[.int .i64 4, .int .u32 (fr : Int), .int .u32 (ab : Int), .int .u64 0, .int .u32 0, .int .u32 0, .int .u32 0, .slice none 0 0, .slice none 0 0, .slice none 0 0, .int .i64 0, .int .u32 0, .slice none 0 0, .int .i64 0, .int .i64 0, .slice none 0 0] 90)) ⟨w.heap.size + 1, 11, none⟩ = some (.int .u32 0) := h2.cell 11
  have c12 : World.cell? ((w.alloc (.cells #[.int .i64 4, .int .u32 (fr : Int), .int .u32 (ab : Int), .int .u64 0, .int .u32 0, .int .u32 0, .int .u32 0, .slice none 0 0, .slice none 0 0, .slice none 0 0, .int .i64 0, .int .u32 0, .slice As 0 cs, .int .i64 0, .int .i64 0, .slice Ad 0 cd] 90)).alloc (.cells #[.int .i64 4, .int .u32 (fr : Int), .int .u32 (ab : Int), .int .u64 0, .int .u32 0, .int .u32 0, .int .u32 0, .slice none 0 0, .slice none 0 0, .slice none 0 0, .int .i64 0, .int .u32 0, .slice none 0 0, .int .i64 0, .int .i64 0, .slice none 0 0] 90)) ⟨w.heap.size, 12, none⟩ = some (.slice As 0 cs) := h1.cell 12
  have d12 : World.cell? ((w.alloc (.cells #[.int .i64 4, .int .u32 (fr : Int), .int .u32 (ab : Int), .int .u64 0, .int .u32 0, .int .u32 0, .int .u32 0, .slice none 0 0, .slice none 0 0, .slice none 0 0, .int .i64 0, .int .u32 0, .slice As 0 cs, .int .i64 0, .int .i64 0, .slice Ad 0 cd] 90)).alloc (.cells #[.int .i64 4, .int .u32 (fr : Int), .int .u32 (ab : Int), .int .u64 0, .int .u32 0, .int .u32 0, .int .u32 0, .slice none 0 0, .slice none 0 0, .slice none 0 0, .int .i64 0, .int .u32 0, .slice none 0 0, .int .i64 0, .int .i64 0, .slice none 0 0] 90)) ⟨w.heap.size + 1, 12, none⟩ = some (.slice none 0 0) := h2.cell 12
  have c13 : World.cell? ((w.alloc (.cells #[.int .i64 4, .int .u32 (fr : Int), .int .u32 (ab : Int), .int .u64 0, .int .u32 0, .int .u32 0, .int .u32 0, .slice none 0 0, .slice none 0 0, .slice none 0 0, .int .i64 0, .int .u32 0, .slice As 0 cs, .int .i64 0, .int .i64 0, .slice Ad 0 cd] 90)).alloc (.cells #[.int .i64 4, .int .u32 (fr : Int), .int .u32 (ab : Int), .int .u64 0, .int .u32 0, .int .u32 0, .int .u32 0, .slice none 0 0, .slice none 0 0, .slice none 0 0, .int .i64 0, .int .u32 0, .slice none 0 0, .int .i64 0, .int .i64 0, .slice none 0 0] 90)) ⟨w.heap.size, 13, none⟩ = some (.int .i64 0) := h1.cell 13
  have d13 : World.cell? ((w.alloc (.cells #[.int .i64 4, .int .u32 (fr : Int), .int .u32 (ab : Int), .int .u64 0, .int .u32 0, .int .u32 0, .int .u32 0, .slice none 0 0, .slice none 0 0, .slice none 0 0, .int .i64 0, .int .u32 0, .slice As 0 cs, .int .i64 0, .int .i64 0, .slice Ad 0 cd] 90)).alloc (.cells #[.int .i64 4, .int .u32 (fr : Int), .int .u32 (ab : Int), .int .u64 0, .int .u32 0, .int .u32 0, .int .u32 0, .slice none 0 0, .slice none 0 0, .slice none 0 0, .int .i64 0, .int .u32 0, .slice none 0 0, .int .i64 0, .int .i64 0, .slice none 0 0] 90)) ⟨w.heap.size + 1, 13, none⟩ = some (.int .i64 0) := h2.cell 13
  have c14 : World.cell? ((w.alloc (.cells #[.int .i64 4, .int .u32 (fr : Int), .int .u32 (ab : Int), .int .u64 0, .int .u32 0, .int .u32 0, .int .u32 0, .slice none 0 0, .slice none 0 0, .slice none 0 0, .int .i64 0, .int .u32 0, .slice As 0 cs, .int .i64 0, .int .i64 0, .slice Ad 0 cd] 90)).alloc (.cells #[.int .i64 4, .int .u32 (fr : Int), .int .u32 (ab : Int), .int .u64 0, .int .u32 0, .int .u32 0, .int .u32 0, .slice none 0 0, .slice none 0 0, .slice none 0 0, .int .i64 0, .int .u32 0, .slice none 0 0, .int .i64 0, .int .i64 0, .slice none 0 0] 90)) ⟨w.heap.size, 14, none⟩ = some (.int .i64 0) := h1.cell 14
  have d14 : World.cell? ((w.alloc (.cells #[.int .i64 4, .int .u32 (fr : Int), .int .u32 (ab : Int), .int .u64 0, .int .u32 0, .int .u32 0, .int .u32 0, .slice none 0 0, .slice none 0 0, .slice none 0 0, .int .i64 0, .int .u32 0, .slice As 0 cs, .int .i64 0, .int .i64 0, .slice Ad 0 cd] 90)).alloc (.cells #[.int .i64 4, .int .u32 (fr : Int), .int .u32 (ab : Int), .int .u64 0, .int .u32 0, .int .u32 0, .int .u32 0, .slice none 0 0, .slice none 0 0, .slice none 0 0, .int .i64 0, .int .u32 0, .slice none 0 0, .int .i64 0, .int .i64 0, .slice none 0 0] 90)) ⟨w.heap.size + 1, 14, none⟩ = some (.int .i64 0) := h2.cell 14
  have c15 : World.cell? ((w.alloc (.cells #[.int .i64 4, .int .u32 (fr : Int), .int .u32 (ab : Int), .int .u64 0, .int .u32 0, .int .u32 0, .int .u32 0, .slice none 0 0, .slice none 0 0, .slice none 0 0, .int .i64 0, .int .u32 0, .slice As 0 cs, .int .i64 0, .int .i64 0, .slice Ad 0 cd] 90)).alloc (.cells #[.int .i64 4, .int .u32 (fr : Int), .int .u32 (ab : Int), .int .u64 0, .int .u32 0, .int .u32 0, .int .u32 0, .slice none 0 0, .slice none 0 0, .slice none 0 0, .int .i64 0, .int .u32 0, .slice none 0 0, .int .i64 0, .int .i64 0, .slice none 0 0] 90)) ⟨w.heap.size, 15, none⟩ = some (.slice Ad 0 cd) := h1.cell 15
  have d15 : World.cell? ((w.alloc (.cells #[.int .i64 4, .int .u32 (fr : Int), .int .u32 (ab : Int), .int .u64 0, .int .u32 0, .int .u32 0, .int .u32 0, .slice none 0 0, .slice none 0 0, .slice none 0 0, .int .i64 0, .int .u32 0, .slice As 0 cs, .int .i64 0, .int .i64 0, .slice Ad 0 cd] 90)).alloc (.cells #[.int .i64 4, .int .u32 (fr : Int), .int .u32 (ab : Int), .int .u64 0, .int .u32 0, .int .u32 0, .int .u32 0, .slice none 0 0, .slice none 0 0, .slice none 0 0, .int .i64 0, .int .u32 0, .slice none 0 0, .int .i64 0, .int .i64 0, .slice none 0 0] 90)) ⟨w.heap.size + 1, 15, none⟩ = some (.slice none 0 0) := h2.cell 15
  have e1 : ((fr : Int) != (fr : Int)) = false := by simp
  have e2 : ((ab : Int) != (ab : Int)) = false := by simp
  clear h1 h2 h3
  go_enter Tryz.func21, Tryz.ntmps21
  go_upto_region 6 with (first
    | (go_at_call 13
       refine (sameE_c Ad none cd 0 _).mono ?_
       rintro e9 w2 ⟨rfl, hb9⟩
       have HB2 : Hid (Below w.heap.size w w2) := bcall HB1.out hb9
       have r7 : w2.cell? ⟨w.heap.size, 7, none⟩ = some (.slice none 0 0) := (HX1.out.below hb9).cell 7
       have t7 : w2.cell? ⟨w.heap.size + 1, 7, none⟩ = some (.slice none 0 0) := (HX2.out.below hb9).cell 7
       have r8 : w2.cell? ⟨w.heap.size, 8, none⟩ = some (.slice none 0 0) := (HX1.out.below hb9).cell 8
       have t8 : w2.cell? ⟨w.heap.size + 1, 8, none⟩ = some (.slice none 0 0) := (HX2.out.below hb9).cell 8
       have r9 : w2.cell? ⟨w.heap.size, 9, none⟩ = some (.slice none 0 0) := (HX1.out.below hb9).cell 9
       have t9 : w2.cell? ⟨w.heap.size + 1, 9, none⟩ = some (.slice none 0 0) := (HX2.out.below hb9).cell 9
       have r12 : w2.cell? ⟨w.heap.size, 12, none⟩ = some (.slice As 0 cs) := (HX1.out.below hb9).cell 12
       have t12 : w2.cell? ⟨w.heap.size + 1, 12, none⟩ = some (.slice none 0 0) := (HX2.out.below hb9).cell 12
       clear hb9))
  clear c0 d0 c1 d1 c2 d2 c3 d3 c4 d4 c5 d5 c6 d6 c7 d7 c8 d8 c9 d9 c10 d10 c11 d11 c12 d12 c13 d13 c14 d14 c15 d15 e1 e2
  go_loopg [5] 0 (fun gg v wx => gg = 0 ∧ v = .int .i64 0 ∧ wx = w2)
  case atStart => exact ⟨rfl, rfl, rfl⟩
  case round =>
    obtain ⟨rfl, rfl, rfl⟩ := hrel
    go_upto_region 11 with fail
    go_loopg [6] 0 (fun gg v wx => gg = 0 ∧ v = .int .i64 0 ∧ wx = wr)
    case atStart => exact ⟨rfl, rfl, rfl⟩
    case round =>
      obtain ⟨rfl, rfl, rfl⟩ := hrel
      go_upto_region 16 with fail
      go_loopg [7] 0 (fun gg v wx => gg = 0 ∧ v = .int .i64 0 ∧ wx = wr)
      case atStart => exact ⟨rfl, rfl, rfl⟩
      case round =>
        obtain ⟨rfl, rfl, rfl⟩ := hrel
        go_upto_region 21 with fail
        go_loopg [8] 0 (fun gg v wx => gg = 0 ∧ v = .int .i64 0 ∧ wx = wr)
        case atStart => exact ⟨rfl, rfl, rfl⟩
        case round =>
          obtain ⟨rfl, rfl, rfl⟩ := hrel
          go_wp2_with fail
          go_ret
          exact ⟨rfl, HB2.out⟩
end Go.Proofs.YtmkifedcanmjoaaGreat
