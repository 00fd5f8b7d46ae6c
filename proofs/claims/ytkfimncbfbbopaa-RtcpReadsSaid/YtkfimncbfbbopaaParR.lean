/- The reference's ParseReports (contract). Conditions: the bytes lie in memory. (Printed by gen8q.py.) -/
import Derived.Test.YtkfimncbfbbopaaRd7
set_option linter.unusedVariables false
set_option linter.unusedSimpArgs false
namespace Go.Proofs.Ytkfimncbfbbopaa
open Go.RowKit
attribute [local go_sem ↓] Go.wp_at_zero Go.wp_at_succ

/-- Lists of reports of the reference's, their slices of the call's own. -/
def RepsR (w : World) (B : Nat) (css : List (Array Value)) (rs : List Rep) : Prop := css.length = rs.length ∧ ∀ (i : Nat) (cs : Array Value) (r : Rep), css[i]? = some cs → rs[i]? = some r → RepR w B cs r
section
variable {w w' : World} {B : Nat} {css : List (Array Value)} {rs : List Rep}
theorem RepsR.nil (w : World) (B : Nat) : RepsR w B [] [] := ⟨rfl, fun i cs r h => by simp at h⟩
theorem RepsR.keep (h : RepsR w B css rs) (hk : ∀ cs r, RepR w B cs r → RepR w' B cs r) : RepsR w' B css rs := ⟨h.1, fun i cs r h1 h2 => hk cs r (h.2 i cs r h1 h2)⟩
theorem RepsR.below (h : RepsR w B css rs) (hb : Below w.heap.size w w') : RepsR w' B css rs := h.keep fun _ _ h => h.below hb
theorem RepsR.snoc {cs : Array Value} {r : Rep} (h : RepsR w B css rs) (h1 : RepR w B cs r) : RepsR w B (css ++ [cs]) (rs ++ [r]) := by
  refine ⟨by rw [List.length_append, List.length_append, h.1]; rfl, fun i c x hc hx => ?_⟩
  by_cases hi : i < css.length
  · rw [List.getElem?_append_left hi] at hc
    rw [List.getElem?_append_left (by rw [← h.1]; exact hi)] at hx
    exact h.2 i c x hc hx
  · rw [List.getElem?_append_right (by omega)] at hc
    rw [List.getElem?_append_right (by rw [← h.1]; omega), ← h.1] at hx
    match hj : i - css.length, hc, hx with
    | 0, hc, hx =>
      simp at hc hx
      subst hc hx
      exact h1
    | j + 1, hc, hx => simp at hc
theorem RepsR.toV (h : RepsR w B css rs) : RepsV w css rs := ⟨h.1, fun i cs r h1 h2 => (h.2 i cs r h1 h2).toV⟩
end
theorem infoQZ : (Try.prog.info? 40).map (fun i => (i.zero, i.size, i.bytes)) = some (some (.agg (repA 0 0 0 0 0 0 0 nilV nilV nilV 0 0 nilV 0 0 nilV)), 16, 192) := by kernel_rfl
theorem wpList_buildQ {ops : Array Oper} {rest : List Oper} {op : Oper} {a : Act} {w : World} {Q : Exit → Act → World → Prop} (hgd : op.guard = none) (x : Operand) (ho : op.op = .buildSlice 28 1 #[(0, x)]) (X : List Value) (hX : X.length = 16) (hx : a.eval x = .agg X.toArray)
    (h : wpList Try.prog ops Q rest (a.put op.dst (.slice (some ⟨w.heap.size, 0, none⟩) 1 1)) (w.alloc (.cells X.toArray 40))) : wpList Try.prog ops Q (op :: rest) a w := by
  obtain ⟨ie, hi, h0, h1, h2⟩ := info_parts infoQZ
  refine wpList_plain hgd fun K hK => wp_buildSlice 28 40 1 #[(0, x)] ho X.toArray ie _ Try.underlying28 hi h0 (by rw [h1]; decide) (by rw [h1]; decide) ?_ (hK _ _ h)
  rw [h1]
  simp only [List.map_toArray, List.map_cons, List.map_nil, hx]
  exact fillR X hX
set_option maxRecDepth 100000 in
theorem shift_head (x : Nat) (h : x < 256) : (x / 32 = 4) ↔ (x &&& 224 = 128) := by
  have : ∀ x : Fin 256, (x.val / 32 = 4) ↔ (x.val &&& 224 = 128) := by decide
  exact this ⟨x, h⟩
theorem nAt_two {b : List UInt8} {p : Nat} (h : p + 1 < b.length) : nAt b p 2 = 256 * (b.getD p 0).toNat + (b.getD (p + 1) 0).toNat := by
  have h1 : nAt b p 2 = 256 * nAt b p 1 + (b.getD (p + 1) 0).toNat := nAt_snoc (b := b) (p := p) (j := 1) (by omega)
  rw [h1, nAt_one (by omega)]
theorem ParZ.err {b : List UInt8} {w w' : World} {z : Int} {k : Nat} (h : parseS b = ([], z)) (hk : k = (parseS b).1.length) (hb : Below w.heap.size w w') : ParZ b z k w (.returned (.tuple #[.slice none 0 0, .int .i64 z])) w' := by
  rw [h] at hk
  subst hk
  exact ⟨none, 0, rfl, ⟨[], Reads.none_, by rw [h]; exact ⟨rfl, fun i cs r h => by simp at h⟩⟩, hb⟩
set_option maxRecDepth 100000 in
set_option maxHeartbeats 12800000 in
theorem parR_c (b : List UInt8) (A : Option Addr) (n cap : Nat) (w : World) (h : SlV w (.slice A n cap) b) (hn2 : n < 9223372036854775808) (hcap : n ≤ cap) :
    Calls Try.prog 11 #[.slice A n cap] w (ParZ b (parseS b).2 (parseS b).1.length w) := by
  obtain ⟨iQ, hiQ, hzaQ, hzbQ, hzcQ⟩ := info_parts infoQZ
  have HN := Lib.hid h.num
  have HS := Lib.hid h
  clear h
  by_cases h12 : 1200 < n
  · have h12i : (1200 : Int) < (n : Int) := by omega
    have HP : Hid (parseS b = ([], 4)) := by show _ = _; unfold parseS; rw [if_pos (by have := HN.out; omega)]
    clear h12
    go_enter Try.func11, Try.ntmps11
    go_wp2_with fail
    go_ret2
    have := ParZ.err HP.out rfl (Below.refl w.heap.size w)
    rw [HP.out] at this ⊢
    exact this
  have h12i : ¬ (1200 : Int) < (n : Int) := by omega
  have hn : n ≤ 1200 := by omega
  by_cases h0 : n = 0
  · subst h0
    have HP : Hid (parseS b = ([], 3)) := by show _ = _; unfold parseS; rw [if_neg (by have := HN.out; omega), if_pos (by have := HN.out; omega)]
    clear h12
    go_enter Try.func11, Try.ntmps11
    go_wp2_with fail
    go_ret2
    have := ParZ.err HP.out rfl (Below.refl w.heap.size w)
    rw [HP.out] at this ⊢
    exact this
  have h0i : ((n : Int) == 0) = false := by rw [beq_eq_false_iff_ne]; omega
  have HP0 : Hid (parseS b = parN (n + 1) (b.drop 0) []) := by
    show _ = _
    unfold parseS
    rw [if_neg (by have := HN.out; omega), if_neg (by have := HN.out; omega), ← HN.out, List.drop_zero]
  clear h12
  go_enter Try.func11, Try.ntmps11
  go_upto_region 7 with fail
  clear h12i h0 h0i
  go_loopg [4, 5] n (fun gg v4 v5 wx => ∃ (p f : Nat) (css : List (Array Value)) (rs : List Rep) (k : Nat) (Ao : Option Addr) (co : Nat), v4 = .slice Ao k co ∧ v5 = .int .i64 (p : Int) ∧ gg = n - p ∧ p ≤ n ∧ n - p < f ∧ k = css.length ∧ k ≤ p ∧ wx.ownsRow w.heap.size 40 16 (.slice Ao k co) k (cellsL css) ∧ RepsR wx w.heap.size css rs ∧ Below w.heap.size w wx ∧ parseS b = parN f (b.drop p) rs)
  case atStart => exact ⟨0, n + 1, [], [], 0, none, 0, rfl, rfl, by omega, by omega, by omega, rfl, by omega, World.ownsRow_nil _ _ _ _, RepsR.nil _ _, Below.refl _ _, HP0.out⟩
  case round =>
    obtain ⟨p, f, css, rs, k, Ao, co, rfl, rfl, hgg, hp, hf, hk, hkp, ho, hrs, hb, hpa⟩ := hrel
    clear HP0
    obtain ⟨f', hf'⟩ : ∃ f', f = f' + 1 := ⟨f - 1, by omega⟩
    have HO := Lib.hid ho
    have HRS := Lib.hid hrs
    have HB := Lib.hid hb
    have HK := Lib.hid hk
    have HF : Hid (n - p < f' + 1) := by show _ < _; omega
    have HGG := Lib.hid hgg
    rw [hf'] at hpa
    clear ho hrs hb hk hgg hf hf'
    obtain ⟨r, hr⟩ : ∃ r, r = b.drop p := ⟨_, rfl⟩
    have hrl : r.length = n - p := by rw [hr, List.length_drop, ← HN.out]
    rw [← hr] at hpa
    rw [parN] at hpa
    have HRL := Lib.hid hrl
    have HRD := Lib.hid hr
    clear hr
    by_cases h0 : p < n
    case neg =>
      have hpi : ¬ (p : Int) < (n : Int) := by omega
      rw [if_pos (by omega)] at hpa
      have HPA := Lib.hid hpa
      clear hpa hrl h0 hkp
      go_wp2_with fail
      go_ret2
      refine ⟨Ao, co, by rw [HPA.out, HK.out, HRS.out.1]; rfl, ⟨css, ?_, ?_⟩, HB.out⟩
      · have h1 := Reads.of_own HO.out
        have : (parseS b).1.length = k := by rw [HPA.out, HK.out, HRS.out.1]
        rw [this]
        exact h1
      · rw [HPA.out]
        exact HRS.out.toV
    have hpi : (p : Int) < (n : Int) := by omega
    rw [if_neg (by omega)] at hpa
    by_cases h4 : n - p < 4
    · have h4i : (n : Int) - (p : Int) < 4 := by omega
      have h4w : IntKind.i64.wrap ((n : Int) - (p : Int)) = (n : Int) - (p : Int) := by rw [IntKind.wrap_i64]; omega
      rw [if_pos (by omega)] at hpa
      have HPA := Lib.hid hpa
      clear hpa hrl h0 h4 hkp
      go_wp2_with fail
      go_ret2
      have := ParZ.err HPA.out rfl HB.out
      rw [HPA.out] at this ⊢
      exact this
    have h4i : ¬ (n : Int) - (p : Int) < 4 := by omega
    have h4w : IntKind.i64.wrap ((n : Int) - (p : Int)) = (n : Int) - (p : Int) := by rw [IntKind.wrap_i64]; omega
    rw [if_neg (by omega)] at hpa
    have hbl : n ≤ b.length := by have := HN.out; omega
    obtain ⟨ga, oa, hA, hga, hcs⟩ := head_cells (HN.out ▸ HS.out.rd) (by omega)
    subst hA
    obtain ⟨x0, hx0⟩ : ∃ x, x = b.getD p 0 := ⟨_, rfl⟩
    obtain ⟨x1, hx1⟩ : ∃ x, x = b.getD (p + 1) 0 := ⟨_, rfl⟩
    have d0 : r.getD 0 0 = x0 := by rw [hx0, HRD.out, List.getD_eq_getElem?_getD, List.getD_eq_getElem?_getD, List.getElem?_drop, Nat.add_zero]
    have d1 : r.getD 1 0 = x1 := by rw [hx1, HRD.out, List.getD_eq_getElem?_getD, List.getD_eq_getElem?_getD, List.getElem?_drop]
    have hu0 := hcs p (by omega)
    have hu1 := hcs (p + 1) (by omega)
    rw [← hx0] at hu0
    rw [← hx1] at hu1
    have HGA : Hid (ga < w.heap.size) := hga
    have HU0 : Hid (w.cell? ⟨ga, oa + p, none⟩ = some (.int .u8 (x0.toNat : Int))) := hu0
    have HU1 : Hid (w.cell? ⟨ga, oa + (p + 1), none⟩ = some (.int .u8 (x1.toNat : Int))) := hu1
    have l0 := U8.lt x0
    have l1 := U8.lt x1
    have e0 : wr.cell? ⟨ga, oa + p, none⟩ = some (.int .u8 (x0.toNat : Int)) := (HB.out.cell (p := ⟨ga, oa + p, none⟩) HGA.out).trans HU0.out
    have e1 : wr.cell? ⟨ga, oa + (p + 1), none⟩ = some (.int .u8 (x1.toNat : Int)) := (HB.out.cell (p := ⟨ga, oa + (p + 1), none⟩) HGA.out).trans HU1.out
    obtain ⟨y, hy⟩ : ∃ y, y = x0.toNat / 32 := ⟨_, rfl⟩
    have hyi : (x0.toNat : Int) / 32 = (y : Int) := by omega
    have hhead : headB r = decide (y = 4) := by
      unfold headB
      rw [d0, hy]
      exact decide_eq_decide.2 (shift_head _ (UInt8.toNat_lt x0)).symm
    have his : isB r = (decide (192 ≤ x1.toNat) && decide (x1.toNat ≤ 223)) := by
      unfold isB
      rw [d1, decide_eq_true (by omega), Bool.true_and]
    have hp1 : IntKind.i64.wrap ((p : Int) + 1) = ((p + 1 : Nat) : Int) := by rw [IntKind.wrap_i64]; omega
    have hp1i : ((p : Int) + 1) < (n : Int) := by omega
    have hp1t : ((p : Int) + 1).toNat = p + 1 := by omega
    clear hcs hga hu0 hu1 hx0 hx1
    by_cases hyy : y = 4
    case neg =>
      have hy1 : ((y : Int) == 4) = false := by rw [beq_eq_false_iff_ne]; omega
      have hy2 : ((y : Int) != 4) = true := by simp; omega
      rw [if_pos (by rw [hhead]; simp [hyy])] at hpa
      have HPA := Lib.hid hpa
      clear hpa hrl h0 h4 hkp d0 d1 hhead his hyy hy
      go_wp2_with fail
      go_ret2
      have := ParZ.err HPA.out rfl HB.out
      rw [HPA.out] at this ⊢
      exact this
    subst hyy
    have hyi' : (x0.toNat : Int) / 32 = 4 := hyi
    clear hyi
    by_cases h192 : x1.toNat < 192
    · have h192i : (x1.toNat : Int) < 192 := by omega
      rw [if_pos (by rw [his, decide_eq_false (by omega)]; simp)] at hpa
      have HPA := Lib.hid hpa
      clear hpa hrl h0 h4 hkp d0 d1 hhead his h192 hy
      go_wp2_with fail
      go_ret2
      have := ParZ.err HPA.out rfl HB.out
      rw [HPA.out] at this ⊢
      exact this
    have h192i : ¬ (x1.toNat : Int) < 192 := by omega
    by_cases h223 : 223 < x1.toNat
    · have h223i : (223 : Int) < (x1.toNat : Int) := by omega
      rw [if_pos (by rw [his, decide_eq_false (p := x1.toNat ≤ 223) (by omega)]; simp)] at hpa
      have HPA := Lib.hid hpa
      clear hpa hrl h0 h4 hkp d0 d1 hhead his h192 h223 hy
      go_wp2_with fail
      go_ret2
      have := ParZ.err HPA.out rfl HB.out
      rw [HPA.out] at this ⊢
      exact this
    have h223i : ¬ (223 : Int) < (x1.toNat : Int) := by omega
    rw [if_neg (by rw [hhead, his, decide_eq_true (p := 192 ≤ x1.toNat) (by omega), decide_eq_true (p := x1.toNat ≤ 223) (by omega)]; simp)] at hpa
    obtain ⟨m, hm⟩ : ∃ m, m = nAt b (p + 2) 2 := ⟨_, rfl⟩
    have hmlt : m < 65536 := by have := nAt_lt b (p + 2) 2; omega
    have hlen : lenS r = 4 + 4 * m := by
      unfold lenS
      rw [hm, nAt_two (by omega), HRD.out, List.getD_eq_getElem?_getD, List.getD_eq_getElem?_getD, List.getElem?_drop, List.getElem?_drop, List.getD_eq_getElem?_getD, List.getD_eq_getElem?_getD]
    have HMN := Lib.hid hm.symm
    have hw4m : IntKind.i64.wrap (4 * (m : Int)) = ((4 * m : Nat) : Int) := by rw [IntKind.wrap_i64]; omega
    obtain ⟨M, hM⟩ : ∃ M, M = 4 * m := ⟨_, rfl⟩
    have hw4M : 4 * (m : Int) = (M : Int) := by omega
    have hw4W : IntKind.i64.wrap (4 * (m : Int)) = (M : Int) := by rw [IntKind.wrap_i64]; omega
    rw [← hM] at hlen
    have HM4 : Hid (M % 4 = 0) := by show _ = _; omega
    have hMl : M < 262144 := by omega
    clear hw4m hm hy h192 h223
    have HSR : Hid (SlV wr (.slice (some ⟨ga, oa, none⟩) n cap) b) := HS.out.below HB.out
    by_cases hlm : n < p + 4 + M
    · have hlmi : (n : Int) < (p : Int) + 4 + (M : Int) := by omega
      rw [if_pos (by rw [hlen]; omega)] at hpa
      have HPA := Lib.hid hpa
      clear hpa hrl h0 h4 hkp d0 d1 hhead his hlm hM hlen
      go_wp2_with (first
        | (go_at_call 32
           refine (N_z (p := p + 2) (k := 2) HSR.out (by omega) rfl HMN.out (by omega) (by decide) (by omega)).mono ?_
           rintro e9 _ ⟨rfl, rfl⟩))
      go_ret2
      have := ParZ.err HPA.out rfl HB.out
      rw [HPA.out] at this ⊢
      exact this
    have hlmi : ¬ (n : Int) < (p : Int) + 4 + (M : Int) := by omega
    rw [if_neg (by rw [hlen]; omega)] at hpa
    obtain ⟨ok, hok⟩ : ∃ ok, ok = (oneS r).2 := ⟨_, rfl⟩
    have HOKE : Hid (reportS x1.toNat (x0.toNat &&& 31) ((b.drop (p + 4)).take M) = oneS r) := by
      show _ = _
      unfold oneS
      rw [d0, d1, hlen, HRD.out, List.drop_take, List.drop_drop, show 4 + M - 4 = M by omega]
    rw [← hok, hlen] at hpa
    have HPA := Lib.hid hpa
    have HOK := Lib.hid hok
    have hc31 := and31 x0
    obtain ⟨c, hc⟩ : ∃ c, c = x0.toNat &&& 31 := ⟨_, rfl⟩
    rw [← hc] at hc31
    have hcl : c ≤ 31 := by rw [hc]; exact Nat.and_le_right
    have HCE := Lib.hid hc
    obtain ⟨t, ht⟩ : ∃ t, t = x1.toNat := ⟨_, rfl⟩
    have HTE := Lib.hid ht
    have HPM : Hid (p + 4 + M ≤ n) := by show _ ≤ _; omega
    have HP0 := Lib.hid h0
    have HKP := Lib.hid hkp
    clear hpa hrl h0 h4 hkp d0 d1 hhead his hlm hM hlen hok hc ht
    go_upto_region 15 with (first
      | (go_at_call 32
         refine (N_z (p := p + 2) (k := 2) HSR.out (by omega) rfl HMN.out (by have := HPM.out; omega) (by decide) (by omega)).mono ?_
         rintro e9 _ ⟨rfl, rfl⟩))
    have hp4 : IntKind.i64.wrap ((p : Int) + 4) = ((p + 4 : Nat) : Int) := by rw [IntKind.wrap_i64]; omega
    have hpM : IntKind.i64.wrap ((p : Int) + 4 + (M : Int)) = ((p + 4 + M : Nat) : Int) := by rw [IntKind.wrap_i64]; omega
    have hpMc : IntKind.i64.wrap (((p + 4 : Nat) : Int) + (M : Int)) = ((p + 4 + M : Nat) : Int) := by rw [IntKind.wrap_i64]; omega
    clear e0 e1 hw4M hw4W hlmi h223i h192i hyi' h4i h4w
    have ho1 : 0 ≤ (p : Int) + 1 := by omega
    have hwx1 : IntKind.i64.wrap (x1.toNat : Int) = (x1.toNat : Int) := by rw [IntKind.wrap_i64]; omega
    have hwc : IntKind.i64.wrap (c : Int) = (c : Int) := by rw [IntKind.wrap_i64]; omega
    have HCUT : Hid (∀ w', (Instr.slice 22 (.slice (some ⟨ga, oa, none⟩) n cap) (some (.int .i64 ((p : Int) + 4))) (some (.int .i64 ((p : Int) + 4 + (M : Int)))) none).run Try.prog w' = .ok (.slice (cutA (some ⟨ga, oa, none⟩) cap (p + 4)) M (cap - (p + 4))) w') := fun w' => by
      have := cut_mid w' (some ⟨ga, oa, none⟩) n cap (p + 4) (p + 4 + M) M (by omega) (by have := HPM.out; omega) (by omega)
      rw [show ((p + 4 : Nat) : Int) = (p : Int) + 4 by omega, show ((p + 4 + M : Nat) : Int) = (p : Int) + 4 + (M : Int) by omega] at this
      exact this
    obtain ⟨Bq, hBq⟩ : ∃ Bq, Bq = w.heap.size := ⟨_, rfl⟩
    have HBQ := Lib.hid hBq
    clear hBq
    have HB_0 : Hid (Below w.heap.size w (World.drew wr)) := HB.out.drew
    have HO_0 : Hid (World.ownsRow (World.drew wr) w.heap.size 40 16 (.slice Ao k co) k (cellsL css)) := HO.out
    have HR_0 : Hid (RepsR (World.drew wr) w.heap.size css rs) := HRS.out
    have HSD : Hid (SlV (World.drew wr) (.slice (some ⟨ga, oa, none⟩) n cap) b) := HSR.out
    go_cut [7, 8] (fun v7 v8 wx => ∃ (gx : Nat) (L : List Value), v7 = .pointer (some ⟨gx, 0, none⟩) ∧ v8 = .bool ok ∧ L.length = 16 ∧ L.toArray.all (·.oneCell') = true ∧ Blk wx gx 40 L.toArray ∧ (ok = true → RepR wx w.heap.size L.toArray (oneS r).1) ∧ wx.ownsRow w.heap.size 40 16 (.slice Ao k co) k (cellsL css) ∧ RepsR wx w.heap.size css rs ∧ Below w.heap.size w wx)
    case first =>
      refine wp_region_held_drew (S := (fun w2 => Below Bq w w2)) (by kernel_rfl) (HBQ.out.symm ▸ HB_0.out) (fun hHeld => ?_)
      refine wpAnyH_takeAt (i := 0) (v := (.slice (some ⟨ga, oa, none⟩) n cap)) rfl (by kernel_rfl) (by kernel_rfl) (by kernel_rfl) (fun _ _ _ h => h) rfl (Or.inl ⟨by rfl, fun w' hS => ?_⟩) hHeld ?_
      · go_simp
      simp only [List.set_cons_zero, List.set_cons_succ]
      refine wpAnyH_takeAt (i := 1) (v := (.int .i64 ((p : Nat) : Int))) rfl (by kernel_rfl) (by kernel_rfl) (by kernel_rfl) (fun _ _ _ h => h) rfl (Or.inl ⟨by rfl, fun w' hS => ?_⟩) hHeld ?_
      · go_simp
      simp only [List.set_cons_zero, List.set_cons_succ]
      refine wpAnyH_takeAt (i := 2) (v := (.int .i64 ((p + 1 : Nat) : Int))) rfl (by kernel_rfl) (by kernel_rfl) (by kernel_rfl) (fun _ _ _ h => h) rfl (Or.inl ⟨by rfl, fun w' hS => ?_⟩) hHeld ?_
      · go_simp
      simp only [List.set_cons_zero, List.set_cons_succ]
      refine wpAnyH_takeAt (i := 3) (v := (.pointer (some ⟨ga, oa + (p + 1), none⟩))) rfl (by kernel_rfl) (by kernel_rfl) (by kernel_rfl) (fun _ _ _ h => h) rfl (Or.inl ⟨by rfl, fun w' hS => ?_⟩) hHeld ?_
      · go_simp
      simp only [List.set_cons_zero, List.set_cons_succ]
      refine wpAnyH_takeAt (i := 4) (v := (.int .u8 (x1.toNat : Int))) rfl (by kernel_rfl) (by kernel_rfl) (by kernel_rfl) (fun _ _ _ h => h) rfl (Or.inl ⟨by rfl, fun w' hS => ?_⟩) hHeld ?_
      · have hc1 := ((HBQ.out ▸ hS : Below w.heap.size w w').cell (p := ⟨ga, oa + (p + 1), none⟩) HGA.out).trans HU1.out
        go_simp
      simp only [List.set_cons_zero, List.set_cons_succ]
      refine wpAnyH_takeAt (i := 5) (v := (.int .i64 (t : Int))) rfl (by kernel_rfl) (by kernel_rfl) (by kernel_rfl) (fun _ _ _ h => h) rfl (Or.inl ⟨by rfl, fun w' hS => ?_⟩) hHeld ?_
      · have ht := HTE.out
        subst ht
        go_simp
      simp only [List.set_cons_zero, List.set_cons_succ]
      refine wpAnyH_takeAt (i := 6) (v := (.slice (some ⟨ga, oa, none⟩) n cap)) rfl (by kernel_rfl) (by kernel_rfl) (by kernel_rfl) (fun _ _ _ h => h) rfl (Or.inl ⟨by rfl, fun w' hS => ?_⟩) hHeld ?_
      · go_simp
      simp only [List.set_cons_zero, List.set_cons_succ]
      refine wpAnyH_takeAt (i := 7) (v := (.int .i64 ((p : Nat) : Int))) rfl (by kernel_rfl) (by kernel_rfl) (by kernel_rfl) (fun _ _ _ h => h) rfl (Or.inl ⟨by rfl, fun w' hS => ?_⟩) hHeld ?_
      · go_simp
      simp only [List.set_cons_zero, List.set_cons_succ]
      refine wpAnyH_takeAt (i := 8) (v := (.pointer (some ⟨ga, oa + p, none⟩))) rfl (by kernel_rfl) (by kernel_rfl) (by kernel_rfl) (fun _ _ _ h => h) rfl (Or.inl ⟨by rfl, fun w' hS => ?_⟩) hHeld ?_
      · go_simp
      simp only [List.set_cons_zero, List.set_cons_succ]
      refine wpAnyH_takeAt (i := 9) (v := (.int .u8 (x0.toNat : Int))) rfl (by kernel_rfl) (by kernel_rfl) (by kernel_rfl) (fun _ _ _ h => h) rfl (Or.inl ⟨by rfl, fun w' hS => ?_⟩) hHeld ?_
      · have hc0 := ((HBQ.out ▸ hS : Below w.heap.size w w').cell (p := ⟨ga, oa + p, none⟩) HGA.out).trans HU0.out
        go_simp
      simp only [List.set_cons_zero, List.set_cons_succ]
      refine wpAnyH_takeAt (i := 10) (v := (.int .u8 (c : Int))) rfl (by kernel_rfl) (by kernel_rfl) (by kernel_rfl) (fun _ _ _ h => h) rfl (Or.inl ⟨by rfl, fun w' hS => ?_⟩) hHeld ?_
      · go_simp
      simp only [List.set_cons_zero, List.set_cons_succ]
      refine wpAnyH_takeAt (i := 11) (v := (.int .i64 (c : Int))) rfl (by kernel_rfl) (by kernel_rfl) (by kernel_rfl) (fun _ _ _ h => h) rfl (Or.inl ⟨by rfl, fun w' hS => ?_⟩) hHeld ?_
      · go_simp
      simp only [List.set_cons_zero, List.set_cons_succ]
      refine wpAnyH_takeAt (i := 12) (v := (.slice (some ⟨ga, oa, none⟩) n cap)) rfl (by kernel_rfl) (by kernel_rfl) (by kernel_rfl) (fun _ _ _ h => h) rfl (Or.inl ⟨by rfl, fun w' hS => ?_⟩) hHeld ?_
      · go_simp
      simp only [List.set_cons_zero, List.set_cons_succ]
      refine wpAnyH_takeAt (i := 13) (v := (.int .i64 ((p : Nat) : Int))) rfl (by kernel_rfl) (by kernel_rfl) (by kernel_rfl) (fun _ _ _ h => h) rfl (Or.inl ⟨by rfl, fun w' hS => ?_⟩) hHeld ?_
      · go_simp
      simp only [List.set_cons_zero, List.set_cons_succ]
      refine wpAnyH_takeAt (i := 14) (v := (.int .i64 ((p + 4 : Nat) : Int))) rfl (by kernel_rfl) (by kernel_rfl) (by kernel_rfl) (fun _ _ _ h => h) rfl (Or.inl ⟨by rfl, fun w' hS => ?_⟩) hHeld ?_
      · go_simp
      simp only [List.set_cons_zero, List.set_cons_succ]
      refine wpAnyH_takeAt (i := 15) (v := (.int .i64 ((p : Nat) : Int))) rfl (by kernel_rfl) (by kernel_rfl) (by kernel_rfl) (fun _ _ _ h => h) rfl (Or.inl ⟨by rfl, fun w' hS => ?_⟩) hHeld ?_
      · go_simp
      simp only [List.set_cons_zero, List.set_cons_succ]
      refine wpAnyH_takeAt (i := 16) (v := (.int .i64 ((p + 4 : Nat) : Int))) rfl (by kernel_rfl) (by kernel_rfl) (by kernel_rfl) (fun _ _ _ h => h) rfl (Or.inl ⟨by rfl, fun w' hS => ?_⟩) hHeld ?_
      · go_simp
      simp only [List.set_cons_zero, List.set_cons_succ]
      refine wpAnyH_takeAt (i := 17) (v := (.int .i64 ((M : Nat) : Int))) rfl (by kernel_rfl) (by kernel_rfl) (by kernel_rfl) (fun _ _ _ h => h) rfl (Or.inl ⟨by rfl, fun w' hS => ?_⟩) hHeld ?_
      · go_simp
      simp only [List.set_cons_zero, List.set_cons_succ]
      refine wpAnyH_takeAt (i := 18) (v := (.int .i64 ((p + 4 + M : Nat) : Int))) rfl (by kernel_rfl) (by kernel_rfl) (by kernel_rfl) (fun _ _ _ h => h) rfl (Or.inl ⟨by rfl, fun w' hS => ?_⟩) hHeld ?_
      · go_simp
      simp only [List.set_cons_zero, List.set_cons_succ]
      refine wpAnyH_takeAt (i := 19) (v := (.slice (cutA (some ⟨ga, oa, none⟩) cap (p + 4)) M (cap - (p + 4)))) rfl (by kernel_rfl) (by kernel_rfl) (by kernel_rfl) (fun _ _ _ h => h) rfl (Or.inl ⟨by rfl, fun w' hS => ?_⟩) hHeld ?_
      · have hcut := HCUT.out w'
        go_simp
      simp only [List.set_cons_zero, List.set_cons_succ]
      refine wpAnyH_ready (rs := [20, 24]) (by kernel_rfl) (by simp) (AllReadyH.cons rfl (fun K' hK => ?_) (AllReadyH.cons rfl (fun K' hK => ?_) AllReadyH.nil))
      · go_simp
        go_at_call 33
        refine (reads_c t c ((b.drop (p + 4)).take M) (cutA (some ⟨ga, oa, none⟩) cap (p + 4)) M (cap - (p + 4)) (World.drew wr) (SlB.toV (SlB.mid (k := p + 4) (d := M) ((HS.out.below HB_0.out).toB (Nat.le_refl _)) HPM.out) (Nat.le_refl _)) (by have := HPM.out; omega) (by have := HPM.out; omega) HM4.out hcl).mono ?_
        rintro e0 w_1 ⟨L, he, hL, hone, hv, hb⟩
        rw [HTE.out, HCE.out, HOKE.out, ← HOK.out] at he
        rw [HTE.out, HCE.out, HOKE.out, ← HOK.out] at hv
        subst he
        go_wp2_with fail
        have HL := Lib.hid hL
        have HON := Lib.hid hone
        have HV_1 : Hid (ok = true → RepR w_1 w.heap.size L.toArray (oneS r).1) := fun h => (hv h).lower HB_0.out.size
        have HB_1 : Hid (Below w.heap.size w w_1) := bcall HB_0.out hb
        have HO_1 : Hid (World.ownsRow w_1 w.heap.size 40 16 (.slice Ao k co) k (cellsL css)) := own_below HO_0.out hb
        have HR_1 : Hid (RepsR w_1 w.heap.size css rs) := HR_0.out.below hb
        clear hL hone hv hb
        refine hK.out _ _ (HBQ.out.symm ▸ HB_1.out) (fun hHeld' => ?_)
        clear hK hHeld
        have hHeld := hHeld'
        clear hHeld'
        refine wpAnyH_takeAt (i := 21) (v := (.tuple #[.agg L.toArray, .bool ok])) rfl (by kernel_rfl) (by kernel_rfl) (by kernel_rfl) (fun _ _ _ h => h) rfl (Or.inl ⟨by rfl, fun w' hS => ?_⟩) hHeld ?_
        · go_simp
        simp only [List.set_cons_zero, List.set_cons_succ]
        refine wpAnyH_takeAt (i := 22) (v := (.agg L.toArray)) rfl (by kernel_rfl) (by kernel_rfl) (by kernel_rfl) (fun _ _ _ h => h) rfl (Or.inl ⟨by rfl, fun w' hS => ?_⟩) hHeld ?_
        · go_simp
        simp only [List.set_cons_zero, List.set_cons_succ]
        refine wpAnyH_takeAt (i := 23) (v := (.bool ok)) rfl (by kernel_rfl) (by kernel_rfl) (by kernel_rfl) (fun _ _ _ h => h) rfl (Or.inl ⟨by rfl, fun w' hS => ?_⟩) hHeld ?_
        · go_simp
        simp only [List.set_cons_zero, List.set_cons_succ]
        refine wpAnyH_ready (rs := [24]) (by kernel_rfl) (by simp) (AllReadyH.cons rfl (fun K' hK => ?_) AllReadyH.nil)
        go_simp
        have HB_2 : Hid (Below w.heap.size w (World.alloc w_1 (.cells #[.int .i64 0, .int .u32 0, .int .u32 0, .int .u64 0, .int .u32 0, .int .u32 0, .int .u32 0, .slice none 0 0, .slice none 0 0, .slice none 0 0, .int .i64 0, .int .u32 0, .slice none 0 0, .int .i64 0, .int .i64 0, .slice none 0 0] 40))) := balloc HB_1.out _
        obtain ⟨gx_, hgx_⟩ : ∃ gx_, gx_ = (World.heap w_1).size := ⟨_, rfl⟩
        have HX_2 : Hid (Blk (World.alloc w_1 (.cells #[.int .i64 0, .int .u32 0, .int .u32 0, .int .u64 0, .int .u32 0, .int .u32 0, .int .u32 0, .slice none 0 0, .slice none 0 0, .slice none 0 0, .int .i64 0, .int .u32 0, .slice none 0 0, .int .i64 0, .int .i64 0, .slice none 0 0] 40)) gx_ 40 zR) := Blk.newAt hgx_ _ _
        have HGX : Hid (w.heap.size ≤ gx_) := by show _ ≤ _; rw [hgx_]; exact HB_1.out.size
        have HGE : Hid ((w_1).heap.size = gx_) := hgx_.symm
        have HO_2 : Hid (World.ownsRow (World.alloc w_1 (.cells #[.int .i64 0, .int .u32 0, .int .u32 0, .int .u64 0, .int .u32 0, .int .u32 0, .int .u32 0, .slice none 0 0, .slice none 0 0, .slice none 0 0, .int .i64 0, .int .u32 0, .slice none 0 0, .int .i64 0, .int .i64 0, .slice none 0 0] 40)) w.heap.size 40 16 (.slice Ao k co) k (cellsL css)) := HO_1.out.alloc _
        have HNE : Hid ((Value.slice Ao k co).ownBlock ≠ some gx_) := fun e => by have := (HO_1.out.lt gx_ e).2; have := HGE.out; omega
        have HR_2 : Hid (RepsR (World.alloc w_1 (.cells #[.int .i64 0, .int .u32 0, .int .u32 0, .int .u64 0, .int .u32 0, .int .u32 0, .int .u32 0, .slice none 0 0, .slice none 0 0, .slice none 0 0, .int .i64 0, .int .u32 0, .slice none 0 0, .int .i64 0, .int .i64 0, .slice none 0 0] 40)) w.heap.size css rs) := HR_1.out.below (balloc (Below.refl _ _) _)
        have HV_2 : Hid (ok = true → RepR (World.alloc w_1 (.cells #[.int .i64 0, .int .u32 0, .int .u32 0, .int .u64 0, .int .u32 0, .int .u32 0, .int .u32 0, .slice none 0 0, .slice none 0 0, .slice none 0 0, .int .i64 0, .int .u32 0, .slice none 0 0, .int .i64 0, .int .i64 0, .slice none 0 0] 40)) w.heap.size L.toArray (oneS r).1) := fun h => (HV_1.out h).below (balloc (Below.refl _ _) _)
        refine hK.out _ _ (HBQ.out.symm ▸ HB_2.out) (fun hHeld' => ?_)
        clear hK hHeld
        have hHeld := hHeld'
        clear hHeld'
        rw [HGE.out]
        clear hgx_
        refine wpAnyH_ready (rs := [25]) (by kernel_rfl) (by simp) (AllReadyH.cons rfl (fun K' hK => ?_) AllReadyH.nil)
        have HI : Hid ((Try.prog.info? 40).map (·.size) = some L.toArray.size) := by show _ = _; rw [List.size_toArray, HL.out]; exact infoRef40
        have HTH : Hid (World.there (World.alloc w_1 (.cells #[.int .i64 0, .int .u32 0, .int .u32 0, .int .u64 0, .int .u32 0, .int .u32 0, .int .u32 0, .slice none 0 0, .slice none 0 0, .slice none 0 0, .int .i64 0, .int .u32 0, .slice none 0 0, .int .i64 0, .int .i64 0, .slice none 0 0] 40)) gx_ 0 L.toArray.size) := by show World.there _ _ _ L.toArray.size; rw [List.size_toArray, HL.out]; exact blk_there (l := zR.toList) HX_2.out rfl
        have HST : Hid (Blk (World.setCells (World.alloc w_1 (.cells #[.int .i64 0, .int .u32 0, .int .u32 0, .int .u64 0, .int .u32 0, .int .u32 0, .int .u32 0, .slice none 0 0, .slice none 0 0, .slice none 0 0, .int .i64 0, .int .u32 0, .slice none 0 0, .int .i64 0, .int .i64 0, .slice none 0 0] 40)) gx_ 0 L) gx_ 40 L.toArray) := blk_setAll (l := zR.toList) HX_2.out (by rw [HL.out]; rfl)
        have HBF : Hid (Below w.heap.size w (World.setCells (World.alloc w_1 (.cells #[.int .i64 0, .int .u32 0, .int .u32 0, .int .u64 0, .int .u32 0, .int .u32 0, .int .u32 0, .slice none 0 0, .slice none 0 0, .slice none 0 0, .int .i64 0, .int .u32 0, .slice none 0 0, .int .i64 0, .int .i64 0, .slice none 0 0] 40)) gx_ 0 L)) := below_setCells HB_2.out HGX.out _ _
        have HOF : Hid (World.ownsRow (World.setCells (World.alloc w_1 (.cells #[.int .i64 0, .int .u32 0, .int .u32 0, .int .u64 0, .int .u32 0, .int .u32 0, .int .u32 0, .slice none 0 0, .slice none 0 0, .slice none 0 0, .int .i64 0, .int .u32 0, .slice none 0 0, .int .i64 0, .int .i64 0, .slice none 0 0] 40)) gx_ 0 L) w.heap.size 40 16 (.slice Ao k co) k (cellsL css)) := own_setAll HNE.out _ _ _ HO_2.out
        have HRF : Hid (RepsR (World.setCells (World.alloc w_1 (.cells #[.int .i64 0, .int .u32 0, .int .u32 0, .int .u64 0, .int .u32 0, .int .u32 0, .int .u32 0, .slice none 0 0, .slice none 0 0, .slice none 0 0, .int .i64 0, .int .u32 0, .slice none 0 0, .int .i64 0, .int .i64 0, .slice none 0 0] 40)) gx_ 0 L) w.heap.size css rs) := HR_2.out.keep fun cs r h => h.setAll HX_2.out L
        have HVF : Hid (ok = true → RepR (World.setCells (World.alloc w_1 (.cells #[.int .i64 0, .int .u32 0, .int .u32 0, .int .u64 0, .int .u32 0, .int .u32 0, .int .u32 0, .slice none 0 0, .slice none 0 0, .slice none 0 0, .int .i64 0, .int .u32 0, .slice none 0 0, .int .i64 0, .int .i64 0, .slice none 0 0] 40)) gx_ 0 L) w.heap.size L.toArray (oneS r).1) := fun h => (HV_2.out h).setAll HX_2.out L
        rw [if_pos (by rfl)]
        refine wp_store_mid 40 (.tmp 7) (.tmp 81) (by rfl) gx_ 0 L.toArray (by rfl) (by rfl) HTH.out HI.out HON.out ?_
        refine hK.out _ _ (HBQ.out.symm ▸ HBF.out) (fun hHeld' => ?_)
        clear hK hHeld
        have hHeld := hHeld'
        clear hHeld'
        refine wpAnyH_putNone rfl ?_
        refine wpAnyH_takeAt (i := 26) (v := (.bool ok)) rfl (by kernel_rfl) (by kernel_rfl) (by kernel_rfl) (fun _ _ _ h => h) rfl (Or.inl ⟨by rfl, fun w' hS => ?_⟩) hHeld ?_
        · go_simp
        simp only [List.set_cons_zero, List.set_cons_succ]
        refine wpAnyH_done (by kernel_rfl) ?_ _
        go_wp2_with fail
        go_meet
        exact ⟨gx_, L, rfl, rfl, HL.out, HON.out, HST.out, HVF.out, HOF.out, HRF.out, HBF.out⟩
      · go_simp
        have HB_3 : Hid (Below w.heap.size w (World.drew (World.alloc wr (.cells #[.int .i64 0, .int .u32 0, .int .u32 0, .int .u64 0, .int .u32 0, .int .u32 0, .int .u32 0, .slice none 0 0, .slice none 0 0, .slice none 0 0, .int .i64 0, .int .u32 0, .slice none 0 0, .int .i64 0, .int .i64 0, .slice none 0 0] 40)))) := balloc HB_0.out _
        obtain ⟨gx_, hgx_⟩ : ∃ gx_, gx_ = (World.heap (World.drew wr)).size := ⟨_, rfl⟩
        have HX_3 : Hid (Blk (World.drew (World.alloc wr (.cells #[.int .i64 0, .int .u32 0, .int .u32 0, .int .u64 0, .int .u32 0, .int .u32 0, .int .u32 0, .slice none 0 0, .slice none 0 0, .slice none 0 0, .int .i64 0, .int .u32 0, .slice none 0 0, .int .i64 0, .int .i64 0, .slice none 0 0] 40))) gx_ 40 zR) := Blk.newAt hgx_ _ _
        have HGX : Hid (w.heap.size ≤ gx_) := by show _ ≤ _; rw [hgx_]; exact HB_0.out.size
        have HGE : Hid ((wr).heap.size = gx_) := hgx_.symm
        have HO_3 : Hid (World.ownsRow (World.drew (World.alloc wr (.cells #[.int .i64 0, .int .u32 0, .int .u32 0, .int .u64 0, .int .u32 0, .int .u32 0, .int .u32 0, .slice none 0 0, .slice none 0 0, .slice none 0 0, .int .i64 0, .int .u32 0, .slice none 0 0, .int .i64 0, .int .i64 0, .slice none 0 0] 40))) w.heap.size 40 16 (.slice Ao k co) k (cellsL css)) := HO_0.out.alloc _
        have HNE : Hid ((Value.slice Ao k co).ownBlock ≠ some gx_) := fun e => by have := (HO_0.out.lt gx_ e).2; have := HGE.out; omega
        have HR_3 : Hid (RepsR (World.drew (World.alloc wr (.cells #[.int .i64 0, .int .u32 0, .int .u32 0, .int .u64 0, .int .u32 0, .int .u32 0, .int .u32 0, .slice none 0 0, .slice none 0 0, .slice none 0 0, .int .i64 0, .int .u32 0, .slice none 0 0, .int .i64 0, .int .i64 0, .slice none 0 0] 40))) w.heap.size css rs) := HR_0.out.below (balloc (Below.refl _ _) _)
        refine hK.out _ _ (HBQ.out.symm ▸ HB_3.out) (fun hHeld' => ?_)
        clear hK hHeld
        have hHeld := hHeld'
        clear hHeld'
        rw [HGE.out]
        clear hgx_
        refine wpAnyH_ready (rs := [20]) (by kernel_rfl) (by simp) (AllReadyH.cons rfl (fun K' hK => ?_) AllReadyH.nil)
        go_simp
        go_at_call 33
        refine (reads_c t c ((b.drop (p + 4)).take M) (cutA (some ⟨ga, oa, none⟩) cap (p + 4)) M (cap - (p + 4)) (World.drew (World.alloc wr (.cells #[.int .i64 0, .int .u32 0, .int .u32 0, .int .u64 0, .int .u32 0, .int .u32 0, .int .u32 0, .slice none 0 0, .slice none 0 0, .slice none 0 0, .int .i64 0, .int .u32 0, .slice none 0 0, .int .i64 0, .int .i64 0, .slice none 0 0] 40))) (SlB.toV (SlB.mid (k := p + 4) (d := M) ((HS.out.below HB_3.out).toB (Nat.le_refl _)) HPM.out) (Nat.le_refl _)) (by have := HPM.out; omega) (by have := HPM.out; omega) HM4.out hcl).mono ?_
        rintro e0 w_4 ⟨L, he, hL, hone, hv, hb⟩
        rw [HTE.out, HCE.out, HOKE.out, ← HOK.out] at he
        rw [HTE.out, HCE.out, HOKE.out, ← HOK.out] at hv
        subst he
        go_wp2_with fail
        have HL := Lib.hid hL
        have HON := Lib.hid hone
        have HV_4 : Hid (ok = true → RepR w_4 w.heap.size L.toArray (oneS r).1) := fun h => (hv h).lower HB_3.out.size
        have HB_4 : Hid (Below w.heap.size w w_4) := bcall HB_3.out hb
        have HO_4 : Hid (World.ownsRow w_4 w.heap.size 40 16 (.slice Ao k co) k (cellsL css)) := own_below HO_3.out hb
        have HR_4 : Hid (RepsR w_4 w.heap.size css rs) := HR_3.out.below hb
        have HX_4 : Hid (Blk w_4 gx_ 40 zR) := HX_3.out.below hb
        clear hL hone hv hb
        refine hK.out _ _ (HBQ.out.symm ▸ HB_4.out) (fun hHeld' => ?_)
        clear hK hHeld
        have hHeld := hHeld'
        clear hHeld'
        refine wpAnyH_takeAt (i := 21) (v := (.tuple #[.agg L.toArray, .bool ok])) rfl (by kernel_rfl) (by kernel_rfl) (by kernel_rfl) (fun _ _ _ h => h) rfl (Or.inl ⟨by rfl, fun w' hS => ?_⟩) hHeld ?_
        · go_simp
        simp only [List.set_cons_zero, List.set_cons_succ]
        refine wpAnyH_takeAt (i := 22) (v := (.agg L.toArray)) rfl (by kernel_rfl) (by kernel_rfl) (by kernel_rfl) (fun _ _ _ h => h) rfl (Or.inl ⟨by rfl, fun w' hS => ?_⟩) hHeld ?_
        · go_simp
        simp only [List.set_cons_zero, List.set_cons_succ]
        refine wpAnyH_takeAt (i := 23) (v := (.bool ok)) rfl (by kernel_rfl) (by kernel_rfl) (by kernel_rfl) (fun _ _ _ h => h) rfl (Or.inl ⟨by rfl, fun w' hS => ?_⟩) hHeld ?_
        · go_simp
        simp only [List.set_cons_zero, List.set_cons_succ]
        refine wpAnyH_ready (rs := [25]) (by kernel_rfl) (by simp) (AllReadyH.cons rfl (fun K' hK => ?_) AllReadyH.nil)
        have HI : Hid ((Try.prog.info? 40).map (·.size) = some L.toArray.size) := by show _ = _; rw [List.size_toArray, HL.out]; exact infoRef40
        have HTH : Hid (World.there w_4 gx_ 0 L.toArray.size) := by show World.there _ _ _ L.toArray.size; rw [List.size_toArray, HL.out]; exact blk_there (l := zR.toList) HX_4.out rfl
        have HST : Hid (Blk (World.setCells w_4 gx_ 0 L) gx_ 40 L.toArray) := blk_setAll (l := zR.toList) HX_4.out (by rw [HL.out]; rfl)
        have HBF : Hid (Below w.heap.size w (World.setCells w_4 gx_ 0 L)) := below_setCells HB_4.out HGX.out _ _
        have HOF : Hid (World.ownsRow (World.setCells w_4 gx_ 0 L) w.heap.size 40 16 (.slice Ao k co) k (cellsL css)) := own_setAll HNE.out _ _ _ HO_4.out
        have HRF : Hid (RepsR (World.setCells w_4 gx_ 0 L) w.heap.size css rs) := HR_4.out.keep fun cs r h => h.setAll HX_4.out L
        have HVF : Hid (ok = true → RepR (World.setCells w_4 gx_ 0 L) w.heap.size L.toArray (oneS r).1) := fun h => (HV_4.out h).setAll HX_4.out L
        rw [if_pos (by rfl)]
        refine wp_store_mid 40 (.tmp 7) (.tmp 81) (by rfl) gx_ 0 L.toArray (by rfl) (by rfl) HTH.out HI.out HON.out ?_
        refine hK.out _ _ (HBQ.out.symm ▸ HBF.out) (fun hHeld' => ?_)
        clear hK hHeld
        have hHeld := hHeld'
        clear hHeld'
        refine wpAnyH_putNone rfl ?_
        refine wpAnyH_takeAt (i := 26) (v := (.bool ok)) rfl (by kernel_rfl) (by kernel_rfl) (by kernel_rfl) (fun _ _ _ h => h) rfl (Or.inl ⟨by rfl, fun w' hS => ?_⟩) hHeld ?_
        · go_simp
        simp only [List.set_cons_zero, List.set_cons_succ]
        refine wpAnyH_done (by kernel_rfl) ?_ _
        go_wp2_with fail
        go_meet
        exact ⟨gx_, L, rfl, rfl, HL.out, HON.out, HST.out, HVF.out, HOF.out, HRF.out, HBF.out⟩
    case rest =>
      obtain ⟨gx, L, rfl, rfl, hl, hone, hx, hv, ho, hrs, hb⟩ := hcut
      cases ok with
      | false =>
        have HP3 : Hid (parseS b = ([], 2)) := by show _ = _; rw [HPA.out, if_pos rfl]
        have HBX := Lib.hid hb
        clear hl hone hx hv ho hrs hb
        go_wp2_with fail
        go_ret2
        have := ParZ.err HP3.out rfl HBX.out
        rw [HP3.out] at this ⊢
        exact this
      | true =>
        have HP3 : Hid (parseS b = parN f' (b.drop (p + 4 + M)) (rs ++ [(oneS r).1])) := by
          show _ = _
          rw [HPA.out, if_neg (by decide), HRD.out, List.drop_drop, show p + (4 + M) = p + 4 + M by omega]
        have HV := Lib.hid (hv rfl)
        have HX := Lib.hid hx
        have HLL := Lib.hid hl
        have HO2 := Lib.hid ho
        have HRS2 := Lib.hid hrs
        have HB2 := Lib.hid hb
        have HRG : Hid (wc.rangeAt gx 0 L) := blk_range hx
        have HI : Hid ((Try.prog.info? 40).map (·.size) = some L.length) := by show _ = _; rw [hl]; exact infoRef40
        have HRE : Hid (Reads (wc.alloc (.cells L.toArray 40)) (World.heap (wc.alloc (.cells L.toArray 40))).size 16 (some ⟨wc.heap.size, 0, none⟩) 1 L) := by
          exact reads_blk (n := 1) (size := 16) (Blk.newAt (w := wc) rfl 40 L.toArray) (by rw [List.size_toArray, hl])
        have HR1 : Hid (∀ u ∈ L, u.oneCell' = true) := by show ∀ u ∈ L, _; simpa [List.all_eq_true] using hone
        have hkn : k ≤ 1200 := by have := HKP.out; omega
        have hpM2 : (p : Int) + 4 + (M : Int) ≤ 1200 := by have := HPM.out; omega
        clear hl hone hx hv ho hrs hb
        go_wp2_with (first
          | ((with_reducible show wpList _ _ _ (⟨some 86, .load 40 (.tmp 7), _, _, _, _⟩ :: _) _ _); refine wpList_load_mid rfl 40 (.tmp 7) rfl gx 0 rfl L _ HRG.out Try.underlying40 rfl HI.out ?_)
          | ((with_reducible show wpList _ _ _ (⟨some 87, .buildSlice _ _ _, _, _, _, _⟩ :: _) _ _); refine wpList_buildQ rfl (.tmp 86) rfl L HLL.out rfl ?_)
          | ((with_reducible show wpList _ _ _ (⟨some 88, .call _, _, _, _, _⟩ :: _) _ _)
             refine wpList_append_any _ rfl (.tmp 85) (.tmp 87) _ rfl w.heap.size 40 iQ _ 16 192 Try.underlying28 hiQ hzaQ hzbQ hzcQ rfl (by omega) (.slice Ao k co) k (cellsL css) rfl (HO2.out.alloc _)
               _ (some ⟨wc.heap.size, 0, none⟩) 1 1 L rfl HRE.out HR1.out (by simp only [maxLen]; omega) (by omega) (by have := HB2.out.size; simp; omega) ?_
             intro v10 w10 hown hg10 hv10
             obtain ⟨A10, c10, rfl⟩ := own_slice hown
             have HO10 := Lib.hid hown
             have HG10 := Lib.hid hg10
             clear hown hg10 hv10))
        go_roundg (n - (p + 4 + M))
        case measure => have := HGG.out; have := HPM.out; omega
        case rel =>
          have hbw : Below wc.heap.size wc (wc.alloc (.cells L.toArray 40)) := balloc (Below.refl _ _) _
          have hsv : Sv (fun j => (Value.slice Ao k co).ownBlock = some j) (wc.alloc (.cells L.toArray 40)) w10 := (Sv.refl _ _).grown HG10.out (fun g e => .inl e)
          have hlo : ∀ k', (Value.slice Ao k co).ownBlock = some k' → w.heap.size ≤ k' := fun k' e => (HO2.out.lt k' e).1
          have hpm := HPM.out
          have hk := HK.out
          have hkp := HKP.out
          have hf := HF.out
          refine ⟨p + 4 + M, f', css ++ [L.toArray], rs ++ [(oneS r).1], k + 1, A10, c10, rfl, by first | rfl | go_num, rfl, by omega, by omega, ?_, by omega, ?_, ?_, ?_, HP3.out⟩
          · rw [List.length_append, ← hk]; rfl
          · rw [cellsL_snoc]; exact HO10.out
          · refine RepsR.snoc ?_ ?_
            · exact (HRS2.out.below hbw).keep fun cs r h => h.grown (HO2.out.alloc _) HG10.out
            · exact (HV.out.below hbw).grown (HO2.out.alloc _) HG10.out
          · exact (balloc HB2.out _).trans (hsv.toBelow hlo (by have := HB2.out.size; simp; omega))
end Go.Proofs.Ytkfimncbfbbopaa
