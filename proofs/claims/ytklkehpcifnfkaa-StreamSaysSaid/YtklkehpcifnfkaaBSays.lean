/- The walk of BlockSays (it returns true). -/
import Derived.Test.YtklkehpcifnfkaaRBlock
import Derived.Deep.QuietTactic
import Derived.BigQuiet
set_option linter.unusedVariables false
set_option linter.unusedSimpArgs false
namespace Go.Proofs.Ytklkehpcifnfkaa
open Go.RowKit
attribute [local go_sem ↓] Go.wp_at_zero Go.wp_at_succ

theorem RKc.of_own {w : World} {B m c : Nat} {A : Option Addr} {W : List UInt8} (h : w.ownsRow B 23 16 (.slice A m c) m (W.map u8v)) (hm : 0 < m) : ∃ gR, A = some ⟨gR, 0, none⟩ ∧ RKc w gR m W := by
  obtain ⟨g, c', e, _, hl⟩ := h.form hm
  injection e with e
  subst e
  refine ⟨g, rfl, hl, by have := h.1; rw [List.length_map] at this; omega, fun i hi => ?_⟩
  have := h.cells (g := g) rfl i (u8v (W.getD i 0)) (by rw [List.getElem?_map, List.getElem?_eq_getElem hi, List.getD_eq_getElem?_getD, List.getElem?_eq_getElem hi]; rfl)
  rwa [Go.WideShapes.add_plain, Nat.zero_add] at this
def Ss (w0 : World) (gx gr : Nat) (x : List UInt8) (v : Value) (w' : World) : Prop := w'.rangeAt gx 0 (x.map u8v) ∧ w'.rangeAt gr 0 (rkV v) ∧ Below w0.heap.size w0 w'
theorem rk_there' {w : World} {g : Nat} {l : List Value} (h : Blk w g 31 l.toArray) (hl : l.length = 257) {v : Value} : w.there g 0 (rkV v).toArray.size := by rw [List.size_toArray, rkV_len]; exact blk_there h hl
set_option maxRecDepth 100000 in
set_option maxHeartbeats 3200000 in
theorem bsays_good (n : Nat) (b x : List UInt8) (A : Option Addr) (c L : Nat) (w : World) (hb : b.length = 16 ∨ b.length = 32) (hn : n = b.length / 4) (hL : b.length = L) (hx : x.length = 16) (hr : Reads w w.heap.size 1 A L (b.map u8v)) (hc : L ≤ c) :
    Calls Try.prog 3 #[.slice A L c, .agg (x.map u8v).toArray] w fun e w' => e = .returned (.bool true) ∧ Below w.heap.size w w' := by
  have hn48 : n = 4 ∨ n = 8 := by omega
  have hL4 : L = 4 * n := by omega
  have hnew := fun wx hrx => new_c b A c wx hb hrx (by omega)
  rw [hL] at hnew
  have hkey : keyS b = (schS n b (4 * (n + 7) - n)).2 := by rw [keyS, hn]
  have HNEW := Lib.hid hnew
  have HNK := Lib.hid (fun wx hrx => newkey_c n b A L c wx hn48 hL hL4 hrx)
  have HR := Lib.hid hr
  have HX := Lib.hid hx
  have HKEY := Lib.hid hkey
  have HN := Lib.hid hn
  have HL4 := Lib.hid hL4
  have hn8 : n ≤ 8 := by omega
  clear hb hn hL hx hr hc hn48 hL4 hnew hkey
  go_enter Try.func3, Try.ntmps3
  go_upto_region 1 with (fail)
  obtain ⟨gx, hgx⟩ : ∃ gx, gx = w.heap.size := ⟨_, rfl⟩
  have HX0 : Hid (BB (w.alloc (.cells (x.map u8v).toArray 23)) gx 23 x) := by show BB _ _ _ _; rw [hgx]; exact BB.new w 23 x
  have HB0 := Lib.hid (balloc (Below.refl w.heap.size w) (.cells (x.map u8v).toArray 23))
  rw [← hgx]
  generalize (w.alloc (.cells (x.map u8v).toArray 23)) = w0 at *
  clear hgx
  go_wp2_with fail
  refine (HNEW.out w0 (HR.out.to_ HB0.out)).mono ?_
  rintro e0 w1 ⟨rfl, hk, hb1⟩
  obtain ⟨g, hg⟩ : ∃ g, g = w0.heap.size := ⟨_, rfl⟩
  obtain ⟨W, hW⟩ : ∃ W, W = keyS b := ⟨_, rfl⟩
  rw [← hg, ← hW] at hk
  rw [← hg]
  have HK1 : Hid (KeyP w1 g W) := ⟨g, 4 * (L / 4 + 7), L / 4 + 6, hk, rfl, by have := HL4.out; omega, by have := HL4.out; omega⟩
  have HX1 := Lib.hid (HX0.out.below hb1)
  have HB1 := Lib.hid (bcall HB0.out hb1)
  have HWK := Lib.hid (hW.trans HKEY.out)
  clear hk hb1 hg hW
  go_wp2_with fail
  refine (HNK.out w1 (HR.out.to_ HB1.out)).mono ?_
  rintro e0 w2 ⟨A', cR, rfl, hown, hb2⟩
  rw [← HWK.out] at hown
  obtain ⟨m, hm⟩ : ∃ m, m = n + 7 := ⟨_, rfl⟩
  rw [← hm] at hown ⊢
  obtain ⟨gR, rfl, hrk⟩ := RKc.of_own hown (by omega)
  have HRK2 := Lib.hid hrk
  have HM := Lib.hid hm
  have HK2 := Lib.hid (HK1.out.below hb2)
  have HX2 := Lib.hid (HX1.out.below hb2)
  have HB2 := Lib.hid (bcall HB1.out hb2)
  have HZ2 : Hid (Blk (w2.alloc (.cells Try.zeroCells31 31)) w2.heap.size 31 zkV.toArray) := by show Blk _ _ _ _; rw [zero31]; exact Blk.new w2 31 _
  have HJ : Hid ((Try.prog.info? 31).map (·.size) = some (rkV (.slice (some ⟨gR, 0, none⟩) m cR)).toArray.size) := by show _ = _; rw [List.size_toArray, rkV_len]; exact info31
  have HTH : Hid ((w2.alloc (.cells Try.zeroCells31 31)).there w2.heap.size 0 (rkV (.slice (some ⟨gR, 0, none⟩) m cR)).toArray.size) := rk_there HZ2.out
  clear hown hb2 hrk hm
  go_upto_region 3 with (first
    | ((with_reducible show wpList _ _ _ (⟨none, .store 31 (.tmp 7) (.tmp 17), _, _, _, _⟩ :: _) _ _); refine wpList_store_mid rfl 31 (.tmp 7) (.tmp 17) rfl w2.heap.size 0 (rkV (.slice (some ⟨gR, 0, none⟩) m cR)).toArray rfl rfl HTH.out HJ.out (rkV_one _ _ _) ?_))
  have HB3' : Hid (Below w2.heap.size w2 ((w2.alloc (.cells Try.zeroCells31 31)).setCells w2.heap.size 0 (rkV (.slice (some ⟨gR, 0, none⟩) m cR)))) := below_setCells (balloc (Below.refl _ _) _) (Nat.le_refl _) _ _
  have HKT3 : Hid (KT ((w2.alloc (.cells Try.zeroCells31 31)).setCells w2.heap.size 0 (rkV (.slice (some ⟨gR, 0, none⟩) m cR))) w2.heap.size (.slice (some ⟨gR, 0, none⟩) m cR)) := rk_store HZ2.out
  obtain ⟨gr, hgr⟩ : ∃ gr, gr = w2.heap.size := ⟨_, rfl⟩
  have HX3 := Lib.hid (HX2.out.below HB3'.out)
  have HK3 := Lib.hid (HK2.out.below HB3'.out)
  have HRK3 := Lib.hid (HRK2.out.below HB3'.out)
  have HB3 := Lib.hid (bcall HB2.out HB3'.out)
  rw [← hgr] at HKT3 HX3 HK3 HRK3 HB3 ⊢
  generalize ((w2.alloc (.cells Try.zeroCells31 31)).setCells gr 0 (rkV (.slice (some ⟨gR, 0, none⟩) m cR))) = w3 at *
  clear hgr HZ2 HTH HJ HB3' HB2 HX2 HK2 HRK2
  go_wp2_with fail
  refine (awake4_c _).mono ?_
  rintro e0 w4 ⟨rfl, hb4⟩
  have HX4 := Lib.hid (HX3.out.below hb4)
  have HK4 := Lib.hid (HK3.out.below hb4)
  have HRK4 := Lib.hid (HRK3.out.below hb4)
  have HKT4 : Hid (KT w4 gr (.slice (some ⟨gR, 0, none⟩) m cR)) := Blk.below HKT3.out hb4
  have HB4 := Lib.hid (bcall HB3.out hb4)
  clear hb4
  go_upto_region 5 with (fail)
  obtain ⟨Y, hY⟩ : ∃ Y, Y = blockS W x := ⟨_, rfl⟩
  have hYl : Y.length = 16 := by rw [hY]; exact blockS_len _ _
  have eYY := eq23 Y Y hYl hYl
  rw [beq_self_eq_true] at eYY
  have K1 : Hid (∀ w', Below w4.heap.size w4 w' → Calls Try.prog 16 #[.pointer (some ⟨g, 0, none⟩), .agg (x.map u8v).toArray] w' fun e w'' => e = .returned (.agg (Y.map u8v).toArray) ∧ Below w'.heap.size w' w'') := fun w' hb => by
    rw [hY]; exact block_p x W g w' HX.out (HK4.out.below hb)
  have K2 : Hid (∀ w', Below w4.heap.size w4 w' → Calls Try.prog 17 #[.agg (rkV (.slice (some ⟨gR, 0, none⟩) m cR)).toArray, .agg (x.map u8v).toArray] w' fun e w'' => e = .returned (.agg (Y.map u8v).toArray) ∧ Below w'.heap.size w' w'') := fun w' hb => by
    rw [hY]; exact rblock_c x W gR m cR (n + 6) w' HX.out (HRK4.out.below hb) HM.out (by omega) (by omega)
  have K : Hid (∀ w', Below w4.heap.size w4 w' → Ss w4 gx gr x (.slice (some ⟨gR, 0, none⟩) m cR) w') := fun w' hb => ⟨(HX4.out.below hb).range, blk_range (Blk.below HKT4.out hb), hb⟩
  have hu := Try.underlying23
  have hu31 := Try.underlying31
  have hix : (Try.prog.info? 23).map (·.size) = some (x.map u8v).length := by rw [List.length_map, HX.out]; exact info23
  have hik : (Try.prog.info? 31).map (·.size) = some (rkV (.slice (some ⟨gR, 0, none⟩) m cR)).length := by rw [rkV_len]; exact info31
  clear hY hYl
  refine wp_region_held_drew (S := Ss w4 gx gr x (.slice (some ⟨gR, 0, none⟩) m cR)) (by kernel_rfl) (K.out _ (bdrew (Below.refl _ _))) (fun hHeld => ?_)
  refine wpAnyH_takeAt (i := 0) (v := (.int .i64 0)) rfl (by kernel_rfl) (by kernel_rfl) (by kernel_rfl) (fun _ _ _ h => h) rfl (Or.inl ⟨by rfl, fun w' hS => ?_⟩) hHeld ?_
  · go_simp
  simp only [List.set_cons_zero, List.set_cons_succ]
  refine wpAnyH_takeAt (i := 1) (v := (.bool false)) rfl (by kernel_rfl) (by kernel_rfl) (by kernel_rfl) (fun _ _ _ h => h) rfl (Or.inl ⟨by rfl, fun w' hS => ?_⟩) hHeld ?_
  · go_simp
  simp only [List.set_cons_zero, List.set_cons_succ]
  refine wpAnyH_takeAt (i := 2) (v := (.bool false)) rfl (by kernel_rfl) (by kernel_rfl) (by kernel_rfl) (fun _ _ _ h => h) rfl (Or.inl ⟨by rfl, fun w' hS => ?_⟩) hHeld ?_
  · go_simp
  simp only [List.set_cons_zero, List.set_cons_succ]
  refine wpAnyH_takeAt (i := 3) (v := (.pointer (some ⟨g, 0, none⟩))) rfl (by kernel_rfl) (by kernel_rfl) (by kernel_rfl) (fun _ _ _ h => h) rfl (Or.inl ⟨by rfl, fun w' hS => ?_⟩) hHeld ?_
  · go_simp
  simp only [List.set_cons_zero, List.set_cons_succ]
  refine wpAnyH_takeAt (i := 4) (v := (.agg (x.map u8v).toArray)) rfl (by kernel_rfl) (by kernel_rfl) (by kernel_rfl) (fun _ _ _ h => h) rfl (yieldsIf_load_mid (by rfl) 23 _ rfl gx 0 rfl (x.map u8v) _ (fun w' hS => hS.1) hu rfl hix) hHeld ?_
  simp only [List.set_cons_zero, List.set_cons_succ]
  refine wpAnyH_takeAt (i := 6) (v := (.agg (rkV (.slice (some ⟨gR, 0, none⟩) m cR)).toArray)) rfl (by kernel_rfl) (by kernel_rfl) (by kernel_rfl) (fun _ _ _ h => h) rfl (yieldsIf_load_mid (by rfl) 31 _ rfl gr 0 rfl (rkV (.slice (some ⟨gR, 0, none⟩) m cR)) _ (fun w' hS => hS.2.1) hu31 rfl hik) hHeld ?_
  simp only [List.set_cons_zero, List.set_cons_succ]
  refine wpAnyH_takeAt (i := 7) (v := (.agg (x.map u8v).toArray)) rfl (by kernel_rfl) (by kernel_rfl) (by kernel_rfl) (fun _ _ _ h => h) rfl (yieldsIf_load_mid (by rfl) 23 _ rfl gx 0 rfl (x.map u8v) _ (fun w' hS => hS.1) hu rfl hix) hHeld ?_
  simp only [List.set_cons_zero, List.set_cons_succ]
  refine wpAnyH_ready (rs := [5]) (by kernel_rfl) (by simp) (AllReadyH.cons rfl (fun K' hK => ?_) AllReadyH.nil)
  go_simp
  go_at_call 16
  refine (K1.out _ hHeld.2.2).mono ?_
  rintro e0 w' ⟨rfl, hb⟩
  go_wp2_with fail
  refine hK.out _ _ (K.out _ (bcall hHeld.2.2 hb)) (fun hHeld' => ?_)
  clear hK hHeld hb
  have hHeld := hHeld'
  clear hHeld'
  refine wpAnyH_ready (rs := [8]) (by kernel_rfl) (by simp) (AllReadyH.cons rfl (fun K' hK => ?_) AllReadyH.nil)
  go_simp
  go_at_call 17
  refine (K2.out _ hHeld.2.2).mono ?_
  rintro e0 w' ⟨rfl, hb⟩
  go_wp2_with fail
  refine hK.out _ _ (K.out _ (bcall hHeld.2.2 hb)) (fun hHeld' => ?_)
  clear hK hHeld hb
  have hHeld := hHeld'
  clear hHeld'
  refine wpAnyH_takeAt (i := 9) (v := (.bool true)) rfl (by kernel_rfl) (by kernel_rfl) (by kernel_rfl) (fun _ _ _ h => h) rfl (Or.inl ⟨by rfl, fun w' hS => ?_⟩) hHeld ?_
  · go_simp
  simp only [List.set_cons_zero, List.set_cons_succ]
  refine wpAnyH_takeAt (i := 10) (v := (.bool true)) rfl (by kernel_rfl) (by kernel_rfl) (by kernel_rfl) (fun _ _ _ h => h) rfl (Or.inl ⟨by rfl, fun w' hS => ?_⟩) hHeld ?_
  · go_simp
  simp only [List.set_cons_zero, List.set_cons_succ]
  refine wpAnyH_ready (rs := [11]) (by kernel_rfl) (by simp) (AllReadyH.cons rfl (fun K' hK => ?_) AllReadyH.nil)
  go_simp
  refine hK.out _ _ hHeld (fun hHeld' => ?_)
  clear hK hHeld
  have hHeld := hHeld'
  clear hHeld'
  refine wpAnyH_done (by kernel_rfl) ?_ _
  go_wp2
  go_ret
  exact ⟨rfl, bcall HB4.out hHeld.2.2⟩
set_option maxRecDepth 100000 in
set_option maxHeartbeats 3200000 in
theorem bsays_bad (b x : List UInt8) (A : Option Addr) (c L : Nat) (w : World) (hb : ¬ (b.length = 16 ∨ b.length = 32)) (hL : b.length = L) :
    Calls Try.prog 3 #[.slice A L c, .agg (x.map u8v).toArray] w fun e w' => e = .returned (.bool true) ∧ Below w.heap.size w w' := by
  have hnew := fun wx => new_bad b A c wx (by omega)
  rw [hL] at hnew
  have HNEW := Lib.hid hnew
  have HNK := Lib.hid (fun wx => newkey_bad b A L c wx (by omega))
  clear hb hL hnew
  go_enter Try.func3, Try.ntmps3
  go_upto_region 1 with (fail)
  have HB0 := Lib.hid (balloc (Below.refl w.heap.size w) (.cells (x.map u8v).toArray 23))
  generalize (w.alloc (.cells (x.map u8v).toArray 23)) = w0 at *
  go_wp2_with fail
  refine (HNEW.out w0).mono ?_
  rintro e0 w1 ⟨rfl, rfl⟩
  go_wp2_with fail
  refine (HNK.out w0).mono ?_
  rintro e0 w2 ⟨rfl, hb2⟩
  have HB2 := Lib.hid (bcall HB0.out hb2)
  have HZ2 : Hid (Blk (w2.alloc (.cells Try.zeroCells31 31)) w2.heap.size 31 zkV.toArray) := by show Blk _ _ _ _; rw [zero31]; exact Blk.new w2 31 _
  have HJ : Hid ((Try.prog.info? 31).map (·.size) = some zkV.toArray.size) := by show _ = _; rw [List.size_toArray, zkV_len]; exact info31
  have HTH : Hid ((w2.alloc (.cells Try.zeroCells31 31)).there w2.heap.size 0 zkV.toArray.size) := by show World.there _ _ _ _; rw [List.size_toArray]; exact blk_there HZ2.out rfl
  clear hb2
  go_upto_region 3 with (first
    | ((with_reducible show wpList _ _ _ (⟨none, .store 31 (.tmp 7) (.tmp 17), _, _, _, _⟩ :: _) _ _); refine wpList_store_mid rfl 31 (.tmp 7) (.tmp 17) rfl w2.heap.size 0 zkV.toArray rfl rfl HTH.out HJ.out zkV_one ?_))
  have HB3' : Hid (Below w2.heap.size w2 ((w2.alloc (.cells Try.zeroCells31 31)).setCells w2.heap.size 0 zkV)) := below_setCells (balloc (Below.refl _ _) _) (Nat.le_refl _) _ _
  have HB3 := Lib.hid (bcall HB2.out HB3'.out)
  generalize ((w2.alloc (.cells Try.zeroCells31 31)).setCells w2.heap.size 0 zkV) = w3 at *
  clear HZ2 HTH HJ HB3' HB2
  go_wp2_with fail
  refine (awake4_c _).mono ?_
  rintro e0 w4 ⟨rfl, hb4⟩
  have HB4 := Lib.hid (bcall HB3.out hb4)
  clear hb4
  go_wp2_with fail
  go_quiet (fail)
  go_wp2
  go_ret
  exact ⟨rfl, below_drewN HB4.out _⟩
theorem bsays_walk (b x : List UInt8) (A : Option Addr) (c : Nat) (w : World) (hx : x.length = 16) (hr : Reads w w.heap.size 1 A b.length (b.map u8v)) (hc : b.length ≤ c) :
    Calls Try.prog 3 #[.slice A b.length c, .agg (x.map u8v).toArray] w fun e w' => e = .returned (.bool true) ∧ Below w.heap.size w w' := by
  by_cases h : b.length = 16 ∨ b.length = 32
  · exact bsays_good _ b x A c _ w h rfl rfl hx hr hc
  · exact bsays_bad b x A c _ w h rfl
end Go.Proofs.Ytklkehpcifnfkaa
