/- The walk of StreamSays (it returns true). -/
import Derived.Test.YtklkehpcifnfkaaRCrypt
set_option linter.unusedVariables false
set_option linter.unusedSimpArgs false
namespace Go.Proofs.Ytklkehpcifnfkaa
open Go.RowKit
attribute [local go_sem ↓] Go.wp_at_zero Go.wp_at_succ

theorem ssays_nokey (b first : List UInt8) (A A2 : Option Addr) (L c n c2 : Nat) (at_ : Int) (w : World) (hb : ¬ (b.length = 16 ∨ b.length = 32)) (hL : b.length = L) :
    Calls Try.prog 9 #[.slice A L c, .agg (first.map u8v).toArray, .int .i64 at_, .slice A2 n c2] w fun e w' => e = .returned (.bool true) ∧ Below w.heap.size w w' := by
  have HKB : Hid (∀ wx, Calls Try.prog 22 #[.slice A L c] wx fun e w' => e = .returned (.pointer none) ∧ wx = w') := fun wx => by rw [← hL]; exact key_bad b A c wx hb
  clear hb hL
  go_enter Try.func9, Try.ntmps9
  go_upto_region 1 with (fail)
  have HB0 := Lib.hid (balloc (Below.refl w.heap.size w) (.cells (first.map u8v).toArray 23))
  generalize (w.alloc (.cells (first.map u8v).toArray 23)) = w0 at *
  go_wp2_with fail
  refine (HKB.out w0).mono ?_
  rintro e0 w1 ⟨rfl, rfl⟩
  go_wp2_with fail
  refine (awake5_c _).mono ?_
  rintro e0 w2 ⟨rfl, hb2⟩
  have HB2 := Lib.hid (bcall HB0.out hb2)
  clear hb2
  go_wp2
  go_ret
  exact ⟨rfl, HB2.out⟩
set_option maxRecDepth 100000 in
set_option maxHeartbeats 3200000 in
theorem ssays_key (nn : Nat) (b first plain : List UInt8) (A A2 : Option Addr) (L c n c2 : Nat) (at_ : Int) (w : World) (hb : b.length = 16 ∨ b.length = 32) (hnn : nn = b.length / 4) (hL : b.length = L) (hf : first.length = 16) (hr : Reads w w.heap.size 1 A L (b.map u8v)) (hc : L ≤ c)
    (hr2 : Reads w w.heap.size 1 A2 n (plain.map u8v)) (hn : plain.length = n) :
    Calls Try.prog 9 #[.slice A L c, .agg (first.map u8v).toArray, .int .i64 at_, .slice A2 n c2] w fun e w' => e = .returned (.bool true) ∧ Below w.heap.size w w' := by
  have hn48 : nn = 4 ∨ nn = 8 := by omega
  have hL4 : L = 4 * nn := by omega
  have HKC : Hid (∀ wx, Reads wx wx.heap.size 1 A L (b.map u8v) → Calls Try.prog 22 #[.slice A L c] wx fun e w' => e = .returned (.pointer (some ⟨wx.heap.size, 0, none⟩)) ∧ KeyP w' wx.heap.size (keyS b) ∧ Below wx.heap.size wx w') := fun wx hrx => by
    have := key_c b A c wx hb (by rw [hL]; exact hrx) (by rw [hL]; exact hc)
    rw [hL] at this
    exact this
  have HNK := Lib.hid (fun wx hrx => newkey_c nn b A L c wx hn48 hL hL4 hrx)
  have HKEY : Hid (keyS b = (schS nn b (4 * (nn + 7) - nn)).2) := by show _ = _; rw [keyS, hnn]
  have HR := Lib.hid hr
  have HR2 := Lib.hid hr2
  have HN := Lib.hid hn
  have HF := Lib.hid hf
  have hn8 : nn ≤ 8 := by omega
  clear hb hnn hL hr hr2 hn hf hc hn48 hL4
  go_enter Try.func9, Try.ntmps9
  go_upto_region 1 with (fail)
  obtain ⟨gx, hgx⟩ : ∃ gx, gx = w.heap.size := ⟨_, rfl⟩
  have HX0 : Hid (BB (w.alloc (.cells (first.map u8v).toArray 23)) gx 23 first) := by show BB _ _ _ _; rw [hgx]; exact BB.new w 23 first
  have HB0 := Lib.hid (balloc (Below.refl w.heap.size w) (.cells (first.map u8v).toArray 23))
  rw [← hgx]
  generalize (w.alloc (.cells (first.map u8v).toArray 23)) = w0 at *
  clear hgx
  go_wp2_with fail
  refine (HKC.out w0 (HR.out.to_ HB0.out)).mono ?_
  rintro e0 w1 ⟨rfl, hk, hb1⟩
  obtain ⟨g, hg⟩ : ∃ g, g = w0.heap.size := ⟨_, rfl⟩
  obtain ⟨W, hW⟩ : ∃ W, W = keyS b := ⟨_, rfl⟩
  rw [← hg, ← hW] at hk
  rw [← hg]
  have HK1 := Lib.hid hk
  have HX1 := Lib.hid (HX0.out.below hb1)
  have HB1 := Lib.hid (bcall HB0.out hb1)
  have HWK := Lib.hid (hW.trans HKEY.out)
  clear hk hb1 hg hW
  go_wp2_with fail
  refine (awake5_c _).mono ?_
  rintro e0 w2 ⟨rfl, hb2⟩
  have HK2 := Lib.hid (HK1.out.below hb2)
  have HX2 := Lib.hid (HX1.out.below hb2)
  have HB2 := Lib.hid (bcall HB1.out hb2)
  clear hb2
  by_cases hbig : 1000 < n
  · have hbi : (1000 : Int) < (n : Int) := by omega
    go_wp2
    go_ret
    exact ⟨rfl, HB2.out⟩
  have hni : (n : Int) ≤ 1000 := by omega
  have hnn : n ≤ 1000 := by omega
  clear hbig
  go_wp2_with fail
  refine (HNK.out w2 (HR.out.to_ HB2.out)).mono ?_
  rintro e0 w3 ⟨A', cR, rfl, hown, hb3⟩
  rw [← HWK.out] at hown
  obtain ⟨m, hm⟩ : ∃ m, m = nn + 7 := ⟨_, rfl⟩
  rw [← hm] at hown ⊢
  obtain ⟨gR, rfl, hrk⟩ := RKc.of_own hown (by omega)
  have HRK3 := Lib.hid hrk
  have HM := Lib.hid hm
  have HK3 := Lib.hid (HK2.out.below hb3)
  have HX3 := Lib.hid (HX2.out.below hb3)
  have HB3 := Lib.hid (bcall HB2.out hb3)
  have HZ3 : Hid (Blk (w3.alloc (.cells Try.zeroCells31 31)) w3.heap.size 31 zkV.toArray) := by show Blk _ _ _ _; rw [zero31]; exact Blk.new w3 31 _
  have HJ : Hid ((Try.prog.info? 31).map (·.size) = some (rkV (.slice (some ⟨gR, 0, none⟩) m cR)).toArray.size) := by show _ = _; rw [List.size_toArray, rkV_len]; exact info31
  have HTH : Hid ((w3.alloc (.cells Try.zeroCells31 31)).there w3.heap.size 0 (rkV (.slice (some ⟨gR, 0, none⟩) m cR)).toArray.size) := rk_there HZ3.out
  clear hown hb3 hrk hm
  go_upto_region 7 with (first
    | ((with_reducible show wpList _ _ _ (⟨none, .store 31 (.tmp 10) (.tmp 30), _, _, _, _⟩ :: _) _ _); refine wpList_store_mid rfl 31 (.tmp 10) (.tmp 30) rfl w3.heap.size 0 (rkV (.slice (some ⟨gR, 0, none⟩) m cR)).toArray rfl rfl HTH.out HJ.out (rkV_one _ _ _) ?_))
  have HB4' : Hid (Below w3.heap.size w3 ((w3.alloc (.cells Try.zeroCells31 31)).setCells w3.heap.size 0 (rkV (.slice (some ⟨gR, 0, none⟩) m cR)))) := below_setCells (balloc (Below.refl _ _) _) (Nat.le_refl _) _ _
  have HKT4 : Hid (Blk ((w3.alloc (.cells Try.zeroCells31 31)).setCells w3.heap.size 0 (rkV (.slice (some ⟨gR, 0, none⟩) m cR))) w3.heap.size 31 (rkV (.slice (some ⟨gR, 0, none⟩) m cR)).toArray) := rk_store HZ3.out
  obtain ⟨gr, hgr⟩ : ∃ gr, gr = w3.heap.size := ⟨_, rfl⟩
  have HX4 := Lib.hid (HX3.out.below HB4'.out)
  have HK4 := Lib.hid (HK3.out.below HB4'.out)
  have HRK4 := Lib.hid (HRK3.out.below HB4'.out)
  have HB4 := Lib.hid (bcall HB3.out HB4'.out)
  rw [← hgr] at HKT4 HX4 HK4 HRK4 HB4 ⊢
  generalize ((w3.alloc (.cells Try.zeroCells31 31)).setCells gr 0 (rkV (.slice (some ⟨gR, 0, none⟩) m cR))) = w4 at *
  clear hgr HZ3 HTH HJ HB4' HB3 HX3 HK3 HRK3
  have HI : Hid ((Try.prog.info? 23).map (·.size) = some (first.map u8v).length) := by show _ = _; rw [List.length_map, HF.out]; exact info23
  have HI31 : Hid ((Try.prog.info? 31).map (·.size) = some (rkV (.slice (some ⟨gR, 0, none⟩) m cR)).length) := by show _ = _; rw [rkV_len]; exact info31
  have HRG4 := Lib.hid (HX4.out.range)
  have HR4 := Lib.hid (HR2.out.to_ HB4.out)
  by_cases ha : at_ < 0 ∨ 1099511627776 < at_
  · have HA := Lib.hid ha
    clear ha
    go_wp2_with (first
      | ((with_reducible show wpList _ _ _ (⟨some 34, .load 23 (.tmp 5), _, _, _, _⟩ :: _) _ _); refine wpList_load_mid rfl 23 (.tmp 5) rfl gx 0 rfl (first.map u8v) _ HRG4.out Try.underlying23 rfl HI.out ?_)
      | (go_at_call 23
         refine (crypt_badn first _ at_ _ n c2 _ HA.out).mono ?_
         rintro e0 w5 ⟨rfl, hb5⟩
         have HRG5 := Lib.hid ((HX4.out.below hb5).range)
         have HKG5 := Lib.hid (blk_range (HKT4.out.below hb5))
         have HB5 := Lib.hid (bcall HB4.out hb5)
         clear hb5)
      | ((with_reducible show wpList _ _ _ (⟨some 42, .load 23 (.tmp 5), _, _, _, _⟩ :: _) _ _); refine wpList_load_mid rfl 23 (.tmp 5) rfl gx 0 rfl (first.map u8v) _ HRG5.out Try.underlying23 rfl HI.out ?_)
      | ((with_reducible show wpList _ _ _ (⟨some 41, .load 31 (.tmp 10), _, _, _, _⟩ :: _) _ _); refine wpList_load_mid rfl 31 (.tmp 10) rfl gr 0 rfl (rkV (.slice (some ⟨gR, 0, none⟩) m cR)) _ HKG5.out Try.underlying31 rfl HI31.out ?_)
      | (go_at_call 25
         refine (rcrypt_bad first plain (rkV (.slice (some ⟨gR, 0, none⟩) m cR)) at_ _ n c2 _ HA.out).mono ?_
         rintro e0 w6 ⟨rfl, hb6⟩
         have HB6 := Lib.hid (bcall HB5.out hb6)
         clear hb6)
      | (go_at_call 26
         refine (same_n (b1 := []) (b2 := []) (n := 0) (m := 0) Reads.none_ Reads.none_ rfl rfl).mono ?_
         rintro e0 w7 ⟨rfl, rfl⟩))
    go_ret
    exact ⟨rfl, HB6.out⟩
  · obtain ⟨a, rfl⟩ : ∃ a : Nat, at_ = (a : Int) := ⟨at_.toNat, by omega⟩
    have hal : a ≤ 1099511627776 := by omega
    clear ha
    obtain ⟨Y, hY⟩ : ∃ Y, Y = cryptS W first a plain := ⟨_, rfl⟩
    have HYL : Hid (Y.length = n) := by show _ = _; rw [hY, cryptS_len]; exact HN.out
    have HC5 : Hid (∀ wx, KeyP wx g W → Reads wx wx.heap.size 1 A2 n (plain.map u8v) → Calls Try.prog 23 #[.pointer (some ⟨g, 0, none⟩), .agg (first.map u8v).toArray, .int .i64 (a : Int), .slice A2 n c2] wx fun e w' =>
      e = .returned (.tuple #[.slice (some ⟨wx.heap.size + 1, 0, none⟩) n n, .int .i64 0]) ∧ BB w' (wx.heap.size + 1) 5 Y ∧ Below wx.heap.size wx w') := fun wx h1 h2 => by rw [hY]; exact crypt_n W first plain g a n A2 c2 wx h1 HF.out hal h2 HN.out hnn
    have HC6 : Hid (∀ wx, RKc wx gR m W → Reads wx wx.heap.size 1 A2 n (plain.map u8v) → Calls Try.prog 25 #[.agg (rkV (.slice (some ⟨gR, 0, none⟩) m cR)).toArray, .agg (first.map u8v).toArray, .int .i64 (a : Int), .slice A2 n c2] wx fun e w' =>
      ∃ A' c', e = .returned (.tuple #[.slice A' n c', .int .i64 0]) ∧ ByteRow w' wx.heap.size (.slice A' n c') Y ∧ Below wx.heap.size wx w') := fun wx h1 h2 => by rw [hY]; exact rcrypt_c W first plain gR m cR (nn + 6) a n A2 c2 wx h1 HM.out (by omega) (by omega) HF.out hal HN.out h2 hnn
    clear hY
    go_wp2_with (first
      | ((with_reducible show wpList _ _ _ (⟨some 34, .load 23 (.tmp 5), _, _, _, _⟩ :: _) _ _); refine wpList_load_mid rfl 23 (.tmp 5) rfl gx 0 rfl (first.map u8v) _ HRG4.out Try.underlying23 rfl HI.out ?_)
      | (go_at_call 23
         refine (HC5.out _ HK4.out HR4.out).mono ?_
         rintro e0 w5 ⟨rfl, ho5, hb5⟩
         have HO5 := Lib.hid ho5
         have HRG5 := Lib.hid ((HX4.out.below hb5).range)
         have HKG5 := Lib.hid (blk_range (HKT4.out.below hb5))
         have HRK5 := Lib.hid (HRK4.out.below hb5)
         have HR5 := Lib.hid (HR4.out.to_ hb5)
         have HB5 := Lib.hid (bcall HB4.out hb5)
         obtain ⟨go, hgo⟩ : ∃ go, go = w4.heap.size + 1 := ⟨_, rfl⟩
         rw [← hgo] at HO5 ⊢
         clear hb5 ho5 hgo)
      | ((with_reducible show wpList _ _ _ (⟨some 42, .load 23 (.tmp 5), _, _, _, _⟩ :: _) _ _); refine wpList_load_mid rfl 23 (.tmp 5) rfl gx 0 rfl (first.map u8v) _ HRG5.out Try.underlying23 rfl HI.out ?_)
      | ((with_reducible show wpList _ _ _ (⟨some 41, .load 31 (.tmp 10), _, _, _, _⟩ :: _) _ _); refine wpList_load_mid rfl 31 (.tmp 10) rfl gr 0 rfl (rkV (.slice (some ⟨gR, 0, none⟩) m cR)) _ HKG5.out Try.underlying31 rfl HI31.out ?_)
      | (go_at_call 25
         refine (HC6.out _ HRK5.out HR5.out).mono ?_
         rintro e0 w6 ⟨A6, c6, rfl, ho6, hb6⟩
         have HO6 : Hid (Reads w6 w6.heap.size 1 A6 n (Y.map u8v)) := by have := ho6; unfold ByteRow at this; rw [HYL.out] at this; exact Reads.of_own this
         have HP6 : Hid (Reads w6 w6.heap.size 1 (some ⟨go, 0, none⟩) n (Y.map u8v)) := (HO5.out.below hb6).reads HYL.out
         have HB6 := Lib.hid (bcall HB5.out hb6)
         clear ho6 hb6)
      | (go_at_call 26
         refine (same_n HP6.out HO6.out HYL.out HYL.out).mono ?_
         rintro e0 w7 ⟨rfl, rfl⟩))
    go_ret
    exact ⟨by simp, HB6.out⟩
theorem ssays_walk (b first plain : List UInt8) (A A2 : Option Addr) (c c2 : Nat) (at_ : Int) (w : World) (hf : first.length = 16) (hr : Reads w w.heap.size 1 A b.length (b.map u8v)) (hc : b.length ≤ c) (hr2 : Reads w w.heap.size 1 A2 plain.length (plain.map u8v)) :
    Calls Try.prog 9 #[.slice A b.length c, .agg (first.map u8v).toArray, .int .i64 at_, .slice A2 plain.length c2] w fun e w' => e = .returned (.bool true) ∧ Below w.heap.size w w' := by
  by_cases h : b.length = 16 ∨ b.length = 32
  · exact ssays_key _ b first plain A A2 _ c _ c2 at_ w h rfl rfl hf hr hc hr2 rfl
  · exact ssays_nokey b first A A2 _ c _ c2 at_ w h rfl
end Go.Proofs.Ytklkehpcifnfkaa
