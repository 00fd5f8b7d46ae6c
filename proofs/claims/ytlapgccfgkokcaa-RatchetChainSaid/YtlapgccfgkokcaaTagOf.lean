/- What tag.Of does (contract). Conditions: the key and the parts lie in memory. -/
import Derived.Test.YtlapgccfgkokcaaPad
import Derived.StillTailTactics
set_option linter.unusedVariables false
set_option linter.unusedSimpArgs false
namespace Go.Proofs.Ytlapgccfgkokcaa
open Go.RowKit
attribute [local go_sem ↓] Go.wp_at_zero Go.wp_at_succ

/-- The key that HMAC takes. -/
def hkey (key : List UInt8) : List UInt8 := if 64 < key.length then shaS key else key
def hmacS (key m : List UInt8) : List UInt8 := shaS (padK (hkey key) 0x5c ++ shaS (padK (hkey key) 0x36 ++ m))
theorem hmacS_len (key m : List UInt8) : (hmacS key m).length = 32 := shaS_len _
theorem hkey_len (key : List UInt8) : (hkey key).length ≤ 64 := by
  unfold hkey
  split
  · rw [shaS_len]; decide
  · omega
theorem SlV.arr {w : World} {g : Nat} {t : TypeId} {l : List UInt8} (h : UB w g t l) (hl : l.length = 32) : SlV w (.slice (some ⟨g, 0, none⟩) 32 32) l := by
  refine ⟨some ⟨g, 0, none⟩, 32, by rw [hl], by omega, by simp, fun hp => ⟨_, rfl, h.lt, fun j u hu => ?_⟩⟩
  rw [Go.WideShapes.add_plain, Nat.zero_add, Blk.cell h, List.getElem?_toArray]
  exact hu
theorem pad_z {x : UInt8} {z : Int} (hz : (x.toNat : Int) = z) (key : List UInt8) (A : Option Addr) (n c : Nat) (w : World) (h : SlV w (.slice A n c) key) (hk : key.length ≤ 64) :
    Calls Try.prog 52 #[.slice A n c, .int .u8 z] w fun e w' => e = .returned (.slice (some ⟨w.heap.size, 0, none⟩) 64 64) ∧ UB w' w.heap.size 5 (padK key x) ∧ Below w.heap.size w w' := by
  subst hz
  exact pad_c key x A n c w h hk
theorem SlV.num {w : World} {A : Option Addr} {n c : Nat} {b : List UInt8} (h : SlV w (.slice A n c) b) : n = b.length := by
  obtain ⟨_, _, e, _⟩ := h
  injection e
theorem Parts.at_ {w : World} {A : Option Addr} {ps : List (List UInt8)} (h : Parts w A ps) {i : Nat} (hi : i < ps.length) : ∃ g o Ai ci, A = some ⟨g, o, none⟩ ∧ g < w.heap.size ∧ w.cell? ⟨g, o + i, none⟩ = some (.slice Ai (ps.getD i []).length ci) ∧ SlV w (.slice Ai (ps.getD i []).length ci) (ps.getD i []) := by
  obtain ⟨g, o, rfl, hg, hc⟩ := h (by omega)
  obtain ⟨Ai, ci, h1, h2, h3⟩ := hc i hi
  exact ⟨g, o, Ai, ci, rfl, hg, h1, Ai, ci, rfl, h2, h3⟩
set_option maxRecDepth 100000 in
set_option maxHeartbeats 6400000 in
theorem tagof_c (key : List UInt8) (ps : List (List UInt8)) (A D : Option Addr) (n c cD : Nat) (w : World) (hk : SlV w (.slice A n c) key) (hp : Parts w D ps) (hn : ps.length < 9223372036854775808) :
    Calls Try.prog 32 #[.slice A n c, .slice D ps.length cD] w fun e w' => e = .returned (.agg ((hmacS key ps.flatten).map u8v).toArray) ∧ Below w.heap.size w w' := by
  have HP := Lib.hid hp
  have HK := Lib.hid hk
  have HN := Lib.hid hk.num
  obtain ⟨q, hq⟩ : ∃ q, q = ps.length := ⟨_, rfl⟩
  have HQ := Lib.hid hq
  rw [← hq] at hn
  rw [← hq]
  clear hp hk hq
  obtain ⟨k1, hk1⟩ : ∃ k, k = hkey key := ⟨_, rfl⟩
  have HK1 := Lib.hid hk1
  have HKL : Hid (k1.length ≤ 64) := by show _ ≤ _; rw [hk1]; exact hkey_len _
  clear hk1
  go_enter Try.func32, Try.ntmps32
  go_upto_region 1 with fail
  obtain ⟨w0, hw0⟩ : ∃ w0, w0 = w.alloc (.cells (z32.map u8v).toArray 24) := ⟨_, rfl⟩
  change Code.wp _ _ _ _ (w.alloc (.cells (z32.map u8v).toArray 24))
  have HU0 : Hid (UB w0 w.heap.size 24 z32) := by show UB _ _ _ _; rw [hw0]; exact Blk.new _ _ _
  have HB0 : Hid (Below w.heap.size w w0) := by show Below _ _ _; rw [hw0]; exact balloc (Below.refl _ _) _
  have HW0 : Hid (w.heap.size < w0.heap.size) := HU0.out.lt
  rw [← hw0]
  clear hw0
  have HK0 := Lib.hid (HK.out.below HB0.out)
  go_upto_if 12 with fail
  go_cut [0] (fun v0 wx => ∃ A' n' c', v0 = .slice A' n' c' ∧ SlV wx (.slice A' n' c') k1 ∧ Below w0.heap.size w0 wx)
  case first =>
    by_cases hlong : 64 < n
    · have hli : (64 : Int) < (n : Int) := by omega
      obtain ⟨O, hO⟩ : ∃ O, O = shaS ([key] : List (List UInt8)).flatten := ⟨_, rfl⟩
      have hOl : O.length = 32 := by rw [hO]; exact shaS_len _
      have hkO : k1 = O := by rw [hO, HK1.out, hkey, if_pos (by rw [← HN.out]; exact hlong)]; simp
      have HO := Lib.hid hO
      have HOL := Lib.hid hOl
      have HKO := Lib.hid hkO
      have HJ := Lib.hid (infoO hOl)
      clear hO hOl hkO hlong
      go_wp2_with (first
        | (go_at_call 22
           refine (of_blk HO.out (Parts.one (Blk.newAt rfl _ _) (HK0.out.below (balloc (Below.refl _ _) _))) rfl (by simp)).mono ?_
           rintro e0 w1 ⟨rfl, hb1⟩
           have HB1 : Hid (Below w0.heap.size w0 w1) := bcall (balloc (Below.refl _ _) _) hb1
           have HU1 : Hid (UB (w1.alloc (.cells (z32.map u8v).toArray 24)) w1.heap.size 24 z32) := Blk.new _ _ _
           have HTH : Hid ((w1.alloc (.cells (z32.map u8v).toArray 24)).there w1.heap.size 0 (O.map u8v).toArray.size) := there32 HU1.out rfl HOL.out
           clear hb1)
        | ((with_reducible show wpList _ _ _ (⟨none, .store 24 (.tmp 5) (.tmp 15), _, _, _, _⟩ :: _) _ _); refine wpList_store_mid rfl 24 (.tmp 5) (.tmp 15) rfl w1.heap.size 0 (O.map u8v).toArray rfl rfl HTH.out HJ.out (bytes_one _) ?_))
      go_meet
      refine ⟨_, _, _, rfl, ?_, below_setCells (balloc HB1.out _) HB1.out.size _ _⟩
      rw [HKO.out]
      exact SlV.arr (t := 24) (blk_setAll HU1.out (by rw [List.length_map, HOL.out]; rfl)) HOL.out
    · have hli : ¬ (64 : Int) < (n : Int) := by omega
      have hkO : k1 = key := by rw [HK1.out, hkey, if_neg (by rw [← HN.out]; exact hlong)]
      have HKO := Lib.hid hkO
      clear hkO hlong
      go_wp2_with fail
      go_meet
      exact ⟨A, n, c, rfl, by rw [HKO.out]; exact HK0.out, Below.refl _ _⟩
  case rest =>
    obtain ⟨A', n', c', rfl, hk', hb'⟩ := hcut
    have HKC := Lib.hid hk'
    have HBC := Lib.hid hb'
    have HBW : Hid (Below w.heap.size w wc) := HB0.out.trans (hb'.mono (Nat.le_of_lt HW0.out))
    have HUC : Hid (UB wc w.heap.size 24 z32) := Blk.below HU0.out hb'
    have HUL : Hid (w.heap.size < wc.heap.size) := HUC.out.lt
    have HWC : Hid (w.heap.size ≤ wc.heap.size) := HBW.out.size
    clear hk' hb' HK0 HU0 HB0 HW0 HBC HK HN
    obtain ⟨P1, hP1⟩ : ∃ P, P = padK k1 0x36 := ⟨_, rfl⟩
    obtain ⟨P2, hP2⟩ : ∃ P, P = padK k1 0x5c := ⟨_, rfl⟩
    have HP1 := Lib.hid hP1
    have HP2 := Lib.hid hP2
    have HP1L : Hid (P1.length = 64) := by show _ = _; rw [hP1]; exact padK_len _ _
    have HP2L : Hid (P2.length = 64) := by show _ = _; rw [hP2]; exact padK_len _ _
    have hc := new_c wc
    obtain ⟨gs, hgs⟩ : ∃ gs, gs = wc.heap.size + 1 := ⟨_, rfl⟩
    rw [← hgs] at hc
    have HGS : Hid (wc.heap.size ≤ gs) := by show _ ≤ _; omega
    have HC := Lib.hid hc
    clear hgs hc hP1 hP2
    go_upto_region 6 with (first
      | (go_at_call 25
         refine HC.out.mono ?_
         rintro e0 w1 ⟨rfl, hs1, hb1⟩
         have HB1 := Lib.hid hb1
         have HS1 := Lib.hid hs1
         clear hs1 hb1)
      | (go_at_call 52
         refine (pad_z (x := 0x36) rfl k1 A' n' c' w1 (HKC.out.below HB1.out) HKL.out).mono ?_
         rintro e0 w2 ⟨rfl, hu2, hb2⟩
         have HU2 : Hid (UB w2 w1.heap.size 5 P1) := by show UB _ _ _ _; rw [HP1.out]; exact hu2
         have HB2 := Lib.hid (bcall HB1.out hb2)
         have HS2 := Lib.hid (HS1.out.below hb2)
         have HSRC : Hid (Src w2 gs wc.heap.size (.slice none 0 0) (some ⟨w1.heap.size, 0, none⟩) 64 P1) := by
           refine ⟨by rw [HP1L.out]; exact Nat.le_refl _, fun _ => ⟨w1.heap.size, 0, rfl, HU2.out.lt, ?_, ?_, by simp [Value.ownBlock], fun i hi => ?_⟩⟩
           · have := HS1.out.1.lt; omega
           · have := HS1.out.2.2.lt; omega
           · rw [Nat.zero_add]; exact HU2.out.cell i hi
         have hadd := add_c [] P1 (.slice none 0 0) (some ⟨w1.heap.size, 0, none⟩) wc.heap.size gs wc.heap.size 64 w2 HB2.out.size HS2.out HSRC.out
         rw [HP1L.out] at hadd
         have HADD := Lib.hid hadd
         clear hu2 hb2 hadd)
      | (go_at_call 26
         refine HADD.out.mono ?_
         rintro e0 w3 ⟨rfl, ⟨v3, hs3, hv3⟩, hsv3⟩
         have HS3 := Lib.hid hs3
         have HB3 : Hid (Below wc.heap.size wc w3) := HB2.out.trans (hsv3.toBelow (Own3.low HS2.out (Nat.le_refl _) HGS.out (Nat.le_refl _)) HB2.out.size)
         clear hs3 hv3 hsv3))
    clear HB1 HS1 HU2 HB2 HS2 HSRC HADD
    go_upto_region 7 with fail
    go_loopg [24] q (fun gg v24 wx => ∃ (i : Nat) (v : Value), i ≤ q ∧ gg = q - i ∧ v24 = .int .i64 (i : Int) ∧ StrV wx wc.heap.size gs wc.heap.size v ([] ++ P1 ++ (ps.take i).flatten) ∧ Below wc.heap.size wc wx)
    case atStart => exact ⟨0, _, Nat.zero_le _, rfl, rfl, by rw [List.take_zero, List.flatten_nil, List.append_nil]; exact HS3.out, HB3.out⟩
    case round =>
      obtain ⟨i, v, hi, rfl, rfl, hs, hb⟩ := hrel
      clear HS3 HB3
      by_cases hi2 : i < q
      · have hii : (i : Int) < (q : Int) := by omega
        obtain ⟨g, o, Ai, ci, hD, hg, hcell, hsl⟩ := HP.out.at_ (show i < ps.length by rw [← HQ.out]; exact hi2)
        subst hD
        obtain ⟨b, hbb⟩ : ∃ b, b = ps.getD i [] := ⟨_, rfl⟩
        rw [← hbb] at hcell hsl
        have hbw : Below w.heap.size w wr := HBW.out.trans (hb.mono HWC.out)
        have hcell' : wr.cell? ⟨g, o + i, none⟩ = some (.slice Ai b.length ci) := (hbw.cell (p := ⟨g, o + i, none⟩) hg).trans hcell
        have hslc : SlV wc (.slice Ai b.length ci) b := hsl.below HBW.out
        have HADD := Lib.hid (add_s hs hslc hb (Nat.le_refl _) HGS.out (Nat.le_refl _) hb.size)
        have HBB := Lib.hid hbb
        clear hbb hb hs hg hcell hsl hbw hslc
        go_upto_region 10 with (first
          | (go_at_call 26; refine HADD.out.mono ?_; rintro e0 w4 ⟨rfl, ⟨v4, hs4, hv4⟩, hsv4, hb4⟩))
        have HS4 := Lib.hid hs4
        have HB4 := Lib.hid hb4
        clear hs4 hb4 hsv4 hv4 hcell' HADD
        go_wp2_with fail
        go_roundg (q - (i + 1))
        case measure => omega
        case rel =>
          refine ⟨i + 1, v4, by omega, rfl, by go_num, ?_, HB4.out⟩
          rw [take_flat ps i (by rw [← HQ.out]; exact hi2), ← HBB.out, ← List.append_assoc]
          exact HS4.out
      · have hin : i = q := by omega
        subst hin
        have hfl : (ps.take i).flatten = ps.flatten := by rw [HQ.out, List.take_length]
        rw [hfl] at hs
        obtain ⟨O1, hO1⟩ : ∃ O, O = shaS ([] ++ P1 ++ ps.flatten) := ⟨_, rfl⟩
        obtain ⟨O2, hO2⟩ : ∃ O, O = shaS ([P2, O1] : List (List UInt8)).flatten := ⟨_, rfl⟩
        have hO1l : O1.length = 32 := by rw [hO1]; exact shaS_len _
        have hO2l : O2.length = 32 := by rw [hO2]; exact shaS_len _
        have HO1L := Lib.hid hO1l
        have HO2L := Lib.hid hO2l
        have HO2 := Lib.hid hO2
        have HO2E : Hid (hmacS key ps.flatten = O2) := by
          show _ = _
          rw [hO2, hO1, hmacS, ← HK1.out, ← HP1.out, ← HP2.out]
          simp
        have HSUM := Lib.hid (sum_s hO1 hs hb (Nat.le_refl _))
        have HJ1 := Lib.hid (infoO hO1l)
        have HJ2 := Lib.hid (infoO hO2l)
        have HI2 := Lib.hid (infoL hO2l)
        clear hs hb hO1 hO2 hO1l hO2l hfl HP1 HP1L HK1 HP HQ
        go_upto_region 12 with (first
          | (go_at_call 27
             refine HSUM.out.mono ?_
             rintro e0 w4 ⟨rfl, hs4, hsv4, hb4⟩
             have HB4 := Lib.hid hb4
             have HU4 : Hid (UB (w4.alloc (.cells (z32.map u8v).toArray 24)) w4.heap.size 24 z32) := Blk.new _ _ _
             have HTH : Hid ((w4.alloc (.cells (z32.map u8v).toArray 24)).there w4.heap.size 0 (O1.map u8v).toArray.size) := there32 HU4.out rfl HO1L.out
             clear hs4 hsv4 hb4)
          | ((with_reducible show wpList _ _ _ (⟨none, .store 24 (.tmp 9) (.tmp 33), _, _, _, _⟩ :: _) _ _); refine wpList_store_mid rfl 24 (.tmp 9) (.tmp 33) rfl w4.heap.size 0 (O1.map u8v).toArray rfl rfl HTH.out HJ1.out (bytes_one _) ?_))
        obtain ⟨w5, hw5⟩ : ∃ w5, w5 = (w4.alloc (.cells (z32.map u8v).toArray 24)).setCells w4.heap.size 0 (O1.map u8v) := ⟨_, rfl⟩
        change Code.wp _ _ _ _ ((w4.alloc (.cells (z32.map u8v).toArray 24)).setCells w4.heap.size 0 (O1.map u8v))
        have HO5' : Hid (UB w5 w4.heap.size 24 O1) := by show UB _ _ _ _; rw [hw5]; exact blk_setAll HU4.out (by rw [List.length_map, HO1L.out]; rfl)
        have HB5 : Hid (Below wc.heap.size wc w5) := by show Below _ _ _; rw [hw5]; exact below_setCells (balloc HB4.out _) HB4.out.size _ _
        rw [← hw5]
        clear hw5 HU4 HTH HSUM HB4 HJ1
        go_wp2_with fail
        refine wp_region_held_drew (S := (fun _ => True)) (by kernel_rfl) (trivial) (fun hHeld => ?_)
        refine wpAnyH_takeAt (i := 0) (v := (.slice A' n' c')) rfl (by kernel_rfl) (by kernel_rfl) (by kernel_rfl) (fun _ _ _ h => h) rfl (Or.inl ⟨by rfl, fun w' hS => ?_⟩) hHeld ?_
        · go_simp
        simp only [List.set_cons_zero, List.set_cons_succ]
        refine wpAnyH_takeAt (i := 2) (v := (.slice (some ⟨w4.heap.size, 0, none⟩) 32 32)) rfl (by kernel_rfl) (by kernel_rfl) (by kernel_rfl) (fun _ _ _ h => h) rfl (Or.inl ⟨by rfl, fun w' hS => ?_⟩) hHeld ?_
        · go_simp
        simp only [List.set_cons_zero, List.set_cons_succ]
        refine wpAnyH_ready (rs := [1]) (by kernel_rfl) (by simp) (AllReadyH.cons rfl (fun K' hK => ?_) AllReadyH.nil)
        go_simp
        go_at_call 52
        refine (pad_z (x := 0x5c) rfl k1 A' n' c' (World.drew w5) (HKC.out.below (bdrew HB5.out)) HKL.out).mono ?_
        rintro e0 w6 ⟨rfl, hu6, hb6⟩
        go_wp2_with fail
        have HP6 : Hid (UB w6 w5.heap.size 5 P2) := by show UB _ _ _ _; rw [HP2.out]; exact hu6
        have HB6 : Hid (Below wc.heap.size wc w6) := bcall (bdrew HB5.out) hb6
        have HO6 : Hid (UB w6 w4.heap.size 24 O1) := Blk.below (w := World.drew w5) HO5'.out hb6
        clear hu6 hb6
        refine hK.out _ _ trivial (fun hHeld' => ?_)
        clear hK hHeld
        have hHeld := hHeld'
        clear hHeld'
        refine wpAnyH_ready (rs := [3]) (by kernel_rfl) (by simp) (AllReadyH.cons rfl (fun K' hK => ?_) AllReadyH.nil)
        go_simp
        have HP7 : Hid (UB (World.alloc w6 (.cells #[.slice (some ⟨w5.heap.size, 0, none⟩) 64 64, .slice (some ⟨w4.heap.size, 0, none⟩) 32 32] 27)) w5.heap.size 5 P2) := Blk.alloc HP6.out _
        have HO7 : Hid (UB (World.alloc w6 (.cells #[.slice (some ⟨w5.heap.size, 0, none⟩) 64 64, .slice (some ⟨w4.heap.size, 0, none⟩) 32 32] 27)) w4.heap.size 24 O1) := Blk.alloc HO6.out _
        have HK7 : Hid (Blk (World.alloc w6 (.cells #[.slice (some ⟨w5.heap.size, 0, none⟩) 64 64, .slice (some ⟨w4.heap.size, 0, none⟩) 32 32] 27)) w6.heap.size 27 #[.slice (some ⟨w5.heap.size, 0, none⟩) 64 64, .slice (some ⟨w4.heap.size, 0, none⟩) 32 32]) := Blk.new _ _ _
        have HB7 : Hid (Below wc.heap.size wc (World.alloc w6 (.cells #[.slice (some ⟨w5.heap.size, 0, none⟩) 64 64, .slice (some ⟨w4.heap.size, 0, none⟩) 32 32] 27))) := balloc HB6.out _
        refine hK.out _ _ trivial (fun hHeld' => ?_)
        clear hK hHeld
        have hHeld := hHeld'
        clear hHeld'
        refine wpAnyH_ready (rs := [4]) (by kernel_rfl) (by simp) (AllReadyH.cons rfl (fun K' hK => ?_) AllReadyH.nil)
        go_simp
        go_at_call 22
        refine (of_blk HO2.out (Parts.two HK7.out (SlV.blk HP7.out HP2L.out.symm) (SlV.arr HO7.out HO1L.out)) rfl (by simp)).mono ?_
        rintro e0 w8 ⟨rfl, hb8⟩
        go_wp2_with fail
        have HB8 : Hid (Below wc.heap.size wc w8) := bcall HB7.out hb8
        have HU8 : Hid (UB w8 w.heap.size 24 z32) := (HB8.out.block _ HUL.out).trans HUC.out
        have HTH8 : Hid (w8.there w.heap.size 0 (O2.map u8v).toArray.size) := there32 HU8.out rfl HO2L.out
        clear hb8
        refine hK.out _ _ trivial (fun hHeld' => ?_)
        clear hK hHeld
        have hHeld := hHeld'
        clear hHeld'
        refine wpAnyH_ready (rs := [5]) (by kernel_rfl) (by simp) (AllReadyH.cons rfl (fun K' hK => ?_) AllReadyH.nil)
        rw [if_pos (by rfl)]
        refine wp_store_mid 24 (.tmp 4) (.tmp 38) (by rfl) w.heap.size 0 (O2.map u8v).toArray (by rfl) (by rfl) HTH8.out HJ2.out (bytes_one _) ?_
        refine hK.out _ _ trivial (fun hHeld' => ?_)
        clear hK hHeld
        have hHeld := hHeld'
        clear hHeld'
        refine wpAnyH_putNone rfl ?_
        refine wpAnyH_done (by kernel_rfl) ?_ _
        go_wp2_with fail
        have hst : UB (w8.setCells w.heap.size 0 (O2.map u8v)) w.heap.size 24 O2 := blk_setAll HU8.out (by rw [List.length_map, HO2L.out]; rfl)
        have hload := run_loadVar_mid (P := Try.prog) (w8.setCells w.heap.size 0 (O2.map u8v)) w.heap.size 0 24 (O2.map u8v) _ hst.range Try.underlying24 rfl HI2.out
        refine bodyPost_ret (results_one rfl _ _ w.heap.size _ rfl hload) rfl (And.intro (by rw [HO2E.out]) ?_)
        exact below_setCells (HBW.out.trans (HB8.out.mono HWC.out)) (Nat.le_refl _) _ _
end Go.Proofs.Ytlapgccfgkokcaa
