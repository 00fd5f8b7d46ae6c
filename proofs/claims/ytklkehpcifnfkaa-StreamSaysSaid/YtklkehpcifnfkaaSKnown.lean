/- The walk of StreamKnown (it returns true). -/
import Derived.Test.YtklkehpcifnfkaaTwiceL
import Derived.Test.YtklkehpcifnfkaaNextL
import Derived.Lib.SlBytesConst
set_option linter.unusedVariables false
set_option linter.unusedSimpArgs false
namespace Go.Proofs.Ytklkehpcifnfkaa
open Go.RowKit
attribute [local go_sem ↓] Go.wp_at_zero Go.wp_at_succ

theorem wpAnyH_takeAt {P : Program} {md : Region.Mode} {ops : Array Oper} {Q : Exit → Act → World → Prop} {S : World → Prop} {i d : Nat} {oi : Oper} {v : Value} {fuel : Nat} {listed : Array Bool} {tm : List Value} {df : List Deferred} {w : World} (hi : ops[i]? = some oi)
    (hs : Region.noSelect ops = true) (hf : Region.free md ops listed i = true) (hr : (Region.ready md ops listed).contains i = true)
    (hQ : ∀ c a w, Q (.panic c) (a.put oi.dst v) w → Q (.panic c) a w) (hd : oi.dst = some d) (hy : YieldsIf P ops S oi v ⟨tm.toArray, df⟩) (hS : S w)
    (h : wpAnyH P md ops Q S fuel (listed.setIfInBounds i true) ⟨(tm.set d v).toArray, df⟩ w) : wpAnyH P md ops Q S (fuel + 1) listed ⟨tm.toArray, df⟩ w := by
  refine wpAnyH_take hi hs hf hr hQ hy hS ?_
  rw [hd]
  simpa [Act.put] using h
def top255 : List UInt8 := List.replicate 16 255
theorem top_len : top255.length = 16 := rfl
theorem top_next : nextS top255 1 = zero16 := by decide +kernel
theorem top_none : nextS top255 0 = top255 := bytes16_numS top255 rfl
theorem top_full : (List.range 16).map (fun _ => (255 : UInt8)) = top255 := by decide
theorem top_start : (List.range 16).map (fun _ => (0 : UInt8)) = zero16 := by decide
theorem crypt_badn (f : List UInt8) (P : Value) (a : Int) (A : Option Addr) (n c : Nat) (w : World) (ha : a < 0 ∨ 1099511627776 < a) :
    Calls Try.prog 23 #[P, .agg (f.map u8v).toArray, .int .i64 a, .slice A n c] w fun e w' => e = .returned (.tuple #[.slice none 0 0, .int .i64 1]) ∧ Below w.heap.size w w' := by
  have := crypt_bad f (List.replicate n 0) P a A c w ha
  rwa [List.length_replicate] at this
theorem known_lit (w : World) (cs : Array Value) (fr : Nat × Nat) (bs : List UInt8) (n : Nat) (hcs : cs.toList = bs.map u8v) (hn : bs.length = n) : Reads (w.alloc (.cells cs 5 fr)) (w.alloc (.cells cs 5 fr)).heap.size 1 (some ⟨w.heap.size, 0, none⟩) n (bs.map u8v) := by
  subst hn
  refine ⟨by simp, fun hn => ⟨_, rfl, by simp, fun j u hu => ?_⟩⟩
  rw [Go.WideShapes.add_plain, Nat.zero_add, World.cell?_alloc_mark, ← Array.getElem?_toList, hcs]
  exact hu
set_option maxRecDepth 100000 in
set_option maxHeartbeats 25600000 in
theorem sknown_walk (w : World) : Calls Try.prog 8 #[] w fun e w' => e = .returned (.bool true) ∧ Below w.heap.size w w' := by
  have hmk : ∀ wx : World, (Instr.makeSlice 22 (.int .i64 32) (.int .i64 32)).run Try.prog wx = .ok (.slice (some ⟨wx.heap.size, 0, none⟩) 32 32) (wx.alloc (.cells ((zerosB 32).map u8v).toArray 5)) := fun wx => run_make_bytes 32 (by decide) wx
  have kc := fun (w : World) (C : Array Value) (n c : Nat) => Lib.run_convert_bytes_const (P := Try.prog) w 22 5 C n c Try.underlying22 Try.underlying5
  go_enter Try.func8, Try.ntmps8
  go_wp2_with fail
  refine (awake5_c _).mono ?_
  rintro e0 w1 ⟨rfl, hb1⟩
  have HB1 := Lib.hid hb1
  clear hb1
  go_upto_region 5 with (fail)
  rw [← z16]
  obtain ⟨gt, hgt⟩ : ∃ gt, gt = w1.heap.size := ⟨_, rfl⟩
  have HT2 : Hid (BB (w1.alloc (.cells (zero16.map u8v).toArray 23)) gt 23 zero16) := by show BB _ _ _ _; rw [hgt]; exact BB.new w1 23 zero16
  have hgl : w.heap.size ≤ gt := by rw [hgt]; exact HB1.out.size
  rw [← hgt]
  have HB2 := Lib.hid (balloc HB1.out (.cells (zero16.map u8v).toArray 23))
  generalize (w1.alloc (.cells (zero16.map u8v).toArray 23)) = w2 at *
  clear hgt
  go_loopg [2] 16 (fun gg v2 wr => ∃ k : Nat, k ≤ 16 ∧ gg = 16 - k ∧ v2 = .int .i64 (k : Int) ∧ BB wr gt 23 (upTo 16 k (fun _ => 255) (fun _ => 0)) ∧ Below w.heap.size w wr)
  case atStart => exact ⟨0, by omega, rfl, rfl, by rw [upTo_zero, top_start]; exact HT2.out, HB2.out⟩
  case round =>
    obtain ⟨k, hk, rfl, rfl, hbt, hbel⟩ := hrel
    by_cases hk2 : k < 16
    · have hki : (k : Int) < 16 := by omega
      have fx := hbt.free k
      have cx := hbt.cell k (by rw [upTo_len]; exact hk2)
      have HBT := Lib.hid hbt
      have HBEL := Lib.hid hbel
      clear hbt hbel
      go_wp2_with fail
      go_roundg (16 - (k + 1))
      case measure => omega
      case rel =>
        refine ⟨k + 1, by omega, rfl, by go_num, ?_, bset (p := ⟨gt, k, none⟩) HBEL.out hgl _⟩
        rw [← upTo_set (fun _ => 255) (fun _ => 0) hk2]
        exact BB.set HBT.out k 255
    · have hk3 : k = 16 := by omega
      subst hk3
      rw [upTo_full, top_full] at hbt
      have HT3 := Lib.hid hbt
      have HB3 := Lib.hid hbel
      clear hbt hbel HT2 HB2 HB1
      obtain ⟨w3, hw3⟩ : ∃ w3, w3 = wr := ⟨_, rfl⟩
      rw [← hw3] at HT3 HB3 ⊢
      clear hw3
      go_wp2_with fail
      have hkey := key_c (zerosB 32) (some ⟨w3.heap.size, 0, none⟩) 32 _ (.inr rfl) (reads_zeros w3 32) (by decide)
      rw [zerosB_len] at hkey
      refine hkey.mono ?_
      rintro e0 w4 ⟨rfl, hk, hb4⟩
      obtain ⟨g, hg⟩ : ∃ g, g = (w3.alloc (.cells ((zerosB 32).map u8v).toArray 5)).heap.size := ⟨_, rfl⟩
      obtain ⟨W, hW⟩ : ∃ W, W = keyS (zerosB 32) := ⟨_, rfl⟩
      have kB := balloc (Below.refl w3.heap.size w3) (.cells ((zerosB 32).map u8v).toArray 5)
      have HK4 := Lib.hid hk
      have HB4 := Lib.hid (bcall HB3.out (bcall kB hb4))
      have HT4 := Lib.hid (HT3.out.below (bcall kB hb4))
      rw [← hg, ← hW] at HK4
      rw [← hg]
      clear hkey hk hb4 hmk hg hW kB
      have HRG4 := Lib.hid (HT4.out.range)
      have HI : Hid ((Try.prog.info? 23).map (·.size) = some (top255.map u8v).length) := by show _ = _; rw [List.length_map, top_len]; exact info23
      go_upto_region 10 with (first
        | (refine wpList_load_mid rfl 23 (.tmp 1) rfl gt 0 rfl (top255.map u8v) _ HRG4.out Try.underlying23 rfl HI.out ?_)
        | (go_at_call 23
           refine (crypt_badn top255 _ (-1) _ 1 1 _ (by omega)).mono ?_
           rintro e0 w5 ⟨rfl, hb5⟩
           have kB := balloc (Below.refl w4.heap.size w4) (.cells #[.int .u8 97] 5 (1, 2))
           have HB5 := Lib.hid (bcall HB4.out (bcall kB hb5))
           have HT5 := Lib.hid (HT4.out.below (bcall kB hb5))
           have HK5 := Lib.hid (HK4.out.below (bcall kB hb5))
           have HRG5 := Lib.hid (HT5.out.range)
           clear hb5 kB))
      go_upto_region 11 with (first
        | (refine wpList_load_mid rfl 23 (.tmp 1) rfl gt 0 rfl (top255.map u8v) _ HRG5.out Try.underlying23 rfl HI.out ?_)
        | (go_at_call 23
           refine (crypt_badn top255 _ 1099511627777 _ 0 0 _ (by omega)).mono ?_
           rintro e0 w6 ⟨rfl, hb6⟩
           have HB6 := Lib.hid (bcall HB5.out hb6)
           have HT6 := Lib.hid (HT5.out.below hb6)
           have HK6 := Lib.hid (HK5.out.below hb6)
           have HRG6 := Lib.hid (HT6.out.range)
           clear hb6))
      have hcc := fun wx hk hr => crypt_n W top255 [97] g 1099511627776 1 (some ⟨w6.heap.size, 0, none⟩) 1 wx hk top_len (by decide) hr rfl (by decide)
      have HCC := Lib.hid hcc
      clear hcc
      go_upto_region 12 with (first
        | (refine wpList_load_mid rfl 23 (.tmp 1) rfl gt 0 rfl (top255.map u8v) _ HRG6.out Try.underlying23 rfl HI.out ?_)
        | (go_at_call 23
           have kB := balloc (Below.refl w6.heap.size w6) (.cells #[.int .u8 97] 5 (1, 2))
           refine (HCC.out _ (HK6.out.below kB) (known_lit w6 #[.int .u8 97] (1, 2) [97] 1 rfl rfl)).mono ?_
           rintro e0 w7 ⟨rfl, ho7, hb7⟩
           have HB7 := Lib.hid (bcall HB6.out (bcall kB hb7))
           have HT7 := Lib.hid (HT6.out.below (bcall kB hb7))
           have HK7 := Lib.hid (HK6.out.below (bcall kB hb7))
           have HRG7 := Lib.hid (HT7.out.range)
           obtain ⟨gc, hgc⟩ : ∃ gc, gc = (w6.alloc (.cells #[.int .u8 97] 5 (1, 2))).heap.size + 1 := ⟨_, rfl⟩
           rw [← hgc]
           clear ho7 hb7 kB hgc))
      have hcd := fun wx hk => crypt_n W top255 [] g 0 0 none 0 wx hk top_len (by decide) Reads.none_ rfl (by decide)
      have HCD := Lib.hid hcd
      clear hcd
      go_upto_region 13 with (first
        | (refine wpList_load_mid rfl 23 (.tmp 1) rfl gt 0 rfl (top255.map u8v) _ HRG7.out Try.underlying23 rfl HI.out ?_)
        | (go_at_call 23
           refine (HCD.out w7 HK7.out).mono ?_
           rintro e0 w8 ⟨rfl, ho8, hb8⟩
           have HB8 := Lib.hid (bcall HB7.out hb8)
           have HT8 := Lib.hid (HT7.out.below hb8)
           obtain ⟨gd, hgd⟩ : ∃ gd, gd = w7.heap.size + 1 := ⟨_, rfl⟩
           rw [← hgd]
           clear ho8 hb8 hgd))
      have N1 : Hid (∀ wx, Calls Try.prog 24 #[.agg (top255.map u8v).toArray, .int .u64 1] wx fun e w' => e = .returned (.agg (zero16.map u8v).toArray) ∧ Below wx.heap.size wx w') := fun wx => by rw [← top_next]; exact next_c top255 1 wx top_len (by decide)
      have N0 : Hid (∀ wx, Calls Try.prog 24 #[.agg (top255.map u8v).toArray, .int .u64 0] wx fun e w' => e = .returned (.agg (top255.map u8v).toArray) ∧ Below wx.heap.size wx w') := fun wx => by
        have := next_c top255 0 wx top_len (by decide)
        rw [top_none] at this
        exact this
      have e1 := eq23 zero16 zero16 rfl rfl
      have e2 := eq23 top255 top255 rfl rfl
      rw [beq_self_eq_true] at e1 e2
      rw [z16] at e1 N1
      have K : Hid (∀ w', Below w8.heap.size w8 w' → w'.rangeAt gt 0 (top255.map u8v) ∧ Below w8.heap.size w8 w') := fun w' hb => ⟨(HT8.out.below hb).range, hb⟩
      have hu := Try.underlying23
      have hit := HI.out
      clear kc HB3 HT3 HK4 HB4 HT4 HRG4 HB5 HT5 HK5 HRG5 HB6 HT6 HK6 HRG6 HCC HB7 HT7 HK7 HRG7 HCD
      refine wp_region_held_drew (S := (fun w' => w'.rangeAt gt 0 (top255.map u8v) ∧ Below w8.heap.size w8 w')) (by kernel_rfl) (K.out _ (bdrew (Below.refl _ _))) (fun hHeld => ?_)
      refine wpAnyH_takeAt (i := 0) (v := (.agg (top255.map u8v).toArray)) rfl (by kernel_rfl) (by kernel_rfl) (by kernel_rfl) (fun _ _ _ h => h) rfl (yieldsIf_load_mid (by rfl) 23 _ rfl gt 0 rfl (top255.map u8v) _ (fun w' hS => hS.1) hu rfl hit) hHeld ?_
      simp only [List.set_cons_zero, List.set_cons_succ]
      refine wpAnyH_takeAt (i := 2) (v := (.agg #[.int .u8 0, .int .u8 0, .int .u8 0, .int .u8 0, .int .u8 0, .int .u8 0, .int .u8 0, .int .u8 0, .int .u8 0, .int .u8 0, .int .u8 0, .int .u8 0, .int .u8 0, .int .u8 0, .int .u8 0, .int .u8 0])) rfl (by kernel_rfl) (by kernel_rfl) (by kernel_rfl) (fun _ _ _ h => h) rfl (Or.inl ⟨by rfl, fun w' hS => ?_⟩) hHeld ?_
      · go_simp
      simp only [List.set_cons_zero, List.set_cons_succ]
      refine wpAnyH_ready (rs := [1]) (by kernel_rfl) (by simp) (AllReadyH.cons rfl (fun K' hK => ?_) AllReadyH.nil)
      go_simp
      go_at_call 24
      refine (N1.out _).mono ?_
      rintro e0 w' ⟨rfl, hb⟩
      go_wp2_with fail
      refine hK.out _ _ (K.out _ (bcall hHeld.2 hb)) (fun hHeld' => ?_)
      clear hK hHeld hb
      have hHeld := hHeld'
      clear hHeld'
      refine wpAnyH_takeAt (i := 3) (v := (.bool true)) rfl (by kernel_rfl) (by kernel_rfl) (by kernel_rfl) (fun _ _ _ h => h) rfl (Or.inl ⟨by rfl, fun w' hS => ?_⟩) hHeld ?_
      · go_simp
      simp only [List.set_cons_zero, List.set_cons_succ]
      refine wpAnyH_takeAt (i := 4) (v := (.bool true)) rfl (by kernel_rfl) (by kernel_rfl) (by kernel_rfl) (fun _ _ _ h => h) rfl (Or.inl ⟨by rfl, fun w' hS => ?_⟩) hHeld ?_
      · go_simp
      simp only [List.set_cons_zero, List.set_cons_succ]
      refine wpAnyH_takeAt (i := 5) (v := (.agg (top255.map u8v).toArray)) rfl (by kernel_rfl) (by kernel_rfl) (by kernel_rfl) (fun _ _ _ h => h) rfl (yieldsIf_load_mid (by rfl) 23 _ rfl gt 0 rfl (top255.map u8v) _ (fun w' hS => hS.1) hu rfl hit) hHeld ?_
      simp only [List.set_cons_zero, List.set_cons_succ]
      refine wpAnyH_takeAt (i := 7) (v := (.agg (top255.map u8v).toArray)) rfl (by kernel_rfl) (by kernel_rfl) (by kernel_rfl) (fun _ _ _ h => h) rfl (yieldsIf_load_mid (by rfl) 23 _ rfl gt 0 rfl (top255.map u8v) _ (fun w' hS => hS.1) hu rfl hit) hHeld ?_
      simp only [List.set_cons_zero, List.set_cons_succ]
      refine wpAnyH_ready (rs := [6]) (by kernel_rfl) (by simp) (AllReadyH.cons rfl (fun K' hK => ?_) AllReadyH.nil)
      go_simp
      go_at_call 24
      refine (N0.out _).mono ?_
      rintro e0 w' ⟨rfl, hb⟩
      go_wp2_with fail
      refine hK.out _ _ (K.out _ (bcall hHeld.2 hb)) (fun hHeld' => ?_)
      clear hK hHeld hb
      have hHeld := hHeld'
      clear hHeld'
      refine wpAnyH_takeAt (i := 8) (v := (.bool true)) rfl (by kernel_rfl) (by kernel_rfl) (by kernel_rfl) (fun _ _ _ h => h) rfl (Or.inl ⟨by rfl, fun w' hS => ?_⟩) hHeld ?_
      · go_simp
      simp only [List.set_cons_zero, List.set_cons_succ]
      refine wpAnyH_takeAt (i := 9) (v := (.bool true)) rfl (by kernel_rfl) (by kernel_rfl) (by kernel_rfl) (fun _ _ _ h => h) rfl (Or.inl ⟨by rfl, fun w' hS => ?_⟩) hHeld ?_
      · go_simp
      simp only [List.set_cons_zero, List.set_cons_succ]
      refine wpAnyH_takeAt (i := 10) (v := (.bool true)) rfl (by kernel_rfl) (by kernel_rfl) (by kernel_rfl) (fun _ _ _ h => h) rfl (Or.inl ⟨by rfl, fun w' hS => ?_⟩) hHeld ?_
      · go_simp
      simp only [List.set_cons_zero, List.set_cons_succ]
      refine wpAnyH_takeAt (i := 11) (v := (.slice none 0 0)) rfl (by kernel_rfl) (by kernel_rfl) (by kernel_rfl) (fun _ _ _ h => h) rfl (Or.inl ⟨by rfl, fun w' hS => ?_⟩) hHeld ?_
      · go_simp
      simp only [List.set_cons_zero, List.set_cons_succ]
      refine wpAnyH_takeAt (i := 12) (v := (.int .i64 0)) rfl (by kernel_rfl) (by kernel_rfl) (by kernel_rfl) (fun _ _ _ h => h) rfl (Or.inl ⟨by rfl, fun w' hS => ?_⟩) hHeld ?_
      · go_simp
      simp only [List.set_cons_zero, List.set_cons_succ]
      refine wpAnyH_takeAt (i := 13) (v := (.bool true)) rfl (by kernel_rfl) (by kernel_rfl) (by kernel_rfl) (fun _ _ _ h => h) rfl (Or.inl ⟨by rfl, fun w' hS => ?_⟩) hHeld ?_
      · go_simp
      simp only [List.set_cons_zero, List.set_cons_succ]
      refine wpAnyH_takeAt (i := 14) (v := (.bool true)) rfl (by kernel_rfl) (by kernel_rfl) (by kernel_rfl) (fun _ _ _ h => h) rfl (Or.inl ⟨by rfl, fun w' hS => ?_⟩) hHeld ?_
      · go_simp
      simp only [List.set_cons_zero, List.set_cons_succ]
      refine wpAnyH_takeAt (i := 15) (v := (.bool true)) rfl (by kernel_rfl) (by kernel_rfl) (by kernel_rfl) (fun _ _ _ h => h) rfl (Or.inl ⟨by rfl, fun w' hS => ?_⟩) hHeld ?_
      · go_simp
      simp only [List.set_cons_zero, List.set_cons_succ]
      refine wpAnyH_takeAt (i := 16) (v := (.int .i64 1)) rfl (by kernel_rfl) (by kernel_rfl) (by kernel_rfl) (fun _ _ _ h => h) rfl (Or.inl ⟨by rfl, fun w' hS => ?_⟩) hHeld ?_
      · go_simp
      simp only [List.set_cons_zero, List.set_cons_succ]
      refine wpAnyH_takeAt (i := 17) (v := (.bool true)) rfl (by kernel_rfl) (by kernel_rfl) (by kernel_rfl) (fun _ _ _ h => h) rfl (Or.inl ⟨by rfl, fun w' hS => ?_⟩) hHeld ?_
      · go_simp
      simp only [List.set_cons_zero, List.set_cons_succ]
      refine wpAnyH_takeAt (i := 18) (v := (.bool true)) rfl (by kernel_rfl) (by kernel_rfl) (by kernel_rfl) (fun _ _ _ h => h) rfl (Or.inl ⟨by rfl, fun w' hS => ?_⟩) hHeld ?_
      · go_simp
      simp only [List.set_cons_zero, List.set_cons_succ]
      refine wpAnyH_takeAt (i := 19) (v := (.bool true)) rfl (by kernel_rfl) (by kernel_rfl) (by kernel_rfl) (fun _ _ _ h => h) rfl (Or.inl ⟨by rfl, fun w' hS => ?_⟩) hHeld ?_
      · go_simp
      simp only [List.set_cons_zero, List.set_cons_succ]
      refine wpAnyH_takeAt (i := 20) (v := (.slice none 0 0)) rfl (by kernel_rfl) (by kernel_rfl) (by kernel_rfl) (fun _ _ _ h => h) rfl (Or.inl ⟨by rfl, fun w' hS => ?_⟩) hHeld ?_
      · go_simp
      simp only [List.set_cons_zero, List.set_cons_succ]
      refine wpAnyH_takeAt (i := 21) (v := (.int .i64 0)) rfl (by kernel_rfl) (by kernel_rfl) (by kernel_rfl) (fun _ _ _ h => h) rfl (Or.inl ⟨by rfl, fun w' hS => ?_⟩) hHeld ?_
      · go_simp
      simp only [List.set_cons_zero, List.set_cons_succ]
      refine wpAnyH_takeAt (i := 22) (v := (.bool true)) rfl (by kernel_rfl) (by kernel_rfl) (by kernel_rfl) (fun _ _ _ h => h) rfl (Or.inl ⟨by rfl, fun w' hS => ?_⟩) hHeld ?_
      · go_simp
      simp only [List.set_cons_zero, List.set_cons_succ]
      refine wpAnyH_takeAt (i := 23) (v := (.bool true)) rfl (by kernel_rfl) (by kernel_rfl) (by kernel_rfl) (fun _ _ _ h => h) rfl (Or.inl ⟨by rfl, fun w' hS => ?_⟩) hHeld ?_
      · go_simp
      simp only [List.set_cons_zero, List.set_cons_succ]
      refine wpAnyH_takeAt (i := 24) (v := (.bool true)) rfl (by kernel_rfl) (by kernel_rfl) (by kernel_rfl) (fun _ _ _ h => h) rfl (Or.inl ⟨by rfl, fun w' hS => ?_⟩) hHeld ?_
      · go_simp
      simp only [List.set_cons_zero, List.set_cons_succ]
      refine wpAnyH_takeAt (i := 25) (v := (.int .i64 1)) rfl (by kernel_rfl) (by kernel_rfl) (by kernel_rfl) (fun _ _ _ h => h) rfl (Or.inl ⟨by rfl, fun w' hS => ?_⟩) hHeld ?_
      · go_simp
      simp only [List.set_cons_zero, List.set_cons_succ]
      refine wpAnyH_takeAt (i := 26) (v := (.bool true)) rfl (by kernel_rfl) (by kernel_rfl) (by kernel_rfl) (fun _ _ _ h => h) rfl (Or.inl ⟨by rfl, fun w' hS => ?_⟩) hHeld ?_
      · go_simp
      simp only [List.set_cons_zero, List.set_cons_succ]
      refine wpAnyH_takeAt (i := 27) (v := (.bool true)) rfl (by kernel_rfl) (by kernel_rfl) (by kernel_rfl) (fun _ _ _ h => h) rfl (Or.inl ⟨by rfl, fun w' hS => ?_⟩) hHeld ?_
      · go_simp
      simp only [List.set_cons_zero, List.set_cons_succ]
      refine wpAnyH_takeAt (i := 28) (v := (.bool true)) rfl (by kernel_rfl) (by kernel_rfl) (by kernel_rfl) (fun _ _ _ h => h) rfl (Or.inl ⟨by rfl, fun w' hS => ?_⟩) hHeld ?_
      · go_simp
      simp only [List.set_cons_zero, List.set_cons_succ]
      refine wpAnyH_takeAt (i := 29) (v := (.slice (some ⟨gc, 0, none⟩) 1 1)) rfl (by kernel_rfl) (by kernel_rfl) (by kernel_rfl) (fun _ _ _ h => h) rfl (Or.inl ⟨by rfl, fun w' hS => ?_⟩) hHeld ?_
      · go_simp
      simp only [List.set_cons_zero, List.set_cons_succ]
      refine wpAnyH_takeAt (i := 30) (v := (.int .i64 1)) rfl (by kernel_rfl) (by kernel_rfl) (by kernel_rfl) (fun _ _ _ h => h) rfl (Or.inl ⟨by rfl, fun w' hS => ?_⟩) hHeld ?_
      · go_simp
      simp only [List.set_cons_zero, List.set_cons_succ]
      refine wpAnyH_takeAt (i := 31) (v := (.bool true)) rfl (by kernel_rfl) (by kernel_rfl) (by kernel_rfl) (fun _ _ _ h => h) rfl (Or.inl ⟨by rfl, fun w' hS => ?_⟩) hHeld ?_
      · go_simp
      simp only [List.set_cons_zero, List.set_cons_succ]
      refine wpAnyH_takeAt (i := 32) (v := (.bool true)) rfl (by kernel_rfl) (by kernel_rfl) (by kernel_rfl) (fun _ _ _ h => h) rfl (Or.inl ⟨by rfl, fun w' hS => ?_⟩) hHeld ?_
      · go_simp
      simp only [List.set_cons_zero, List.set_cons_succ]
      refine wpAnyH_takeAt (i := 33) (v := (.bool true)) rfl (by kernel_rfl) (by kernel_rfl) (by kernel_rfl) (fun _ _ _ h => h) rfl (Or.inl ⟨by rfl, fun w' hS => ?_⟩) hHeld ?_
      · go_simp
      simp only [List.set_cons_zero, List.set_cons_succ]
      refine wpAnyH_takeAt (i := 34) (v := (.int .i64 0)) rfl (by kernel_rfl) (by kernel_rfl) (by kernel_rfl) (fun _ _ _ h => h) rfl (Or.inl ⟨by rfl, fun w' hS => ?_⟩) hHeld ?_
      · go_simp
      simp only [List.set_cons_zero, List.set_cons_succ]
      refine wpAnyH_takeAt (i := 35) (v := (.bool true)) rfl (by kernel_rfl) (by kernel_rfl) (by kernel_rfl) (fun _ _ _ h => h) rfl (Or.inl ⟨by rfl, fun w' hS => ?_⟩) hHeld ?_
      · go_simp
      simp only [List.set_cons_zero, List.set_cons_succ]
      refine wpAnyH_takeAt (i := 36) (v := (.bool true)) rfl (by kernel_rfl) (by kernel_rfl) (by kernel_rfl) (fun _ _ _ h => h) rfl (Or.inl ⟨by rfl, fun w' hS => ?_⟩) hHeld ?_
      · go_simp
      simp only [List.set_cons_zero, List.set_cons_succ]
      refine wpAnyH_takeAt (i := 37) (v := (.bool true)) rfl (by kernel_rfl) (by kernel_rfl) (by kernel_rfl) (fun _ _ _ h => h) rfl (Or.inl ⟨by rfl, fun w' hS => ?_⟩) hHeld ?_
      · go_simp
      simp only [List.set_cons_zero, List.set_cons_succ]
      refine wpAnyH_takeAt (i := 38) (v := (.slice (some ⟨gd, 0, none⟩) 0 0)) rfl (by kernel_rfl) (by kernel_rfl) (by kernel_rfl) (fun _ _ _ h => h) rfl (Or.inl ⟨by rfl, fun w' hS => ?_⟩) hHeld ?_
      · go_simp
      simp only [List.set_cons_zero, List.set_cons_succ]
      refine wpAnyH_takeAt (i := 39) (v := (.int .i64 0)) rfl (by kernel_rfl) (by kernel_rfl) (by kernel_rfl) (fun _ _ _ h => h) rfl (Or.inl ⟨by rfl, fun w' hS => ?_⟩) hHeld ?_
      · go_simp
      simp only [List.set_cons_zero, List.set_cons_succ]
      refine wpAnyH_takeAt (i := 40) (v := (.bool true)) rfl (by kernel_rfl) (by kernel_rfl) (by kernel_rfl) (fun _ _ _ h => h) rfl (Or.inl ⟨by rfl, fun w' hS => ?_⟩) hHeld ?_
      · go_simp
      simp only [List.set_cons_zero, List.set_cons_succ]
      refine wpAnyH_takeAt (i := 41) (v := (.bool true)) rfl (by kernel_rfl) (by kernel_rfl) (by kernel_rfl) (fun _ _ _ h => h) rfl (Or.inl ⟨by rfl, fun w' hS => ?_⟩) hHeld ?_
      · go_simp
      simp only [List.set_cons_zero, List.set_cons_succ]
      refine wpAnyH_takeAt (i := 42) (v := (.bool true)) rfl (by kernel_rfl) (by kernel_rfl) (by kernel_rfl) (fun _ _ _ h => h) rfl (Or.inl ⟨by rfl, fun w' hS => ?_⟩) hHeld ?_
      · go_simp
      simp only [List.set_cons_zero, List.set_cons_succ]
      refine wpAnyH_takeAt (i := 43) (v := (.int .i64 0)) rfl (by kernel_rfl) (by kernel_rfl) (by kernel_rfl) (fun _ _ _ h => h) rfl (Or.inl ⟨by rfl, fun w' hS => ?_⟩) hHeld ?_
      · go_simp
      simp only [List.set_cons_zero, List.set_cons_succ]
      refine wpAnyH_takeAt (i := 44) (v := (.bool true)) rfl (by kernel_rfl) (by kernel_rfl) (by kernel_rfl) (fun _ _ _ h => h) rfl (Or.inl ⟨by rfl, fun w' hS => ?_⟩) hHeld ?_
      · go_simp
      simp only [List.set_cons_zero, List.set_cons_succ]
      refine wpAnyH_ready (rs := [45]) (by kernel_rfl) (by simp) (AllReadyH.cons rfl (fun K' hK => ?_) AllReadyH.nil)
      go_simp
      refine hK.out _ _ hHeld (fun hHeld' => ?_)
      clear hK hHeld
      have hHeld := hHeld'
      clear hHeld'
      refine wpAnyH_ready (rs := [46]) (by kernel_rfl) (by simp) (AllReadyH.cons rfl (fun K' hK => ?_) AllReadyH.nil)
      go_simp
      refine hK.out _ _ hHeld (fun hHeld' => ?_)
      clear hK hHeld
      have hHeld := hHeld'
      clear hHeld'
      refine wpAnyH_done (by kernel_rfl) ?_ _
      go_wp2
      go_ret
      exact ⟨rfl, bcall HB8.out hHeld.2⟩
end Go.Proofs.Ytklkehpcifnfkaa
