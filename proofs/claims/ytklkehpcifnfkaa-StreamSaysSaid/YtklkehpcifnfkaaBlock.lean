/- What the key's Block returns (contract). Conditions: the key lies in memory. -/
import Derived.Test.YtklkehpcifnfkaaAddR
set_option linter.unusedVariables false
namespace Go.Proofs.Ytklkehpcifnfkaa
open Go.RowKit
attribute [local go_sem ↓] Go.wp_at_zero Go.wp_at_succ

theorem BB.setAllAux {g : Nat} {t : TypeId} : ∀ (l' pre l : List UInt8) (w : World), l.length = l'.length → BB w g t (pre ++ l) → BB (w.setCells g pre.length (l'.map u8v)) g t (pre ++ l')
  | [], pre, l, w, h, hb => by
    have : l = [] := List.eq_nil_of_length_eq_zero h
    subst this
    exact hb
  | y :: ys, pre, l, w, h, hb => by
    match l, h with
    | x :: xs, h =>
      have h1 := hb.set pre.length y
      have e : (pre ++ x :: xs).set pre.length y = (pre ++ [y]) ++ xs := by simp
      rw [e] at h1
      have := BB.setAllAux ys (pre ++ [y]) xs _ (by simpa using h) h1
      rw [List.length_append] at this
      simp only [List.append_assoc, List.singleton_append] at this
      exact this
theorem BB.setAll {w : World} {g : Nat} {t : TypeId} {l l' : List UInt8} (h : BB w g t l) (hl : l'.length = l.length) : BB (w.setCells g 0 (l'.map u8v)) g t l' :=
  BB.setAllAux l' [] l w hl.symm h
theorem Blk.farAll {g g' : Nat} {t : TypeId} {cs : Array Value} (hg : g ≠ g') : ∀ (vs : List Value) (o : Nat) (w : World), Blk w g t cs → Blk (w.setCells g' o vs) g t cs
  | [], _, _, h => h
  | v :: vs, o, w, h => Blk.farAll hg vs (o + 1) _ (Blk.far h (p := ⟨g', o, none⟩) hg v)

theorem add_i (x W : List UInt8) (B g n r : Nat) (rI : Int) (hrI : (r : Int) = rI) (w : World) (hx : x.length = 16) (hk : KeyIs w B g W n) (hr : 16 * r + 16 ≤ W.length) (hW : W.length ≤ 1000) :
    Calls Try.prog 31 #[.pointer (some ⟨g, 0, none⟩), .agg (x.map u8v).toArray, .int .i64 rI] w fun e w' => e = .returned (.agg ((addR x W r).map u8v).toArray) ∧ Below w.heap.size w w' := by
  subst hrI
  exact add_c x W B g n r w hx hk hr hW
set_option maxRecDepth 100000 in
set_option maxHeartbeats 1600000 in
theorem block_c (x W : List UInt8) (B g n last : Nat) (w : World) (hx : x.length = 16) (hk : KeyIs w B g W n) (hn : n = 4 * (last + 1)) (hl1 : 1 ≤ last) (hl2 : last ≤ 60) :
    Calls Try.prog 16 #[.pointer (some ⟨g, 0, none⟩), .agg (x.map u8v).toArray] w fun e w' => e = .returned (.agg ((blockS W x).map u8v).toArray) ∧ Below w.heap.size w w' := by
  have hWn : W.length = 4 * n := by obtain ⟨_, _, _, h, _⟩ := hk; exact h
  obtain ⟨gw, c, _, _, hsl, _⟩ := hk.cells (by omega)
  have hgl : g < w.heap.size := by obtain ⟨_, _, _, _, h, _⟩ := hk; exact h.lt
  have hlast : W.length / 16 - 1 = last := by omega
  have HLAST := Lib.hid hlast
  have HSL := Lib.hid hsl
  have HK := Lib.hid hk
  have HWL : Hid (W.length = 16 * (last + 1)) := by show _ = _; omega
  have hW1000 : W.length ≤ 1000 := by omega
  have HW := Lib.hid hW1000
  have hquo : (n : Int).tdiv 4 = ((last + 1 : Nat) : Int) := by rw [hn]; show (((4 * (last + 1)) / 4 : Nat) : Int) = _; congr 1; omega
  have hsub : ((last + 1 : Nat) : Int) - 1 = (last : Int) := by omega
  have hwl := wrap64 last (by omega)
  have hwl1 := wrap64 (last + 1) (by omega)
  have HN := Lib.hid hn
  have HX := Lib.hid hx
  clear hk hsl hWn hlast hW1000 hn hx
  have cs0 : w.cell? ⟨g, 259, none⟩ = some (.slice (some ⟨gw, 0, none⟩) n c) := HSL.out
  go_enter Try.func16, Try.ntmps16
  go_upto_region 2 with (fail)
  rw [← z16]
  have HB1 := Lib.hid (BB.alloc (BB.new w 23 x) (.cells (zero16.map u8v).toArray 23))
  have HZ1 : Hid (BB ((w.alloc (.cells (x.map u8v).toArray 23)).alloc (.cells (zero16.map u8v).toArray 23)) (w.heap.size + 1) 23 zero16) := by
    have := BB.new (w.alloc (.cells (x.map u8v).toArray 23)) 23 zero16
    rw [World.size_alloc] at this
    exact this
  have HBEL1 := Lib.hid (balloc (balloc (Below.refl w.heap.size w) (.cells (x.map u8v).toArray 23)) (.cells (zero16.map u8v).toArray 23))
  generalize ((w.alloc (.cells (x.map u8v).toArray 23)).alloc (.cells (zero16.map u8v).toArray 23)) = w1 at *
  clear cs0
  have HRG1 := Lib.hid (HB1.out.range)
  have HI1 : Hid ((Try.prog.info? 23).map (·.size) = some ((x).map u8v).length) := by show _ = _; rw [List.length_map, HX.out]; exact info23
  have HJ1 : Hid ((Try.prog.info? 23).map (·.size) = some ((addR x W 0).map u8v).toArray.size) := by show _ = _; rw [List.size_toArray, List.length_map, addR_len]; exact info23
  go_upto_region 3 with (first
    | (refine wpList_load_mid rfl 23 (.tmp 3) rfl w.heap.size 0 rfl ((x).map u8v) _ HRG1.out Try.underlying23 rfl HI1.out ?_)
    | (go_at_call 31; refine (add_i x W B g n 0 0 rfl w1 HX.out (HK.out.below HBEL1.out) (by have := HWL.out; omega) HW.out).mono ?_
       rintro e0 w2 ⟨rfl, hb1⟩
       have HC1 := Lib.hid (HB1.out.below hb1)
       have HD1 := Lib.hid (bcall HBEL1.out hb1)
       have HY1 := Lib.hid (HZ1.out.below hb1)
       have HTH1 : Hid (w2.there w.heap.size 0 ((addR x W 0).map u8v).toArray.size) := there16 HC1.out (by rw [HX.out, List.size_toArray, List.length_map, addR_len])
       clear hb1)
    | (refine wpList_store_mid rfl 23 (.tmp 3) (.tmp 16) rfl w.heap.size 0 ((addR x W 0).map u8v).toArray rfl rfl HTH1.out HJ1.out (bytes_one _) ?_))
  have HB1' : Hid (BB (w2.setCells w.heap.size 0 ((addR x W 0).map u8v)) w.heap.size 23 (addR x W 0)) := BB.setAll HC1.out (by rw [addR_len, HX.out])
  have HBEL1' := Lib.hid (below_setCells HD1.out (Nat.le_refl w.heap.size) ((addR x W 0).map u8v) 0)
  have HZ1' : Hid (BB (w2.setCells w.heap.size 0 ((addR x W 0).map u8v)) (w.heap.size + 1) 23 zero16) := Blk.farAll (by omega) _ _ _ HY1.out
  generalize (w2.setCells w.heap.size 0 ((addR x W 0).map u8v)) = w2' at *
  clear HRG1 HI1 HJ1 HTH1 HC1 HD1 HY1

  go_wp2_with fail
  go_loopg [6] last (fun gg v6 wr => ∃ r : Nat, 1 ≤ r ∧ r ≤ last + 1 ∧ gg = last + 1 - r ∧ v6 = .int .i64 (r : Int) ∧ BB wr w.heap.size 23 (stS W last x (r - 1)) ∧ BB wr (w.heap.size + 1) 23 zero16 ∧ Below w.heap.size w wr)
  case atStart => exact ⟨1, by omega, by omega, by omega, rfl, HB1'.out, HZ1'.out, HBEL1'.out⟩
  case round =>
    obtain ⟨r, hr1, hr2, rfl, rfl, hbx, hby, hbel⟩ := hrel
    by_cases hrl : r ≤ last
    · have hri : (r : Int) ≤ (last : Int) := by omega
      obtain ⟨r', hr'⟩ : ∃ r', r = r' + 1 := ⟨r - 1, by omega⟩
      obtain ⟨S, hS⟩ : ∃ S, S = stS W last x (r - 1) := ⟨_, rfl⟩
      rw [← hS] at hbx
      have hSl : S.length = 16 := by rw [hS]; exact stS_len _ _ _ _
      have HSL := Lib.hid hSl
      have HNX : Hid (rndS W last r S = stS W last x r) := by show _ = _; rw [hS, hr']; rfl
      have HB5 := Lib.hid hbx
      have HZ5 := Lib.hid hby
      have HBEL5 := Lib.hid hbel
      have hadr : 16 * r + 16 ≤ W.length := by have := HWL.out; omega
      have HADR := Lib.hid hadr
      clear hbx hby hbel hS hSl hr' hadr
      have HRG5 := Lib.hid (HB5.out.range)
      have HI5 : Hid ((Try.prog.info? 23).map (·.size) = some ((S).map u8v).length) := by show _ = _; rw [List.length_map, HSL.out]; exact info23
      have HJ5 : Hid ((Try.prog.info? 23).map (·.size) = some ((movS S).map u8v).toArray.size) := by show _ = _; rw [List.size_toArray, List.length_map, movS_len]; exact info23
      go_upto_region 7 with (first
        | (refine wpList_load_mid rfl 23 (.tmp 3) rfl w.heap.size 0 rfl ((S).map u8v) _ HRG5.out Try.underlying23 rfl HI5.out ?_)
        | (go_at_call 32; refine (moved_c S W B g n wr HSL.out (HK.out.below HBEL5.out)).mono ?_
           rintro e0 w6 ⟨rfl, hb5⟩
           have HC5 := Lib.hid (HB5.out.below hb5)
           have HD5 := Lib.hid (bcall HBEL5.out hb5)
           have HY5 := Lib.hid (HZ5.out.below hb5)
           have HTH5 : Hid (w6.there w.heap.size 0 ((movS S).map u8v).toArray.size) := there16 HC5.out (by rw [HSL.out, List.size_toArray, List.length_map, movS_len])
           clear hb5)
        | (refine wpList_store_mid rfl 23 (.tmp 3) (.tmp 24) rfl w.heap.size 0 ((movS S).map u8v).toArray rfl rfl HTH5.out HJ5.out (bytes_one _) ?_))
      have HB5' : Hid (BB (w6.setCells w.heap.size 0 ((movS S).map u8v)) w.heap.size 23 (movS S)) := BB.setAll HC5.out (by rw [movS_len, HSL.out])
      have HBEL5' := Lib.hid (below_setCells HD5.out (Nat.le_refl w.heap.size) ((movS S).map u8v) 0)
      have HZ5' : Hid (BB (w6.setCells w.heap.size 0 ((movS S).map u8v)) (w.heap.size + 1) 23 zero16) := Blk.farAll (by omega) _ _ _ HY5.out
      generalize (w6.setCells w.heap.size 0 ((movS S).map u8v)) = w6' at *
      clear HRG5 HI5 HJ5 HTH5 HC5 HD5 HY5

      have HB7 := HB5'
      have HZ7 := HZ5'
      have HBEL7 := HBEL5'
      by_cases hlt : r < last
      · have hlti : (r : Int) < (last : Int) := by omega
        have HRND : Hid (addR (mixS (movS S)) W r = rndS W last r S) := by show _ = _; rw [rndS, if_pos hlt]
        have HRG7 := Lib.hid (HB7.out.range)
        have HI7 : Hid ((Try.prog.info? 23).map (·.size) = some ((movS S).map u8v).length) := by show _ = _; rw [List.length_map, movS_len]; exact info23
        have HJ7 : Hid ((Try.prog.info? 23).map (·.size) = some ((mixS (movS S)).map u8v).toArray.size) := by show _ = _; rw [List.size_toArray, List.length_map, mixS_len]; exact info23
        go_upto_region 9 with (first
          | (refine wpList_load_mid rfl 23 (.tmp 3) rfl w.heap.size 0 rfl ((movS S).map u8v) _ HRG7.out Try.underlying23 rfl HI7.out ?_)
          | (go_at_call 33; refine (mixed_c (movS S) w6' (movS_len S)).mono ?_
             rintro e0 w8 ⟨rfl, hb7⟩
             have HC7 := Lib.hid (HB7.out.below hb7)
             have HD7 := Lib.hid (bcall HBEL7.out hb7)
             have HY7 := Lib.hid (HZ7.out.below hb7)
             have HTH7 : Hid (w8.there w.heap.size 0 ((mixS (movS S)).map u8v).toArray.size) := there16 HC7.out (by rw [movS_len, List.size_toArray, List.length_map, mixS_len])
             clear hb7)
          | (refine wpList_store_mid rfl 23 (.tmp 3) (.tmp 29) rfl w.heap.size 0 ((mixS (movS S)).map u8v).toArray rfl rfl HTH7.out HJ7.out (bytes_one _) ?_))
        have HB7' : Hid (BB (w8.setCells w.heap.size 0 ((mixS (movS S)).map u8v)) w.heap.size 23 (mixS (movS S))) := BB.setAll HC7.out (by rw [mixS_len, movS_len])
        have HBEL7' := Lib.hid (below_setCells HD7.out (Nat.le_refl w.heap.size) ((mixS (movS S)).map u8v) 0)
        have HZ7' : Hid (BB (w8.setCells w.heap.size 0 ((mixS (movS S)).map u8v)) (w.heap.size + 1) 23 zero16) := Blk.farAll (by omega) _ _ _ HY7.out
        generalize (w8.setCells w.heap.size 0 ((mixS (movS S)).map u8v)) = w8' at *
        clear HRG7 HI7 HJ7 HTH7 HC7 HD7 HY7

        have HB9 := HB7'
        have HZ9 := HZ7'
        have HBEL9 := HBEL7'
        have HRG9 := Lib.hid (HB9.out.range)
        have HI9 : Hid ((Try.prog.info? 23).map (·.size) = some ((mixS (movS S)).map u8v).length) := by show _ = _; rw [List.length_map, mixS_len]; exact info23
        have HJ9 : Hid ((Try.prog.info? 23).map (·.size) = some ((addR (mixS (movS S)) W r).map u8v).toArray.size) := by show _ = _; rw [List.size_toArray, List.length_map, addR_len]; exact info23
        go_upto_region 5 with (first
          | (refine wpList_load_mid rfl 23 (.tmp 3) rfl w.heap.size 0 rfl ((mixS (movS S)).map u8v) _ HRG9.out Try.underlying23 rfl HI9.out ?_)
          | (go_at_call 31; refine (add_i (mixS (movS S)) W B g n r r rfl w8' (mixS_len _) (HK.out.below HBEL9.out) HADR.out HW.out).mono ?_
             rintro e0 w10 ⟨rfl, hb9⟩
             have HC9 := Lib.hid (HB9.out.below hb9)
             have HD9 := Lib.hid (bcall HBEL9.out hb9)
             have HY9 := Lib.hid (HZ9.out.below hb9)
             have HTH9 : Hid (w10.there w.heap.size 0 ((addR (mixS (movS S)) W r).map u8v).toArray.size) := there16 HC9.out (by rw [mixS_len, List.size_toArray, List.length_map, addR_len])
             clear hb9)
          | (refine wpList_store_mid rfl 23 (.tmp 3) (.tmp 33) rfl w.heap.size 0 ((addR (mixS (movS S)) W r).map u8v).toArray rfl rfl HTH9.out HJ9.out (bytes_one _) ?_))
        have HB9' : Hid (BB (w10.setCells w.heap.size 0 ((addR (mixS (movS S)) W r).map u8v)) w.heap.size 23 (addR (mixS (movS S)) W r)) := BB.setAll HC9.out (by rw [addR_len, mixS_len])
        have HBEL9' := Lib.hid (below_setCells HD9.out (Nat.le_refl w.heap.size) ((addR (mixS (movS S)) W r).map u8v) 0)
        have HZ9' : Hid (BB (w10.setCells w.heap.size 0 ((addR (mixS (movS S)) W r).map u8v)) (w.heap.size + 1) 23 zero16) := Blk.farAll (by omega) _ _ _ HY9.out
        generalize (w10.setCells w.heap.size 0 ((addR (mixS (movS S)) W r).map u8v)) = w10' at *
        clear HRG9 HI9 HJ9 HTH9 HC9 HD9 HY9

        go_wp2_with fail
        go_roundg (last + 1 - (r + 1))
        case measure => omega
        case rel => exact ⟨r + 1, by omega, by omega, rfl, by go_num, by rw [Nat.add_sub_cancel, ← HNX.out, ← HRND.out]; exact HB9'.out, HZ9'.out, HBEL9'.out⟩
      · have hlti : ¬ (r : Int) < (last : Int) := by omega
        have HRND : Hid (addR (movS S) W r = rndS W last r S) := by show _ = _; rw [rndS, if_neg hlt]
        have HRG7 := Lib.hid (HB7.out.range)
        have HI7 : Hid ((Try.prog.info? 23).map (·.size) = some ((movS S).map u8v).length) := by show _ = _; rw [List.length_map, movS_len]; exact info23
        have HJ7 : Hid ((Try.prog.info? 23).map (·.size) = some ((addR (movS S) W r).map u8v).toArray.size) := by show _ = _; rw [List.size_toArray, List.length_map, addR_len]; exact info23
        go_upto_region 5 with (first
          | (refine wpList_load_mid rfl 23 (.tmp 3) rfl w.heap.size 0 rfl ((movS S).map u8v) _ HRG7.out Try.underlying23 rfl HI7.out ?_)
          | (go_at_call 31; refine (add_i (movS S) W B g n r r rfl w6' (movS_len _) (HK.out.below HBEL7.out) HADR.out HW.out).mono ?_
             rintro e0 w10 ⟨rfl, hb7⟩
             have HC7 := Lib.hid (HB7.out.below hb7)
             have HD7 := Lib.hid (bcall HBEL7.out hb7)
             have HY7 := Lib.hid (HZ7.out.below hb7)
             have HTH7 : Hid (w10.there w.heap.size 0 ((addR (movS S) W r).map u8v).toArray.size) := there16 HC7.out (by rw [movS_len, List.size_toArray, List.length_map, addR_len])
             clear hb7)
          | (refine wpList_store_mid rfl 23 (.tmp 3) (.tmp 33) rfl w.heap.size 0 ((addR (movS S) W r).map u8v).toArray rfl rfl HTH7.out HJ7.out (bytes_one _) ?_))
        have HB7' : Hid (BB (w10.setCells w.heap.size 0 ((addR (movS S) W r).map u8v)) w.heap.size 23 (addR (movS S) W r)) := BB.setAll HC7.out (by rw [addR_len, movS_len])
        have HBEL7' := Lib.hid (below_setCells HD7.out (Nat.le_refl w.heap.size) ((addR (movS S) W r).map u8v) 0)
        have HZ7' : Hid (BB (w10.setCells w.heap.size 0 ((addR (movS S) W r).map u8v)) (w.heap.size + 1) 23 zero16) := Blk.farAll (by omega) _ _ _ HY7.out
        generalize (w10.setCells w.heap.size 0 ((addR (movS S) W r).map u8v)) = w10' at *
        clear HRG7 HI7 HJ7 HTH7 HC7 HD7 HY7

        go_wp2_with fail
        go_roundg (last + 1 - (r + 1))
        case measure => omega
        case rel => exact ⟨r + 1, by omega, by omega, rfl, by go_num, by rw [Nat.add_sub_cancel, ← HNX.out, ← HRND.out]; exact HB7'.out, HZ7'.out, HBEL7'.out⟩
    · have hr3 : r = last + 1 := by omega
      subst hr3
      have HL : Hid (blockS W x = stS W last x last) := by show _ = _; rw [blockS, HLAST.out]
      have hbx2 : BB wr w.heap.size 23 (blockS W x) := by rw [HL.out]; exact hbx
      have HBX2 := Lib.hid hbx2
      have HRG := Lib.hid (hbx2.range)
      have HI : Hid ((Try.prog.info? 23).map (·.size) = some ((blockS W x).map u8v).length) := by show _ = _; rw [List.length_map, blockS_len]; exact info23
      have hsz : ((blockS W x).map u8v).toArray.size = 16 := by rw [List.size_toArray, List.length_map, blockS_len]
      have HJ : Hid ((Try.prog.info? 23).map (·.size) = some ((blockS W x).map u8v).toArray.size) := by show _ = _; rw [hsz]; exact info23
      have HTH : Hid (wr.there (w.heap.size + 1) 0 ((blockS W x).map u8v).toArray.size) := by show World.there _ _ _ _; rw [hsz]; exact there16 hby zero16_len
      have HBEL := Lib.hid hbel
      clear hbx hby hbel hbx2 hsz
      have hnl : ¬ ((last + 1 : Nat) : Int) ≤ (last : Int) := by omega
      go_wp2_with (first
        | (refine wpList_load_mid rfl 23 (.tmp 3) rfl w.heap.size 0 rfl ((blockS W x).map u8v) _ HRG.out Try.underlying23 rfl HI.out ?_)
        | (refine wpList_store_mid rfl 23 (.tmp 4) (.tmp 34) rfl (w.heap.size + 1) 0 ((blockS W x).map u8v).toArray rfl rfl HTH.out HJ.out (bytes_one _) ?_))
      have hload := run_loadVar_mid (P := Try.prog) (wr.setCells (w.heap.size + 1) 0 ((blockS W x).map u8v)) (w.heap.size + 1) 0 23 ((blockS W x).map u8v) _ (World.rangeAt_setCells_same _ _ _ _ (by have := HTH.out; rwa [List.size_toArray] at this)) Try.underlying23 rfl HI.out
      refine bodyPost_ret (results_one rfl _ _ (w.heap.size + 1) _ rfl hload) rfl ⟨rfl, ?_⟩
      exact below_setCells HBEL.out (Nat.le_succ _) _ _
end Go.Proofs.Ytklkehpcifnfkaa
