/- What kdf.Extract and kdf.Expand do (contracts). Conditions: the arguments lie in memory. -/
import Derived.Test.YtlapgccfgkokcaaAwake2
set_option linter.unusedVariables false
set_option linter.unusedSimpArgs false
namespace Go.Proofs.Ytlapgccfgkokcaa
open Go.RowKit
attribute [local go_sem ↓] Go.wp_at_zero Go.wp_at_succ

/-- HKDF's i-th block. -/
def blkE (s info : List UInt8) : Nat → List UInt8
  | 0 => []
  | i + 1 => hmacS s (blkE s info i ++ info ++ [UInt8.ofNat (i + 1)])
def outE (s info : List UInt8) : Nat → List UInt8
  | 0 => []
  | i + 1 => outE s info i ++ blkE s info (i + 1)
theorem blkE_len (s info : List UInt8) (i : Nat) : (blkE s info (i + 1)).length = 32 := hmacS_len _ _
theorem outE_len (s info : List UInt8) : ∀ i, (outE s info i).length = 32 * i
  | 0 => rfl
  | i + 1 => by rw [outE, List.length_append, outE_len s info i, blkE_len]; omega
theorem outE_take (s info : List UInt8) : ∀ (i j : Nat), i ≤ j → (outE s info j).take (32 * i) = outE s info i
  | i, 0, h => by
    have : i = 0 := by omega
    subst this
    rfl
  | i, j + 1, h => by
    by_cases e : i = j + 1
    · subst e
      exact List.take_of_length_le (by rw [outE_len]; exact Nat.le_refl _)
    · rw [outE, List.take_append_of_le_length (by rw [outE_len]; omega), outE_take s info i j (by omega)]
def expandS (s info : List UInt8) (n : Nat) : List UInt8 := (outE s info ((n + 31) / 32)).take n
theorem expandS_len (s info : List UInt8) (n : Nat) : (expandS s info n).length = n := by
  rw [expandS, List.length_take, outE_len]
  omega
theorem expandS_at (s info : List UInt8) (n i : Nat) (h : n ≤ 32 * i) : expandS s info n = (outE s info i).take n := by
  have h1 : (n + 31) / 32 ≤ i := by omega
  rw [expandS, ← outE_take s info _ i h1, List.take_take, Nat.min_eq_left (by omega)]
/-- The last block: nil, or an array's. -/
def LastV (w : World) (v : Value) (l : List UInt8) : Prop := (l = [] ∧ v = .slice none 0 0) ∨ ∃ g, v = .slice (some ⟨g, 0, none⟩) 32 32 ∧ UB w g 24 l ∧ l.length = 32
section
variable {w w' : World} {v : Value} {l : List UInt8}
theorem LastV.slv (h : LastV w v l) : SlV w v l := by
  rcases h with ⟨rfl, rfl⟩ | ⟨g, rfl, hu, hl⟩
  · exact SlV.nil w
  · exact SlV.arr hu hl
theorem LastV.below (h : LastV w v l) (hb : Below w.heap.size w w') : LastV w' v l := by
  rcases h with h | ⟨g, rfl, hu, hl⟩
  · exact .inl h
  · exact .inr ⟨g, rfl, Blk.below hu hb, hl⟩
theorem LastV.form (h : LastV w v l) : ∃ A c, v = .slice A l.length c := by
  rcases h with ⟨rfl, rfl⟩ | ⟨g, rfl, hu, hl⟩
  · exact ⟨none, 0, rfl⟩
  · exact ⟨_, 32, by rw [hl]⟩
theorem LastV.grown {B n : Nat} {r : Value} {xs : List Value} (h : LastV w v l) (ho : w.ownsRow B 5 1 r n xs) (hg : w.grownBy w' r.ownBlock) : LastV w' v l := by
  rcases h with h | ⟨g, rfl, hu, hl⟩
  · exact .inl h
  · exact .inr ⟨g, rfl, Blk.grown hu hg (Ne.symm (own_blk_ne ho hu (by decide))), hl⟩
end
set_option maxRecDepth 100000 in
set_option maxHeartbeats 3200000 in
theorem extract_c (salt key : List UInt8) (A0 A1 : Option Addr) (n0 n1 c0 c1 : Nat) (w : World) (h0 : SlV w (.slice A0 n0 c0) salt) (h1 : SlV w (.slice A1 n1 c1) key) :
    Calls Try.prog 37 #[.slice A0 n0 c0, .slice A1 n1 c1] w fun e w' => e = .returned (.agg ((hmacS salt key).map u8v).toArray) ∧ Below w.heap.size w w' := by
  have H0 := Lib.hid h0
  have H1 := Lib.hid h1
  obtain ⟨O, hO⟩ : ∃ O, O = hmacS salt key := ⟨_, rfl⟩
  have hOl : O.length = 32 := by rw [hO]; exact hmacS_len _ _
  have HO : Hid (O = hmacS salt ([key] : List (List UInt8)).flatten) := by show _ = _; rw [hO]; simp
  have HOE := Lib.hid hO
  have HOL := Lib.hid hOl
  have HJ := Lib.hid (infoO hOl)
  have HI := Lib.hid (infoL hOl)
  clear h0 h1 hO hOl
  go_enter Try.func37, Try.ntmps37
  go_upto_region 1 with fail
  obtain ⟨w0, hw0⟩ : ∃ w0, w0 = w.alloc (.cells (z32.map u8v).toArray 24) := ⟨_, rfl⟩
  change Code.wp _ _ _ _ (w.alloc (.cells (z32.map u8v).toArray 24))
  have HU0 : Hid (UB w0 w.heap.size 24 z32) := by show UB _ _ _ _; rw [hw0]; exact Blk.new _ _ _
  have HB0 : Hid (Below w.heap.size w w0) := by show Below _ _ _; rw [hw0]; exact balloc (Below.refl _ _) _
  rw [← hw0]
  clear hw0
  go_wp2_with (first
    | (go_at_call 32
       refine (tag_blk HO.out ((H0.out.below HB0.out).below (balloc (Below.refl _ _) _)) (Parts.one (Blk.newAt rfl _ _) ((H1.out.below HB0.out).below (balloc (Below.refl _ _) _))) rfl (by simp)).mono ?_
       rintro e0 w2 ⟨rfl, hb2⟩
       have HU2 : Hid (UB w2 w.heap.size 24 z32) := Blk.below (Blk.alloc HU0.out _) hb2
       have HTH : Hid (w2.there w.heap.size 0 (O.map u8v).toArray.size) := there32 HU2.out rfl HOL.out
       have HB2 : Hid (Below w.heap.size w w2) := bcall (balloc HB0.out _) hb2
       clear hb2)
    | ((with_reducible show wpList _ _ _ (⟨none, .store 24 (.tmp 4) (.tmp 8), _, _, _, _⟩ :: _) _ _); refine wpList_store_mid rfl 24 (.tmp 4) (.tmp 8) rfl w.heap.size 0 (O.map u8v).toArray rfl rfl HTH.out HJ.out (bytes_one _) ?_))
  have hst : UB (w2.setCells w.heap.size 0 (O.map u8v)) w.heap.size 24 O := blk_setAll HU2.out (by rw [List.length_map, HOL.out]; rfl)
  have hload := run_loadVar_mid (P := Try.prog) (w2.setCells w.heap.size 0 (O.map u8v)) w.heap.size 0 24 (O.map u8v) _ hst.range Try.underlying24 rfl HI.out
  refine bodyPost_ret (results_one rfl _ _ w.heap.size _ rfl hload) rfl (And.intro (by rw [HOE.out]) ?_)
  exact below_setCells HB2.out (Nat.le_refl _) _ _
set_option maxRecDepth 100000 in
set_option maxHeartbeats 6400000 in
theorem expand_c (s info : List UInt8) (A0 A1 : Option Addr) (n0 n1 c0 c1 n : Nat) (w : World) (h0 : SlV w (.slice A0 n0 c0) s) (h1 : SlV w (.slice A1 n1 c1) info) (hn : n ≤ 8160) :
    Calls Try.prog 36 #[.slice A0 n0 c0, .slice A1 n1 c1, .int .i64 (n : Int)] w fun e w' => ∃ A c, e = .returned (.tuple #[.slice A n c, .int .i64 0]) ∧ SlV w' (.slice A n c) (expandS s info n) ∧ Below w.heap.size w w' := by
  have H0 := Lib.hid h0
  have H1 := Lib.hid h1
  clear h0 h1
  obtain ⟨i5, hi5, hz0, hz1, hz2⟩ := info_parts infoByte
  go_enter Try.func36, Try.ntmps36
  go_upto_region 7 with fail
  go_loopg [8, 9, 10] 256 (fun gg v8 v9 v10 wx => ∃ i Ao co, 32 * i < n + 32 ∧ gg = 256 - i ∧ v8 = .slice Ao (32 * i) co ∧ v10 = .int .u8 ((UInt8.ofNat (i + 1)).toNat : Int) ∧ LastV wx v9 (blkE s info i) ∧ wx.ownsRow w.heap.size 5 1 (.slice Ao (32 * i) co) (32 * i) ((outE s info i).map u8v) ∧ Below w.heap.size w wx)
  case atStart => exact ⟨0, none, 0, by omega, rfl, rfl, rfl, .inl ⟨rfl, rfl⟩, World.ownsRow_nil _ _ _ _, Below.refl _ _⟩
  case round =>
    obtain ⟨i, Ao, co, hi, rfl, rfl, rfl, hla, ho, hb⟩ := hrel
    obtain ⟨Al, cl, hv9⟩ := hla.form
    obtain ⟨L, hL⟩ : ∃ L, L = blkE s info i := ⟨_, rfl⟩
    rw [← hL] at hla hv9
    obtain ⟨k, hk⟩ : ∃ k, k = 32 * i := ⟨_, rfl⟩
    rw [← hk] at ho
    rw [← hk]
    have hk2 : k < n + 32 := by omega
    subst hv9
    have HLA := Lib.hid hla
    have HO := Lib.hid ho
    have HB := Lib.hid hb
    have HL := Lib.hid hL
    have HKI := Lib.hid hk
    have hnum := hla.slv.num
    by_cases hkn : k < n
    · have hki : (k : Int) < (n : Int) := by omega
      have hi255 : i < 255 := by omega
      obtain ⟨x, hx⟩ : ∃ x, x = UInt8.ofNat (i + 1) := ⟨_, rfl⟩
      obtain ⟨y, hy⟩ : ∃ y, y = UInt8.ofNat (i + 2) := ⟨_, rfl⟩
      have hxn : x.toNat = i + 1 := by rw [hx, UInt8.toNat_ofNat']; omega
      have hyn : y.toNat = (i + 2) % 256 := by rw [hy, UInt8.toNat_ofNat']
      have hw1 : IntKind.u8.wrap ((x.toNat : Int) + 1) = (y.toNat : Int) := by rw [IntKind.wrap_u8]; omega
      have hw2 : ((x.toNat : Int) + 1) % 256 = (y.toNat : Int) := by omega
      rw [← hx]
      obtain ⟨O, hO⟩ : ∃ O, O = blkE s info (i + 1) := ⟨_, rfl⟩
      have hOl : O.length = 32 := by rw [hO]; exact blkE_len _ _ _
      have HOF : Hid (O = hmacS s ([L, info, [x]] : List (List UInt8)).flatten) := by show _ = _; rw [hO, blkE, ← hL, ← hx]; simp
      have HOE := Lib.hid hO
      have HOL := Lib.hid hOl
      have HJ := Lib.hid (infoO hOl)
      have HY := Lib.hid hy
      have HBW : Hid (w.heap.size ≤ wr.heap.size) := hb.size
      clear hla ho hb hL hk hx hy hxn hyn hO hOl hnum
      go_upto_region 10 with (first
        | (go_at_call 32
           refine (tag_blk HOF.out (((H0.out.below HB.out).below (balloc (Below.refl _ _) _)).below (balloc (Below.refl _ _) _)) (Parts.three (Blk.newAt (by simp) _ _) ((HLA.out.slv.below (balloc (Below.refl _ _) _)).below (balloc (Below.refl _ _) _)) (((H1.out.below HB.out).below (balloc (Below.refl _ _) _)).below (balloc (Below.refl _ _) _)) ((SlV.lit wr _ _ 1 _ rfl rfl).below (balloc (Below.refl _ _) _))) rfl (by simp)).mono ?_
           rintro e0 w2 ⟨rfl, hb2⟩
           have hbr : Below wr.heap.size wr w2 := bcall (balloc (balloc (Below.refl _ _) _) _) hb2
           have HU2 : Hid (UB (w2.alloc (.cells (z32.map u8v).toArray 24)) w2.heap.size 24 z32) := Blk.new _ _ _
           have HTH : Hid ((w2.alloc (.cells (z32.map u8v).toArray 24)).there w2.heap.size 0 (O.map u8v).toArray.size) := there32 HU2.out rfl HOL.out
           have HBR := Lib.hid hbr
           clear hb2 hbr)
        | ((with_reducible show wpList _ _ _ (⟨none, .store 24 (.tmp 11) (.tmp 30), _, _, _, _⟩ :: _) _ _); refine wpList_store_mid rfl 24 (.tmp 11) (.tmp 30) rfl w2.heap.size 0 (O.map u8v).toArray rfl rfl HTH.out HJ.out (bytes_one _) ?_))
      obtain ⟨w3, hw3⟩ : ∃ w3, w3 = (w2.alloc (.cells (z32.map u8v).toArray 24)).setCells w2.heap.size 0 (O.map u8v) := ⟨_, rfl⟩
      change Code.wp _ _ _ _ ((w2.alloc (.cells (z32.map u8v).toArray 24)).setCells w2.heap.size 0 (O.map u8v))
      have HU3 : Hid (UB w3 w2.heap.size 24 O) := by show UB _ _ _ _; rw [hw3]; exact blk_setAll HU2.out (by rw [List.length_map, HOL.out]; rfl)
      have hb3 : Below wr.heap.size wr w3 := by rw [hw3]; exact below_setCells (balloc HBR.out _) HBR.out.size _ _
      have HO3 : Hid (w3.ownsRow w.heap.size 5 1 (.slice Ao k co) k ((outE s info i).map u8v)) := own_below HO.out hb3
      have HB3 : Hid (Below w.heap.size w w3) := bcall HB.out hb3
      have HRD : Hid (Reads w3 w3.heap.size 1 (some ⟨w2.heap.size, 0, none⟩) 32 (O.map u8v)) := by
        obtain ⟨A', c', e, hc, hr⟩ := SlV.arr HU3.out HOL.out
        injection e with e1 e2 e3
        subst e1
        rw [HOL.out] at hr
        exact hr
      rw [← hw3]
      clear hw3 hb3 HU2 HTH HBR HJ
      go_wp2_with
       (at_builtin
        refine wpList_append_any _ rfl (.tmp 32) (.tmp 33) _ rfl w.heap.size 5 i5 _ 1 1 Try.underlying27 hi5 hz0 hz1 hz2 rfl (by omega) (.slice Ao k co) k ((outE s info i).map u8v) rfl HO3.out
          _ (some ⟨w2.heap.size, 0, none⟩) 32 32 (O.map u8v) rfl HRD.out (u8_one O) (by simp only [maxLen]; omega) (by omega) HB3.out.size ?_
        intro v5 w5 hown5 hg5 hv5
        obtain ⟨A5, c5, rfl⟩ := own_slice hown5
        have HO5 := Lib.hid hown5
        have HB5 : Hid (Below w.heap.size w w5) := own_grow_below HB3.out HO3.out hg5
        have HL5 : Hid (LastV w5 (.slice (some ⟨w2.heap.size, 0, none⟩) 32 32) O) := LastV.grown (.inr ⟨_, rfl, HU3.out, HOL.out⟩) HO3.out hg5
        clear hown5 hg5 hv5)
      go_roundg (256 - (i + 1))
      case measure => omega
      case rel =>
        have hk1 : k + 32 = 32 * (i + 1) := by have := HKI.out; omega
        refine ⟨i + 1, A5, c5, by omega, rfl, by rw [hk1], by rw [← HY.out], by rw [← HOE.out]; exact HL5.out, ?_, HB5.out⟩
        have := HO5.out
        rw [hk1] at this
        rw [outE, List.map_append, ← HOE.out]
        exact this
    · have hki : ¬ (k : Int) < (n : Int) := by omega
      have hcap : k ≤ co := own_bound ho
      have hct := fun wx : World => cut_to wx Ao k co n (by omega)
      have hrow : SlV wr (.slice Ao k co) (outE s info i) := SlV.own (show ByteRow wr w.heap.size (.slice Ao k co) (outE s info i) by unfold ByteRow; rw [outE_len, ← hk]; exact ho)
      have hcut : SlV wr (.slice (cutA Ao co 0) n co) ((outE s info i).take n) := hrow.to_ (by omega)
      have HX : Hid (expandS s info n = (outE s info i).take n) := expandS_at s info n i (by omega)
      rw [← HX.out] at hcut
      have HRD : Hid (Reads wr wr.heap.size 1 (cutA Ao co 0) n ((expandS s info n).map u8v)) := by
        obtain ⟨A', c', e, hc, hr⟩ := hcut
        injection e with e1 e2 e3
        subst e1
        rw [← e2] at hr
        exact hr
      clear hla ho hb hL hk hnum hrow hcut HX hcap
      go_wp2_with
       (at_builtin
        refine wpList_append_any _ rfl (.const (.slice none 0 0)) (.tmp 37) _ rfl wr.heap.size 5 i5 _ 1 1 Try.underlying27 hi5 hz0 hz1 hz2 rfl (by omega) (.slice none 0 0) 0 [] rfl (World.ownsRow_nil _ _ _ _)
          _ (cutA Ao co 0) n co ((expandS s info n).map u8v) rfl HRD.out (u8_one _) (by simp only [maxLen]; omega) (by omega) (Nat.le_refl _) ?_
        intro v5 w5 hown5 hg5 hv5
        rw [Nat.zero_add, List.nil_append] at hown5
        obtain ⟨A5, c5, rfl⟩ := own_slice hown5
        have HO5 := Lib.hid hown5
        have HB5 : Hid (Below wr.heap.size wr w5) := ⟨hg5.os, hg5.tape, hg5.output, hg5.size, fun k hk => hg5.block k hk (by simp [Value.ownBlock])⟩
        clear hown5 hg5 hv5)
      go_ret2
      refine ⟨A5, c5, rfl, ?_, bcall HB.out HB5.out⟩
      exact SlV.own (show ByteRow w5 wr.heap.size (.slice A5 n c5) (expandS s info n) by unfold ByteRow; rw [expandS_len]; exact HO5.out)
end Go.Proofs.Ytlapgccfgkokcaa
