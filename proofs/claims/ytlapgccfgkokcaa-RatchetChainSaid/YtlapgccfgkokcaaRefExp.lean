/- What the reference's Expand and After do (contracts). Conditions: the arguments lie in memory; they are no more than fit. -/
import Derived.Test.YtlapgccfgkokcaaRefHmac
import Derived.Test.YtlapgccfgkokcaaRatchet
set_option linter.unusedVariables false
set_option linter.unusedSimpArgs false
namespace Go.Proofs.Ytlapgccfgkokcaa
open Go.RowKit
attribute [local go_sem ↓] Go.wp_at_zero Go.wp_at_succ

theorem rexpand_neg (A0 A1 : Option Addr) (n0 n1 c0 c1 : Nat) (z : Int) (w : World) (hz : z < 0) :
    Calls Try.prog 39 #[.slice A0 n0 c0, .slice A1 n1 c1, .int .i64 z] w fun e w' => e = .returned (.tuple #[.slice none 0 0, .int .i64 1]) ∧ Below w.heap.size w w' := by
  go_enter Try.func39, Try.ntmps39
  go_wp2_with fail
  go_ret2
  exact ⟨rfl, Below.refl _ _⟩
theorem rexpand_big (A0 A1 : Option Addr) (n0 n1 c0 c1 : Nat) (z : Int) (w : World) (hz : 8160 < z) :
    Calls Try.prog 39 #[.slice A0 n0 c0, .slice A1 n1 c1, .int .i64 z] w fun e w' => e = .returned (.tuple #[.slice none 0 0, .int .i64 4]) ∧ Below w.heap.size w w' := by
  have h2 : ¬ z < 0 := by omega
  go_enter Try.func39, Try.ntmps39
  go_wp2_with fail
  go_ret2
  exact ⟨rfl, Below.refl _ _⟩
/-- The last block: empty, or an array's. -/
def LastE (w : World) (v : Value) (l : List UInt8) : Prop := (l = [] ∧ ∃ A c, v = .slice A 0 c) ∨ ∃ g, v = .slice (some ⟨g, 0, none⟩) 32 32 ∧ UB w g 24 l ∧ l.length = 32
section
variable {w w' : World} {v : Value} {l : List UInt8}
theorem LastE.form (h : LastE w v l) : ∃ A c, v = .slice A l.length c ∧ Reads w w.heap.size 1 A l.length (l.map u8v) := by
  rcases h with ⟨rfl, A, c, rfl⟩ | ⟨g, rfl, hu, hl⟩
  · exact ⟨A, c, rfl, by simp, fun h => absurd h (by simp)⟩
  · have := (SlV.arr hu hl).rd
    rw [← hl] at this
    exact ⟨_, 32, by rw [hl], this⟩
theorem LastE.below (h : LastE w v l) (hb : Below w.heap.size w w') : LastE w' v l := by
  rcases h with h | ⟨g, rfl, hu, hl⟩
  · exact .inl h
  · exact .inr ⟨g, rfl, Blk.below hu hb, hl⟩
theorem LastE.len (h : LastE w v l) : l.length ≤ 32 := by
  rcases h with ⟨rfl, _⟩ | ⟨g, _, _, hl⟩
  · simp
  · omega
theorem LastE.grown {B n : Nat} {r : Value} {xs : List Value} (h : LastE w v l) (ho : w.ownsRow B 5 1 r n xs) (hg : w.grownBy w' r.ownBlock) : LastE w' v l := by
  rcases h with h | ⟨g, rfl, hu, hl⟩
  · exact .inl h
  · exact .inr ⟨g, rfl, Blk.grown hu hg (Ne.symm (own_blk_ne ho hu (by decide))), hl⟩
end
theorem cut_max (wx : World) (A : Option Addr) (n c k : Nat) (hk : k ≤ c) : ∃ A', (Instr.slice 27 (.slice A n c) none (some (.int .i64 (k : Int))) (some (.int .i64 (k : Int)))).run Try.prog wx = .ok (.slice A' k k) wx ∧ A' = cutA A k 0 := by
  refine ⟨_, ?_, rfl⟩
  rw [run_slice_hm (P := Try.prog) wx 27 A n c slice22 .i64 .i64 (k : Int) (k : Int) (by omega) (by omega) (by omega)]
  rw [size22]
  simp [Result.andThen, sliced, cutA]
theorem SlV.cutmax {A : Option Addr} {n c k : Nat} {w : World} {b : List UInt8} (h : SlV w (.slice A n c) b) (hk : k ≤ n) : SlV w (.slice (cutA A k 0) k k) (b.take k) := by
  obtain ⟨A', c', e, hc, hr⟩ := h
  injection e with e1 e2 e3
  subst e1 e2 e3
  have hl : (b.take k).length = k := by rw [List.length_take]; omega
  have h1 := reads_take hr rfl hk
  refine ⟨_, _, by rw [hl], by omega, ?_⟩
  rw [cutA]
  split
  · exact h1
  · rename_i hne
    refine ⟨h1.1, fun hp => ?_⟩
    obtain ⟨ad, e, hb, hcell⟩ := h1.2 hp
    subst e
    exact ⟨ad.add 0, rfl, by rw [block_of_add]; exact hb, fun j u hu => by rw [add_of_add, Nat.zero_add]; exact hcell j u hu⟩
set_option maxRecDepth 100000 in
set_option maxHeartbeats 6400000 in
theorem rexpand_c (s info : List UInt8) (A0 A1 : Option Addr) (n0 n1 c0 c1 n : Nat) (w : World) (h0 : SlV w (.slice A0 n0 c0) s) (h1 : SlV w (.slice A1 n1 c1) info) (hn : n ≤ 8160) (hl0 : n0 ≤ 140737488354000) (hl1 : n1 ≤ 140737488353000) :
    Calls Try.prog 39 #[.slice A0 n0 c0, .slice A1 n1 c1, .int .i64 (n : Int)] w fun e w' => ∃ A c, e = .returned (.tuple #[.slice A n c, .int .i64 0]) ∧ SlV w' (.slice A n c) (expandS s info n) ∧ Below w.heap.size w w' := by
  have H0 := Lib.hid h0
  have H1 := Lib.hid h1
  have HN1 := Lib.hid h1.num
  clear h0 h1
  obtain ⟨i5, hi5, hz0, hz1, hz2⟩ := info_parts infoByte
  go_enter Try.func39, Try.ntmps39
  go_upto_region 6 with fail
  obtain ⟨w1, hw1⟩ : ∃ w1, w1 = (w.alloc (.cells #[] 5)).alloc (.cells #[] 5) := ⟨_, rfl⟩
  change Code.wp _ _ _ _ ((w.alloc (.cells #[] 5)).alloc (.cells #[] 5))
  have HO1 : Hid (w1.ownsRow w.heap.size 5 1 (.slice (some ⟨w.heap.size, 0, none⟩) 0 0) 0 []) := by show World.ownsRow _ _ _ _ _ _ _; rw [hw1]; exact (own_empty w _ _).alloc _
  have HB1 : Hid (Below w.heap.size w w1) := by show Below _ _ _; rw [hw1]; exact balloc (balloc (Below.refl _ _) _) _
  rw [← hw1]
  clear hw1
  go_upto_region 7 with fail
  go_loopg [8, 9, 10] 256 (fun gg v8 v9 v10 wx => ∃ i Ao co, 32 * i < n + 32 ∧ gg = 256 - i ∧ v8 = .slice Ao (32 * i) co ∧ v10 = .int .i64 ((i : Int) + 1) ∧ LastE wx v9 (blkE s info i) ∧ wx.ownsRow w.heap.size 5 1 (.slice Ao (32 * i) co) (32 * i) ((outE s info i).map u8v) ∧ Below w.heap.size w wx)
  case atStart => exact ⟨0, _, 0, by omega, rfl, rfl, rfl, .inl ⟨rfl, _, _, rfl⟩, HO1.out, HB1.out⟩
  case round =>
    obtain ⟨i, Ao, co, hi, rfl, rfl, rfl, hla, ho, hb⟩ := hrel
    clear HO1 HB1
    obtain ⟨Al, cl, hv9, hlr⟩ := hla.form
    obtain ⟨L, hL⟩ : ∃ L, L = blkE s info i := ⟨_, rfl⟩
    rw [← hL] at hla hv9 hlr
    obtain ⟨k, hk⟩ : ∃ k, k = 32 * i := ⟨_, rfl⟩
    rw [← hk] at ho
    rw [← hk]
    have hk2 : k < n + 32 := by omega
    subst hv9
    obtain ⟨l, hl⟩ : ∃ l, l = L.length := ⟨_, rfl⟩
    have hl32 : l ≤ 32 := by rw [hl]; exact hla.len
    rw [← hl] at hla hlr
    rw [← hl]
    have HLL := Lib.hid hl
    have HLA := Lib.hid hla
    have HLR := Lib.hid hlr
    have HO := Lib.hid ho
    have HB := Lib.hid hb
    have HL := Lib.hid hL
    have HKI := Lib.hid hk
    by_cases hkn : k < n
    · have hki : (k : Int) < (n : Int) := by omega
      have hi255 : i < 255 := by omega
      obtain ⟨J, hJ⟩ : ∃ J, J = i + 1 := ⟨_, rfl⟩
      have hJi : (i : Int) + 1 = (J : Int) := by omega
      rw [hJi]
      have hJ2 : J ≤ 255 := by omega
      obtain ⟨x, hx⟩ : ∃ x, x = UInt8.ofNat J := ⟨_, rfl⟩
      have hxn : x.toNat = J := by rw [hx, UInt8.toNat_ofNat']; omega
      have HX : Hid (u8v x = .int .u8 (J : Int)) := by show _ = _; rw [u8v, hxn]
      have HJJ := Lib.hid hJ
      obtain ⟨O, hO⟩ : ∃ O, O = blkE s info (i + 1) := ⟨_, rfl⟩
      have hOl : O.length = 32 := by rw [hO]; exact blkE_len _ _ _
      have HOF : Hid (O = hmacS s (L ++ info ++ [x])) := by show _ = _; rw [hO, blkE, ← hL, hx, hJ]
      have HOE := Lib.hid hO
      have HOL := Lib.hid hOl
      have HJ := Lib.hid (infoO hOl)
      have HRE : Hid (Reads (wr.alloc (.cells #[] 5)) (wr.alloc (.cells #[] 5)).heap.size 1 Al l (L.map u8v)) := hlr.to_ (balloc (Below.refl _ _) _)
      have HIR : Hid (SlV wr (.slice A1 n1 c1) info) := H1.out.below HB.out
      have HSR : Hid (SlV wr (.slice A0 n0 c0) s) := H0.out.below HB.out
      clear hla hlr ho hb hL hk hl hx hxn hO hOl hJi hJ
      go_upto_region 10 with (first
        | (at_builtin
           refine wpList_append_any _ rfl (.tmp 25) (.tmp 26) _ rfl wr.heap.size 5 i5 _ 1 1 Try.underlying27 hi5 hz0 hz1 hz2 rfl (by omega) (.slice (some ⟨wr.heap.size, 0, none⟩) 0 0) 0 [] rfl (own_empty wr _ _)
             _ Al l cl (L.map u8v) rfl HRE.out (u8_one L) (by simp only [maxLen]; omega) (by omega) (by simp) ?_
           intro v2 w2 hown2 hg2 hv2
           rw [Nat.zero_add, List.nil_append] at hown2
           obtain ⟨A2, c2, rfl⟩ := own_slice hown2
           have HO2 := Lib.hid hown2
           have HB2 : Hid (Below wr.heap.size wr w2) := fresh_below hg2
           have HIR2 : Hid (Reads w2 w2.heap.size 1 A1 n1 (info.map u8v)) := (HIR.out.below HB2.out).rd
           clear hown2 hg2 hv2)
        | (at_builtin
           refine wpList_append_any _ rfl (.tmp 27) (.tmp 28) _ rfl wr.heap.size 5 i5 _ 1 1 Try.underlying27 hi5 hz0 hz1 hz2 rfl (by omega) (.slice A2 l c2) l (L.map u8v) rfl HO2.out
             _ A1 n1 c1 (info.map u8v) rfl HIR2.out (u8_one info) (by simp only [maxLen]; omega) (by omega) HB2.out.size ?_
           intro v3 w3 hown3 hg3 hv3
           obtain ⟨A3, c3, rfl⟩ := own_slice hown3
           have HO3 := Lib.hid hown3
           have HB3 : Hid (Below wr.heap.size wr w3) := own_grow_below HB2.out HO2.out hg3
           have HRD3 : Hid (Reads (w3.alloc (.cells #[.int .u8 (J : Int)] 5)) (w3.alloc (.cells #[.int .u8 (J : Int)] 5)).heap.size 1 (some ⟨w3.heap.size, 0, none⟩) 1 [.int .u8 (J : Int)]) := Reads.of_own (own_one w3 5 _)
           have HBS3 : Hid (wr.heap.size ≤ (w3.alloc (.cells #[.int .u8 (J : Int)] 5)).heap.size) := Nat.le_trans HB3.out.size (by rw [World.size_alloc]; omega)
           clear hown3 hg3 hv3)
        | (at_builtin
           refine wpList_append_any _ rfl (.tmp 29) (.tmp 32) _ rfl wr.heap.size 5 i5 _ 1 1 Try.underlying27 hi5 hz0 hz1 hz2 rfl (by omega) (.slice A3 (l + n1) c3) (l + n1) (L.map u8v ++ info.map u8v) rfl (HO3.out.alloc _)
             _ (some ⟨w3.heap.size, 0, none⟩) 1 1 [.int .u8 (J : Int)] rfl HRD3.out (by simp [Value.oneCell']) (by simp only [maxLen]; omega) (by omega) HBS3.out ?_
           intro v4 w4 hown4 hg4 hv4
           obtain ⟨A4, c4, rfl⟩ := own_slice hown4
           have HB4 : Hid (Below wr.heap.size wr w4) := own_grow_below (balloc HB3.out (.cells #[.int .u8 (J : Int)] 5)) (HO3.out.alloc _) hg4
           have HS4 : Hid (SlV w4 (.slice A4 (l + n1 + 1) c4) (L ++ info ++ [x])) := SlV.own (base := wr.heap.size) (by
             unfold ByteRow
             have e1 : (L ++ info ++ [x]).length = l + n1 + 1 := by rw [List.length_append, List.length_append, ← HLL.out, ← HN1.out]; rfl
             rw [e1, List.map_append, List.map_append, List.map_cons, List.map_nil, HX.out]
             exact hown4)
           have HH4 : Hid (Calls Try.prog 34 #[.slice A0 n0 c0, .slice A4 (l + n1 + 1) c4] w4 fun e w' => e = .returned (.agg (O.map u8v).toArray) ∧ Below w4.heap.size w4 w') := by
             have := rhmac_c s (L ++ info ++ [x]) A0 A4 n0 c0 (l + n1 + 1) c4 w4 (HSR.out.below HB4.out) HS4.out hl0 (by omega)
             rw [← HOF.out] at this
             exact this
           clear hown4 hg4 hv4)
        | (go_at_call 34
           refine HH4.out.mono ?_
           rintro e0 w5 ⟨rfl, hb5⟩
           have HB5 : Hid (Below wr.heap.size wr w5) := bcall HB4.out hb5
           have HU5 : Hid (UB (w5.alloc (.cells (z32.map u8v).toArray 24)) w5.heap.size 24 z32) := Blk.new _ _ _
           have HTH : Hid ((w5.alloc (.cells (z32.map u8v).toArray 24)).there w5.heap.size 0 (O.map u8v).toArray.size) := there32 HU5.out rfl HOL.out
           clear hb5)
        | ((with_reducible show wpList _ _ _ (⟨none, .store 24 (.tmp 11) (.tmp 34), _, _, _, _⟩ :: _) _ _); refine wpList_store_mid rfl 24 (.tmp 11) (.tmp 34) rfl w5.heap.size 0 (O.map u8v).toArray rfl rfl HTH.out HJ.out (bytes_one _) ?_))
      obtain ⟨w6, hw6⟩ : ∃ w6, w6 = (w5.alloc (.cells (z32.map u8v).toArray 24)).setCells w5.heap.size 0 (O.map u8v) := ⟨_, rfl⟩
      change Code.wp _ _ _ _ ((w5.alloc (.cells (z32.map u8v).toArray 24)).setCells w5.heap.size 0 (O.map u8v))
      have HU6 : Hid (UB w6 w5.heap.size 24 O) := by show UB _ _ _ _; rw [hw6]; exact blk_setAll HU5.out (by rw [List.length_map, HOL.out]; rfl)
      have hb6 : Below wr.heap.size wr w6 := by rw [hw6]; exact below_setCells (balloc HB5.out _) HB5.out.size _ _
      have HO6 : Hid (w6.ownsRow w.heap.size 5 1 (.slice Ao k co) k ((outE s info i).map u8v)) := own_below HO.out hb6
      have HB6 : Hid (Below w.heap.size w w6) := bcall HB.out hb6
      have HRD6 : Hid (Reads w6 w6.heap.size 1 (some ⟨w5.heap.size, 0, none⟩) 32 (O.map u8v)) := (SlV.arr HU6.out HOL.out).rd
      rw [← hw6]
      clear hw6 hb6 HU5 HTH HB5 HJ HO2 HB2 HIR2 HO3 HB3 HRD3 HBS3 HB4 HS4 HH4
      go_wp2_with
       (at_builtin
        refine wpList_append_any _ rfl (.tmp 36) (.tmp 37) _ rfl w.heap.size 5 i5 _ 1 1 Try.underlying27 hi5 hz0 hz1 hz2 rfl (by omega) (.slice Ao k co) k ((outE s info i).map u8v) rfl HO6.out
          _ (some ⟨w5.heap.size, 0, none⟩) 32 32 (O.map u8v) rfl HRD6.out (u8_one O) (by simp only [maxLen]; omega) (by omega) HB6.out.size ?_
        intro v7 w7 hown7 hg7 hv7
        obtain ⟨A7, c7, rfl⟩ := own_slice hown7
        have HO7 := Lib.hid hown7
        have HB7 : Hid (Below w.heap.size w w7) := own_grow_below HB6.out HO6.out hg7
        have HL7 : Hid (LastE w7 (.slice (some ⟨w5.heap.size, 0, none⟩) 32 32) O) := LastE.grown (.inr ⟨_, rfl, HU6.out, HOL.out⟩) HO6.out hg7
        clear hown7 hg7 hv7)
      go_roundg (256 - (i + 1))
      case measure => omega
      case rel =>
        have hk1 : k + 32 = 32 * (i + 1) := by have := HKI.out; omega
        refine ⟨i + 1, A7, c7, by omega, rfl, by rw [hk1], by rw [HJJ.out], by rw [← HOE.out]; exact HL7.out, ?_, HB7.out⟩
        have := HO7.out
        rw [hk1] at this
        rw [outE, List.map_append, ← HOE.out]
        exact this
    · have hki : ¬ (k : Int) < (n : Int) := by omega
      have hcap : n ≤ co := Nat.le_trans (by omega) (own_bound ho)
      obtain ⟨A', hct', hA'⟩ : ∃ A', (∀ wx : World, (Instr.slice 27 (.slice Ao k co) none (some (.int .i64 (n : Int))) (some (.int .i64 (n : Int)))).run Try.prog wx = .ok (.slice A' n n) wx) ∧ A' = cutA Ao n 0 := by
        refine ⟨_, fun wx => ?_, rfl⟩
        obtain ⟨A', h1, h2⟩ := cut_max wx Ao k co n hcap
        rw [← h2]
        exact h1
      have hrow : SlV wr (.slice Ao k co) (outE s info i) := SlV.own (show ByteRow wr w.heap.size (.slice Ao k co) (outE s info i) by unfold ByteRow; rw [outE_len, ← hk]; exact ho)
      have hcut := hrow.cutmax (k := n) (by omega)
      rw [← hA', ← expandS_at s info n i (by omega)] at hcut
      have HCUT := Lib.hid hcut
      clear hla hlr ho hb hL hk hl hrow hcut hA'
      go_wp2_with fail
      go_ret2
      exact ⟨A', n, rfl, HCUT.out, HB.out⟩
end Go.Proofs.Ytlapgccfgkokcaa
