/- What the stream law's key and the program's Crypt return (contracts). Conditions: the key lies in memory, the bytes read, at most 1000. -/
import Derived.Test.YtklkehpcifnfkaaNextW
import Derived.Test.YtklkehpcifnfkaaKnown
set_option linter.unusedVariables false
namespace Go.Proofs.Ytklkehpcifnfkaa
open Go.RowKit
attribute [local go_sem ↓] Go.wp_at_zero Go.wp_at_succ

/-- A key in memory, however many rounds. -/
def KeyP (w : World) (g : Nat) (W : List UInt8) : Prop := ∃ B n last, KeyIs w B g W n ∧ n = 4 * (last + 1) ∧ 1 ≤ last ∧ last ≤ 60
theorem KeyP.below {w w' : World} {g : Nat} {W : List UInt8} (h : KeyP w g W) (hb : Below w.heap.size w w') : KeyP w' g W := by
  obtain ⟨B, n, last, hk, h1, h2, h3⟩ := h
  exact ⟨B, n, last, hk.below hb, h1, h2, h3⟩
theorem block_p (x W : List UInt8) (g : Nat) (w : World) (hx : x.length = 16) (hk : KeyP w g W) :
    Calls Try.prog 16 #[.pointer (some ⟨g, 0, none⟩), .agg (x.map u8v).toArray] w fun e w' => e = .returned (.agg ((blockS W x).map u8v).toArray) ∧ Below w.heap.size w w' := by
  obtain ⟨B, n, last, hk, h1, h2, h3⟩ := hk
  exact block_c x W B g n last w hx hk h1 h2 h3
theorem key_c (b : List UInt8) (A : Option Addr) (c : Nat) (w : World) (hb : b.length = 16 ∨ b.length = 32) (hr : Reads w w.heap.size 1 A b.length (b.map u8v)) (hc : b.length ≤ c) :
    Calls Try.prog 22 #[.slice A b.length c] w fun e w' => e = .returned (.pointer (some ⟨w.heap.size, 0, none⟩)) ∧ KeyP w' w.heap.size (keyS b) ∧ Below w.heap.size w w' := by
  have hnew := new_c b A c w hb hr hc
  have HN := Lib.hid hnew
  have hl : ∃ last, 4 * (b.length / 4 + 7) = 4 * (last + 1) ∧ 1 ≤ last ∧ last ≤ 60 := by rcases hb with h | h <;> rw [h] <;> exact ⟨_, rfl, by decide, by decide⟩
  have HL := Lib.hid hl
  clear hnew hb hr hc hl
  go_enter Try.func22, Try.ntmps22
  go_wp2_with fail
  refine HN.out.mono ?_
  rintro e0 w1 ⟨rfl, hk, hb1⟩
  go_wp2
  go_ret
  obtain ⟨last, h1, h2, h3⟩ := HL.out
  exact ⟨rfl, ⟨_, _, last, hk, h1, h2, h3⟩, hb1⟩
theorem key_bad (b : List UInt8) (A : Option Addr) (c : Nat) (w : World) (hb : ¬ (b.length = 16 ∨ b.length = 32)) :
    Calls Try.prog 22 #[.slice A b.length c] w fun e w' => e = .returned (.pointer none) ∧ w = w' := by
  have HN := Lib.hid (new_bad b A c w (by omega))
  clear hb
  go_enter Try.func22, Try.ntmps22
  go_wp2_with fail
  refine HN.out.mono ?_
  rintro e0 w1 ⟨rfl, rfl⟩
  go_wp2
  go_ret
  exact ⟨rfl, rfl⟩
def strmS (W first : List UInt8) (a i : Nat) : List UInt8 := blockS W (nextS first ((a + i) / 16))
def cryptF (W first : List UInt8) (a : Nat) (b : List UInt8) (i : Nat) : UInt8 := b.getD i 0 ^^^ (strmS W first a i).getD ((a + i) % 16) 0
def cryptS (W first : List UInt8) (a : Nat) (b : List UInt8) : List UInt8 := (List.range b.length).map (cryptF W first a b)
theorem cryptS_len (W first : List UInt8) (a : Nat) (b : List UInt8) : (cryptS W first a b).length = b.length := by simp [cryptS]
theorem strmS_same (W first : List UInt8) (a k : Nat) (hk : 0 < k) (h : (a + k) % 16 ≠ 0) : strmS W first a (k - 1) = strmS W first a k := by
  unfold strmS
  rw [show (a + (k - 1)) / 16 = (a + k) / 16 by omega]
theorem zeros_upTo (n : Nat) (f : Nat → UInt8) : zerosB n = upTo n 0 f (fun _ => 0) := by
  rw [upTo_zero, zerosB]
  simp [List.map_const']
theorem crypt_bad (f b : List UInt8) (P : Value) (a : Int) (A : Option Addr) (c : Nat) (w : World) (ha : a < 0 ∨ 1099511627776 < a) :
    Calls Try.prog 23 #[P, .agg (f.map u8v).toArray, .int .i64 a, .slice A b.length c] w fun e w' => e = .returned (.tuple #[.slice none 0 0, .int .i64 1]) ∧ Below w.heap.size w w' := by
  have hb := balloc (Below.refl w.heap.size w) (.cells (f.map u8v).toArray 23)
  go_enter Try.func23, Try.ntmps23
  rcases ha with h | h
  · go_wp2
    go_ret2
    exact ⟨rfl, hb⟩
  · by_cases h0 : a < 0
    · go_wp2
      go_ret2
      exact ⟨rfl, hb⟩
    · go_wp2
      go_ret2
      exact ⟨rfl, hb⟩
set_option maxRecDepth 100000 in
set_option maxHeartbeats 1600000 in
theorem crypt_c (W first b : List UInt8) (g a : Nat) (A : Option Addr) (c : Nat) (w : World) (hk : KeyP w g W) (hf : first.length = 16) (ha : a ≤ 1099511627776) (hr : Reads w w.heap.size 1 A b.length (b.map u8v)) (hb : b.length ≤ 1000) :
    Calls Try.prog 23 #[.pointer (some ⟨g, 0, none⟩), .agg (first.map u8v).toArray, .int .i64 (a : Int), .slice A b.length c] w fun e w' =>
      e = .returned (.tuple #[.slice (some ⟨w.heap.size + 1, 0, none⟩) b.length b.length, .int .i64 0]) ∧ BB w' (w.heap.size + 1) 5 (cryptS W first a b) ∧ Below w.heap.size w w' := by
  obtain ⟨n, hn⟩ : ∃ n, n = b.length := ⟨_, rfl⟩
  have HK := Lib.hid hk
  have HF := Lib.hid hf
  have HR : Hid (Reads w w.heap.size 1 A n (b.map u8v)) := by show Reads _ _ _ _ _ _; rw [hn]; exact hr
  have HN := Lib.hid hn
  rw [← hn] at hb ⊢
  have hmk := fun wx => run_make_bytes n hb wx
  have HS : Hid (cryptS W first a b = (List.range n).map (cryptF W first a b)) := by show _ = _; rw [hn]; rfl
  obtain ⟨F, hF⟩ : ∃ F, F = cryptF W first a b := ⟨_, rfl⟩
  rw [← hF] at HS
  have HFF := Lib.hid hF
  have ha0 : (0 : Int) ≤ (a : Int) := Int.natCast_nonneg a
  have hai : (a : Int) ≤ 1099511627776 := by omega
  clear hk hf hr hn hF
  go_enter Try.func23, Try.ntmps23
  go_wp2_with fail
  rw [← z16]
  have hB := ((BB.new w 23 first).alloc (.cells ((zerosB n).map u8v).toArray 5)).alloc (.cells (zero16.map u8v).toArray 23)
  have hO := (BB.new (w.alloc (.cells (first.map u8v).toArray 23)) 5 (zerosB n)).alloc (.cells (zero16.map u8v).toArray 23)
  have hZ := BB.new ((w.alloc (.cells (first.map u8v).toArray 23)).alloc (.cells ((zerosB n).map u8v).toArray 5)) 23 zero16
  simp only [World.size_alloc] at hO hZ
  have HB := Lib.hid hB
  have HO := Lib.hid hO
  have HZ := Lib.hid hZ
  have HBEL := Lib.hid (balloc (balloc (balloc (Below.refl w.heap.size w) (.cells (first.map u8v).toArray 23)) (.cells ((zerosB n).map u8v).toArray 5)) (.cells (zero16.map u8v).toArray 23))
  clear hB hO hZ hmk
  generalize (((w.alloc (.cells (first.map u8v).toArray 23)).alloc (.cells ((zerosB n).map u8v).toArray 5)).alloc (.cells (zero16.map u8v).toArray 23)) = w1 at *
  go_loopg [24] n (fun gg v24 wr => ∃ (k : Nat) (X : List UInt8), k ≤ n ∧ gg = n - k ∧ v24 = .int .i64 (k : Int) ∧ X.length = 16 ∧ (k = 0 ∨ X = strmS W first a (k - 1)) ∧ BB wr w.heap.size 23 first ∧ BB wr (w.heap.size + 1) 5 (upTo n k F (fun _ => 0)) ∧ BB wr (w.heap.size + 1 + 1) 23 X ∧ Below w.heap.size w wr)
  case atStart => exact ⟨0, zero16, by omega, rfl, rfl, rfl, .inl rfl, HB.out, by rw [← zeros_upTo]; exact HO.out, HZ.out, HBEL.out⟩
  case round =>
    obtain ⟨k, X, hk, rfl, rfl, hXl, hX, hb0, ho, hx, hbel⟩ := hrel
    have HXL := Lib.hid hXl
    have HXX := Lib.hid hX
    have HB0 := Lib.hid hb0
    have HO0 := Lib.hid ho
    have HX0 := Lib.hid hx
    have HBEL0 := Lib.hid hbel
    clear hXl hX hb0 ho hx hbel HB HO HZ HBEL
    by_cases hk2 : k < n
    · have hki : (k : Int) < (n : Int) := by omega
      obtain ⟨bb, off, rfl, hbb, hcell⟩ := head_cells (by have := HR.out; rwa [HN.out] at this) (by have := HN.out; omega)
      have cb := (HBEL0.out.cell (p := ⟨bb, off + k, none⟩) hbb).trans (hcell k (by have := HN.out; omega))
      have hbs := HBEL0.out.size
      have CB := Lib.hid cb
      have HBBL := Lib.hid hbb
      clear hcell cb hbs
      obtain ⟨s, hs⟩ : ∃ s, s = a + k := ⟨_, rfl⟩
      obtain ⟨r, hrd⟩ : ∃ r, r = s % 16 := ⟨_, rfl⟩
      obtain ⟨q, hq⟩ : ∃ q, q = s / 16 := ⟨_, rfl⟩
      have hsi : (a : Int) + (k : Int) = (s : Int) := by omega
      have hws := wrap64 s (by omega)
      have hrem : (s : Int).tmod 16 = (r : Int) := by rw [hrd]; rfl
      have hquo : (s : Int).tdiv 16 = (q : Int) := by rw [hq]; rfl
      have hql : q < 1099511627776 := by omega
      have hwq := wrap64 q (by omega)
      have hwq2 : IntKind.u64.wrap (q : Int) = (q : Int) := by rw [wrapU]; omega
      have hr16 : r < 16 := by omega
      have hri : (r : Int) < 16 := by omega
      obtain ⟨Y, hY⟩ : ∃ Y, Y = strmS W first a k := ⟨_, rfl⟩
      have hYq : Y = blockS W (nextS first q) := by rw [hY, strmS, hq, hs]
      have hYl : Y.length = 16 := by rw [hYq]; exact blockS_len _ _
      have hsame : ¬ k = 0 → ¬ r = 0 → X = Y := fun h0 h1 => by
        rcases HXX.out with h | h
        · exact absurd h h0
        · rw [h, hY]
          exact strmS_same W first a k (by omega) (by rw [← hs, ← hrd]; exact h1)
      obtain ⟨u, hu⟩ : ∃ u, u = b.getD k 0 := ⟨_, rfl⟩
      obtain ⟨v, hv⟩ : ∃ v, v = Y.getD r 0 := ⟨_, rfl⟩
      have hFk : F k = u ^^^ v := by rw [HFF.out, cryptF, ← hY, ← hu, ← hs, ← hrd, ← hv]
      rw [← hu] at CB
      have hxor := U8.xor u v
      obtain ⟨y, hy⟩ : ∃ y, y = u ^^^ v := ⟨_, rfl⟩
      rw [← hy] at hxor hFk
      have HYQ := Lib.hid hYq
      have HYL := Lib.hid hYl
      have HSAME := Lib.hid hsame
      have HV := Lib.hid hv
      have HFK := Lib.hid hFk
      have HY := Lib.hid hY
      clear hs hrd hq hY hYq hYl hsame hu hv hFk hy
      obtain ⟨p, hp⟩ : ∃ p : Bool, p = decide (k = 0 ∨ r = 0) := ⟨_, rfl⟩
      have HP := Lib.hid hp
      clear hp
      go_upto_region 8 with (fail)
      go_cut [35] from 27 to 36 (fun v35 wx => v35 = .bool p ∧ wr = wx)
      case first =>
        by_cases h0 : k = 0
        · have hk0 : ((k : Int) == 0) = true := by rw [h0]; rfl
          go_wp2
          go_meet
          exact ⟨by rw [HP.out, decide_eq_true (Or.inl h0)], rfl⟩
        · have hk0 : ((k : Int) == 0) = false := by rw [beq_eq_false_iff_ne]; omega
          by_cases h1 : r = 0
          · have hr0 : ((r : Int) == 0) = true := by rw [h1]; rfl
            go_wp2
            go_meet
            exact ⟨by rw [HP.out, decide_eq_true (Or.inr h1)], rfl⟩
          · have hr0 : ((r : Int) == 0) = false := by rw [beq_eq_false_iff_ne]; omega
            go_wp2
            go_meet
            exact ⟨by rw [HP.out, decide_eq_false (by rintro (h | h) <;> contradiction)], rfl⟩
      case rest =>
        obtain ⟨rfl, rfl⟩ := hcut
        go_upto_if 35 with (fail)
        go_cut [] (fun wx => BB wx w.heap.size 23 first ∧ BB wx (w.heap.size + 1) 5 (upTo n k F (fun _ => 0)) ∧ BB wx (w.heap.size + 1 + 1) 23 Y ∧ Below w.heap.size w wx)
        case first =>
          have HPD := Lib.hid HP.out
          cases p with
          | true =>
            have HRG := Lib.hid (HB0.out.range)
            have HI : Hid ((Try.prog.info? 23).map (·.size) = some (first.map u8v).length) := by show _ = _; rw [List.length_map, HF.out]; exact info23
            have HJ : Hid ((Try.prog.info? 23).map (·.size) = some (Y.map u8v).toArray.size) := by show _ = _; rw [List.size_toArray, List.length_map, HYL.out]; exact info23
            go_wp2_with (first
              | (refine wpList_load_mid rfl 23 (.tmp 5) rfl w.heap.size 0 rfl (first.map u8v) _ HRG.out Try.underlying23 rfl HI.out ?_)
              | (go_at_call 24; refine (next_c first q wr HF.out (by omega)).mono ?_
                 rintro e0 w2 ⟨rfl, hb2⟩
                 have HD2 := Lib.hid (bcall HBEL0.out hb2)
                 have HB2 := Lib.hid (HB0.out.below hb2)
                 have HO2 := Lib.hid (HO0.out.below hb2)
                 have HX2 := Lib.hid (HX0.out.below hb2)
                 clear hb2)
              | (go_at_call 16
                 have hbk := block_p (nextS first q) W g w2 (nextS_len _ _) (HK.out.below HD2.out)
                 rw [← HYQ.out] at hbk
                 refine hbk.mono ?_
                 rintro e0 w3 ⟨rfl, hb3⟩
                 have HD3 := Lib.hid (bcall HD2.out hb3)
                 have HB3 := Lib.hid (HB2.out.below hb3)
                 have HO3 := Lib.hid (HO2.out.below hb3)
                 have HX3 := Lib.hid (HX2.out.below hb3)
                 have HTH : Hid (w3.there (w.heap.size + 1 + 1) 0 (Y.map u8v).toArray.size) := there16 HX3.out (by rw [HXL.out, List.size_toArray, List.length_map, HYL.out])
                 clear hbk hb3)
              | (refine wpList_store_mid rfl 23 (.tmp 11) (.tmp 44) rfl (w.heap.size + 1 + 1) 0 (Y.map u8v).toArray rfl rfl HTH.out HJ.out (bytes_one _) ?_))
            go_meet
            exact ⟨Blk.farAll (by omega) _ _ _ HB3.out, Blk.farAll (by omega) _ _ _ HO3.out, BB.setAll HX3.out (by rw [HYL.out, HXL.out]), below_setCells HD3.out (by omega) _ _⟩
          | false =>
            have hd := of_decide_eq_false HPD.out.symm
            have hXY : X = Y := HSAME.out (fun h => hd (Or.inl h)) (fun h => hd (Or.inr h))
            have HXY : Hid (BB wr (w.heap.size + 1 + 1) 23 Y) := by show BB _ _ _ _; rw [← hXY]; exact HX0.out
            clear hXY hd
            go_wp2_with fail
            go_meet
            exact ⟨HB0.out, HO0.out, HXY.out, HBEL0.out⟩
        case rest =>
          obtain ⟨hb0, ho, hy, hbel⟩ := hcut
          have cb : wc.cell? ⟨bb, off + k, none⟩ = some (.int .u8 (u.toNat : Int)) := (hbel.cell (p := ⟨bb, off + k, none⟩) HBBL.out).trans ((HBEL0.out.cell (p := ⟨bb, off + k, none⟩) HBBL.out).symm.trans CB.out)
          have cy := hy.cell r (by rw [HYL.out]; exact hr16)
          rw [← HV.out] at cy
          have fo := ho.free k
          have co := ho.cell k (by rw [upTo_len]; exact hk2)
          have HB4 := Lib.hid hb0
          have HO4 := Lib.hid ho
          have HX4 := Lib.hid hy
          have HBEL4 := Lib.hid hbel
          clear hb0 ho hy hbel CB
          go_upto_region 10 with (fail)
          go_still_tail 14, (by kernel_rfl)
          change wpList _ _ _ _ _ wc.drew
          go_wp2_with fail
          go_roundg (n - (k + 1))
          case measure => omega
          case rel =>
            refine ⟨k + 1, Y, by omega, rfl, by go_num, HYL.out, .inr (by rw [Nat.add_sub_cancel]; exact HY.out), ?_, ?_, ?_, ?_⟩
            · exact BB.far HB4.out (by show w.heap.size ≠ w.heap.size + 1; omega) _
            · rw [← upTo_set F _ hk2, HFK.out]
              exact BB.set HO4.out k y
            · exact BB.far HX4.out (by show w.heap.size + 1 + 1 ≠ w.heap.size + 1; omega) _
            · exact bdrew (bset (p := ⟨w.heap.size + 1, k, none⟩) HBEL4.out (by show w.heap.size ≤ w.heap.size + 1; omega) _)
    · have hk3 : k = n := by omega
      subst hk3
      have HE : Hid (BB wr (w.heap.size + 1) 5 (cryptS W first a b)) := by show BB _ _ _ _; rw [HS.out, ← upTo_full k F (fun _ => 0)]; exact HO0.out
      go_wp2
      go_ret2
      exact ⟨rfl, HE.out, HBEL0.out⟩
end Go.Proofs.Ytklkehpcifnfkaa
