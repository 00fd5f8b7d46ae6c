/- What the reference's Crypt returns (contract). Conditions: the round keys lie in memory, the bytes read, at most 1000. -/
import Derived.Test.YtklkehpcifnfkaaBSays
set_option linter.unusedVariables false
set_option linter.unusedSimpArgs false
namespace Go.Proofs.Ytklkehpcifnfkaa
open Go.RowKit
attribute [local go_sem ↓] Go.wp_at_zero Go.wp_at_succ

theorem own_put {w : World} {base e n c g : Nat} {xs : List Value} (h : w.ownsRow base e 1 (.slice (some ⟨g, 0, none⟩) n c) n xs) {k : Nat} (hk : k < n) (u : Value) :
    (w.setCell ⟨g, k, none⟩ u).ownsRow base e 1 (.slice (some ⟨g, 0, none⟩) n c) n (xs.set k u) := by
  rcases h.2 with ⟨h0, _⟩ | ⟨g', c', cur, h0, hb, hc, h1, h2, h3, h4⟩
  · cases h0
  · injection h0 with h0 _ h5
    injection h0 with h0
    injection h0 with h0
    subst h0 h5
    refine ⟨by rw [List.length_set]; exact h.1, .inr ⟨g, c, cur.setIfInBounds k u, rfl, hb, Blk.set_ hc k u, h1, h2, by simpa using h3, ?_⟩⟩
    rw [Array.toList_setIfInBounds, ← h4, List.take_set]
def Sd (w : World) (gk gf gx : Nat) (v : Value) (first : List UInt8) (o : Value) (L : List UInt8) (w' : World) : Prop :=
  Blk w' gk 31 (rkV v).toArray ∧ BB w' gf 23 first ∧ (∃ Z, Z.length = 16 ∧ BB w' gx 23 Z) ∧ ByteRow w' w.heap.size o L ∧ Below w.heap.size w w'
theorem Sd.call {w w' w'' : World} {gk gf gx : Nat} {v o : Value} {first L : List UInt8} (h : Sd w gk gf gx v first o L w') (hb : Below w'.heap.size w' w'') : Sd w gk gf gx v first o L w'' := by
  obtain ⟨h1, h2, ⟨Z, h3, h4⟩, h5, h6⟩ := h
  exact ⟨Blk.below h1 hb, h2.below hb, ⟨Z, h3, h4.below hb⟩, own_below h5 hb, bcall h6 hb⟩
theorem Sd.store {w w' : World} {gk gf gx : Nat} {v o : Value} {first L Y : List UInt8} (h : Sd w gk gf gx v first o L w') (hY : Y.length = 16) (h1 : gk ≠ gx) (h2 : gf ≠ gx) (h4 : w.heap.size ≤ gx) : Sd w gk gf gx v first o L (w'.setCells gx 0 (Y.map u8v)) := by
  obtain ⟨k1, k2, ⟨Z, k3, k4⟩, k5, k6⟩ := h
  exact ⟨Blk.farAll h1 _ _ _ k1, Blk.farAll h2 _ _ _ k2, ⟨Y, hY, BB.setAll k4 (by rw [hY, k3])⟩, own_setAll (own_blk_ne k5 k4 (by decide)) _ _ _ k5, below_setCells k6 h4 _ _⟩
theorem rcrypt_bad (f b : List UInt8) (K : List Value) (a : Int) (A : Option Addr) (n c : Nat) (w : World) (ha : a < 0 ∨ 1099511627776 < a) :
    Calls Try.prog 25 #[.agg K.toArray, .agg (f.map u8v).toArray, .int .i64 a, .slice A n c] w fun e w' => e = .returned (.tuple #[.slice none 0 0, .int .i64 1]) ∧ Below w.heap.size w w' := by
  have hb := balloc (balloc (Below.refl w.heap.size w) (.cells K.toArray 31)) (.cells (f.map u8v).toArray 23)
  have HB := Lib.hid hb
  clear hb
  go_enter Try.func25, Try.ntmps25
  rcases ha with h | h
  · go_wp2
    go_ret2
    exact ⟨rfl, HB.out⟩
  · by_cases h0 : a < 0
    · go_wp2
      go_ret2
      exact ⟨rfl, HB.out⟩
    · go_wp2
      go_ret2
      exact ⟨rfl, HB.out⟩
set_option maxRecDepth 100000 in
set_option maxHeartbeats 3200000 in
theorem rcrypt_c (W first b : List UInt8) (gR m cR last a n : Nat) (A : Option Addr) (c : Nat) (w : World) (hk : RKc w gR m W) (hm : m = last + 1) (hl1 : 1 ≤ last) (hl2 : last ≤ 60) (hf : first.length = 16) (ha : a ≤ 1099511627776) (hn : b.length = n) (hr : Reads w w.heap.size 1 A n (b.map u8v)) (hb : n ≤ 1000) :
    Calls Try.prog 25 #[.agg (rkV (.slice (some ⟨gR, 0, none⟩) m cR)).toArray, .agg (first.map u8v).toArray, .int .i64 (a : Int), .slice A n c] w fun e w' =>
      ∃ A' c', e = .returned (.tuple #[.slice A' n c', .int .i64 0]) ∧ ByteRow w' w.heap.size (.slice A' n c') (cryptS W first a b) ∧ Below w.heap.size w w' := by
  obtain ⟨i5, hi5, hz0, hz1, hz2⟩ := info_parts infoByte
  have HK := Lib.hid hk
  have HF := Lib.hid hf
  have HR := Lib.hid hr
  have HN := Lib.hid hn
  have HS : Hid (cryptS W first a b = (List.range n).map (cryptF W first a b)) := by show _ = _; rw [← hn]; rfl
  obtain ⟨F, hF⟩ : ∃ F, F = cryptF W first a b := ⟨_, rfl⟩
  rw [← hF] at HS
  have HFF := Lib.hid hF
  have ha0 : (0 : Int) ≤ (a : Int) := Int.natCast_nonneg a
  have hai : (a : Int) ≤ 1099511627776 := by omega
  have HB17 : Hid (∀ (x : List UInt8) (wx : World), x.length = 16 → Below w.heap.size w wx → Calls Try.prog 17 #[.agg (rkV (.slice (some ⟨gR, 0, none⟩) m cR)).toArray, .agg (x.map u8v).toArray] wx fun e w' => e = .returned (.agg ((blockS W x).map u8v).toArray) ∧ Below wx.heap.size wx w') := fun x wx hx hb => rblock_c x W gR m cR last wx hx (HK.out.below hb) hm hl1 hl2
  clear hk hf hr hn hF hm hl1 hl2
  go_enter Try.func25, Try.ntmps25
  go_upto_region 1 with (fail)
  obtain ⟨gk, hgk⟩ : ∃ gk, gk = w.heap.size := ⟨_, rfl⟩
  obtain ⟨gf, hgf⟩ : ∃ gf, gf = w.heap.size + 1 := ⟨_, rfl⟩
  have h0 : Blk ((w.alloc (.cells (rkV (.slice (some ⟨gR, 0, none⟩) m cR)).toArray 31)).alloc (.cells (first.map u8v).toArray 23)) w.heap.size 31 (rkV (.slice (some ⟨gR, 0, none⟩) m cR)).toArray := (Blk.new w 31 _).alloc _
  have h1 := BB.new (w.alloc (.cells (rkV (.slice (some ⟨gR, 0, none⟩) m cR)).toArray 31)) 23 first
  simp only [World.size_alloc] at h1
  have HBEL := Lib.hid (balloc (balloc (Below.refl w.heap.size w) (.cells (rkV (.slice (some ⟨gR, 0, none⟩) m cR)).toArray 31)) (.cells (first.map u8v).toArray 23))
  generalize ((w.alloc (.cells (rkV (.slice (some ⟨gR, 0, none⟩) m cR)).toArray 31)).alloc (.cells (first.map u8v).toArray 23)) = w1 at *
  rw [← hgf] at h1 ⊢
  rw [← hgk] at h0 ⊢
  have HK1 := Lib.hid h0
  have HF1 := Lib.hid h1
  have hgkl : w.heap.size ≤ gk := by omega
  have hgfl : w.heap.size ≤ gf := by omega
  clear h0 h1 hgk hgf
  go_upto_region 4 with (first
    | (at_builtin
       refine wpList_append_any _ rfl (.tmp 20) (.tmp 21) _ rfl w1.heap.size 5 i5 _ 1 1 Try.underlying22 hi5 hz0 hz1 hz2 rfl (by omega) (.slice (some ⟨w1.heap.size, 0, none⟩) 0 0) 0 [] rfl (own_empty w1 5 1)
         (w1.alloc (.cells #[] 5)).heap.size A n c (b.map u8v) rfl (HR.out.to_ (balloc HBEL.out _)) (u8_one b) (by simp only [maxLen]; omega) (by omega) (by simp) ?_
       intro v1 w3 hown1 hg1 hat1
       rw [Nat.zero_add, List.nil_append] at hown1
       obtain ⟨A3, c3, rfl⟩ := own_slice hown1
       have HO3 : Hid (ByteRow w3 w.heap.size (.slice A3 n c3) b) := by show World.ownsRow _ _ _ _ _ _ _; rw [HN.out]; exact own_lower hown1 HBEL.out.size
       have hb3 := fresh_below hg1
       have HB3 := Lib.hid (bcall HBEL.out hb3)
       have HK3 := Lib.hid (HK1.out.below hb3)
       have HF3 := Lib.hid (HF1.out.below hb3)
       clear hown1 hg1 hat1 hb3))
  clear HK1 HF1 HBEL
  obtain ⟨gx, hgx⟩ : ∃ gx, gx = w3.heap.size := ⟨_, rfl⟩
  have hkx : gk < gx := by rw [hgx]; exact Blk.lt HK3.out
  have hfx : gf < gx := by rw [hgx]; exact Blk.lt HF3.out
  have HX4 : Hid (BB (w3.alloc (.cells (zero16.map u8v).toArray 23)) gx 23 zero16) := by show BB _ _ _ _; rw [hgx]; exact BB.new w3 23 zero16
  have HO4 := Lib.hid (show ByteRow (w3.alloc (.cells (zero16.map u8v).toArray 23)) _ _ _ from HO3.out.alloc (.cells (zero16.map u8v).toArray 23))
  have HK4 := Lib.hid (HK3.out.alloc (.cells (zero16.map u8v).toArray 23))
  have HF4 := Lib.hid (HF3.out.alloc (.cells (zero16.map u8v).toArray 23))
  have HB4 := Lib.hid (balloc HB3.out (.cells (zero16.map u8v).toArray 23))
  have HU0 : Hid (b = upTo n 0 F (fun i => b.getD i 0)) := by show _ = _; rw [upTo_zero, ← HN.out, list_range]
  go_wp2_with fail
  rw [← z16, ← hgx]
  generalize (w3.alloc (.cells (zero16.map u8v).toArray 23)) = w4 at *
  clear hgx HO3 HK3 HF3 HB3
  go_loopg [12] n (fun gg v12 wr => ∃ (k : Nat) (X : List UInt8), k ≤ n ∧ gg = n - k ∧ v12 = .int .i64 (k : Int) ∧ X.length = 16 ∧ (k = 0 ∨ X = strmS W first a (k - 1)) ∧ BB wr gx 23 X ∧ Blk wr gk 31 (rkV (.slice (some ⟨gR, 0, none⟩) m cR)).toArray ∧ BB wr gf 23 first ∧ ByteRow wr w.heap.size (.slice A3 n c3) (upTo n k F (fun i => b.getD i 0)) ∧ Below w.heap.size w wr)
  case atStart => exact ⟨0, zero16, by omega, rfl, rfl, rfl, .inl rfl, HX4.out, HK4.out, HF4.out, by rw [← HU0.out]; exact HO4.out, HB4.out⟩
  case round =>
    obtain ⟨k, X, hk, rfl, rfl, hXl, hX, hbx, hkb, hfb, hrow, hbel⟩ := hrel
    clear HX4 HK4 HF4 HO4 HB4
    by_cases hk2 : k < n
    · have hki : (k : Int) < (n : Int) := by omega
      obtain ⟨go, co, e3, _, hgo, hcl⟩ := row_form hrow (by rw [upTo_len]; omega)
      rw [upTo_len] at e3
      injection e3 with e3 _ e4
      subst e3 e4
      have co1 := hcl k (by rw [upTo_len]; exact hk2)
      rw [upTo_getD _ _ hk2, if_neg (by omega)] at co1
      obtain ⟨L, hL⟩ : ∃ L, L = upTo n k F (fun i => b.getD i 0) := ⟨_, rfl⟩
      rw [← hL] at hrow hcl
      obtain ⟨s, hs⟩ : ∃ s, s = a + k := ⟨_, rfl⟩
      obtain ⟨r, hrd⟩ : ∃ r, r = s % 16 := ⟨_, rfl⟩
      obtain ⟨q, hq⟩ : ∃ q, q = s / 16 := ⟨_, rfl⟩
      have hsi : (a : Int) + (k : Int) = (s : Int) := by omega
      have hws := wrap64 s (by omega)
      have hrem : (s : Int).tmod 16 = (r : Int) := by rw [hrd]; rfl
      have hquo : (s : Int).tdiv 16 = (q : Int) := by rw [hq]; rfl
      have hql : q < 1099511627776 := by omega
      have hwq := wrap64 q (by omega)
      have hwq2 : IntKind.u64.wrap (q : Int) = (q : Int) := by rw [wrapU]; omega
      have hr16 : r < 16 := by omega
      have hri : (r : Int) < 16 := by omega
      obtain ⟨Y, hY⟩ : ∃ Y, Y = strmS W first a k := ⟨_, rfl⟩
      have hYq : Y = blockS W (nextS first q) := by rw [hY, strmS, hq, hs]
      have hYl : Y.length = 16 := by rw [hYq]; exact blockS_len _ _
      have hsame : ¬ k = 0 → ¬ r = 0 → X = Y := fun h0 h1 => by
        rcases hX with h | h
        · exact absurd h h0
        · rw [h, hY]
          exact strmS_same W first a k (by omega) (by rw [← hs, ← hrd]; exact h1)
      obtain ⟨u, hu⟩ : ∃ u, u = b.getD k 0 := ⟨_, rfl⟩
      obtain ⟨v, hv⟩ : ∃ v, v = Y.getD r 0 := ⟨_, rfl⟩
      have hFk : F k = u ^^^ v := by rw [HFF.out, cryptF, ← hY, ← hu, ← hs, ← hrd, ← hv]
      rw [← hu] at co1
      have hxor := U8.xor u v
      obtain ⟨y, hy⟩ : ∃ y, y = u ^^^ v := ⟨_, rfl⟩
      rw [← hy] at hxor hFk
      have HU := Lib.hid hu
      have HQL : Hid (q < 18446744073709551616) := by show _ < _; omega
      have HBK : Hid (∀ wx, Below w.heap.size w wx → Calls Try.prog 17 #[.agg (rkV (.slice (some ⟨gR, 0, none⟩) m cR)).toArray, .agg ((nextS first q).map u8v).toArray] wx fun e w' => e = .returned (.agg (Y.map u8v).toArray) ∧ Below wx.heap.size wx w') := fun wx hb => by rw [hYq]; exact HB17.out _ wx (nextS_len _ _) hb
      have HYL := Lib.hid hYl
      have HXL := Lib.hid hXl
      have HSAME := Lib.hid hsame
      have HV := Lib.hid hv
      have HFK := Lib.hid hFk
      have HY := Lib.hid hY
      have HL := Lib.hid hL
      have HBX := Lib.hid hbx
      have HKB := Lib.hid hkb
      have HFB := Lib.hid hfb
      have HROW := Lib.hid hrow
      have HBEL := Lib.hid hbel
      clear hXl hX hbx hkb hfb hrow hbel hcl hs hrd hq hY hYq hYl hsame hu hv hFk hy hL co1 hgo
      obtain ⟨p, hp⟩ : ∃ p : Bool, p = decide (k = 0 ∨ r = 0) := ⟨_, rfl⟩
      have HP := Lib.hid hp
      clear hp
      go_upto_region 9 with (fail)
      go_cut [38] from 33 to 38 (fun v38 wx => v38 = .bool p ∧ wr = wx)
      case first =>
        by_cases h0 : k = 0
        · have hk0 : ((k : Int) == 0) = true := by rw [h0]; rfl
          have H0 := Lib.hid h0
          clear h0
          go_wp2
          go_meet
          exact ⟨by rw [HP.out, decide_eq_true (Or.inl H0.out)], rfl⟩
        · have hk0 : ((k : Int) == 0) = false := by rw [beq_eq_false_iff_ne]; omega
          have H0 := Lib.hid h0
          clear h0
          by_cases h1 : r = 0
          · have hr0 : ((r : Int) == 0) = true := by rw [h1]; rfl
            have H1 := Lib.hid h1
            clear h1
            go_wp2
            go_meet
            exact ⟨by rw [HP.out, decide_eq_true (Or.inr H1.out)], rfl⟩
          · have hr0 : ((r : Int) == 0) = false := by rw [beq_eq_false_iff_ne]; omega
            have H1 := Lib.hid h1
            clear h1
            go_wp2
            go_meet
            exact ⟨by rw [HP.out, decide_eq_false (by rintro (h | h); exact H0.out h; exact H1.out h)], rfl⟩
      case rest =>
        obtain ⟨rfl, rfl⟩ := hcut
        go_upto_if 38 with (fail)
        go_cut [] (fun wx => Sd w gk gf gx (.slice (some ⟨gR, 0, none⟩) m cR) first (.slice (some ⟨go, 0, none⟩) n c3) L wx ∧ BB wx gx 23 Y)
        case first =>
          have HPD := Lib.hid HP.out
          cases p with
          | true =>
            have HSD : Hid (Sd w gk gf gx (.slice (some ⟨gR, 0, none⟩) m cR) first (.slice (some ⟨go, 0, none⟩) n c3) L wr) := ⟨HKB.out, HFB.out, ⟨X, HXL.out, HBX.out⟩, HROW.out, HBEL.out⟩
            have KD : Hid (∀ w', Sd w gk gf gx (.slice (some ⟨gR, 0, none⟩) m cR) first (.slice (some ⟨go, 0, none⟩) n c3) L w' → Sd w gk gf gx (.slice (some ⟨gR, 0, none⟩) m cR) first (.slice (some ⟨go, 0, none⟩) n c3) L w'.drew) := fun w' h => h.call (bdrew (Below.refl _ _))
            have KC : Hid (∀ w' w'', Sd w gk gf gx (.slice (some ⟨gR, 0, none⟩) m cR) first (.slice (some ⟨go, 0, none⟩) n c3) L w' → Below w'.heap.size w' w'' → Sd w gk gf gx (.slice (some ⟨gR, 0, none⟩) m cR) first (.slice (some ⟨go, 0, none⟩) n c3) L w'') := fun w' w'' h hb => h.call hb
            have KS : Hid (∀ w', Sd w gk gf gx (.slice (some ⟨gR, 0, none⟩) m cR) first (.slice (some ⟨go, 0, none⟩) n c3) L w' → Sd w gk gf gx (.slice (some ⟨gR, 0, none⟩) m cR) first (.slice (some ⟨go, 0, none⟩) n c3) L (w'.setCells gx 0 (Y.map u8v))) := fun w' h => h.store HYL.out (by omega) (by omega) (by omega)
            have HLEN3 : Hid (16 = (Y.map u8v).toArray.size) := by show _ = _; rw [List.size_toArray, List.length_map, HYL.out]
            have HJ3 : Hid ((Try.prog.info? 23).map (·.size) = some (Y.map u8v).toArray.size) := by show _ = _; rw [List.size_toArray, List.length_map, HYL.out]; exact info23
            have hu := Try.underlying23
            have hu31 := Try.underlying31
            have hif : (Try.prog.info? 23).map (·.size) = some (first.map u8v).length := by rw [List.length_map, HF.out]; exact info23
            have hik : (Try.prog.info? 31).map (·.size) = some (rkV (.slice (some ⟨gR, 0, none⟩) m cR)).length := by rw [rkV_len]; exact info31
            clear HBX HKB HFB HROW HBEL
            go_upto_region 10 with (fail)
            refine wp_region_held_drew (S := Sd w gk gf gx (.slice (some ⟨gR, 0, none⟩) m cR) first (.slice (some ⟨go, 0, none⟩) n c3) L) (by kernel_rfl) (KD.out _ HSD.out) (fun hHeld => ?_)
            refine wpAnyH_takeAt (i := 0) (v := (.agg (rkV (.slice (some ⟨gR, 0, none⟩) m cR)).toArray)) rfl (by kernel_rfl) (by kernel_rfl) (by kernel_rfl) (fun _ _ _ h => h) rfl (yieldsIf_load_mid (by rfl) 31 _ rfl gk 0 rfl (rkV (.slice (some ⟨gR, 0, none⟩) m cR)) _ (fun w' hS => blk_range hS.1) hu31 rfl hik) hHeld ?_
            simp only [List.set_cons_zero, List.set_cons_succ]
            refine wpAnyH_takeAt (i := 1) (v := (.agg (first.map u8v).toArray)) rfl (by kernel_rfl) (by kernel_rfl) (by kernel_rfl) (fun _ _ _ h => h) rfl (yieldsIf_load_mid (by rfl) 23 _ rfl gf 0 rfl (first.map u8v) _ (fun w' hS => hS.2.1.range) hu rfl hif) hHeld ?_
            simp only [List.set_cons_zero, List.set_cons_succ]
            refine wpAnyH_takeAt (i := 2) (v := (.int .i64 (a : Int))) rfl (by kernel_rfl) (by kernel_rfl) (by kernel_rfl) (fun _ _ _ h => h) rfl (Or.inl ⟨by rfl, fun w' hS => ?_⟩) hHeld ?_
            · go_simp
            simp only [List.set_cons_zero, List.set_cons_succ]
            refine wpAnyH_takeAt (i := 3) (v := (.int .i64 (k : Int))) rfl (by kernel_rfl) (by kernel_rfl) (by kernel_rfl) (fun _ _ _ h => h) rfl (Or.inl ⟨by rfl, fun w' hS => ?_⟩) hHeld ?_
            · go_simp
            simp only [List.set_cons_zero, List.set_cons_succ]
            refine wpAnyH_takeAt (i := 4) (v := (.int .i64 (s : Int))) rfl (by kernel_rfl) (by kernel_rfl) (by kernel_rfl) (fun _ _ _ h => h) rfl (Or.inl ⟨by rfl, fun w' hS => ?_⟩) hHeld ?_
            · go_simp
            simp only [List.set_cons_zero, List.set_cons_succ]
            refine wpAnyH_takeAt (i := 5) (v := (.int .i64 (q : Int))) rfl (by kernel_rfl) (by kernel_rfl) (by kernel_rfl) (fun _ _ _ h => h) rfl (Or.inl ⟨by rfl, fun w' hS => ?_⟩) hHeld ?_
            · go_simp
            simp only [List.set_cons_zero, List.set_cons_succ]
            refine wpAnyH_takeAt (i := 6) (v := (.int .u64 (q : Int))) rfl (by kernel_rfl) (by kernel_rfl) (by kernel_rfl) (fun _ _ _ h => h) rfl (Or.inl ⟨by rfl, fun w' hS => ?_⟩) hHeld ?_
            · go_simp
            simp only [List.set_cons_zero, List.set_cons_succ]
            refine wpAnyH_ready (rs := [7]) (by kernel_rfl) (by simp) (AllReadyH.cons rfl (fun K' hK => ?_) AllReadyH.nil)
            go_simp
            go_at_call 27
            refine (rnext_c first q _ HF.out HQL.out).mono ?_
            rintro e0 w' ⟨rfl, hb⟩
            go_wp2_with fail
            refine hK.out _ _ (KC.out _ _ hHeld hb) (fun hHeld' => ?_)
            clear hK hHeld hb
            have hHeld := hHeld'
            clear hHeld'
            refine wpAnyH_ready (rs := [8]) (by kernel_rfl) (by simp) (AllReadyH.cons rfl (fun K' hK => ?_) AllReadyH.nil)
            go_simp
            go_at_call 17
            refine (HBK.out _ hHeld.2.2.2.2).mono ?_
            rintro e0 w' ⟨rfl, hb⟩
            go_wp2_with fail
            refine hK.out _ _ (KC.out _ _ hHeld hb) (fun hHeld' => ?_)
            clear hK hHeld hb
            have hHeld := hHeld'
            clear hHeld'
            obtain ⟨Z, hZl, hZ⟩ := hHeld.2.2.1
            have HTHS : Hid (w'.there gx 0 (Y.map u8v).toArray.size) := there16 hZ (by rw [hZl]; exact HLEN3.out)
            have HFIN : Hid (BB (w'.setCells gx 0 (Y.map u8v)) gx 23 Y) := BB.setAll hZ (by rw [hZl, HYL.out])
            clear hZl hZ
            refine wpAnyH_ready (rs := [9]) (by kernel_rfl) (by simp) (AllReadyH.cons rfl (fun K' hK => ?_) AllReadyH.nil)
            rw [if_pos (by rfl)]
            refine wp_store_mid 23 (.tmp 11) (.tmp 47) (by rfl) gx 0 (Y.map u8v).toArray (by rfl) (by rfl) HTHS.out HJ3.out (bytes_one _) ?_
            refine hK.out _ _ (KS.out _ hHeld) (fun hHeld' => ?_)
            clear hK hHeld
            have hHeld := hHeld'
            clear hHeld'
            refine wpAnyH_putNone rfl ?_
            refine wpAnyH_done (by kernel_rfl) ?_ _
            go_wp2_with fail
            go_meet
            exact ⟨hHeld, HFIN.out⟩
          | false =>
            have hd := of_decide_eq_false HPD.out.symm
            have hXY : X = Y := HSAME.out (fun h => hd (Or.inl h)) (fun h => hd (Or.inr h))
            have HXY : Hid (BB wr gx 23 Y) := by show BB _ _ _ _; rw [← hXY]; exact HBX.out
            clear hXY hd
            go_wp2_with fail
            go_meet
            exact ⟨⟨HKB.out, HFB.out, ⟨X, HXL.out, HBX.out⟩, HROW.out, HBEL.out⟩, HXY.out⟩
        case rest =>
          obtain ⟨⟨hkb, hfb, _, hrow, hbel⟩, hby⟩ := hcut
          obtain ⟨hgo, hgb, hcl⟩ := row_at hrow (by rw [HL.out, upTo_len]; omega)
          have cb := hcl k (by rw [HL.out, upTo_len]; exact hk2)
          rw [HL.out, upTo_getD _ _ hk2, if_neg (by omega)] at cb
          rw [← HU.out] at cb
          have cy := hby.cell r (by rw [HYL.out]; exact hr16)
          rw [← HV.out] at cy
          have fo : wc.frozen? ⟨go, k, none⟩ = false := by
            rcases hrow.2 with ⟨h0, _⟩ | ⟨g', c', cur, h0, _, hc, _⟩
            · cases h0
            · injection h0 with h0
              injection h0 with h0
              injection h0 with h0
              subst h0
              exact Blk.frozen hc k
          have hgx : go ≠ gx := fun e => own_blk_ne hrow hby (by decide) (by rw [e]; rfl)
          have hgk : go ≠ gk := fun e => own_blk_ne hrow hkb (by decide) (by rw [e]; rfl)
          have hgf : go ≠ gf := fun e => own_blk_ne hrow hfb (by decide) (by rw [e]; rfl)
          have hrow2 : wc.ownsRow w.heap.size 5 1 (.slice (some ⟨go, 0, none⟩) n c3) n (L.map u8v) := by
            have := hrow
            unfold ByteRow at this
            rw [show L.length = n by rw [HL.out, upTo_len]] at this
            exact this
          have hnew := own_put hrow2 hk2 (.int .u8 (y.toNat : Int))
          have HNEW : Hid (ByteRow (wc.setCell ⟨go, k, none⟩ (.int .u8 (y.toNat : Int))) w.heap.size (.slice (some ⟨go, 0, none⟩) n c3) (upTo n (k + 1) F (fun i => b.getD i 0))) := by
            show World.ownsRow _ _ _ _ _ _ _
            rw [upTo_len, ← upTo_set F _ hk2, HFK.out, ← HL.out, List.map_set]
            exact hnew
          have HKB2 := Lib.hid (Blk.far hkb (p := ⟨go, k, none⟩) (Ne.symm hgk) (.int .u8 (y.toNat : Int)))
          have HFB2 := Lib.hid (BB.far hfb (p := ⟨go, k, none⟩) (Ne.symm hgf) (.int .u8 (y.toNat : Int)))
          have HBY2 := Lib.hid (BB.far hby (p := ⟨go, k, none⟩) (Ne.symm hgx) (.int .u8 (y.toNat : Int)))
          have HB2 := Lib.hid (bdrew (bset (p := ⟨go, k, none⟩) hbel hgb (.int .u8 (y.toNat : Int))))
          clear hkb hfb hrow hbel hby hcl hgx hgk hgf hrow2 hnew HBX HKB HFB HROW HBEL
          go_upto_region 11 with (fail)
          go_still_tail 11, (by kernel_rfl)
          change wpList _ _ _ _ _ wc.drew
          go_wp2_with fail
          go_roundg (n - (k + 1))
          case measure => omega
          case rel =>
            exact ⟨k + 1, Y, by omega, rfl, by go_num, HYL.out, .inr (by rw [Nat.add_sub_cancel]; exact HY.out), HBY2.out, HKB2.out, HFB2.out, HNEW.out, HB2.out⟩
    · have hk3 : k = n := by omega
      subst hk3
      have HE : Hid (ByteRow wr w.heap.size (.slice A3 k c3) (cryptS W first a b)) := by show ByteRow _ _ _ _; rw [HS.out, ← upTo_full k F (fun i => b.getD i 0)]; exact hrow
      have HBEL := Lib.hid hbel
      clear hX hbx hkb hfb hrow hbel
      go_wp2
      go_ret2
      exact ⟨A3, c3, rfl, HE.out, HBEL.out⟩
end Go.Proofs.Ytklkehpcifnfkaa
