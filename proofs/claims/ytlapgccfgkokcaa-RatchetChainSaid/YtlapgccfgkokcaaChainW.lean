/- RatchetChain returns true (walk). Conditions: the base and the moves lie in memory. (Printed by gen1Z.py.) -/
import Derived.Test.YtlapgccfgkokcaaRAfterW
import Derived.Test.YtlapgccfgkokcaaChain
set_option linter.unusedVariables false
set_option linter.unusedSimpArgs false
namespace Go.Proofs.Ytlapgccfgkokcaa
open Go.RowKit
attribute [local go_sem ↓] Go.wp_at_zero Go.wp_at_succ

/-- A chain that began at st with base b, and stands at s. -/
def ChSt (w0 w : World) (b : List UInt8) (st p s : Nat) : Prop :=
  w0.heap.size ≤ p ∧ st ≤ s ∧ s ≤ 31 ∧ (∃ A n c, n ≤ 140737488353000 ∧ Blk w p 94 #[.int .i64 (s : Int), .slice A n c] ∧ SlV w (.slice A n c) (iterS b (s - st))) ∧ Below w0.heap.size w0 w
section
variable {w0 w w' : World} {b : List UInt8} {st p s : Nat}
theorem ChSt.below (h : ChSt w0 w b st p s) (hb : Below w.heap.size w w') : ChSt w0 w' b st p s := by
  obtain ⟨h1, h2, h3, ⟨A, n, c, h4, h5, h6⟩, h7⟩ := h
  exact ⟨h1, h2, h3, ⟨A, n, c, h4, h5.below hb, h6.below hb⟩, bcall h7 hb⟩
theorem below_drewN_of {n : Nat} (e : w' = w.drewN n) : Below w.heap.size w w' := by subst e; exact below_drewN (Below.refl _ _) n
theorem go_x1 (z : Int) (h : ChSt w0 w b st p s) (hz : z < 0 ∨ 31 < z) :
    Calls Try.prog 46 #[.pointer (some ⟨p, 0, none⟩), .int .i64 z] w fun e w' => e = .returned (.int .i64 1) ∧ ChSt w0 w' b st p s := by
  refine (go_bad p z w hz).mono ?_
  rintro e w' ⟨rfl, rfl⟩
  exact ⟨rfl, h⟩
theorem go_x9 (X : Nat) (h : ChSt w0 w b st p s) (hz : X ≤ 31) (hs : X < s) :
    Calls Try.prog 46 #[.pointer (some ⟨p, 0, none⟩), .int .i64 (X : Int)] w fun e w' => e = .returned (.int .i64 9) ∧ ChSt w0 w' b st p s := by
  obtain ⟨h1, h2, h3, ⟨A, n, c, h4, h5, h6⟩, h7⟩ := h
  refine (go_old p s X _ w h5 hz hs).mono ?_
  rintro e w' ⟨k, rfl, e2⟩
  exact ⟨rfl, ChSt.below ⟨h1, h2, h3, ⟨A, n, c, h4, h5, h6⟩, h7⟩ (below_drewN_of e2)⟩
theorem go_x0 (X : Nat) (h : ChSt w0 w b st p s) (hz : X ≤ 31) (hs : s ≤ X) (hb : b.length ≤ 140737488353000) :
    Calls Try.prog 46 #[.pointer (some ⟨p, 0, none⟩), .int .i64 (X : Int)] w fun e w' => e = .returned (.int .i64 0) ∧ ChSt w0 w' b st p X := by
  obtain ⟨h1, h2, h3, ⟨A, n, c, h4, h5, h6⟩, h7⟩ := h
  refine (go_c (iterS b (s - st)) A n c p s X w h5 h6 (by omega) hz hs).mono ?_
  rintro e w' ⟨A', n', c', w1, rfl, hs1, hb1, rfl⟩
  have hB := h5.below hb1
  refine ⟨rfl, h1, by omega, hz, ⟨A', n', c', ?_, ?_, ?_⟩, ?_⟩
  · rw [hs1.num, iterS_add]
    have e1 : s - st + (X - s) = X - st := by omega
    rw [e1]
    cases X - st with
    | zero => exact hb
    | succ k => rw [iterS, nextS_len]; decide
  · exact (hB.set_ 0 _).set_ 1 _
  · have e1 : iterS (iterS b (s - st)) (X - s) = iterS b (X - st) := by rw [iterS_add, show s - st + (X - s) = X - st by omega]
    rw [e1] at hs1
    obtain ⟨A1, c1, e, hc, hr⟩ := hs1
    refine ⟨A1, c1, e, hc, hr.1, fun hn => ?_⟩
    obtain ⟨ad, e1, hbd, hcell⟩ := hr.2 hn
    refine ⟨ad, e1, by rw [World.size_setCell, World.size_setCell]; exact hbd, fun j u hu => ?_⟩
    have hj := hcell j u hu
    have hne : (ad.add j).block ≠ p := by
      intro e2
      subst e1
      have hul : u ∈ (iterS b (X - st)).map u8v := List.mem_of_getElem? hu
      obtain ⟨x, _, rfl⟩ := List.mem_map.1 hul
      obtain ⟨g, o, e3⟩ : ∃ g o, ad.add j = ⟨g, o, none⟩ := by
        have hsp := World.cell?_spot hj
        generalize ad.add j = q at hsp
        obtain ⟨g, o, sp⟩ := q
        have hsp' : sp = none := hsp
        exact ⟨g, o, by rw [hsp']⟩
      rw [e3] at hj e2
      have e4 : g = p := e2
      subst e4
      rw [Blk.cell hB o] at hj
      match o, hj with
      | 0, hj => simp [u8v] at hj
      | 1, hj => simp [u8v] at hj
      | o + 2, hj => simp at hj
    rw [World.cell?_setCell_other _ _ _ _ (fun e => hne (by first | exact (congrArg Addr.block e) | exact (congrArg Addr.block e).symm)), World.cell?_setCell_other _ _ _ _ (fun e => hne (by first | exact (congrArg Addr.block e) | exact (congrArg Addr.block e).symm))]
    exact hj
  · exact bset (bset (bcall h7 hb1) (p := ⟨p, 0, none⟩) h1 _) (p := ⟨p, 1, none⟩) h1 _
theorem at_x1 (z : Int) (h : ChSt w0 w b st p s) (hz : z < 0 ∨ 31 < z) :
    Calls Try.prog 45 #[.pointer (some ⟨p, 0, none⟩), .int .i64 z] w fun e w' => e = .returned (.tuple #[.slice none 0 0, .int .i64 1]) ∧ ChSt w0 w' b st p s := by
  refine (at_bad p z w hz).mono ?_
  rintro e w' ⟨rfl, rfl⟩
  exact ⟨rfl, h⟩
theorem at_x9 (X : Nat) (h : ChSt w0 w b st p s) (hz : X ≤ 31) (hs : X < s) :
    Calls Try.prog 45 #[.pointer (some ⟨p, 0, none⟩), .int .i64 (X : Int)] w fun e w' => e = .returned (.tuple #[.slice none 0 0, .int .i64 9]) ∧ ChSt w0 w' b st p s := by
  obtain ⟨h1, h2, h3, ⟨A, n, c, h4, h5, h6⟩, h7⟩ := h
  refine (at_old p s X _ w h5 hz hs).mono ?_
  rintro e w' ⟨k, rfl, e2⟩
  exact ⟨rfl, ChSt.below ⟨h1, h2, h3, ⟨A, n, c, h4, h5, h6⟩, h7⟩ (below_drewN_of e2)⟩
theorem at_x0 (X : Nat) (h : ChSt w0 w b st p s) (hz : X ≤ 31) (hs : s ≤ X) :
    Calls Try.prog 45 #[.pointer (some ⟨p, 0, none⟩), .int .i64 (X : Int)] w fun e w' => ∃ A' n' c', e = .returned (.tuple #[.slice A' n' c', .int .i64 0]) ∧ SlV w' (.slice A' n' c') (iterS b (X - st)) ∧ ChSt w0 w' b st p s := by
  have h' := h
  obtain ⟨h1, h2, h3, ⟨A, n, c, h4, h5, h6⟩, h7⟩ := h
  refine (at_c (iterS b (s - st)) A n c p s X w h5 h6 (by omega) hz hs).mono ?_
  rintro e w' ⟨A', n', c', rfl, hs1, hb1⟩
  refine ⟨A', n', c', rfl, ?_, h'.below hb1⟩
  rw [iterS_add, show s - st + (X - s) = X - st by omega] at hs1
  exact hs1
theorem step_x (h : ChSt w0 w b st p s) : Calls Try.prog 47 #[.pointer (some ⟨p, 0, none⟩)] w fun e w' => e = .returned (.int .i64 (s : Int)) ∧ w = w' := by
  obtain ⟨h1, h2, h3, ⟨A, n, c, h4, h5, h6⟩, h7⟩ := h
  exact step_c p s _ w h5
end
/-- A slice of moves that reads as ms. -/
def Mvs (w : World) (A : Option Addr) (ms : List (Bool × Int)) : Prop :=
  0 < ms.length → ∃ g o, A = some ⟨g, o, none⟩ ∧ g < w.heap.size ∧ ∀ i, i < ms.length → ∃ f x, w.cell? ⟨g, o + i * 2, none⟩ = some (.bool f) ∧ w.cell? ⟨g, o + i * 2 + 1, none⟩ = some (.int .i64 x) ∧ -9223372036854775808 ≤ x ∧ x ≤ 9223372036854775807
set_option maxRecDepth 100000 in
set_option maxHeartbeats 12800000 in
theorem chain_walk (ms : List (Bool × Int)) (b : List UInt8) (A0 A1 : Option Addr) (n0 c0 c1 : Nat) (z : Int) (w : World) (h0 : SlV w (.slice A0 n0 c0) b) (hl0 : n0 ≤ 140737488351232) (hm : Mvs w A1 ms) (hml : ms.length < 9223372036854775808) (hz1 : -9223372036854775808 ≤ z) (hz2 : z ≤ 9223372036854775807) :
    Calls Try.prog 20 #[.int .i64 z, .slice A0 n0 c0, .slice A1 ms.length c1] w fun e w' => e = .returned (.bool true) ∧ Below w.heap.size w w' := by
  have H0 := Lib.hid h0
  have HBL : Hid (b.length ≤ 140737488353000) := by show _ ≤ _; rw [← h0.num]; omega
  have HMV := Lib.hid hm
  obtain ⟨n, hnn⟩ : ∃ n, n = ms.length := ⟨_, rfl⟩
  have HN := Lib.hid hnn
  rw [← hnn] at hml
  rw [← hnn]
  clear h0 hm hnn
  by_cases hz : z < 0 ∨ 31 < z
  · have HCN := Lib.hid (cnew_bad A0 n0 c0 z w hz)
    have hq1 : decide (0 ≤ z) = false ∨ (decide (0 ≤ z) = true ∧ decide (z ≤ 31) = false) := by
      by_cases h : 0 ≤ z
      · right; exact ⟨by simpa using h, by simp; omega⟩
      · left; simpa using h
    by_cases hg : 0 ≤ z
    · have hg2 : 31 < z := by omega
      have hg3 : decide (z ≤ 31) = false := by simp; omega
      clear hz hq1
      go_enter Try.func20, Try.ntmps20
      go_wp2_with (first
        | (go_at_call 44
           refine HCN.out.mono ?_
           rintro e0 w1 ⟨rfl, rfl⟩)
        | (go_at_call 41
           refine (awake4_c w).mono ?_
           rintro e0 w2 ⟨rfl, hb2⟩
           have HB2 : Hid (Below w.heap.size w w2) := hb2
           clear hb2))
      go_ret
      exact ⟨rfl, HB2.out⟩
    · have hg2 : z < 0 := by omega
      clear hz hq1
      go_enter Try.func20, Try.ntmps20
      go_wp2_with (first
        | (go_at_call 44
           refine HCN.out.mono ?_
           rintro e0 w1 ⟨rfl, rfl⟩)
        | (go_at_call 41
           refine (awake4_c w).mono ?_
           rintro e0 w2 ⟨rfl, hb2⟩
           have HB2 : Hid (Below w.heap.size w w2) := hb2
           clear hb2))
      go_ret
      exact ⟨rfl, HB2.out⟩
  · obtain ⟨st, rfl⟩ : ∃ st : Nat, z = (st : Int) := ⟨z.toNat, by omega⟩
    have hst : st ≤ 31 := by omega
    have hsti : (st : Int) ≤ 31 := by omega
    have HCN := Lib.hid (cnew_c b A0 n0 c0 st w H0.out (by omega) hst)
    clear hz hz1 hz2
    go_enter Try.func20, Try.ntmps20
    go_upto_region 9 with (first
      | (go_at_call 44
         refine HCN.out.mono ?_
         rintro e0 w1 ⟨p, A', c', rfl, hp1, hk1, hs1, hb1⟩
         have HCH1 : Hid (ChSt w w1 b st p st) := ⟨hp1, Nat.le_refl _, hst, ⟨A', n0, c', by omega, hk1, by rw [Nat.sub_self]; exact hs1⟩, hb1⟩
         clear hp1 hk1 hs1 hb1)
      | (go_at_call 41
         refine (awake4_c w1).mono ?_
         rintro e0 w2 ⟨rfl, hb2⟩
         have HCH2 : Hid (ChSt w w2 b st p st) := HCH1.out.below hb2
         clear hb2))
    go_loopg [10, 11] n (fun gg v10 v11 wx => ∃ i s : Nat, i ≤ n ∧ gg = n - i ∧ v11 = .int .i64 (i : Int) ∧ v10 = .int .i64 (s : Int) ∧ s ≤ 31 ∧ st ≤ s ∧ ChSt w wx b st p s)
    case atStart => exact ⟨0, st, Nat.zero_le _, rfl, rfl, rfl, hst, Nat.le_refl _, HCH2.out⟩
    case round =>
      obtain ⟨i, s, hi, rfl, rfl, rfl, hs31, hsts, hch⟩ := hrel
      clear HCH2
      have HCH := Lib.hid hch
      have hbel : Below w.heap.size w wr := hch.2.2.2.2
      clear hch
      by_cases hgo : i < n ∧ i < 30
      · obtain ⟨hi2, hi30⟩ := hgo
        have hii : (i : Int) < (n : Int) := by omega
        have hij : (i : Int) < 30 := by omega
        obtain ⟨g, o, hA, hg, hcs⟩ := HMV.out (by rw [← HN.out]; omega)
        subst hA
        obtain ⟨fl, x, hcf, hcx, hx1, hx2⟩ := hcs i (by rw [← HN.out]; exact hi2)
        have hcf' : wr.cell? ⟨g, o + i * 2, none⟩ = some (.bool fl) := (hbel.cell (p := ⟨g, o + i * 2, none⟩) hg).trans hcf
        have hcx' : wr.cell? ⟨g, o + i * 2 + 1, none⟩ = some (.int .i64 x) := (hbel.cell (p := ⟨g, o + i * 2 + 1, none⟩) hg).trans hcx
        have HBE := Lib.hid hbel
        clear hcs hg hcf hcx hbel
        go_upto_region 13 with fail
        clear hcx'
        by_cases hx3 : x < 0
        · have HZ : Hid (x < 0 ∨ 31 < x) := .inl hx3
          cases fl with
          | true =>
            go_wp2_with (first
              | (go_at_call 46
                 refine (go_x1 x HCH.out HZ.out).mono ?_
                 rintro e0 w5 ⟨rfl, hch5⟩
                 have HCH5 := Lib.hid hch5
                 clear hch5)
              | (go_at_call 47
                 refine (step_x HCH5.out).mono ?_
                 rintro e0 wx ⟨rfl, rfl⟩))
            go_roundg (n - (i + 1))
            case measure => omega
            case rel => exact ⟨i + 1, s, by omega, rfl, by go_num, rfl, by omega, by omega, HCH5.out⟩
          | false =>
            go_wp2_with (first
              | (go_at_call 45
                 refine (at_x1 x HCH.out HZ.out).mono ?_
                 rintro e0 w5 ⟨rfl, hch5⟩
                 have HCH5 := Lib.hid hch5
                 clear hch5)
              | (go_at_call 47
                 refine (step_x HCH5.out).mono ?_
                 rintro e0 wx ⟨rfl, rfl⟩))
            go_roundg (n - (i + 1))
            case measure => omega
            case rel => exact ⟨i + 1, s, by omega, rfl, by go_num, rfl, by omega, by omega, HCH5.out⟩
        · by_cases hx4 : 31 < x
          · have HZ : Hid (x < 0 ∨ 31 < x) := .inr hx4
            cases fl with
            | true =>
              go_wp2_with (first
                | (go_at_call 46
                   refine (go_x1 x HCH.out HZ.out).mono ?_
                   rintro e0 w5 ⟨rfl, hch5⟩
                   have HCH5 := Lib.hid hch5
                   clear hch5)
                | (go_at_call 47
                   refine (step_x HCH5.out).mono ?_
                   rintro e0 wx ⟨rfl, rfl⟩))
              go_roundg (n - (i + 1))
              case measure => omega
              case rel => exact ⟨i + 1, s, by omega, rfl, by go_num, rfl, by omega, by omega, HCH5.out⟩
            | false =>
              go_wp2_with (first
                | (go_at_call 45
                   refine (at_x1 x HCH.out HZ.out).mono ?_
                   rintro e0 w5 ⟨rfl, hch5⟩
                   have HCH5 := Lib.hid hch5
                   clear hch5)
                | (go_at_call 47
                   refine (step_x HCH5.out).mono ?_
                   rintro e0 wx ⟨rfl, rfl⟩))
              go_roundg (n - (i + 1))
              case measure => omega
              case rel => exact ⟨i + 1, s, by omega, rfl, by go_num, rfl, by omega, by omega, HCH5.out⟩
          · obtain ⟨X, rfl⟩ : ∃ X : Nat, x = (X : Int) := ⟨x.toNat, by omega⟩
            have hX31 : X ≤ 31 := by omega
            clear hx1 hx2
            by_cases hXs : X < s
            · have hXi : (X : Int) < (s : Int) := by omega
              cases fl with
              | true =>
                go_wp2_with (first
                  | (go_at_call 46
                     refine (go_x9 X HCH.out hX31 hXs).mono ?_
                     rintro e0 w5 ⟨rfl, hch5⟩
                     have HCH5 := Lib.hid hch5
                     clear hch5)
                  | (go_at_call 47
                     refine (step_x HCH5.out).mono ?_
                     rintro e0 wx ⟨rfl, rfl⟩))
                go_roundg (n - (i + 1))
                case measure => omega
                case rel => exact ⟨i + 1, s, by omega, rfl, by go_num, rfl, by omega, by omega, HCH5.out⟩
              | false =>
                go_wp2_with (first
                  | (go_at_call 45
                     refine (at_x9 X HCH.out hX31 hXs).mono ?_
                     rintro e0 w5 ⟨rfl, hch5⟩
                     have HCH5 := Lib.hid hch5
                     clear hch5)
                  | (go_at_call 47
                     refine (step_x HCH5.out).mono ?_
                     rintro e0 wx ⟨rfl, rfl⟩))
                go_roundg (n - (i + 1))
                case measure => omega
                case rel => exact ⟨i + 1, s, by omega, rfl, by go_num, rfl, by omega, by omega, HCH5.out⟩
            · have hXi : ¬ (X : Int) < (s : Int) := by omega
              have hXs2 : s ≤ X := by omega
              cases fl with
              | true =>
                go_wp2_with (first
                  | (go_at_call 46
                     refine (go_x0 X HCH.out hX31 hXs2 HBL.out).mono ?_
                     rintro e0 w5 ⟨rfl, hch5⟩
                     have HCH5 := Lib.hid hch5
                     clear hch5)
                  | (go_at_call 47
                     refine (step_x HCH5.out).mono ?_
                     rintro e0 wx ⟨rfl, rfl⟩))
                go_roundg (n - (i + 1))
                case measure => omega
                case rel => exact ⟨i + 1, X, by omega, rfl, by go_num, rfl, by omega, by omega, HCH5.out⟩
              | false =>
                obtain ⟨k, hk⟩ : ∃ k, k = X - st := ⟨_, rfl⟩
                have hki : (X : Int) - (st : Int) = (k : Int) := by omega
                have hk31 : k ≤ 31 := by omega
                have HK := Lib.hid hk
                clear hk
                go_wp2_with (first
                  | (go_at_call 45
                     refine (at_x0 X HCH.out hX31 hXs2).mono ?_
                     rintro e0 w4 ⟨A4, n4, c4, rfl, hs4, hch4⟩
                     rw [← HK.out] at hs4
                     have HS4 := Lib.hid hs4
                     have HCH4 := Lib.hid hch4
                     clear hs4 hch4)
                  | (go_at_call 43
                     refine (rafter_c b A0 n0 c0 k w4 (H0.out.below HCH4.out.2.2.2.2) (by omega) hk31).mono ?_
                     rintro e0 w5 ⟨A5, n5, c5, rfl, hs5, hb5⟩
                     have HS5 := Lib.hid hs5
                     have HS45 := Lib.hid (HS4.out.below hb5)
                     have HCH5 := Lib.hid (HCH4.out.below hb5)
                     clear hs5 hb5)
                  | (go_at_call 40
                     refine (same_t HS45.out HS5.out).mono ?_
                     rintro e0 wx ⟨rfl, rfl⟩)
                  | (go_at_call 47
                     refine (step_x HCH5.out).mono ?_
                     rintro e0 wx ⟨rfl, rfl⟩))
                go_roundg (n - (i + 1))
                case measure => omega
                case rel => exact ⟨i + 1, s, by omega, rfl, by go_num, rfl, by omega, by omega, HCH5.out⟩
      · have HB : Hid (Below w.heap.size w wr) := hbel
        clear hbel
        by_cases hi2 : i < n
        · have hii : (i : Int) < (n : Int) := by omega
          have hij : ¬ (i : Int) < 30 := by omega
          clear hgo
          go_wp2_with fail
          go_ret
          exact ⟨rfl, HB.out⟩
        · have hii : ¬ (i : Int) < (n : Int) := by omega
          clear hgo
          go_wp2_with fail
          go_ret
          exact ⟨rfl, HB.out⟩
end Go.Proofs.Ytlapgccfgkokcaa
