/- What the program's Next and the reference's return (contracts). Conditions: the arrays' lengths. -/
import Derived.Test.YtklkehpcifnfkaaNextS
import Derived.Test.YtklkehpcifnfkaaApartW
set_option linter.unusedVariables false
namespace Go.Proofs.Ytklkehpcifnfkaa
open Go.RowKit
attribute [local go_sem ↓] Go.wp_at_zero Go.wp_at_succ

theorem BB.reads_mid {w : World} {g : Nat} {t : TypeId} {l p q s : List UInt8} (h : BB w g t l) (e : l = p ++ q ++ s) : Reads w w.heap.size 1 (some ⟨g, p.length, none⟩) q.length (q.map u8v) :=
  ⟨by rw [List.length_map, Nat.mul_one], fun _ => ⟨_, rfl, h.lt, fun j u hj => by
    rw [Go.WideShapes.add_plain]
    have hjl : j < q.length := by
      rcases Nat.lt_or_ge j q.length with h1 | h1
      · exact h1
      · rw [List.getElem?_eq_none (by simpa using h1)] at hj
        cases hj
    have := h.range (p.length + j) u (by
      rw [e, List.map_append, List.map_append, List.getElem?_append_left (by simp; omega), List.getElem?_append_right (by simp), List.length_map, Nat.add_sub_cancel_left]
      exact hj)
    rwa [Nat.zero_add] at this⟩⟩
theorem wrapU (z : Int) : IntKind.u64.wrap z = z % 18446744073709551616 := by simp [IntKind.wrap, IntKind.bits, IntKind.signed]
theorem half_at (l : List UInt8) (A : Option Addr) (n c : Nat) (w : World) (k : Nat) (hr : Reads w w.heap.size 1 A l.length (l.map u8v)) (hl : l.length = 8) :
    Calls Try.prog 36 #[.slice A 8 c] (w.drewN k) fun e w' => e = .returned (.int .u64 (numS l : Int)) ∧ w' = w.drewN k :=
  (half_c l A c (w.drewN k) (hr.drewN k) hl).mono fun _ _ ⟨he, hw⟩ => ⟨he, hw.symm⟩
set_option maxRecDepth 100000 in
set_option maxHeartbeats 1600000 in
theorem next_c (x : List UInt8) (n : Nat) (w : World) (hx : x.length = 16) (hn : n < 18446744073709551616) :
    Calls Try.prog 24 #[.agg (x.map u8v).toArray, .int .u64 (n : Int)] w fun e w' => e = .returned (.agg ((nextS x n).map u8v).toArray) ∧ Below w.heap.size w w' := by
  have HX := Lib.hid hx
  have ex : x = [] ++ x.take 8 ++ x.drop 8 := by rw [List.nil_append, List.take_append_drop]
  have ex2 : x = x.take 8 ++ x.drop 8 ++ [] := by rw [List.append_nil, List.take_append_drop]
  have hl1 : (x.take 8).length = 8 := by rw [List.length_take, hx]; rfl
  have hl2 : (x.drop 8).length = 8 := by rw [List.length_drop, hx]
  have hnum : numS x = numS (x.take 8) * 18446744073709551616 + numS (x.drop 8) := by
    have := numS_append (x.take 8) (x.drop 8)
    rw [List.take_append_drop, hl2] at this
    exact this
  have hb1 := numS_lt' (x.take 8)
  have hb2 := numS_lt' (x.drop 8)
  rw [hl1] at hb1
  rw [hl2] at hb2
  have e64 : (256 : Nat) ^ 8 = 18446744073709551616 := by decide
  rw [e64] at hb1 hb2
  have EX := Lib.hid ex
  have EX2 := Lib.hid ex2
  have HL1 := Lib.hid hl1
  have HL2 := Lib.hid hl2
  clear hx ex ex2 hl1 hl2 e64
  go_enter Try.func24, Try.ntmps24
  go_upto_region 1 with (fail)
  rw [← z16]
  have hB := (BB.new w 23 x).alloc (.cells (zero16.map u8v).toArray 23)
  have hZ := BB.new (w.alloc (.cells (x.map u8v).toArray 23)) 23 zero16
  rw [World.size_alloc] at hZ
  have HB := Lib.hid hB
  have HZ := Lib.hid hZ
  have HBEL := Lib.hid (balloc (balloc (Below.refl w.heap.size w) (.cells (x.map u8v).toArray 23)) (.cells (zero16.map u8v).toArray 23))
  clear hB hZ
  generalize ((w.alloc (.cells (x.map u8v).toArray 23)).alloc (.cells (zero16.map u8v).toArray 23)) = w1 at *
  obtain ⟨V, hV⟩ : ∃ V, V = numS x + n := ⟨_, rfl⟩
  have HR : Hid (nextS x n = bytes16 V) := by show _ = _; rw [hV]; rfl
  have hr1 : ∀ k, Calls Try.prog 36 #[.slice (some ⟨w.heap.size, 0, none⟩) 8 16] (w1.drewN k) fun e w' => e = .returned (.int .u64 (numS (x.take 8) : Int)) ∧ w' = w1.drewN k := fun k => half_at (x.take 8) _ 8 16 w1 k (HB.out.reads_mid EX.out) HL1.out
  have hr2 : ∀ k, Calls Try.prog 36 #[.slice (some ⟨w.heap.size, 8, none⟩) 8 8] (w1.drewN k) fun e w' => e = .returned (.int .u64 (numS (x.drop 8) : Int)) ∧ w' = w1.drewN k := fun k => by
    have := half_at (x.drop 8) (some ⟨w.heap.size, 8, none⟩) 8 8 w1 k (by have := HB.out.reads_mid EX2.out; rwa [HL1.out] at this) HL2.out
    exact this
  obtain ⟨hi, hhi⟩ : ∃ hi, hi = numS (x.take 8) := ⟨_, rfl⟩
  obtain ⟨lo, hlo⟩ : ∃ lo, lo = numS (x.drop 8) := ⟨_, rfl⟩
  rw [← hhi] at hr1 hb1 hnum
  rw [← hlo] at hr2 hb2 hnum
  rw [hnum] at hV
  have HR1 := Lib.hid hr1
  have HR2 := Lib.hid hr2
  have HV := Lib.hid hV
  clear hr1 hr2 hhi hlo hnum hV
  go_quiet (first
    | (go_at_call_of 36 (Value.slice (some ⟨w.heap.size, 0, none⟩) 8 16); exact Calls.quiet_of_same (HR1.out _))
    | (go_at_call_of 36 (Value.slice (some ⟨w.heap.size, 8, none⟩) 8 8); exact Calls.quiet_of_same (HR2.out _)))
  have HB2 : Hid (BB (w1.drewN nq) w.heap.size 23 x) := HB.out
  have HZ2 : Hid (BB (w1.drewN nq) (w.heap.size + 1) 23 zero16) := HZ.out
  have HBEL2 : Hid (Below w.heap.size w (w1.drewN nq)) := below_drewN HBEL.out _
  generalize w1.drewN nq = w2 at *
  clear HB HZ HBEL HR1 HR2
  obtain ⟨L, hLd⟩ : ∃ L, L = (lo + n) % 18446744073709551616 := ⟨_, rfl⟩
  have hs : IntKind.u64.wrap ((lo : Int) + (n : Int)) = (L : Int) := by rw [wrapU]; omega
  obtain ⟨h', hhd⟩ : ∃ h', h' = (hi + 1) % 18446744073709551616 := ⟨_, rfl⟩
  have hs2 : IntKind.u64.wrap ((hi : Int) + (1 : Int)) = (h' : Int) := by rw [wrapU]; omega
  have hh' : h' < 18446744073709551616 := by omega
  have HHD := Lib.hid hhd
  clear hhd
  have hL : L < 18446744073709551616 := by omega
  have HLD := Lib.hid hLd
  clear hLd
  go_upto_if 16 with (fail)
  go_cut [5] (fun v5 wr => wr = w2 ∧ ∃ H : Nat, v5 = .int .u64 (H : Int) ∧ H < 18446744073709551616 ∧ H * 18446744073709551616 + L = V % 340282366920938463463374607431768211456)
  case first =>
    by_cases ho : lo ≤ L
    · have hlt : ¬ (L : Int) < (lo : Int) := by omega
      go_wp2
      go_meet
      exact ⟨rfl, hi, rfl, hb1, by have := HV.out; have := HLD.out; omega⟩
    · have hlt : (L : Int) < (lo : Int) := by omega
      go_wp2
      go_meet
      exact ⟨rfl, h', by go_num, hh', by have := HV.out; have := HLD.out; have := HHD.out; omega⟩
  case rest =>
    obtain ⟨rfl, H, rfl, hH, hHL⟩ := hcut
    have HHL := Lib.hid hHL
    clear HV HLD hb1 hb2 hHL hn
    go_wp2_with fail
    go_loopg [22] 8 (fun gg v22 wr => ∃ k : Nat, k ≤ 8 ∧ gg = 8 - k ∧ v22 = .int .i64 (k : Int) ∧ BB wr w.heap.size 23 (mapS (pairP x V k)) ∧ BB wr (w.heap.size + 1) 23 zero16 ∧ Below w.heap.size w wr)
    case atStart => exact ⟨0, by omega, rfl, rfl, by rw [pairP_zero x HX.out]; exact HB2.out, HZ2.out, HBEL2.out⟩
    case round =>
      obtain ⟨k, hk, rfl, rfl, hbx, hby, hbel⟩ := hrel
      have HBX := Lib.hid hbx
      have HBY := Lib.hid hby
      have HBEL3 := Lib.hid hbel
      by_cases hk2 : k < 8
      · have hki : (k : Int) < 8 := by omega
        obtain ⟨e8, he8⟩ : ∃ e8, e8 = 8 + k := ⟨_, rfl⟩
        obtain ⟨m8, hm8⟩ : ∃ m8, m8 = 8 * k := ⟨_, rfl⟩
        obtain ⟨s8, hs8⟩ : ∃ s8, s8 = 56 - 8 * k := ⟨_, rfl⟩
        have hadd : (8 : Int) + (k : Int) = (e8 : Int) := by omega
        have hmul : (8 : Int) * (k : Int) = (m8 : Int) := by omega
        have hsub : (56 : Int) - (m8 : Int) = (s8 : Int) := by omega
        have hw1 := wrap64 e8 (by omega)
        have hw2 := wrap64 m8 (by omega)
        have hw3 := wrap64 s8 (by omega)
        have hei : (e8 : Int) < 16 := by omega
        have hen : e8 < 16 := by omega
        have hk16 : (k : Int) < 16 := by omega
        have hsl : s8 < 64 := by omega
        have hb1 := hi_byte H L V k hk2 hL HHL.out
        have hb2 := lo_byte H L V k hk2 hL HHL.out
        rw [← hs8] at hb1 hb2
        obtain ⟨y, hy⟩ : ∃ y, y = UInt8.ofNat (V / 256 ^ (15 - k)) := ⟨_, rfl⟩
        obtain ⟨z, hz⟩ : ∃ z, z = UInt8.ofNat (V / 256 ^ (7 - k)) := ⟨_, rfl⟩
        have HS := Lib.hid (pairP_step x V k hk2)
        have HS' := Lib.hid (pairP_step' x V k hk2)
        rw [← hy] at hb1 HS HS'
        rw [← hz] at hb2 HS HS'
        rw [← he8] at HS HS'
        have fx := hbx.free k
        have fe := hbx.free e8
        have cx := hbx.cell k (by rw [mapS_len]; omega)
        have ce := hbx.cell e8 (by rw [mapS_len]; omega)
        have hne : ¬ k = e8 := by omega
        have hne2 : ¬ e8 = k := by omega
        have ce1 : ∀ u, (wr.setCell ⟨w.heap.size, k, none⟩ u).cell? ⟨w.heap.size, e8, none⟩ = wr.cell? ⟨w.heap.size, e8, none⟩ := fun u => World.cell?_setCell_other wr _ _ u (by intro h; injection h with _ h1; exact hne h1)
        have cx1 : ∀ u, (wr.setCell ⟨w.heap.size, e8, none⟩ u).cell? ⟨w.heap.size, k, none⟩ = wr.cell? ⟨w.heap.size, k, none⟩ := fun u => World.cell?_setCell_other wr _ _ u (by intro h; injection h with _ h1; exact hne2 h1)
        clear hbx hby hbel he8 hm8 hs8 hy hz
        go_upto_region 8 with (fail)
        go_region
        go_wp2_with fail
        go_roundg (8 - (k + 1))
        case measure => omega
        case rel =>
          refine ⟨k + 1, by omega, rfl, by go_num, ?_, ?_, ?_⟩
          · rw [← HS.out]
            exact BB.set (BB.set HBX.out k y) e8 z
          · exact BB.far (BB.far HBY.out (by show w.heap.size + 1 ≠ w.heap.size; omega) _) (by show w.heap.size + 1 ≠ w.heap.size; omega) _
          · exact bdrew (bset (p := ⟨w.heap.size, e8, none⟩) (bset (p := ⟨w.heap.size, k, none⟩) HBEL3.out (Nat.le_refl _) _) (Nat.le_refl _) _)
      · have hk3 : k = 8 := by omega
        subst hk3
        have HX2 : Hid (BB wr (w.heap.size) 23 (nextS x n)) := by show BB _ _ _ _; rw [HR.out, ← pairP_full x V]; exact HBX.out
        clear hbx hby hbel HBX
        have hrg := HX2.out.range
        have hinf : (Try.prog.info? 23).map (·.size) = some ((nextS x n).map u8v).length := by rw [List.length_map, nextS_len]; exact info23
        have HI := Lib.hid hinf
        have HRG := Lib.hid hrg
        have hth := there16 HBY.out zero16_len
        have HTH := Lib.hid hth
        have hsz : ((nextS x n).map u8v).toArray.size = 16 := by rw [List.size_toArray, List.length_map, nextS_len]
        have hi2 : (Try.prog.info? 23).map (·.size) = some ((nextS x n).map u8v).toArray.size := by rw [hsz]; exact info23
        have HI2 := Lib.hid hi2
        have hth2 : wr.there (w.heap.size + 1) 0 ((nextS x n).map u8v).toArray.size := by rw [hsz]; exact HTH.out
        have HTH2 := Lib.hid hth2
        clear hrg hinf hth hi2 hth2 hsz
        go_wp2_with (first
          | (refine wpList_load_mid rfl 23 (.tmp 2) rfl (w.heap.size) 0 rfl ((nextS x n).map u8v) _ HRG.out Try.underlying23 rfl HI.out ?_)
          | (refine wpList_store_mid rfl 23 (.tmp 4) (.tmp 43) rfl (w.heap.size + 1) 0 ((nextS x n).map u8v).toArray rfl rfl HTH2.out HI2.out (bytes_one _) ?_))
        have hload := run_loadVar_mid (P := Try.prog) (wr.setCells (w.heap.size + 1) 0 ((nextS x n).map u8v)) (w.heap.size + 1) 0 23 ((nextS x n).map u8v) _ (World.rangeAt_setCells_same _ _ _ _ (by have := HTH2.out; rwa [List.size_toArray] at this)) Try.underlying23 rfl HI.out
        refine bodyPost_ret (results_one rfl _ _ (w.heap.size + 1) _ rfl hload) rfl ⟨rfl, ?_⟩
        exact below_setCells HBEL3.out (Nat.le_succ _) _ _

def downP (x : List UInt8) (v m i : Nat) : UInt8 := if i < m then x.getD i 0 else UInt8.ofNat (v / 256 ^ (15 - i))
theorem downP_start (x : List UInt8) (hx : x.length = 16) (v : Nat) : mapS (downP x v 16) = x := by
  rw [show mapS (downP x v 16) = mapS (fun i => x.getD i 0) from mapS_congr fun i hi => by rw [downP, if_pos hi]]
  exact list16 hx
theorem downP_full (x : List UInt8) (v : Nat) : mapS (downP x v 0) = bytes16 v := mapS_congr fun i hi => by rw [downP, if_neg (Nat.not_lt_zero _)]
theorem downP_step (x : List UInt8) (v j : Nat) : (mapS (downP x v (j + 1))).set j (UInt8.ofNat (v / 256 ^ (15 - j))) = mapS (downP x v j) := by
  rw [mapS_set]
  refine mapS_congr fun i hi => ?_
  unfold downP
  by_cases h : i = j
  · subst h
    rw [if_pos rfl, if_neg (Nat.lt_irrefl _)]
  · rw [if_neg h]
    by_cases h2 : i < j
    · rw [if_pos (by omega), if_pos h2]
    · rw [if_neg (by omega), if_neg h2]
theorem and255 (n : Nat) (hn : n < 18446744073709551616) : bits .and .u64 (n : Int) 255 = ((n % 256 : Nat) : Int) := by
  have := bits_and_u64_nat n 255 hn (by decide)
  rw [show ((255 : Nat) : Int) = 255 from rfl] at this
  rw [this, show (255 : Nat) = 2 ^ 8 - 1 from rfl, Nat.and_two_pow_sub_one_eq_mod]
theorem carry_step (X N V c q : Nat) (a d s : Nat) (h : V / q = X / q + N + c) (ha : X / q % 256 = a) (hd : d = N % 256) (hs : s = a + d + c) :
    V / (q * 256) = X / (q * 256) + N / 256 + s / 256 ∧ s % 256 = V / q % 256 := by
  rw [← Nat.div_div_eq_div_mul, ← Nat.div_div_eq_div_mul, h]
  generalize X / q = A at *
  omega
set_option maxRecDepth 100000 in
set_option maxHeartbeats 1600000 in
theorem rnext_c (x : List UInt8) (n : Nat) (w : World) (hx : x.length = 16) (hn : n < 18446744073709551616) :
    Calls Try.prog 27 #[.agg (x.map u8v).toArray, .int .u64 (n : Int)] w fun e w' => e = .returned (.agg ((nextS x n).map u8v).toArray) ∧ Below w.heap.size w w' := by
  have HX := Lib.hid hx
  obtain ⟨V, hV⟩ : ∃ V, V = numS x + n := ⟨_, rfl⟩
  have HR : Hid (nextS x n = bytes16 V) := by show _ = _; rw [hV]; rfl
  have HV := Lib.hid hV
  clear hx hV
  go_enter Try.func27, Try.ntmps27
  go_wp2_with fail
  rw [← z16]
  go_loopg [1, 5, 6] 16 (fun gg v1 v5 v6 wr => ∃ m N c : Nat, m ≤ 16 ∧ gg = m ∧ v1 = .int .u64 (N : Int) ∧ v5 = .int .u64 (c : Int) ∧ v6 = .int .i64 ((m : Int) - 1) ∧ N < 18446744073709551616 ∧ c ≤ 1 ∧ V / 256 ^ (16 - m) = numS x / 256 ^ (16 - m) + N + c ∧ BB wr w.heap.size 23 (mapS (downP x V m)) ∧ BB wr (w.heap.size + 1) 23 zero16 ∧ Below w.heap.size w wr)
  case atStart =>
    have h2 := BB.new (w.alloc (.cells (x.map u8v).toArray 23)) 23 zero16
    rw [World.size_alloc] at h2
    refine ⟨16, n, 0, by omega, rfl, rfl, rfl, by go_num, hn, by omega, by simp only [Nat.sub_self, Nat.pow_zero, Nat.div_one, HV.out, Nat.add_zero], ?_, h2, balloc (balloc (Below.refl _ _) _) _⟩
    rw [downP_start x HX.out]
    exact (BB.new w 23 x).alloc _
  case round =>
    obtain ⟨m, N, c, hm, rfl, rfl, rfl, rfl, hN, hc, hVV, hbx, hby, hbel⟩ := hrel
    have HBX := Lib.hid hbx
    have HBY := Lib.hid hby
    have HBEL3 := Lib.hid hbel
    by_cases hm0 : 0 < gk
    · obtain ⟨j, rfl⟩ : ∃ j, gk = j + 1 := ⟨gk - 1, by omega⟩
      have hj16 : j < 16 := by omega
      have hji : (j : Int) < 16 := by omega
      have hsub : ((j + 1 : Nat) : Int) - 1 = (j : Int) := by omega
      have cx := hbx.cell j (by rw [mapS_len]; exact hj16)
      rw [mapS_getD _ _ hj16, downP, if_pos (by omega)] at cx
      have fx := hbx.free j
      have hdg := numS_dig x HX.out (15 - j) (by omega)
      rw [show 15 - (15 - j) = j by omega] at hdg
      rw [show 16 - (j + 1) = 15 - j by omega] at hVV
      have hst := downP_step x V j
      obtain ⟨a, ha⟩ : ∃ a, a = x.getD j 0 := ⟨_, rfl⟩
      have hal := UInt8.toNat_lt a
      rw [← ha] at cx hdg
      obtain ⟨d, hd⟩ : ∃ d, d = N % 256 := ⟨_, rfl⟩
      have hdl : d < 256 := by omega
      obtain ⟨s, hs⟩ : ∃ s, s = a.toNat + d + c := ⟨_, rfl⟩
      obtain ⟨h1, h2⟩ := carry_step (numS x) N V c (256 ^ (15 - j)) a.toNat d s hVV hdg hd hs
      obtain ⟨y, hy⟩ : ∃ y, y = UInt8.ofNat (V / 256 ^ (15 - j)) := ⟨_, rfl⟩
      have hyn : y.toNat = s % 256 := by rw [hy, UInt8.toNat_ofNat', h2]
      have hyi : (s : Int) % 256 = (y.toNat : Int) := by omega
      rw [← hy] at hst
      have hand : bits .and .u64 (N : Int) 255 = (d : Int) := by rw [and255 N hN, hd]
      obtain ⟨t, ht⟩ : ∃ t, t = a.toNat + d := ⟨_, rfl⟩
      have hs1 : (a.toNat : Int) + (d : Int) = (t : Int) := by omega
      have hs2 : (t : Int) + (c : Int) = (s : Int) := by omega
      have hw1 : IntKind.u64.wrap (t : Int) = (t : Int) := by rw [wrapU]; omega
      have hw2 : IntKind.u64.wrap (s : Int) = (s : Int) := by rw [wrapU]; omega
      have hsl : s < 512 := by omega
      have hsl2 : s < 18446744073709551616 := by omega
      have hs256 : s / 256 ≤ 1 := by omega
      have HST := Lib.hid hst
      have H1 := Lib.hid h1
      clear hbx hby hbel ha hd hs hy ht hyn hdg hVV hst h1 h2
      go_wp2_with fail
      go_roundg j
      case measure => omega
      case rel =>
        refine ⟨j, N / 256, s / 256, by omega, rfl, by go_num, by go_num, by go_num, by omega, hs256, ?_, ?_, ?_, ?_⟩
        · rw [show 16 - j = (15 - j) + 1 by omega, Nat.pow_succ]
          exact H1.out
        · rw [← HST.out]
          exact BB.set HBX.out j y
        · exact BB.far HBY.out (by show w.heap.size + 1 ≠ w.heap.size; omega) _
        · exact bset (p := ⟨w.heap.size, j, none⟩) HBEL3.out (Nat.le_refl _) _
    · have hm3 : gk = 0 := by omega
      subst hm3
      have HX2 : Hid (BB wr (w.heap.size) 23 (nextS x n)) := by show BB _ _ _ _; rw [HR.out, ← downP_full x V]; exact HBX.out
      clear hbx hby hbel HBX
      have hrg := HX2.out.range
      have hinf : (Try.prog.info? 23).map (·.size) = some ((nextS x n).map u8v).length := by rw [List.length_map, nextS_len]; exact info23
      have HI := Lib.hid hinf
      have HRG := Lib.hid hrg
      have hth := there16 HBY.out zero16_len
      have HTH := Lib.hid hth
      have hsz : ((nextS x n).map u8v).toArray.size = 16 := by rw [List.size_toArray, List.length_map, nextS_len]
      have hi2 : (Try.prog.info? 23).map (·.size) = some ((nextS x n).map u8v).toArray.size := by rw [hsz]; exact info23
      have HI2 := Lib.hid hi2
      have hth2 : wr.there (w.heap.size + 1) 0 ((nextS x n).map u8v).toArray.size := by rw [hsz]; exact HTH.out
      have HTH2 := Lib.hid hth2
      clear hrg hinf hth hi2 hth2 hsz
      go_wp2_with (first
        | (refine wpList_load_mid rfl 23 (.tmp 2) rfl (w.heap.size) 0 rfl ((nextS x n).map u8v) _ HRG.out Try.underlying23 rfl HI.out ?_)
        | (refine wpList_store_mid rfl 23 (.tmp 4) (.tmp 29) rfl (w.heap.size + 1) 0 ((nextS x n).map u8v).toArray rfl rfl HTH2.out HI2.out (bytes_one _) ?_))
      have hload := run_loadVar_mid (P := Try.prog) (wr.setCells (w.heap.size + 1) 0 ((nextS x n).map u8v)) (w.heap.size + 1) 0 23 ((nextS x n).map u8v) _ (World.rangeAt_setCells_same _ _ _ _ (by have := HTH2.out; rwa [List.size_toArray] at this)) Try.underlying23 rfl HI.out
      refine bodyPost_ret (results_one rfl _ _ (w.heap.size + 1) _ rfl hload) rfl ⟨rfl, ?_⟩
      exact below_setCells HBEL3.out (Nat.le_succ _) _ _
end Go.Proofs.Ytklkehpcifnfkaa
