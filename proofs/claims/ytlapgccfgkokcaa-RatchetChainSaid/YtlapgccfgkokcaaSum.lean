/- What the program's Sum does (contract). Conditions: a stream. -/
import Derived.Test.YtlapgccfgkokcaaCopy
set_option linter.unusedVariables false
set_option linter.unusedSimpArgs false
namespace Go.Proofs.Ytlapgccfgkokcaa
open Go.RowKit
attribute [local go_sem ↓] Go.wp_at_zero Go.wp_at_succ

theorem StrV.below {w w' : World} {B gs gc : Nat} {v : Value} {m : List UInt8} (h : StrV w B gs gc v m) (hb : Below w.heap.size w w') : StrV w' B gs gc v m := ⟨h.1.below hb, own_below h.2.1 hb, h.2.2.below hb⟩
def z32 : List UInt8 := List.replicate 32 0
theorem be8_bits (n i : Nat) (hi : i < 8) : UInt8.ofNat (n % 18446744073709551616 / 256 ^ i) = UInt8.ofNat (n / 256 ^ i) := by
  apply UInt8.toNat_inj.1
  rw [UInt8.toNat_ofNat', UInt8.toNat_ofNat']
  rcases (by omega : i = 0 ∨ i = 1 ∨ i = 2 ∨ i = 3 ∨ i = 4 ∨ i = 5 ∨ i = 6 ∨ i = 7) with rfl | rfl | rfl | rfl | rfl | rfl | rfl | rfl <;> simp only [Nat.reducePow] <;> omega
theorem run_index_wrow (w : World) (t : TypeId) (n : Nat) (L : List UInt32) (k : Nat) (h : Try.prog.underlying t = some (.array n 39)) (hk : k < n) (hn : L.length = n) (x : UInt32) (hx : L.getD k 0 = x) :
    (Instr.index t (.agg (L.map u32v).toArray) (.int .i64 (k : Int))).run Try.prog w = .ok (.int .u32 (x.toNat : Int)) w := by
  have h0 : (0 ≤ (k : Int) ∧ (k : Int) < (n : Int)) := by omega
  have hl : L[k]? = some x := by rw [← hx, List.getD_eq_getElem?_getD, List.getElem?_eq_getElem (by omega)]; rfl
  simp [Instr.index, run_underlying h, asIntOf, hk, go_sem, hl, u32v]
theorem fword (H : List UInt32) (i k : Nat) (hk : k < 4) : (H.getD i 0 >>> UInt32.ofNat (24 - 8 * k)).toUInt8 = (fun i => ((H.getD (i / 4) 0) >>> UInt32.ofNat (24 - 8 * (i % 4))).toUInt8) (4 * i + k) := by
  show _ = ((H.getD ((4 * i + k) / 4) 0) >>> UInt32.ofNat (24 - 8 * ((4 * i + k) % 4))).toUInt8
  rw [show (4 * i + k) / 4 = i by omega, show (4 * i + k) % 4 = k by omega]
theorem info32 : (Try.prog.info? 24).map (·.size) = some 32 := by kernel_rfl
theorem Sv.setAll {M : Nat → Prop} {w : World} {g : Nat} : ∀ {w' : World}, Sv M w w' → w.heap.size ≤ g → ∀ (vs : List Value) (o : Nat), Sv M w (w'.setCells g o vs)
  | _, h, _, [], _ => h
  | _, h, hg, v :: vs, o => Sv.setAll (h.set (p := ⟨g, o, none⟩) (.inr hg) v) hg vs (o + 1)
theorem be8_take (n k : Nat) (hk : k < 8) : (be8 n).take (k + 1) = (be8 n).take k ++ [UInt8.ofNat (n / 256 ^ (7 - k))] := by
  rw [be8, ← List.map_take, ← List.map_take, List.take_range, List.take_range, Nat.min_eq_left (by omega), Nat.min_eq_left (by omega), List.range_succ, List.map_append]
  rfl
set_option maxRecDepth 100000 in
set_option maxHeartbeats 6400000 in
theorem sum_c (m : List UInt8) (v : Value) (B gs gc : Nat) (w : World) (hs : StrV w B gs gc v m) :
    Calls Try.prog 27 #[.pointer (some ⟨gs, 0, none⟩)] w fun e w' => e = .returned (.agg ((shaS m).map u8v).toArray) ∧ CI w' gc ∧ Sv (fun k => k = gc) w w' := by
  have HS := Lib.hid hs
  clear hs
  go_enter Try.func27, Try.ntmps27
  go_upto_region 1 with fail
  obtain ⟨w0, hw0⟩ : ∃ w0, w0 = w.alloc (.cells (z32.map u8v).toArray 24) := ⟨_, rfl⟩
  change Code.wp _ _ _ _ (w.alloc (.cells (z32.map u8v).toArray 24))
  have HU0 : Hid (UB w0 w.heap.size 24 z32) := by show UB _ _ _ _; rw [hw0]; exact Blk.new _ _ _
  have HB0 : Hid (Below w.heap.size w w0) := by show Below _ _ _; rw [hw0]; exact balloc (Below.refl _ _) _
  have HS0 := Lib.hid (HS.out.below HB0.out)
  rw [← hw0]
  have hg0 : w0.heap.size = w.heap.size + 1 := by rw [hw0]; exact World.size_alloc _ _
  have hgc0 : gc < w.heap.size := HS.out.2.2.lt
  clear hw0 HS
  have hc := copy_c m v B gs gc w0 HS0.out
  obtain ⟨g1, hg1⟩ : ∃ g1, g1 = w0.heap.size := ⟨_, rfl⟩
  rw [← hg1] at hc
  have HG1 : Hid (g1 = w.heap.size + 1) := hg1.trans hg0
  have HG10 := Lib.hid hg1
  clear hg0 hg1
  go_upto_region 2 with (first
    | (go_at_call 28; refine hc.mono ?_; rintro e0 w1 ⟨rfl, ⟨v1, hs1⟩, hb1⟩))
  rw [HG10.out] at hb1
  have HGC := Lib.hid hgc0
  have HU1 : Hid (UB w1 w.heap.size 24 z32) := Blk.below HU0.out hb1
  have HB1 := Lib.hid (bcall HB0.out hb1)
  have HS1 := Lib.hid hs1
  have hnum := HS1.out.1.num (hS_len _ _)
  obtain ⟨A1, c1, rfl⟩ := own_slice HS1.out.2.1
  obtain ⟨r, hr⟩ : ∃ r, r = m.length % 64 := ⟨_, rfl⟩
  rw [← hr] at HS1
  obtain ⟨N, hN⟩ : ∃ N, N = m.length % 18446744073709551616 := ⟨_, rfl⟩
  rw [← hN] at hnum
  obtain ⟨NN, hNN⟩ : ∃ NN, NN = 8 * m.length % 18446744073709551616 := ⟨_, rfl⟩
  have hmul : IntKind.u64.wrap ((N : Int) * 8) = (NN : Int) := by
    simp only [IntKind.wrap, IntKind.bits, IntKind.signed]
    rw [hN, hNN]
    show (((m.length % 18446744073709551616 : Nat) : Int) * 8) % 18446744073709551616 = _
    omega
  have hr64 : r < 64 := by omega
  obtain ⟨J, hJ⟩ : ∃ J, J = noughts m.length := ⟨_, rfl⟩
  have hJ64 : J < 64 := by rw [hJ, noughts]; omega
  have HJ := Lib.hid hJ
  have HR := Lib.hid hr
  have HNN := Lib.hid hNN
  clear hr hN hNN hJ hs1 hb1 hgc0 hc HS0 HB0 HU0
  go_upto_region 4 with fail
  obtain ⟨i5, hi5, hz0, hz1, hz2⟩ := info_parts infoByte
  have HO3 : Hid ((w1.alloc (.cells #[.int .u8 128] 5)).ownsRow w1.heap.size 5 1 (.slice (some ⟨w1.heap.size, 0, none⟩) (1 + 0) 1) (1 + 0) ((0x80 :: List.replicate 0 0).map u8v)) := own_one w1 5 (.int .u8 128)
  have HB3 : Hid (Below w1.heap.size w1 (w1.alloc (.cells #[.int .u8 128] 5))) := balloc (Below.refl _ _) _
  have hjr : ∀ j, j ≤ J → (j = J ↔ (r + (1 + j)) % 64 = 56) := by
    have h1 := HJ.out
    have h2 := HR.out
    intro j hj
    unfold noughts at h1
    omega
  go_loopg [5] J (fun gg v5 wx => ∃ j A c, j ≤ J ∧ gg = J - j ∧ v5 = .slice A (1 + j) c ∧ wx.ownsRow w1.heap.size 5 1 (.slice A (1 + j) c) (1 + j) ((0x80 :: List.replicate j 0).map u8v) ∧ Below w1.heap.size w1 wx)
  case atStart => exact ⟨0, _, _, Nat.zero_le _, rfl, rfl, HO3.out, HB3.out⟩
  case round =>
    obtain ⟨j, A, c, hj, rfl, rfl, ho, hb⟩ := hrel
    clear HO3 HB3
    have HO := Lib.hid ho
    have HB := Lib.hid hb
    have hbuf : wr.cell? ⟨g1, 8, none⟩ = some (.slice A1 r c1) := (HS1.out.below hb).1.buf (hS_len _ _)
    have hjj := hjr j hj
    have HJR := Lib.hid hjr
    obtain ⟨d, hd⟩ : ∃ d, d = 1 + j := ⟨_, rfl⟩
    rw [← hd] at hjj
    have HD := Lib.hid hd
    rw [← hd] at HO
    rw [← hd]
    have hd65 : d < 65 := by omega
    clear ho hb hjr hd
    by_cases he : j = J
    · have hmod : ((r : Int) + (d : Int)) % 64 = 56 := by omega
      clear hjj
      have HE := Lib.hid he
      clear he
      go_upto_region 7 with fail
      obtain ⟨P, hP⟩ : ∃ P : List UInt8, P = 0x80 :: List.replicate j 0 := ⟨_, rfl⟩
      rw [← hP] at HO
      have HP := Lib.hid hP
      obtain ⟨E8, hE8⟩ : ∃ E8, E8 = be8 (8 * m.length) := ⟨_, rfl⟩
      have HE8 := Lib.hid hE8
      clear hP hE8 hbuf hmod
      go_loopg [5, 6] 8 (fun gg v5 v6 wx => ∃ k A c, k ≤ 8 ∧ gg = 8 - k ∧ v5 = .slice A (d + k) c ∧ v6 = .int .i64 ((7 : Int) - (k : Int)) ∧ wx.ownsRow w1.heap.size 5 1 (.slice A (d + k) c) (d + k) ((P ++ E8.take k).map u8v) ∧ Below w1.heap.size w1 wx)
      case atStart => exact ⟨0, A, c, by omega, rfl, rfl, rfl, by rw [List.take_zero, List.append_nil]; exact HO.out, HB.out⟩
      case round =>
        obtain ⟨k, A, c, hk, rfl, rfl, rfl, ho, hb⟩ := hrel
        clear HO HB
        have HO := Lib.hid ho
        have HB := Lib.hid hb
        obtain ⟨f, hf⟩ : ∃ f, f = d + k := ⟨_, rfl⟩
        rw [← hf] at HO
        rw [← hf]
        have HF := Lib.hid hf
        have hf100 : f < 100 := by omega
        clear ho hb hf
        by_cases he2 : k = 8
        · subst he2
          have HEND : Hid (P ++ E8.take 8 = endS m.length) := by
            show _ = _
            have hjJ : j = noughts m.length := HE.out.trans HJ.out
            rw [HP.out, HE8.out, List.take_of_length_le (by rw [be8_len]; exact Nat.le_refl _), hjJ]
            rfl
          rw [HEND.out] at HO
          have HFL : Hid (f = (endS m.length).length) := by have := HO.out.1; rw [List.length_map] at this; show f = _; omega
          have hg1l : g1 < w1.heap.size := HS1.out.1.lt
          have hgcl : gc < w1.heap.size := HS1.out.2.2.lt
          have hsrc : Src wr g1 gc (.slice A1 r c1) A c (endS m.length) := Src.of_reads (by rw [← HFL.out]; exact own_bound HO.out) (by rw [← HFL.out]; exact Reads.of_own HO.out) (fun ad ha => by
            have h1 := (HO.out.lt ad.block (by rw [ha]; rfl)).1
            refine ⟨by omega, by omega, fun h => ?_⟩
            have h2 := (HS1.out.2.1.lt _ h).2
            omega)
          have hadd := add_c m (endS m.length) (.slice A1 r c1) A g1 g1 gc c wr (by have := HB.out.size; omega) (HS1.out.below HB.out) hsrc
          rw [← HFL.out] at hadd
          have HADD := Lib.hid hadd
          clear hadd hsrc hg1l hgcl
          go_upto_region 11 with (first
            | (go_at_call 26; refine HADD.out.mono ?_; rintro e0 w2 ⟨rfl, ⟨v2, hs2, hv2⟩, hsv⟩))
          have hin : ∀ k, k < w.heap.size + 1 → Own3 g1 gc (.slice A1 r c1) k → k = gc := fun k hk h => by
            rcases h with h | h | h
            · have := HG1.out; omega
            · exact h
            · have h1 := (HS1.out.2.1.lt _ h).1
              have := HG1.out
              omega
          have HU2 : Hid (UB w2 w.heap.size 24 z32) := hsv.blk (Blk.below HU1.out HB.out) (fun h => by
            have h1 := hin _ (by omega) h
            have := HGC.out
            omega)
          have HSV2 : Hid (Sv (fun k => k = gc) w w2) := (Sv.of_below (bcall HB1.out HB.out)).trans hsv (fun k hk h => hin k (by omega) h)
          obtain ⟨H, hH⟩ : ∃ H, H = hS (padS m) ((padS m).length / 64) := ⟨_, rfl⟩
          obtain ⟨N2, hN2⟩ : ∃ N2, N2 = (padS m).length % 18446744073709551616 := ⟨_, rfl⟩
          have HSB2 : Hid (SB w2 g1 H v2 N2 gc) := by
            show SB _ _ _ _ _ _
            rw [hH, hN2]
            exact hs2.1
          have HH := Lib.hid hH
          have H8 : Hid (H.length = 8) := by show _ = _; rw [hH]; exact hS_len _ _
          have HCI2 := Lib.hid hs2.2.2
          clear hH hN2 hs2 hv2 hsv hin
          clear HADD HEND HO HB HFL HF HE8 HP HE hnum hmul HU1 HB1 HS1 HJ HR HNN HD HJR
          go_upto_region 12 with fail
          obtain ⟨w3, hw3⟩ : ∃ w3, w3 = w2.alloc (.cells (z32.map u8v).toArray 24) := ⟨_, rfl⟩
          change Code.wp _ _ _ _ (w2.alloc (.cells (z32.map u8v).toArray 24))
          obtain ⟨F, hF⟩ : ∃ F : Nat → UInt8, F = fun i => ((H.getD (i / 4) 0) >>> UInt32.ofNat (24 - 8 * (i % 4))).toUInt8 := ⟨_, rfl⟩
          have HUO : Hid (UB w3 w2.heap.size 24 (upL 32 (4 * 0) F (fun _ => 0))) := by
            show UB _ _ _ _
            rw [Nat.mul_zero, upL_zero, hw3]
            exact Blk.new _ _ _
          have HU3 : Hid (UB w3 w.heap.size 24 z32) := by show UB _ _ _ _; rw [hw3]; exact Blk.alloc HU2.out _
          have HSB3 : Hid (SB w3 g1 H v2 N2 gc) := by show SB _ _ _ _ _ _; rw [hw3]; exact Blk.alloc HSB2.out _
          have HSV3 : Hid (Sv (fun k => k = gc) w w3) := by show Sv _ _ _; rw [hw3]; exact HSV2.out.alloc _
          have HCI3 : Hid (CI w3 gc) := by show CI _ _; rw [hw3]; exact HCI2.out.below (balloc (Below.refl _ _) _)
          have hRG : w3.rangeAt g1 0 (H.map u32v) := fun j u hu => by
            have hj : j < 8 := by
              rcases Nat.lt_or_ge j 8 with h | h
              · exact h
              · rw [List.getElem?_eq_none (by rw [List.length_map, H8.out]; exact h)] at hu; cases hu
            rw [Nat.zero_add, HSB3.out.word j (by rw [H8.out]; exact hj), ← hu, List.getElem?_map, List.getElem?_eq_getElem (by rw [H8.out]; exact hj), List.getD_eq_getElem?_getD, List.getElem?_eq_getElem (by rw [H8.out]; exact hj)]
            rfl
          have HRG := Lib.hid hRG
          have HI : Hid ((Try.prog.info? 69).map (·.size) = some (H.map u32v).length) := by show _ = _; rw [List.length_map, H8.out]; exact info8
          have HWO : Hid (w.heap.size ≤ w2.heap.size) := HSV2.out.size
          have HGU : Hid (w.heap.size < w2.heap.size) := HU2.out.lt
          have HF := Lib.hid hF
          rw [← hw3]
          clear hw3 hF hRG HU2 HSB2 HSV2 HCI2
          go_upto_region 13 with (first
            | ((with_reducible show wpList _ _ _ (⟨some 49, .load 69 (.tmp 48), _, _, _, _⟩ :: _) _ _); refine wpList_load_mid rfl 69 (.tmp 48) rfl g1 0 rfl (H.map u32v) _ HRG.out Try.underlying69 rfl HI.out ?_))
          clear HRG HI HSB3
          go_loopg [50] 8 (fun gg v50 wx => ∃ i : Nat, i ≤ 8 ∧ gg = 8 - i ∧ v50 = .int .i64 (i : Int) ∧ UB wx w2.heap.size 24 (upL 32 (4 * i) F (fun _ => 0)) ∧ UB wx w.heap.size 24 z32 ∧ CI wx gc ∧ Sv (fun k => k = gc) w wx)
          case atStart => exact ⟨0, by omega, rfl, rfl, HUO.out, HU3.out, HCI3.out, HSV3.out⟩
          case round =>
            obtain ⟨i, hi, rfl, rfl, ho, hu, hci, hsv⟩ := hrel
            clear HUO HU3 HCI3 HSV3
            by_cases hi2 : i < 8
            · have hii : (i : Int) < 8 := by omega
              obtain ⟨x, hx⟩ : ∃ x, x = H.getD i 0 := ⟨_, rfl⟩
              have hix : ∀ wx : World, (Instr.index 69 (.agg (H.map u32v).toArray) (.int .i64 (i : Int))).run Try.prog wx = .ok (.int .u32 (x.toNat : Int)) wx := fun wx => run_index_wrow wx _ 8 H i Try.underlying69 hi2 H8.out x hx.symm
              have d0 := ho.cell (4 * i) (by rw [upL_len]; omega)
              have d1 := ho.cell (4 * i + 1) (by rw [upL_len]; omega)
              have d2 := ho.cell (4 * i + 2) (by rw [upL_len]; omega)
              have d3 := ho.cell (4 * i + 3) (by rw [upL_len]; omega)
              have f0 := ho.free (4 * i)
              have f1 := ho.free (4 * i + 1)
              have f2 := ho.free (4 * i + 2)
              have f3 := ho.free (4 * i + 3)
              have HX := Lib.hid hx
              have HO := Lib.hid ho
              have HU := Lib.hid hu
              have HCI := Lib.hid hci
              have HSV := Lib.hid hsv
              clear hx ho hu hci hsv
              go_upto_region 16 with fail
              have q0 : (x.toNat : Int) / 16777216 % 256 = ((F (4 * i)).toNat : Int) := by rw [HF.out, HX.out, show 4 * i = 4 * i + 0 by omega, ← fword H i 0 (by omega)]; exact W.byte _ 24 (by decide)
              have q1 : (x.toNat : Int) / 65536 % 256 = ((F (4 * i + 1)).toNat : Int) := by rw [HF.out, HX.out, ← fword H i 1 (by omega)]; exact W.byte _ 16 (by decide)
              have q2 : (x.toNat : Int) / 256 % 256 = ((F (4 * i + 2)).toNat : Int) := by rw [HF.out, HX.out, ← fword H i 2 (by omega)]; exact W.byte _ 8 (by decide)
              have q3 : (x.toNat : Int) % 256 = ((F (4 * i + 3)).toNat : Int) := by
                rw [HF.out, HX.out, ← fword H i 3 (by omega)]
                have := W.byte (H.getD i 0) 0 (by decide)
                rw [Int.pow_zero, Int.ediv_one] at this
                exact this
              rw [q0, q1, q2, q3]
              have HQ0 : Hid (UB ((((wr.setCell ⟨w2.heap.size, 4 * i, none⟩ (.int .u8 ((F (4 * i)).toNat : Int))).setCell ⟨w2.heap.size, 4 * i + 1, none⟩ (.int .u8 ((F (4 * i + 1)).toNat : Int))).setCell ⟨w2.heap.size, 4 * i + 2, none⟩ (.int .u8 ((F (4 * i + 2)).toNat : Int))).setCell ⟨w2.heap.size, 4 * i + 3, none⟩ (.int .u8 ((F (4 * i + 3)).toNat : Int))) w2.heap.size 24 (upL 32 (4 * (i + 1)) F (fun _ => 0))) := by
                show UB _ _ _ _
                rw [show 4 * (i + 1) = 4 * i + 3 + 1 by omega, ← upL_set F _ (show 4 * i + 3 < 32 by omega), ← upL_set F _ (show 4 * i + 2 < 32 by omega), ← upL_set F _ (show 4 * i + 1 < 32 by omega), ← upL_set F _ (show 4 * i < 32 by omega)]
                exact (((HO.out.set _ _).set _ _).set _ _).set _ _
              clear q0 q1 q2 q3 d0 d1 d2 d3 f0 f1 f2 f3
              go_wp2_with fail
              go_roundg (8 - (i + 1))
              case measure => omega
              case rel =>
                have hne : w.heap.size ≠ w2.heap.size := by have := HGU.out; omega
                have hcl : gc < w.heap.size := HGC.out
                have hcne : gc ≠ w2.heap.size := by have := HGU.out; omega
                refine ⟨i + 1, by omega, rfl, by go_num, HQ0.out, ?_, ?_, ?_⟩
                · exact (((Blk.far HU.out (p := ⟨w2.heap.size, 4 * i, none⟩) hne _).far (p := ⟨w2.heap.size, 4 * i + 1, none⟩) hne _).far (p := ⟨w2.heap.size, 4 * i + 2, none⟩) hne _).far (p := ⟨w2.heap.size, 4 * i + 3, none⟩) hne _
                · exact (((HCI.out.same (Below.heap_setCell _ ⟨w2.heap.size, 4 * i, none⟩ _ _ hcne)).same (Below.heap_setCell _ ⟨w2.heap.size, 4 * i + 1, none⟩ _ _ hcne)).same (Below.heap_setCell _ ⟨w2.heap.size, 4 * i + 2, none⟩ _ _ hcne)).same (Below.heap_setCell _ ⟨w2.heap.size, 4 * i + 3, none⟩ _ _ hcne)
                · exact (((HSV.out.set (p := ⟨w2.heap.size, 4 * i, none⟩) (.inr HWO.out) _).set (p := ⟨w2.heap.size, 4 * i + 1, none⟩) (.inr HWO.out) _).set (p := ⟨w2.heap.size, 4 * i + 2, none⟩) (.inr HWO.out) _).set (p := ⟨w2.heap.size, 4 * i + 3, none⟩) (.inr HWO.out) _
            · have hi8 : i = 8 := by omega
              subst hi8
              obtain ⟨O, hO⟩ : ∃ O, O = outS H := ⟨_, rfl⟩
              have HO : Hid (UB wr w2.heap.size 24 O) := by show UB _ _ _ _; rw [hO, outS, ← HF.out, ← upL_full 32 F (fun _ => 0)]; exact ho
              have hOl : O.length = 32 := by rw [hO]; exact outS_len _
              have HSHA : Hid (O = shaS m) := by show O = _; rw [hO, shaS, HH.out]
              have HRG := Lib.hid HO.out.range
              have HI : Hid ((Try.prog.info? 24).map (·.size) = some (O.map u8v).length) := by show _ = _; rw [List.length_map, hOl]; exact info32
              have HJ : Hid ((Try.prog.info? 24).map (·.size) = some (O.map u8v).toArray.size) := by show _ = _; rw [List.size_toArray, List.length_map, hOl]; exact info32
              have HTH : Hid (wr.there w.heap.size 0 (O.map u8v).toArray.size) := by show World.there _ _ _ (O.map u8v).toArray.size; rw [show (O.map u8v).toArray.size = 32 by rw [List.size_toArray, List.length_map, hOl]]; exact blk_there hu rfl
              have hst : UB (wr.setCells w.heap.size 0 (O.map u8v)) w.heap.size 24 O := blk_setAll hu (by rw [List.length_map, hOl]; rfl)
              have hload := run_loadVar_mid (P := Try.prog) (wr.setCells w.heap.size 0 (O.map u8v)) w.heap.size 0 24 (O.map u8v) _ hst.range Try.underlying24 rfl HI.out
              have HLOAD := Lib.hid hload
              have hsv2 := Sv.setAll hsv (Nat.le_refl w.heap.size) (O.map u8v) 0
              have HSV := Lib.hid hsv2
              have HCI : Hid (CI (wr.setCells w.heap.size 0 (O.map u8v)) gc) := by
                obtain hci | hci := hci
                · exact .inl (Blk.farAll (by have := HGC.out; omega) _ _ _ hci)
                · exact .inr (Blk.farAll (by have := HGC.out; omega) _ _ _ hci)
              clear hO hOl hload hst hsv2 ho hu hci hsv
              go_wp2_with (first
                | ((with_reducible show wpList _ _ _ (⟨some 81, .load 24 (.tmp 7), _, _, _, _⟩ :: _) _ _); refine wpList_load_mid rfl 24 (.tmp 7) rfl w2.heap.size 0 rfl (O.map u8v) _ HRG.out Try.underlying24 rfl HI.out ?_)
                | ((with_reducible show wpList _ _ _ (⟨none, .store 24 (.tmp 2) (.tmp 81), _, _, _, _⟩ :: _) _ _); refine wpList_store_mid rfl 24 (.tmp 2) (.tmp 81) rfl w.heap.size 0 (O.map u8v).toArray rfl rfl HTH.out HJ.out (bytes_one _) ?_))
              refine bodyPost_ret (results_one rfl _ _ w.heap.size _ rfl HLOAD.out) rfl ⟨by rw [HSHA.out], HCI.out, HSV.out⟩
        · obtain ⟨q, hq⟩ : ∃ q, q = 7 - k := ⟨_, rfl⟩
          have hqi : (7 : Int) - (k : Int) = (q : Int) := by omega
          have hq8 : q < 8 := by omega
          have hq0 : (0 : Int) ≤ (q : Int) := by omega
          rw [hqi]
          have HQ := Lib.hid hq
          have HK := Lib.hid hk
          have HK2 := Lib.hid he2
          clear hq hqi hk he2
          have h256 : (2 : Nat) ^ (8 * q) = 256 ^ q := by rw [Nat.pow_mul]
          obtain ⟨bb, hbb⟩ : ∃ bb : UInt8, bb = UInt8.ofNat (NN / 2 ^ (8 * q)) := ⟨_, rfl⟩
          have HRD : Hid (Reads (wr.alloc (.cells #[.int .u8 ((NN : Int) / 2 ^ (8 * q) % 256)] 5)) (wr.alloc (.cells #[.int .u8 ((NN : Int) / 2 ^ (8 * q) % 256)] 5)).heap.size 1 (some ⟨wr.heap.size, 0, none⟩) 1 [u8v bb]) := by
            show Reads _ _ _ _ _ _
            rw [hbb, ← byte_at]
            exact Reads.of_own (own_one wr 5 _)
          have HBB : Hid (bb = UInt8.ofNat (8 * m.length / 256 ^ q)) := by show _ = _; rw [hbb, h256, HNN.out, be8_bits _ _ hq8]
          have HBS : Hid (w1.heap.size ≤ (wr.alloc (.cells #[.int .u8 ((NN : Int) / 2 ^ (8 * q) % 256)] 5)).heap.size) := Nat.le_trans HB.out.size (by rw [World.size_alloc]; omega)
          clear hbb h256
          go_wp2_with
           (at_builtin
            refine wpList_append_any _ rfl (.tmp 35) (.tmp 41) _ rfl w1.heap.size 5 i5 _ 1 1 Try.underlying27 hi5 hz0 hz1 hz2 rfl (by omega) (.slice A f c) f ((P ++ E8.take k).map u8v) rfl (HO.out.alloc _)
              _ (some ⟨wr.heap.size, 0, none⟩) 1 1 [u8v bb] rfl HRD.out (u8_one [bb]) (by simp only [maxLen]; omega) (by omega) HBS.out ?_
            intro v5 w5 hown5 hg5 hv5
            obtain ⟨A5, c5, rfl⟩ := own_slice hown5
            have HO5 : Hid (w5.ownsRow w1.heap.size 5 1 (.slice A5 (f + 1) c5) (f + 1) ((P ++ E8.take (k + 1)).map u8v)) := by
              show World.ownsRow _ _ _ _ _ _ _
              have hk8 : k < 8 := by have := HK.out; have := HK2.out; omega
              rw [HE8.out, be8_take _ _ hk8, ← List.append_assoc, List.map_append, ← HE8.out, ← HQ.out, ← HBB.out]
              exact hown5
            have HB5 := Lib.hid (own_grow_below (balloc HB.out (.cells #[.int .u8 ((NN : Int) / 2 ^ (8 * q) % 256)] 5)) (HO.out.alloc _) hg5)
            clear hown5 hg5 hv5)
          go_roundg (8 - (k + 1))
          case measure => have := HK.out; have := HK2.out; omega
          case rel =>
            refine ⟨k + 1, A5, c5, ?_, rfl, by rw [HF.out, Nat.add_assoc], ?_, ?_, HB5.out⟩
            · have := HK.out; have := HK2.out; omega
            · have := HQ.out
              have := HK.out
              have := HK2.out
              congr 1
              omega
            · have := HO5.out
              rw [HF.out, Nat.add_assoc] at this
              exact this
    · have hmod : ¬ ((r : Int) + (d : Int)) % 64 = 56 := by omega
      clear hjj
      have HE := Lib.hid he
      have HJl := Lib.hid hj
      clear he hj
      have HRD : Hid (Reads (wr.alloc (.cells #[.int .u8 0] 5)) (wr.alloc (.cells #[.int .u8 0] 5)).heap.size 1 (some ⟨wr.heap.size, 0, none⟩) 1 [.int .u8 0]) := Reads.of_own (own_one wr 5 (.int .u8 0))
      have HBS : Hid (w1.heap.size ≤ (wr.alloc (.cells #[.int .u8 0] 5)).heap.size) := Nat.le_trans HB.out.size (by rw [World.size_alloc]; omega)
      go_wp2_with
       (at_builtin
        refine wpList_append_any _ rfl (.tmp 28) (.tmp 29) _ rfl w1.heap.size 5 i5 _ 1 1 Try.underlying27 hi5 hz0 hz1 hz2 rfl (by omega) (.slice A d c) d ((0x80 :: List.replicate j 0).map u8v) rfl (HO.out.alloc _)
          _ (some ⟨wr.heap.size, 0, none⟩) 1 1 [.int .u8 0] rfl HRD.out (u8_one [0]) (by simp only [maxLen]; omega) (by omega) HBS.out ?_
        intro v5 w5 hown5 hg5 hv5
        obtain ⟨A5, c5, rfl⟩ := own_slice hown5
        have HO5 : Hid (w5.ownsRow w1.heap.size 5 1 (.slice A5 (d + 1) c5) (d + 1) ((0x80 :: List.replicate (j + 1) 0).map u8v)) := by
          show World.ownsRow _ _ _ _ _ _ _
          rw [List.replicate_succ', ← List.cons_append, List.map_append]
          exact hown5
        have HB5 := Lib.hid (own_grow_below (balloc HB.out (.cells #[.int .u8 0] 5)) (HO.out.alloc _) hg5)
        clear hown5 hg5 hv5)
      go_roundg (J - (j + 1))
      case measure => have := HE.out; have := HJl.out; omega
      case rel =>
        refine ⟨j + 1, A5, c5, ?_, rfl, by rw [HD.out, Nat.add_assoc], ?_, HB5.out⟩
        · have := HE.out; have := HJl.out; omega
        · have := HO5.out
          rw [HD.out, Nat.add_assoc] at this
          exact this
end Go.Proofs.Ytlapgccfgkokcaa
