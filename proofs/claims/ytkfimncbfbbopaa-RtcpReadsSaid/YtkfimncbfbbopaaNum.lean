/- What the reader's num and word do (contracts). Conditions: the reader's block and bytes lie in memory. -/
import Derived.Test.YtkfimncbfbbopaaRtcp
set_option linter.unusedVariables false
set_option linter.unusedSimpArgs false
namespace Go.Proofs.Ytkfimncbfbbopaa
open Go.RowKit
attribute [local go_sem ↓] Go.wp_at_zero Go.wp_at_succ

/-- A reader at block g, its bytes below block B. -/
def RdSt (w : World) (B g : Nat) (s : RS) : Prop :=
  B ≤ g ∧ s.1.length ≤ 140737488355328 ∧ ∃ A c, Blk w g 98 #[.slice A s.1.length c, .bool s.2] ∧ SlB w B (.slice A s.1.length c) s.1
theorem RdSt.sv {w w' : World} {B g : Nat} {s : RS} {M : Nat → Prop} (h : RdSt w B g s) (hs : Sv M w w') (hM : ∀ k, M k → B ≤ k) (hg : ¬ M g) : RdSt w' B g s := by
  obtain ⟨h1, h2, A, c, h3, h4⟩ := h
  have hlt := h3.lt
  exact ⟨h1, h2, A, c, hs.blk h3 hg, h4.sv hs (by omega) hM⟩
theorem RdSt.lt {w : World} {B g : Nat} {s : RS} (h : RdSt w B g s) : g < w.heap.size := by
  obtain ⟨h1, h2, A, c, h3, h4⟩ := h
  exact h3.lt
theorem or_byte (Y c : Nat) (hY : Y < 72057594037927936) (hc : c < 256) : bits .or .u64 ((256 * Y : Nat) : Int) (c : Int) = ((256 * Y + c : Nat) : Int) := by
  rw [u64_or_nat _ _ (by omega) (by omega)]
  have := Nat.two_pow_add_eq_or_of_lt (i := 8) hc Y
  rw [show (2 : Nat) ^ 8 = 256 from rfl] at this
  rw [this]
set_option maxHeartbeats 1600000 in
theorem num_c (B g k : Nat) (s : RS) (w : World) (h : RdSt w B g s) (hk0 : 0 < k) (hk : k ≤ 8) :
    Calls Try.prog 51 #[.pointer (some ⟨g, 0, none⟩), .int .i64 (k : Int)] w fun e w' => e = .returned (.int .u64 ((numS k s).1 : Int)) ∧ RdSt w' B g (numS k s).2 ∧ Sv (fun j => j = g) w w' := by
  obtain ⟨b, bad⟩ := s
  obtain ⟨hB, hbl, A, c, hblk, hsl⟩ := h
  simp only at hbl hblk hsl
  have hc0 := hblk.cell 0
  have hc1 := hblk.cell 1
  have hf0 := hblk.frozen 0
  have hf1 := hblk.frozen 1
  obtain ⟨n, hn⟩ : ∃ n, n = b.length := ⟨_, rfl⟩
  rw [← hn] at hbl hblk hsl hc0
  have HBLK := Lib.hid hblk
  have HSL := Lib.hid hsl
  have HN := Lib.hid hn
  have hc0' : w.cell? ⟨g, 0, none⟩ = some (.slice A n c) := hc0
  have hc1' : w.cell? ⟨g, 1, none⟩ = some (.bool bad) := hc1
  by_cases hlt : n < k
  · have hlti : (n : Int) < (k : Int) := by omega
    have HNS : Hid (numS k (b, bad) = (0, ([], true))) := by show _ = _; rw [numS, if_pos (by show b.length < k; omega)]
    clear hc0 hc1 hblk hsl hn
    go_enter Try.func51, Try.ntmps51
    go_wp2_with fail
    go_ret
    rw [HNS.out]
    refine ⟨rfl, ⟨hB, by simp, none, 0, (HBLK.out.set_ 1 _).set_ 0 _, SlB.nil _ _⟩, ?_⟩
    exact ((Sv.refl (fun j => j = g) w).set (p := ⟨g, 1, none⟩) (.inl rfl) _).set (p := ⟨g, 0, none⟩) (.inl rfl) _
  · have hlti : ¬ (n : Int) < (k : Int) := by omega
    have hkn : k ≤ n := by omega
    have hcap := hsl.cap
    obtain ⟨gb, o, hA, hgb, hcells⟩ := head_cells (hn ▸ hsl.rd) (by omega)
    subst hA
    have hct := fun wx : World => cut_to0 wx ⟨gb, o, none⟩ n c k (by omega)
    have hcf := fun wx : World => cut_from wx (some ⟨gb, o, none⟩) n c k hkn
    have HNS : Hid (numS k (b, bad) = (beV (b.take k), (b.drop k, bad))) := by show _ = _; rw [numS, if_neg (by show ¬ b.length < k; omega)]
    have HC := Lib.hid hcells
    clear hc0 hc1 hblk hsl hn hcells
    go_enter Try.func51, Try.ntmps51
    go_upto_region 6 with fail
    go_loop [5, 28] (fun x i => ∃ j : Nat, j ≤ k ∧ i = .int .i64 (j : Int) ∧ x = .int .u64 ((beV (b.take j) : Nat) : Int)) (fun _ i => k - (intOf i).toNat)
    case atStart => exact ⟨0, Nat.zero_le _, rfl, rfl⟩
    case round =>
      obtain ⟨j, hj, rfl, rfl⟩ := hrel
      have hbv := beV_lt (b.take j)
      rw [List.length_take, Nat.min_eq_left (by have := HN.out; omega)] at hbv
      obtain ⟨X, hX⟩ : ∃ X, X = beV (b.take j) := ⟨_, rfl⟩
      rw [← hX] at hbv
      rw [← hX]
      by_cases hjk : j < k
      · have hji : (j : Int) < (k : Int) := by omega
        have hX2 : X < 72057594037927936 := by
          have : (256 : Nat) ^ j ≤ 256 ^ 7 := Nat.pow_le_pow_right (by decide) (by omega)
          have e : (256 : Nat) ^ 7 = 72057594037927936 := by decide
          omega
        have hcell := HC.out j (by have := HN.out; omega)
        obtain ⟨y, hy⟩ : ∃ y, y = b.getD j 0 := ⟨_, rfl⟩
        rw [← hy] at hcell
        have hyl := U8.lt y
        obtain ⟨Y, hY⟩ : ∃ Y, Y = 256 * X := ⟨_, rfl⟩
        have hYi : (X : Int) * 256 = (Y : Int) := by omega
        have hYm : (X : Int) * 256 % 18446744073709551616 = (Y : Int) := by omega
        have hor := or_byte X y.toNat hX2 (by omega)
        rw [← hY] at hor
        obtain ⟨Z, hZ⟩ : ∃ Z, Z = Y + y.toNat := ⟨_, rfl⟩
        rw [← hZ] at hor
        have HNX : Hid (beV (b.take (j + 1)) = Z) := by
          show _ = _
          have hjl : j < b.length := by have := HN.out; omega
          rw [List.take_succ_eq_append_getElem hjl, beV_snoc, ← hX, hZ, hY, hy, List.getD_eq_getElem?_getD, List.getElem?_eq_getElem hjl]
          rfl
        clear hbv hX hY hZ hy
        go_wp2_with fail
        go_round
        case rel => exact ⟨j + 1, by omega, by go_num, by rw [HNX.out]⟩
        case measure => simp [intOf]; omega
      · have hjk2 : j = k := by omega
        subst hjk2
        have hji : ¬ (j : Int) < (j : Int) := by omega
        have HX := Lib.hid hX
        clear hbv hX
        go_wp2_with fail
        go_ret
        rw [HNS.out]
        refine ⟨by rw [HX.out]; rfl, ⟨hB, by simp; have := HN.out; omega, cutA (some ⟨gb, o, none⟩) c j, c - j, ?_, ?_⟩, ?_⟩
        · have := HBLK.out.set_ 0 (.slice (cutA (some ⟨gb, o, none⟩) c j) (n - j) (c - j))
          have e : (b.drop j).length = n - j := by rw [List.length_drop, ← HN.out]
          show Blk _ _ _ #[.slice _ (b.drop j).length _, _]
          rw [e]
          exact this
        · have := HSL.out.drop (k := j) (by omega)
          have e : (b.drop j).length = n - j := by rw [List.length_drop, ← HN.out]
          show SlB _ _ (.slice _ (b.drop j).length _) _
          rw [e]
          refine SlB.keep this (fun p hp => World.cell?_setCell_other _ _ _ _ (fun e => ?_))
          subst e
          have : g < B := hp
          omega
        · exact (Sv.refl (fun j => j = g) w).set (p := ⟨g, 0, none⟩) (.inl rfl) _
theorem word_c (B g : Nat) (s : RS) (w : World) (h : RdSt w B g s) :
    Calls Try.prog 50 #[.pointer (some ⟨g, 0, none⟩)] w fun e w' => e = .returned (.int .u32 ((numS 4 s).1 : Int)) ∧ RdSt w' B g (numS 4 s).2 ∧ Sv (fun j => j = g) w w' := by
  have HNC := Lib.hid (num_c B g 4 s w h (by decide) (by decide))
  have hlt := numS_lt 4 s (by decide)
  obtain ⟨X, hX⟩ : ∃ X, X = (numS 4 s).1 := ⟨_, rfl⟩
  rw [← hX] at hlt ⊢
  have hlt2 : (X : Int) < 4294967296 := by omega
  have HX := Lib.hid hX
  clear hX h hlt
  go_enter Try.func50, Try.ntmps50
  go_wp2_with (first
    | (go_at_call 51
       refine HNC.out.mono ?_
       rintro e0 w1 ⟨he, hr1, hs1⟩
       rw [← HX.out] at he
       subst he
       have HR1 := Lib.hid hr1
       have HS1 := Lib.hid hs1
       clear hr1 hs1))
  go_ret
  exact ⟨rfl, HR1.out, HS1.out⟩
end Go.Proofs.Ytkfimncbfbbopaa
