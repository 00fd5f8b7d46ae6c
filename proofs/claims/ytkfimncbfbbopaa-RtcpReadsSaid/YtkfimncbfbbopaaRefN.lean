/- What the reference's N, other and Is do (contracts). Conditions: the bytes lie in memory. -/
import Derived.Test.YtkfimncbfbbopaaReadS
set_option linter.unusedVariables false
set_option linter.unusedSimpArgs false
namespace Go.Proofs.Ytkfimncbfbbopaa
open Go.RowKit
attribute [local go_sem ↓] Go.wp_at_zero Go.wp_at_succ

theorem nAt_snoc {b : List UInt8} {p j : Nat} (h : p + j < b.length) : nAt b p (j + 1) = 256 * nAt b p j + (b.getD (p + j) 0).toNat := by
  unfold nAt
  have hj : j < (b.drop p).length := by rw [List.length_drop]; omega
  rw [List.take_succ_eq_append_getElem hj, beV_snoc, List.getElem_drop, List.getD_eq_getElem?_getD, List.getElem?_eq_getElem h]
  rfl
theorem nAt_zero (b : List UInt8) (p : Nat) : nAt b p 0 = 0 := rfl
theorem nAt_one {b : List UInt8} {p : Nat} (h : p < b.length) : nAt b p 1 = (b.getD p 0).toNat := by
  have this : nAt b p 1 = 256 * nAt b p 0 + (b.getD p 0).toNat := nAt_snoc (b := b) (p := p) (j := 0) (by omega)
  rw [nAt_zero] at this
  exact this.trans (by omega)
set_option maxRecDepth 100000 in
set_option maxHeartbeats 6400000 in
theorem N_c (b : List UInt8) (A : Option Addr) (n cap p k : Nat) (w : World) (h : SlV w (.slice A n cap) b) (hpk : p + k ≤ n) (hk : k ≤ 8) (hn : n ≤ 140737488355328) :
    Calls Try.prog 32 #[.slice A n cap, .int .i64 (p : Int), .int .i64 (k : Int)] w fun e w' => e = .returned (.int .u64 (nAt b p k : Int)) ∧ w = w' := by
  have HN := Lib.hid h.num
  have HR := Lib.hid h.rd
  clear h
  go_enter Try.func32, Try.ntmps32
  go_upto_region 3 with fail
  go_loop [7, 8] (fun x i => ∃ j : Nat, j ≤ k ∧ i = .int .i64 (j : Int) ∧ x = .int .u64 (nAt b p j : Int)) (fun _ i => k - (intOf i).toNat)
  case atStart => exact ⟨0, Nat.zero_le _, rfl, rfl⟩
  case round =>
    obtain ⟨j, hj, rfl, rfl⟩ := hrel
    have hbv := nAt_lt b p j
    obtain ⟨X, hX⟩ : ∃ X, X = nAt b p j := ⟨_, rfl⟩
    rw [← hX] at hbv
    rw [← hX]
    by_cases hjk : j < k
    · have hji : (j : Int) < (k : Int) := by omega
      have hX2 : X < 72057594037927936 := by
        have : (256 : Nat) ^ j ≤ 256 ^ 7 := Nat.pow_le_pow_right (by decide) (by omega)
        have e : (256 : Nat) ^ 7 = 72057594037927936 := by decide
        omega
      obtain ⟨gb, o, hA, hgb, hcells⟩ := head_cells (HN.out ▸ HR.out) (by have := HN.out; omega)
      subst hA
      have hcell := hcells (p + j) (by have := HN.out; omega)
      have HSN := Lib.hid (nAt_snoc (b := b) (p := p) (j := j) (by have := HN.out; omega))
      obtain ⟨y, hy⟩ : ∃ y, y = b.getD (p + j) 0 := ⟨_, rfl⟩
      rw [← hy] at hcell
      have hyl := U8.lt y
      obtain ⟨Y, hY⟩ : ∃ Y, Y = 256 * X := ⟨_, rfl⟩
      have hYi : (X : Int) * 256 = (Y : Int) := by omega
      have hYm : (X : Int) * 256 % 18446744073709551616 = (Y : Int) := by omega
      have hor := or_byte X y.toNat hX2 (by omega)
      rw [← hY] at hor
      obtain ⟨Z, hZ⟩ : ∃ Z, Z = Y + y.toNat := ⟨_, rfl⟩
      rw [← hZ] at hor
      have hs1 : IntKind.i64.wrap ((p : Int) + (j : Int)) = ((p + j : Nat) : Int) := by rw [IntKind.wrap_i64]; omega
      have hs2 : ((p + j : Nat) : Int) < (n : Int) := by omega
      have HNX : Hid (nAt b p (j + 1) = Z) := by show _ = _; rw [HSN.out, ← hX, hZ, hY, hy]
      clear hbv hX hY hZ hy hcells
      go_wp2_with fail
      go_round
      case rel => exact ⟨j + 1, by omega, by go_num, by rw [HNX.out]⟩
      case measure => simp [intOf]; omega
    · have hjk2 : k = j := by omega
      subst hjk2
      have hji : ¬ (k : Int) < (k : Int) := by omega
      have HX := Lib.hid hX
      clear hbv hX
      go_wp2_with fail
      go_ret
      exact ⟨by rw [← HX.out]; rfl, rfl⟩
set_option maxRecDepth 100000 in
set_option maxHeartbeats 6400000 in
theorem other_c (t c : Int) (b : List UInt8) (A : Option Addr) (n cap : Nat) (w : World) (h : SlV w (.slice A n cap) b) :
    Calls Try.prog 45 #[.int .i64 t, .int .i64 c, .slice A n cap] w fun e w' => e = .returned (.bool (kindS t c b != 7)) ∧ w = w' := by
  have HN := Lib.hid h.num
  have H := Lib.hid h
  clear h
  by_cases h1 : t = 200
  · subst h1
    go_enter Try.func45, Try.ntmps45
    go_wp2
    go_ret
    exact ⟨rfl, rfl⟩
  by_cases h2 : t = 201
  · subst h2
    go_enter Try.func45, Try.ntmps45
    go_wp2
    go_ret
    exact ⟨rfl, rfl⟩
  by_cases h5 : t = 205
  · subst h5
    by_cases hc : c = 1
    · subst hc
      go_enter Try.func45, Try.ntmps45
      go_wp2
      go_ret
      exact ⟨rfl, rfl⟩
    · have q1 := beq_no hc
      have HX : Hid (kindS 205 c b = 7) := by show _ = _; simp [kindS, hc]
      clear hc h1 h2
      go_enter Try.func45, Try.ntmps45
      go_wp2
      go_ret
      exact ⟨by rw [HX.out]; rfl, rfl⟩
  by_cases h6 : t = 206
  · subst h6
    by_cases hc1 : c = 1
    · subst hc1
      go_enter Try.func45, Try.ntmps45
      go_wp2
      go_ret
      exact ⟨rfl, rfl⟩
    by_cases hc4 : c = 4
    · subst hc4
      go_enter Try.func45, Try.ntmps45
      go_wp2
      go_ret
      exact ⟨rfl, rfl⟩
    by_cases hc15 : c = 15
    · subst hc15
      by_cases hl : 12 ≤ n
      · have hli : (12 : Int) ≤ (n : Int) := by omega
        have hcap : n ≤ cap := by obtain ⟨_, _, e, hc, _⟩ := H.out; injection e with e1 e2 e3; omega
        have hcut : ∀ wx : World, (Instr.slice 22 (.slice A n cap) (some (.int .i64 8)) (some (.int .i64 12)) none).run Try.prog wx = .ok (.slice (cutA A cap 8) 4 (cap - 8)) wx := fun wx => cut_mid wx A n cap 8 12 4 (by decide) (by omega) rfl
        have hmid : SlB w w.heap.size (.slice (cutA A cap 8) 4 (cap - 8)) ((b.drop 8).take 4) := SlB.mid (k := 8) (d := 4) H.out (by omega)
        obtain ⟨m, hm⟩ : ∃ m, m = (b.drop 8).take 4 := ⟨_, rfl⟩
        rw [← hm] at hmid
        have hml : m.length = 4 := (hmid.num).symm
        have hst : (convert 22 9 (.slice (cutA A cap 8) 4 (cap - 8))).run Try.prog w = .ok (.string ⟨m.toArray⟩) w := by
          have := str_of (c := cap - 8) (hml ▸ hmid.rd)
          rw [hml] at this
          exact this
        obtain ⟨S, hS⟩ : ∃ S : ByteArray, S = ⟨m.toArray⟩ := ⟨_, rfl⟩
        rw [← hS] at hst
        by_cases hR : m = lettersL
        · have hSe : S = ⟨#[82, 69, 77, 66]⟩ := by rw [hS, hR]; rfl
          have HX : Hid (kindS 206 15 b = 6) := by
            show _ = _
            have hb : rembB b = true := by rw [rembB, ← hm, hR]; simp; have := HN.out; omega
            simp [kindS, hb]
          subst hSe
          clear hS hR hm hml hmid hc1 hc4 h1 h2 h5
          go_enter Try.func45, Try.ntmps45
          go_wp2
          go_ret
          exact ⟨by rw [HX.out]; rfl, rfl⟩
        · have q2 : (S.toList == [82, 69, 77, 66]) = false := by
            rw [beq_eq_false_iff_ne, hS]
            intro e
            exact hR (by rw [ByteArray.toList_eq] at e; exact e)
          have HX : Hid (kindS 206 15 b = 7) := by
            show _ = _
            have hb : rembB b = false := by rw [rembB, ← hm]; simp [hR]
            simp [kindS, hb]
          clear hS hR hm hml hmid hc1 hc4 h1 h2 h5
          go_enter Try.func45, Try.ntmps45
          go_wp2
          go_ret
          exact ⟨by rw [HX.out]; rfl, rfl⟩
      · have hli : ¬ (12 : Int) ≤ (n : Int) := by omega
        have HX : Hid (kindS 206 15 b = 7) := by
          show _ = _
          have hb : rembB b = false := by rw [rembB]; simp; intro h; have := HN.out; omega
          simp [kindS, hb]
        clear hc1 hc4 h1 h2 h5
        go_enter Try.func45, Try.ntmps45
        go_wp2
        go_ret
        exact ⟨by rw [HX.out]; rfl, rfl⟩
    · have q1 := beq_no hc1
      have q4 := beq_no hc4
      have q15 := beq_no hc15
      have HX : Hid (kindS 206 c b = 7) := by show _ = _; simp [kindS, hc1, hc4, hc15]
      clear hc1 hc4 hc15 h1 h2 h5
      go_enter Try.func45, Try.ntmps45
      go_wp2
      go_ret
      exact ⟨by rw [HX.out]; rfl, rfl⟩
  have q1 := beq_no h1
  have q2 := beq_no h2
  have q5 := beq_no h5
  have q6 := beq_no h6
  have HX : Hid (kindS t c b = 7) := by show _ = _; simp [kindS, h1, h2, h5, h6]
  clear h1 h2 h5 h6
  go_enter Try.func45, Try.ntmps45
  go_wp2
  go_ret
  exact ⟨by rw [HX.out]; rfl, rfl⟩
set_option maxHeartbeats 1600000 in
theorem ris_c (b : List UInt8) (A : Option Addr) (n cap : Nat) (w : World) (h : SlV w (.slice A n cap) b) :
    Calls Try.prog 13 #[.slice A n cap] w fun e w' => e = .returned (.bool (isB b)) ∧ w = w' := by
  have hn := h.num
  by_cases hl : 2 ≤ n
  · have hli : (2 : Int) ≤ (n : Int) := by omega
    obtain ⟨g, o, rfl, hg, hc⟩ := head_cells (hn ▸ h.rd) (by omega)
    have c1 := hc 1 (by omega)
    obtain ⟨y, hy⟩ : ∃ y, y = b.getD 1 0 := ⟨_, rfl⟩
    rw [← hy] at c1
    have hyl := U8.lt y
    have HX : Hid (isB b = (decide (192 ≤ y.toNat) && decide (y.toNat ≤ 223))) := by show _ = _; rw [isB, ← hy, decide_eq_true (show 2 ≤ b.length by omega)]; simp
    clear h hn hc hy
    by_cases h1 : 192 ≤ y.toNat
    · have h1i : (192 : Int) ≤ (y.toNat : Int) := by omega
      by_cases h2 : y.toNat ≤ 223
      · have h2i : (y.toNat : Int) ≤ 223 := by omega
        have HX2 : Hid (isB b = true) := by show _ = _; rw [HX.out]; simp [h1, h2]
        go_enter Try.func13, Try.ntmps13
        go_wp2
        go_ret
        exact ⟨by rw [HX2.out]; rfl, rfl⟩
      · have h2i : ¬ (y.toNat : Int) ≤ 223 := by omega
        have h2j : decide ((y.toNat : Int) ≤ 223) = false := by simp; omega
        have HX2 : Hid (isB b = false) := by show _ = _; rw [HX.out]; simp [h2]
        go_enter Try.func13, Try.ntmps13
        go_wp2
        go_ret
        exact ⟨by rw [HX2.out]; rfl, rfl⟩
    · have h1i : ¬ (192 : Int) ≤ (y.toNat : Int) := by omega
      have h1j : decide ((192 : Int) ≤ (y.toNat : Int)) = false := by simp; omega
      have HX2 : Hid (isB b = false) := by show _ = _; rw [HX.out]; simp [h1]
      go_enter Try.func13, Try.ntmps13
      go_wp2
      go_ret
      exact ⟨by rw [HX2.out]; rfl, rfl⟩
  · have hli : ¬ (2 : Int) ≤ (n : Int) := by omega
    have hlj : decide ((2 : Int) ≤ (n : Int)) = false := by simp; omega
    have HX2 : Hid (isB b = false) := by show _ = _; rw [isB]; simp; intro h; omega
    clear h hn
    go_enter Try.func13, Try.ntmps13
    go_wp2
    go_ret
    exact ⟨by rw [HX2.out]; rfl, rfl⟩
end Go.Proofs.Ytkfimncbfbbopaa
