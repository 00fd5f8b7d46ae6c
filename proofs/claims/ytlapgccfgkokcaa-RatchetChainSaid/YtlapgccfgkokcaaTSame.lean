/- What tag.Same does (contract). Conditions: both lie in memory. -/
import Derived.Test.YtlapgccfgkokcaaTagOf
set_option linter.unusedVariables false
set_option linter.unusedSimpArgs false
namespace Go.Proofs.Ytlapgccfgkokcaa
open Go.RowKit
attribute [local go_sem ↓] Go.wp_at_zero Go.wp_at_succ

def orD (a b : List UInt8) : Nat → UInt8
  | 0 => 0
  | i + 1 => orD a b i ||| (a.getD i 0 ^^^ b.getD i 0)
theorem or_zero (x y : UInt8) : x ||| y = 0 ↔ x = 0 ∧ y = 0 := UInt8.or_eq_zero_iff
theorem xor_zero (x y : UInt8) : x ^^^ y = 0 ↔ x = y := UInt8.xor_eq_zero_iff
theorem orD_zero (a b : List UInt8) : ∀ i, orD a b i = 0 ↔ ∀ j, j < i → a.getD j 0 = b.getD j 0
  | 0 => by simp [orD]
  | i + 1 => by
    rw [orD, or_zero, orD_zero a b i, xor_zero]
    constructor
    · rintro ⟨h1, h2⟩ j hj
      by_cases e : j = i
      · rw [e]; exact h2
      · exact h1 j (by omega)
    · intro h
      exact ⟨fun j hj => h j (by omega), h i (by omega)⟩
theorem orD_eq (a b : List UInt8) (h : a.length = b.length) : (orD a b a.length = 0) = (a = b) := by
  apply propext
  rw [orD_zero]
  constructor
  · intro hh
    refine List.ext_getElem h fun i h1 h2 => ?_
    have := hh i h1
    rwa [List.getD_eq_getElem?_getD, List.getD_eq_getElem?_getD, List.getElem?_eq_getElem h1, List.getElem?_eq_getElem h2] at this
  · rintro rfl j _
    rfl
theorem SlV.cells {w : World} {A : Option Addr} {n c : Nat} {b : List UInt8} (h : SlV w (.slice A n c) b) (hp : 0 < b.length) : ∃ g o, A = some ⟨g, o, none⟩ ∧ g < w.heap.size ∧ ∀ i, i < b.length → w.cell? ⟨g, o + i, none⟩ = some (.int .u8 ((b.getD i 0).toNat : Int)) := by
  obtain ⟨A', c', e, hc, hr⟩ := h
  injection e with e1 e2 e3
  subst e1
  exact head_cells hr hp
set_option maxRecDepth 100000 in
set_option maxHeartbeats 1600000 in
theorem tsame_c (a b : List UInt8) (A D : Option Addr) (n m c d : Nat) (w : World) (ha : SlV w (.slice A n c) a) (hb : SlV w (.slice D m d) b) (hn : n < 9223372036854775808) (hm : m < 9223372036854775808) :
    Calls Try.prog 33 #[.slice A n c, .slice D m d] w fun e w' => e = .returned (.bool (a == b)) ∧ Below w.heap.size w w' := by
  have HA := Lib.hid ha
  have HB := Lib.hid hb
  have HNA := Lib.hid ha.num
  have HMB := Lib.hid hb.num
  clear ha hb
  go_enter Try.func33, Try.ntmps33
  by_cases hl : n = m
  · subst hl
    go_upto_region 5 with fail
    go_loopg [5, 14] n (fun gg v5 v14 wx => ∃ i : Nat, i ≤ n ∧ gg = n - i ∧ v5 = .int .u8 ((orD a b i).toNat : Int) ∧ v14 = .int .i64 (i : Int) ∧ Below w.heap.size w wx)
    case atStart => exact ⟨0, Nat.zero_le _, rfl, rfl, rfl, Below.refl _ _⟩
    case round =>
      obtain ⟨i, hi, rfl, rfl, rfl, hbel⟩ := hrel
      by_cases hi2 : i < n
      · have hii : (i : Int) < (n : Int) := by omega
        obtain ⟨ga, oa, hA, hga, hca⟩ := HA.out.cells (by rw [← HNA.out]; omega)
        obtain ⟨gb, ob, hD, hgb, hcb⟩ := HB.out.cells (by rw [← HMB.out]; omega)
        subst hA hD
        have c1 := (hbel.cell (p := ⟨ga, oa + i, none⟩) hga).trans (hca i (by rw [← HNA.out]; exact hi2))
        have c2 := (hbel.cell (p := ⟨gb, ob + i, none⟩) hgb).trans (hcb i (by rw [← HMB.out]; exact hi2))
        obtain ⟨x, hx⟩ : ∃ x, x = a.getD i 0 := ⟨_, rfl⟩
        obtain ⟨y, hy⟩ : ∃ y, y = b.getD i 0 := ⟨_, rfl⟩
        obtain ⟨z, hz⟩ : ∃ z, z = orD a b i := ⟨_, rfl⟩
        rw [← hx] at c1
        rw [← hy] at c2
        rw [← hz]
        obtain ⟨u, hu⟩ : ∃ u, u = x ^^^ y := ⟨_, rfl⟩
        obtain ⟨v, hv⟩ : ∃ v, v = z ||| u := ⟨_, rfl⟩
        have f1 := U8.xor x y
        have f2 := U8.or z u
        rw [← hu] at f1
        rw [← hv] at f2
        have HV : Hid (orD a b (i + 1) = v) := by show _ = _; rw [hv, hu, hz, hx, hy, orD]
        have HBEL := Lib.hid hbel
        clear hga hca hgb hcb hx hy hz hu hv hbel
        go_wp2_with fail
        go_quiet (fail)
        go_wp2_with fail
        go_roundg (n - (i + 1))
        case measure => omega
        case rel => exact ⟨i + 1, by omega, rfl, by rw [HV.out], by go_num, below_drewN HBEL.out _⟩
      · have hin : i = n := by omega
        subst hin
        have hln : a.length = b.length := by rw [← HNA.out, ← HMB.out]
        have HEQ := Lib.hid (orD_eq a b hln)
        obtain ⟨z, hz⟩ : ∃ z, z = orD a b i := ⟨_, rfl⟩
        have HZ := Lib.hid hz
        have HBEL := Lib.hid hbel
        rw [← hz]
        clear hz hbel hln
        go_wp2_with fail
        go_ret
        have h : ((z.toNat : Int) == 0) = (a == b) := by
          by_cases e : a = b
          · have hz : z = 0 := by
              rw [HZ.out]
              have := HEQ.out.mpr e
              rwa [← HNA.out] at this
            rw [hz, e]
            simp
          · have hz : z ≠ 0 := fun h => e (HEQ.out.mp (by rw [← HNA.out, ← HZ.out]; exact h))
            have h2 : z.toNat ≠ 0 := fun h => hz (UInt8.toNat_inj.1 (by rw [h]; rfl))
            rw [show (a == b) = false from beq_eq_false_iff_ne.2 e]
            exact beq_eq_false_iff_ne.2 (by omega)
        exact ⟨by rw [← h]; rfl, HBEL.out⟩
  · have hne : ¬ (n : Int) = (m : Int) := by omega
    go_wp2_with fail
    go_ret
    refine ⟨?_, Below.refl _ _⟩
    have : ¬ a = b := fun e => hl (by rw [HNA.out, HMB.out, e])
    simp [this]
end Go.Proofs.Ytlapgccfgkokcaa
