/- What kind and Is do (contracts). Conditions: the bytes lie in memory. -/
import Derived.Test.YtkfimncbfbbopaaSlv
set_option linter.unusedVariables false
set_option linter.unusedSimpArgs false
namespace Go.Proofs.Ytkfimncbfbbopaa
open Go.RowKit
attribute [local go_sem ↓] Go.wp_at_zero Go.wp_at_succ

def lettersL : List UInt8 := [82, 69, 77, 66]
def rembB (b : List UInt8) : Bool := decide (12 ≤ b.length) && ((b.drop 8).take 4 == lettersL)
def kindS (t c : Int) (b : List UInt8) : Int :=
  if t = 200 then 1 else if t = 201 then 2 else if t = 205 ∧ c = 1 then 3 else if t = 206 ∧ c = 1 then 4 else if t = 206 ∧ c = 4 then 5 else if t = 206 ∧ c = 15 ∧ rembB b = true then 6 else 7
def isB (b : List UInt8) : Bool := decide (2 ≤ b.length) && decide (192 ≤ (b.getD 1 0).toNat) && decide ((b.getD 1 0).toNat ≤ 223)
theorem beq_no {t k : Int} (h : ¬ t = k) : (t == k) = false := by simpa using h
set_option maxRecDepth 100000 in
set_option maxHeartbeats 6400000 in
theorem kind_c (t c : Int) (b : List UInt8) (A : Option Addr) (n cap : Nat) (w : World) (h : SlV w (.slice A n cap) b) :
    Calls Try.prog 43 #[.int .i64 t, .int .i64 c, .slice A n cap] w fun e w' => e = .returned (.int .i64 (kindS t c b)) ∧ w = w' := by
  have HN := Lib.hid h.num
  have H := Lib.hid h
  clear h
  by_cases h1 : t = 200
  · subst h1
    go_enter Try.func43, Try.ntmps43
    go_wp2
    go_ret
    exact ⟨rfl, rfl⟩
  by_cases h2 : t = 201
  · subst h2
    go_enter Try.func43, Try.ntmps43
    go_wp2
    go_ret
    exact ⟨rfl, rfl⟩
  by_cases h5 : t = 205
  · subst h5
    by_cases hc : c = 1
    · subst hc
      go_enter Try.func43, Try.ntmps43
      go_wp2
      go_ret
      exact ⟨rfl, rfl⟩
    · have q1 := beq_no hc
      have HX : Hid (kindS 205 c b = 7) := by show _ = _; simp [kindS, hc]
      clear hc h1 h2
      go_enter Try.func43, Try.ntmps43
      go_wp2
      go_ret
      exact ⟨by rw [HX.out]; rfl, rfl⟩
  by_cases h6 : t = 206
  · subst h6
    by_cases hc1 : c = 1
    · subst hc1
      go_enter Try.func43, Try.ntmps43
      go_wp2
      go_ret
      exact ⟨rfl, rfl⟩
    by_cases hc4 : c = 4
    · subst hc4
      go_enter Try.func43, Try.ntmps43
      go_wp2
      go_ret
      exact ⟨rfl, rfl⟩
    by_cases hc15 : c = 15
    · subst hc15
      by_cases hl : 12 ≤ n
      · have hli : (12 : Int) ≤ (n : Int) := by omega
        have hcap : n ≤ cap := by obtain ⟨_, _, e, hc, _⟩ := H.out; injection e with e1 e2 e3; omega
        have hcut : ∀ wx : World, (Instr.slice 22 (.slice A n cap) (some (.int .i64 8)) (some (.int .i64 12)) none).run Try.prog wx = .ok (.slice (cutA A cap 8) 4 (cap - 8)) wx := fun wx => cut_mid wx A n cap 8 12 4 (by decide) (by omega) rfl
        have hmid : SlB w w.heap.size (.slice (cutA A cap 8) 4 (cap - 8)) ((b.drop 8).take 4) := SlB.mid (k := 8) (d := 4) H.out (by omega)
        obtain ⟨m, hm⟩ : ∃ m, m = (b.drop 8).take 4 := ⟨_, rfl⟩
        rw [← hm] at hmid
        have hml : m.length = 4 := (hmid.num).symm
        have hst : (convert 22 9 (.slice (cutA A cap 8) 4 (cap - 8))).run Try.prog w = .ok (.string ⟨m.toArray⟩) w := by
          have := str_of (c := cap - 8) (hml ▸ hmid.rd)
          rw [hml] at this
          exact this
        obtain ⟨S, hS⟩ : ∃ S : ByteArray, S = ⟨m.toArray⟩ := ⟨_, rfl⟩
        rw [← hS] at hst
        by_cases hR : m = lettersL
        · have hSe : S = ⟨#[82, 69, 77, 66]⟩ := by rw [hS, hR]; rfl
          have HX : Hid (kindS 206 15 b = 6) := by
            show _ = _
            have hb : rembB b = true := by rw [rembB, ← hm, hR]; simp; have := HN.out; omega
            simp [kindS, hb]
          subst hSe
          clear hS hR hm hml hmid hc1 hc4 h1 h2 h5
          go_enter Try.func43, Try.ntmps43
          go_wp2
          go_ret
          exact ⟨by rw [HX.out]; rfl, rfl⟩
        · have q2 : (S.toList == [82, 69, 77, 66]) = false := by
            rw [beq_eq_false_iff_ne, hS]
            intro e
            exact hR (by rw [ByteArray.toList_eq] at e; exact e)
          have HX : Hid (kindS 206 15 b = 7) := by
            show _ = _
            have hb : rembB b = false := by rw [rembB, ← hm]; simp [hR]
            simp [kindS, hb]
          clear hS hR hm hml hmid hc1 hc4 h1 h2 h5
          go_enter Try.func43, Try.ntmps43
          go_wp2
          go_ret
          exact ⟨by rw [HX.out]; rfl, rfl⟩
      · have hli : ¬ (12 : Int) ≤ (n : Int) := by omega
        have HX : Hid (kindS 206 15 b = 7) := by
          show _ = _
          have hb : rembB b = false := by rw [rembB]; simp; intro h; have := HN.out; omega
          simp [kindS, hb]
        clear hc1 hc4 h1 h2 h5
        go_enter Try.func43, Try.ntmps43
        go_wp2
        go_ret
        exact ⟨by rw [HX.out]; rfl, rfl⟩
    · have q1 := beq_no hc1
      have q4 := beq_no hc4
      have q15 := beq_no hc15
      have HX : Hid (kindS 206 c b = 7) := by show _ = _; simp [kindS, hc1, hc4, hc15]
      clear hc1 hc4 hc15 h1 h2 h5
      go_enter Try.func43, Try.ntmps43
      go_wp2
      go_ret
      exact ⟨by rw [HX.out]; rfl, rfl⟩
  have q1 := beq_no h1
  have q2 := beq_no h2
  have q5 := beq_no h5
  have q6 := beq_no h6
  have HX : Hid (kindS t c b = 7) := by show _ = _; simp [kindS, h1, h2, h5, h6]
  clear h1 h2 h5 h6
  go_enter Try.func43, Try.ntmps43
  go_wp2
  go_ret
  exact ⟨by rw [HX.out]; rfl, rfl⟩
set_option maxHeartbeats 1600000 in
theorem is_c (b : List UInt8) (A : Option Addr) (n cap : Nat) (w : World) (h : SlV w (.slice A n cap) b) :
    Calls Try.prog 12 #[.slice A n cap] w fun e w' => e = .returned (.bool (isB b)) ∧ w = w' := by
  have hn := h.num
  by_cases hl : 2 ≤ n
  · have hli : (2 : Int) ≤ (n : Int) := by omega
    obtain ⟨g, o, rfl, hg, hc⟩ := head_cells (hn ▸ h.rd) (by omega)
    have c1 := hc 1 (by omega)
    obtain ⟨y, hy⟩ : ∃ y, y = b.getD 1 0 := ⟨_, rfl⟩
    rw [← hy] at c1
    have hyl := U8.lt y
    have HX : Hid (isB b = (decide (192 ≤ y.toNat) && decide (y.toNat ≤ 223))) := by show _ = _; rw [isB, ← hy, decide_eq_true (show 2 ≤ b.length by omega)]; simp
    clear h hn hc hy
    by_cases h1 : 192 ≤ y.toNat
    · have h1i : (192 : Int) ≤ (y.toNat : Int) := by omega
      by_cases h2 : y.toNat ≤ 223
      · have h2i : (y.toNat : Int) ≤ 223 := by omega
        have HX2 : Hid (isB b = true) := by show _ = _; rw [HX.out]; simp [h1, h2]
        go_enter Try.func12, Try.ntmps12
        go_wp2
        go_ret
        exact ⟨by rw [HX2.out]; rfl, rfl⟩
      · have h2i : ¬ (y.toNat : Int) ≤ 223 := by omega
        have h2j : decide ((y.toNat : Int) ≤ 223) = false := by simp; omega
        have HX2 : Hid (isB b = false) := by show _ = _; rw [HX.out]; simp [h2]
        go_enter Try.func12, Try.ntmps12
        go_wp2
        go_ret
        exact ⟨by rw [HX2.out]; rfl, rfl⟩
    · have h1i : ¬ (192 : Int) ≤ (y.toNat : Int) := by omega
      have h1j : decide ((192 : Int) ≤ (y.toNat : Int)) = false := by simp; omega
      have HX2 : Hid (isB b = false) := by show _ = _; rw [HX.out]; simp [h1]
      go_enter Try.func12, Try.ntmps12
      go_wp2
      go_ret
      exact ⟨by rw [HX2.out]; rfl, rfl⟩
  · have hli : ¬ (2 : Int) ≤ (n : Int) := by omega
    have hlj : decide ((2 : Int) ≤ (n : Int)) = false := by simp; omega
    have HX2 : Hid (isB b = false) := by show _ = _; rw [isB]; simp; intro h; omega
    clear h hn
    go_enter Try.func12, Try.ntmps12
    go_wp2
    go_ret
    exact ⟨by rw [HX2.out]; rfl, rfl⟩
end Go.Proofs.Ytkfimncbfbbopaa
