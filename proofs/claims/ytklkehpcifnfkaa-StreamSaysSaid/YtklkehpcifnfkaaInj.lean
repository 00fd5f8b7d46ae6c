/- AES's rounds turn unlike blocks into unlike blocks. No program in sight. -/
import Derived.Test.YtklkehpcifnfkaaSpec
import Derived.Test.YtklkehpcifnfkaaField
set_option linter.unusedVariables false
namespace Go.Proofs.Ytklkehpcifnfkaa

theorem map_range_eq {n : Nat} {f g : Nat → UInt8} (h : (List.range n).map f = (List.range n).map g) : ∀ i, i < n → f i = g i := by
  intro i hi
  have := congrArg (fun l => l[i]?) h
  simpa [hi] using this
theorem ext16 {x y : List UInt8} (hx : x.length = 16) (hy : y.length = 16) (h : ∀ i, i < 16 → x.getD i 0 = y.getD i 0) : x = y := by
  have e1 := list_range x
  have e2 := list_range y
  rw [hx] at e1
  rw [hy] at e2
  rw [← e1, ← e2]
  exact List.map_congr_left fun i hi => h i (List.mem_range.1 hi)
theorem xcancel {a b c : UInt8} (h : a ^^^ c = b ^^^ c) : a = b := by
  have := congrArg (fun x => x ^^^ c) h
  simpa [UInt8.xor_assoc] using this
theorem addR_inj {x y W : List UInt8} {r : Nat} (hx : x.length = 16) (hy : y.length = 16) (h : addR x W r = addR y W r) : x = y :=
  ext16 hx hy fun i hi => xcancel (map_range_eq h i hi)
def isb' (y : UInt8) : UInt8 := isL.getD y.toNat 0
theorem sb_back' (x : UInt8) : isb' (sb x) = x := all1 (p := fun x => isb' (sb x) = x) (by decide +kernel) x
theorem sb_inj {x y : UInt8} (h : sb x = sb y) : x = y := by rw [← sb_back' x, h, sb_back']
theorem sgm_onto : ∀ j, j < 16 → ∃ i, i < 16 ∧ sgm i = j := by decide
theorem movS_inj {x y : List UInt8} (hx : x.length = 16) (hy : y.length = 16) (h : movS x = movS y) : x = y := by
  refine ext16 hx hy fun j hj => ?_
  obtain ⟨i, hi, rfl⟩ := sgm_onto j hj
  exact sb_inj (map_range_eq h i hi)
def mF (a b c d : UInt8) : UInt8 := tw a ^^^ tw b ^^^ b ^^^ c ^^^ d
theorem xs (x y : UInt8) : x ^^^ (x ^^^ y) = y := by rw [← UInt8.xor_assoc]; simp
theorem xcomm (x y : UInt8) : x ^^^ y = y ^^^ x := UInt8.xor_comm x y
theorem xleft (x y z : UInt8) : x ^^^ (y ^^^ z) = y ^^^ (x ^^^ z) := by rw [← UInt8.xor_assoc, ← UInt8.xor_assoc, xcomm x y]
theorem m2 (a b c d : UInt8) : mF (mF a b c d) (mF b c d a) (mF c d a b) (mF d a b c) = tw (tw a) ^^^ (tw (tw c) ^^^ a) := by
  simp only [mF, tw_add]
  simp [UInt8.xor_assoc, xcomm, xleft, xs]
theorem m4 (a c : UInt8) : tw (tw (tw (tw a) ^^^ (tw (tw c) ^^^ a))) ^^^ (tw (tw (tw (tw c) ^^^ (tw (tw a) ^^^ c))) ^^^ (tw (tw a) ^^^ (tw (tw c) ^^^ a))) = a := by
  simp only [tw_add]
  simp [UInt8.xor_assoc, xcomm, xleft, xs]
/-- A column, out of what it is mixed to. -/
theorem unmix (a b c d : UInt8) : mF (mF (mF (mF a b c d) (mF b c d a) (mF c d a b) (mF d a b c)) (mF (mF b c d a) (mF c d a b) (mF d a b c) (mF a b c d)) (mF (mF c d a b) (mF d a b c) (mF a b c d) (mF b c d a)) (mF (mF d a b c) (mF a b c d) (mF b c d a) (mF c d a b)))
    (mF (mF (mF b c d a) (mF c d a b) (mF d a b c) (mF a b c d)) (mF (mF c d a b) (mF d a b c) (mF a b c d) (mF b c d a)) (mF (mF d a b c) (mF a b c d) (mF b c d a) (mF c d a b)) (mF (mF a b c d) (mF b c d a) (mF c d a b) (mF d a b c)))
    (mF (mF (mF c d a b) (mF d a b c) (mF a b c d) (mF b c d a)) (mF (mF d a b c) (mF a b c d) (mF b c d a) (mF c d a b)) (mF (mF a b c d) (mF b c d a) (mF c d a b) (mF d a b c)) (mF (mF b c d a) (mF c d a b) (mF d a b c) (mF a b c d)))
    (mF (mF (mF d a b c) (mF a b c d) (mF b c d a) (mF c d a b)) (mF (mF a b c d) (mF b c d a) (mF c d a b) (mF d a b c)) (mF (mF b c d a) (mF c d a b) (mF d a b c) (mF a b c d)) (mF (mF c d a b) (mF d a b c) (mF a b c d) (mF b c d a))) = a := by
  rw [m2 (mF (mF a b c d) (mF b c d a) (mF c d a b) (mF d a b c)), m2 a b c d, m2 c d a b]
  exact m4 a c
theorem mF_inj {a b c d a' b' c' d' : UInt8} (h0 : mF a b c d = mF a' b' c' d') (h1 : mF b c d a = mF b' c' d' a') (h2 : mF c d a b = mF c' d' a' b') (h3 : mF d a b c = mF d' a' b' c') : a = a' := by
  rw [← unmix a b c d, h0, h1, h2, h3, unmix]
theorem mixS_inj {x y : List UInt8} (hx : x.length = 16) (hy : y.length = 16) (h : mixS x = mixS y) : x = y := by
  have e := map_range_eq h
  have e0 : mF _ _ _ _ = mF _ _ _ _ := e 0 (by decide)
  have e1 : mF _ _ _ _ = mF _ _ _ _ := e 1 (by decide)
  have e2 : mF _ _ _ _ = mF _ _ _ _ := e 2 (by decide)
  have e3 : mF _ _ _ _ = mF _ _ _ _ := e 3 (by decide)
  have e4 : mF _ _ _ _ = mF _ _ _ _ := e 4 (by decide)
  have e5 : mF _ _ _ _ = mF _ _ _ _ := e 5 (by decide)
  have e6 : mF _ _ _ _ = mF _ _ _ _ := e 6 (by decide)
  have e7 : mF _ _ _ _ = mF _ _ _ _ := e 7 (by decide)
  have e8 : mF _ _ _ _ = mF _ _ _ _ := e 8 (by decide)
  have e9 : mF _ _ _ _ = mF _ _ _ _ := e 9 (by decide)
  have e10 : mF _ _ _ _ = mF _ _ _ _ := e 10 (by decide)
  have e11 : mF _ _ _ _ = mF _ _ _ _ := e 11 (by decide)
  have e12 : mF _ _ _ _ = mF _ _ _ _ := e 12 (by decide)
  have e13 : mF _ _ _ _ = mF _ _ _ _ := e 13 (by decide)
  have e14 : mF _ _ _ _ = mF _ _ _ _ := e 14 (by decide)
  have e15 : mF _ _ _ _ = mF _ _ _ _ := e 15 (by decide)
  refine ext16 hx hy fun i hi => ?_
  match i, hi with
  | 0, _ => exact mF_inj e0 e1 e2 e3
  | 1, _ => exact mF_inj e1 e2 e3 e0
  | 2, _ => exact mF_inj e2 e3 e0 e1
  | 3, _ => exact mF_inj e3 e0 e1 e2
  | 4, _ => exact mF_inj e4 e5 e6 e7
  | 5, _ => exact mF_inj e5 e6 e7 e4
  | 6, _ => exact mF_inj e6 e7 e4 e5
  | 7, _ => exact mF_inj e7 e4 e5 e6
  | 8, _ => exact mF_inj e8 e9 e10 e11
  | 9, _ => exact mF_inj e9 e10 e11 e8
  | 10, _ => exact mF_inj e10 e11 e8 e9
  | 11, _ => exact mF_inj e11 e8 e9 e10
  | 12, _ => exact mF_inj e12 e13 e14 e15
  | 13, _ => exact mF_inj e13 e14 e15 e12
  | 14, _ => exact mF_inj e14 e15 e12 e13
  | 15, _ => exact mF_inj e15 e12 e13 e14
  | i + 16, h => exact absurd h (by omega)
theorem rndS_inj {W x y : List UInt8} {last r : Nat} (hx : x.length = 16) (hy : y.length = 16) (h : rndS W last r x = rndS W last r y) : x = y := by
  unfold rndS at h
  split at h
  · exact movS_inj hx hy (mixS_inj (movS_len _) (movS_len _) (addR_inj (mixS_len _) (mixS_len _) h))
  · exact movS_inj hx hy (addR_inj (movS_len _) (movS_len _) h)
theorem stS_inj {W x y : List UInt8} {last : Nat} (hx : x.length = 16) (hy : y.length = 16) : ∀ r, stS W last x r = stS W last y r → x = y
  | 0, h => addR_inj hx hy h
  | r + 1, h => stS_inj hx hy r (rndS_inj (stS_len _ _ _ _) (stS_len _ _ _ _) h)
theorem blockS_inj {W x y : List UInt8} (hx : x.length = 16) (hy : y.length = 16) : blockS W x = blockS W y ↔ x = y :=
  ⟨stS_inj hx hy _, fun h => by rw [h]⟩
end Go.Proofs.Ytklkehpcifnfkaa
