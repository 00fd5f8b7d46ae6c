/- SHA-256 as plain data. No program in sight. -/
import Derived.Test.YtlapgccfgkokcaaW32
set_option linter.unusedVariables false
namespace Go.Proofs.Ytlapgccfgkokcaa

def kL : List UInt32 := [0x428a2f98, 0x71374491, 0xb5c0fbcf, 0xe9b5dba5, 0x3956c25b, 0x59f111f1, 0x923f82a4, 0xab1c5ed5,
  0xd807aa98, 0x12835b01, 0x243185be, 0x550c7dc3, 0x72be5d74, 0x80deb1fe, 0x9bdc06a7, 0xc19bf174,
  0xe49b69c1, 0xefbe4786, 0x0fc19dc6, 0x240ca1cc, 0x2de92c6f, 0x4a7484aa, 0x5cb0a9dc, 0x76f988da,
  0x983e5152, 0xa831c66d, 0xb00327c8, 0xbf597fc7, 0xc6e00bf3, 0xd5a79147, 0x06ca6351, 0x14292967,
  0x27b70a85, 0x2e1b2138, 0x4d2c6dfc, 0x53380d13, 0x650a7354, 0x766a0abb, 0x81c2c92e, 0x92722c85,
  0xa2bfe8a1, 0xa81a664b, 0xc24b8b70, 0xc76c51a3, 0xd192e819, 0xd6990624, 0xf40e3585, 0x106aa070,
  0x19a4c116, 0x1e376c08, 0x2748774c, 0x34b0bcb5, 0x391c0cb3, 0x4ed8aa4a, 0x5b9cca4f, 0x682e6ff3,
  0x748f82ee, 0x78a5636f, 0x84c87814, 0x8cc70208, 0x90befffa, 0xa4506ceb, 0xbef9a3f7, 0xc67178f2]
def h0L : List UInt32 := [0x6a09e667, 0xbb67ae85, 0x3c6ef372, 0xa54ff53a, 0x510e527f, 0x9b05688c, 0x1f83d9ab, 0x5be0cd19]
theorem kL_len : kL.length = 64 := by decide
theorem h0L_len : h0L.length = 8 := by decide
/-- To the right, n of 32. -/
def rr (x : UInt32) (n : Nat) : UInt32 := x >>> UInt32.ofNat n ||| x <<< UInt32.ofNat (32 - n)
def wd (m : List UInt8) (i : Nat) : UInt32 := (m.getD i 0).toUInt32 <<< 24 ||| (m.getD (i + 1) 0).toUInt32 <<< 16 ||| (m.getD (i + 2) 0).toUInt32 <<< 8 ||| (m.getD (i + 3) 0).toUInt32
def g0 (x : UInt32) : UInt32 := rr x 7 ^^^ rr x 18 ^^^ x >>> 3
def g1 (x : UInt32) : UInt32 := rr x 17 ^^^ rr x 19 ^^^ x >>> 10
/-- The words of a piece that begins at 'at_', the first i of them. -/
def wsL (m : List UInt8) : Nat → List UInt32
  | 0 => []
  | i + 1 => wsL m i ++ [if i < 16 then wd m (4 * i) else (wsL m i).getD (i - 16) 0 + g0 ((wsL m i).getD (i - 15) 0) + (wsL m i).getD (i - 7) 0 + g1 ((wsL m i).getD (i - 2) 0)]
theorem wsL_len (m : List UInt8) : ∀ i, (wsL m i).length = i
  | 0 => rfl
  | i + 1 => by rw [wsL, List.length_append, wsL_len m i]; rfl
def wf (m : List UInt8) (i : Nat) : UInt32 := (wsL m (i + 1)).getD i 0
theorem wsL_getD (m : List UInt8) : ∀ i j, j < i → (wsL m i).getD j 0 = wf m j
  | 0, j, h => absurd h (Nat.not_lt_zero _)
  | i + 1, j, h => by
    by_cases e : j = i
    · subst e; rfl
    · rw [wsL, List.getD_eq_getElem?_getD, List.getElem?_append_left (by rw [wsL_len]; omega), ← List.getD_eq_getElem?_getD, wsL_getD m i j (by omega)]
theorem wf_lo (m : List UInt8) (i : Nat) (h : i < 16) : wf m i = wd m (4 * i) := by
  rw [wf, wsL, List.getD_eq_getElem?_getD, List.getElem?_append_right (by rw [wsL_len]; exact Nat.le_refl _), wsL_len, Nat.sub_self, if_pos h]
  rfl
theorem wf_hi (m : List UInt8) (i : Nat) (h : ¬ i < 16) : wf m i = wf m (i - 16) + g0 (wf m (i - 15)) + wf m (i - 7) + g1 (wf m (i - 2)) := by
  rw [wf, wsL, List.getD_eq_getElem?_getD, List.getElem?_append_right (by rw [wsL_len]; exact Nat.le_refl _), wsL_len, Nat.sub_self, if_neg h, wsL_getD _ _ _ (by omega), wsL_getD _ _ _ (by omega), wsL_getD _ _ _ (by omega), wsL_getD _ _ _ (by omega)]
  rfl
def t1 (k w : UInt32) (v : List UInt32) : UInt32 :=
  v.getD 7 0 + (rr (v.getD 4 0) 6 ^^^ rr (v.getD 4 0) 11 ^^^ rr (v.getD 4 0) 25) + (v.getD 4 0 &&& v.getD 5 0 ^^^ ~~~(v.getD 4 0) &&& v.getD 6 0) + k + w
def t2 (v : List UInt32) : UInt32 :=
  (rr (v.getD 0 0) 2 ^^^ rr (v.getD 0 0) 13 ^^^ rr (v.getD 0 0) 22) + (v.getD 0 0 &&& v.getD 1 0 ^^^ v.getD 0 0 &&& v.getD 2 0 ^^^ v.getD 1 0 &&& v.getD 2 0)
/-- One round. -/
def rnd (k w : UInt32) (v : List UInt32) : List UInt32 := [t1 k w v + t2 v, v.getD 0 0, v.getD 1 0, v.getD 2 0, v.getD 3 0 + t1 k w v, v.getD 4 0, v.getD 5 0, v.getD 6 0]
theorem rnd_len (k w : UInt32) (v : List UInt32) : (rnd k w v).length = 8 := rfl
def vS (h : List UInt32) (m : List UInt8) : Nat → List UInt32
  | 0 => h
  | i + 1 => rnd (kL.getD i 0) (wf m i) (vS h m i)
theorem vS_len {h : List UInt32} (m : List UInt8) (hl : h.length = 8) : ∀ i, (vS h m i).length = 8
  | 0 => hl
  | i + 1 => rnd_len _ _ _
/-- A piece of 64 bytes more. -/
def cmp (h : List UInt32) (m : List UInt8) : List UInt32 := (List.range 8).map fun i => h.getD i 0 + (vS h m 64).getD i 0
theorem cmp_len (h : List UInt32) (m : List UInt8) : (cmp h m).length = 8 := by simp [cmp]
def pc (m : List UInt8) (r : Nat) : List UInt8 := (m.drop (64 * r)).take 64
/-- The words behind r pieces. -/
def hS (m : List UInt8) : Nat → List UInt32
  | 0 => h0L
  | r + 1 => cmp (hS m r) (pc m r)
theorem hS_len (m : List UInt8) : ∀ r, (hS m r).length = 8
  | 0 => rfl
  | r + 1 => cmp_len _ _
theorem pc_append (a b : List UInt8) (r : Nat) (h : 64 * (r + 1) ≤ a.length) : pc (a ++ b) r = pc a r := by
  unfold pc
  rw [List.drop_append_of_le_length (by omega), List.take_append_of_le_length (by rw [List.length_drop]; omega)]
theorem hS_append (a b : List UInt8) : ∀ r, 64 * r ≤ a.length → hS (a ++ b) r = hS a r
  | 0, _ => rfl
  | r + 1, h => by rw [hS, hS, hS_append a b r (by omega), pc_append a b r h]
/-- The eight bytes of a number, the highest first. -/
def be8 (n : Nat) : List UInt8 := (List.range 8).map fun i => UInt8.ofNat (n / 256 ^ (7 - i))
theorem be8_len (n : Nat) : (be8 n).length = 8 := by simp [be8]
def noughts (n : Nat) : Nat := (119 - n % 64) % 64
def endS (n : Nat) : List UInt8 := 0x80 :: List.replicate (noughts n) 0 ++ be8 (8 * n)
theorem endS_len (n : Nat) : (endS n).length = 9 + noughts n := by simp [endS, be8_len]; omega
def padS (m : List UInt8) : List UInt8 := m ++ endS m.length
theorem padS_len (m : List UInt8) : (padS m).length % 64 = 0 := by
  rw [padS, List.length_append, endS_len, noughts]
  omega
def outS (h : List UInt32) : List UInt8 := (List.range 32).map fun i => ((h.getD (i / 4) 0) >>> UInt32.ofNat (24 - 8 * (i % 4))).toUInt8
theorem outS_len (h : List UInt32) : (outS h).length = 32 := by simp [outS]
/-- The digest. -/
def shaS (m : List UInt8) : List UInt8 := outS (hS (padS m) ((padS m).length / 64))
theorem shaS_len (m : List UInt8) : (shaS m).length = 32 := outS_len _
end Go.Proofs.Ytlapgccfgkokcaa
