/- What the program's word returns (contract). Conditions: the four bytes lie in memory. -/
import Derived.Test.YtlapgccfgkokcaaWords
set_option linter.unusedVariables false
namespace Go.Proofs.Ytlapgccfgkokcaa
open Go.RowKit
attribute [local go_sem ↓] Go.wp_at_zero Go.wp_at_succ

def word4 (a b c d : UInt8) : UInt32 := a.toUInt32 <<< 24 ||| b.toUInt32 <<< 16 ||| c.toUInt32 <<< 8 ||| d.toUInt32
theorem drewN_add (w : World) (k j : Nat) : (w.drewN k).drewN j = w.drewN (k + j) := by simp [World.drewN, Nat.add_assoc]
theorem wd_eq (m : List UInt8) (i : Nat) : wd m i = word4 (m.getD i 0) (m.getD (i + 1) 0) (m.getD (i + 2) 0) (m.getD (i + 3) 0) := rfl
theorem W.shl_byte (a : UInt8) (n : Nat) (hn : n ≤ 24) : (a.toNat : Int) * (2 : Int) ^ n % 4294967296 = ((a.toUInt32 <<< UInt32.ofNat n).toNat : Int) := by
  rw [← W.shl a.toUInt32 n (by omega), UInt8.toNat_toUInt32]
set_option maxHeartbeats 1600000 in
theorem word_c (a b c d : UInt8) (g o n cc : Nat) (w : World) (k : Nat) (hn : 4 ≤ n) (c0 : w.cell? ⟨g, o, none⟩ = some (.int .u8 (a.toNat : Int))) (c1 : w.cell? ⟨g, o + 1, none⟩ = some (.int .u8 (b.toNat : Int))) (c2 : w.cell? ⟨g, o + 2, none⟩ = some (.int .u8 (c.toNat : Int))) (c3 : w.cell? ⟨g, o + 3, none⟩ = some (.int .u8 (d.toNat : Int))) :
    Calls Try.prog 57 #[.slice (some ⟨g, o, none⟩) n cc] (w.drewN k) fun e w' => e = .returned (.int .u32 ((word4 a b c d).toNat : Int)) ∧ ∃ j, w' = w.drewN j := by
  have h0 := W.shl_byte a 24 (by decide)
  have h1 := W.shl_byte b 16 (by decide)
  have h2 := W.shl_byte c 8 (by decide)
  have h3 := W.of_byte d
  have o1 := W.or (a.toUInt32 <<< UInt32.ofNat 24) (b.toUInt32 <<< UInt32.ofNat 16)
  have o2 := W.or (a.toUInt32 <<< UInt32.ofNat 24 ||| b.toUInt32 <<< UInt32.ofNat 16) (c.toUInt32 <<< UInt32.ofNat 8)
  have o3 := W.or (a.toUInt32 <<< UInt32.ofNat 24 ||| b.toUInt32 <<< UInt32.ofNat 16 ||| c.toUInt32 <<< UInt32.ofNat 8) d.toUInt32
  rw [show a.toUInt32 <<< UInt32.ofNat 24 ||| b.toUInt32 <<< UInt32.ofNat 16 ||| c.toUInt32 <<< UInt32.ofNat 8 ||| d.toUInt32 = word4 a b c d from rfl] at o3
  simp only [Int.reducePow] at h0 h1 h2
  generalize word4 a b c d = y at *
  generalize a.toUInt32 <<< UInt32.ofNat 24 ||| b.toUInt32 <<< UInt32.ofNat 16 ||| c.toUInt32 <<< UInt32.ofNat 8 = z2 at *
  generalize a.toUInt32 <<< UInt32.ofNat 24 ||| b.toUInt32 <<< UInt32.ofNat 16 = z1 at *
  generalize a.toUInt32 <<< UInt32.ofNat 24 = a' at *
  generalize b.toUInt32 <<< UInt32.ofNat 16 = b' at *
  generalize c.toUInt32 <<< UInt32.ofNat 8 = c' at *
  generalize d.toUInt32 = d' at *
  have l0 := U8.lt a
  have l1 := U8.lt b
  have l2 := U8.lt c
  have q0 : (a.toNat : Int) * 16777216 = (a'.toNat : Int) := by omega
  have q1 : (b.toNat : Int) * 65536 = (b'.toNat : Int) := by omega
  have q2 : (c.toNat : Int) * 256 = (c'.toNat : Int) := by omega
  rw [h3] at o3
  clear h0 h1 h2 h3
  have n0 : (0 : Int) < (n : Int) := by omega
  have n1 : (1 : Int) < (n : Int) := by omega
  have n2 : (2 : Int) < (n : Int) := by omega
  have n3 : (3 : Int) < (n : Int) := by omega
  have m1 : 1 < n := by omega
  have m2 : 2 < n := by omega
  have m3 : 3 < n := by omega
  have m0 : 0 < n := by omega
  have m4 : ¬ n = 0 := by omega
  have l3 := U8.lt d
  have k0 : (w.drewN k).cell? ⟨g, o, none⟩ = some (.int .u8 (a.toNat : Int)) := c0
  have k1 : (w.drewN k).cell? ⟨g, o + 1, none⟩ = some (.int .u8 (b.toNat : Int)) := c1
  have k2 : (w.drewN k).cell? ⟨g, o + 2, none⟩ = some (.int .u8 (c.toNat : Int)) := c2
  have k3 : (w.drewN k).cell? ⟨g, o + 3, none⟩ = some (.int .u8 (d.toNat : Int)) := c3
  go_enter Try.func57, Try.ntmps57
  go_wp2_with fail
  go_quiet (fail)
  go_wp2
  go_ret
  exact ⟨rfl, _, drewN_add _ _ _⟩
end Go.Proofs.Ytlapgccfgkokcaa
