/- What two returns, on both sides (contracts). Conditions: the bytes read, the place lies inside. -/
import Derived.Test.YtmaemfjepdicfaaRBytes
import Derived.Test.YtmaemfjepdicfaaSame
import Derived.Lib.EndianBits
import Derived.Deep.QuietTactic
import Derived.BigQuiet
set_option linter.unusedVariables false
namespace Go.Proofs.Ytmaemfjepdicfaa
open Go.RowKit
attribute [local go_sem ↓] Go.wp_at_zero Go.wp_at_succ

/-- The cells of two neighbours. -/
theorem two_cells {w : World} {B : Nat} {A : Option Addr} {bs : List UInt8} {i : Nat} (hr : Reads w B 1 A bs.length (bs.map u8v)) (hi : i + 1 < bs.length) :
    ∃ b off, A = some ⟨b, off, none⟩ ∧ b < B ∧ w.cell? ⟨b, off + i, none⟩ = some (.int .u8 ((bs.getD i 0).toNat : Int)) ∧ w.cell? ⟨b, off + (i + 1), none⟩ = some (.int .u8 ((bs.getD (i + 1) 0).toNat : Int)) := by
  obtain ⟨ad, rfl, hadl, hcell⟩ := hr.2 (by omega)
  have c00 := hcell 0 (u8v (bs[0]'(by omega))) (by rw [List.getElem?_map, List.getElem?_eq_getElem (by omega)]; rfl)
  obtain ⟨b, off, rfl⟩ := addr_plain c00
  refine ⟨b, off, rfl, hadl, ?_, ?_⟩
  · have := hcell i (u8v (bs.getD i 0)) (by rw [List.getElem?_map, List.getElem?_eq_getElem (by omega), List.getD_eq_getElem?_getD, List.getElem?_eq_getElem (by omega)]; rfl)
    rwa [Go.WideShapes.add_plain] at this
  · have := hcell (i + 1) (u8v (bs.getD (i + 1) 0)) (by rw [List.getElem?_map, List.getElem?_eq_getElem (by omega), List.getD_eq_getElem?_getD, List.getElem?_eq_getElem (by omega)]; rfl)
    rwa [Go.WideShapes.add_plain] at this

theorem or_join {x y : Nat} (hx : x < 256) (hy : y < 256) : bits .or .i64 ((x : Int) * 256) (y : Int) = ((x * 256 + y : Nat) : Int) := by
  have := bits_join .i64 63 (by decide) (fun n h0 h1 => by simp [IntKind.wrap, IntKind.bits, IntKind.signed]; omega) 8 ((x : Int) * 256) (y : Int) (by omega) (by omega) (by omega) (by omega) (by omega) (by omega)
  rw [this]
  omega
theorem rtwo_c (bs : List UInt8) (A : Option Addr) (c i : Nat) (w : World) (hr : Reads w w.heap.size 1 A bs.length (bs.map u8v)) (hi : i + 1 < bs.length) (hl : bs.length ≤ 9223372036854775807) :
    Calls Try.prog 27 #[.slice A bs.length c, .int .i64 i] w fun e w' => e = .returned (.int .i64 (twoS bs i)) ∧ ∃ m, w' = w.drewN m := by
  obtain ⟨b, off, rfl, hb, c1, c2⟩ := two_cells hr hi
  have b1 : (bs.getD i 0).toNat < 256 := UInt8.toNat_lt _
  have b2 : (bs.getD (i + 1) 0).toNat < 256 := UInt8.toNat_lt _
  have hi0 : (0 : Int) ≤ (i : Int) := by omega
  have hi1 : (i : Int) < (bs.length : Int) := by omega
  have hi2 : (i : Int) + 1 < (bs.length : Int) := by omega
  unfold twoS
  generalize (bs.getD i 0).toNat = x at *
  generalize (bs.getD (i + 1) 0).toNat = y at *
  clear hr
  go_enter Try.func27, Try.ntmps27
  go_wp2
  go_quiet (fail)
  go_wp2
  go_ret
  exact ⟨congrArg (fun v => Ending.returned (Value.int .i64 v)) (or_join b1 b2), _, rfl⟩
theorem ctwo_c (bs : List UInt8) (A : Option Addr) (c i : Nat) (w : World) (g : Nat) (hg : w.cell? ⟨g, 0, none⟩ = some (.slice A bs.length c)) (hr : Reads w w.heap.size 1 A bs.length (bs.map u8v)) (hi : i + 1 < bs.length) (hl : bs.length ≤ 9223372036854775807) :
    Calls Try.prog 25 #[.int .i64 i, .pointer (some ⟨g, 0, none⟩)] w fun e w' => e = .returned (.int .i64 (twoS bs i)) ∧ ∃ m, w' = w.drewN m := by
  obtain ⟨b, off, rfl, hb, c1, c2⟩ := two_cells hr hi
  have b1 : (bs.getD i 0).toNat < 256 := UInt8.toNat_lt _
  have b2 : (bs.getD (i + 1) 0).toNat < 256 := UInt8.toNat_lt _
  have hi0 : (0 : Int) ≤ (i : Int) := by omega
  have hi1 : (i : Int) < (bs.length : Int) := by omega
  have hi2 : (i : Int) + 1 < (bs.length : Int) := by omega
  unfold twoS
  generalize (bs.getD i 0).toNat = x at *
  generalize (bs.getD (i + 1) 0).toNat = y at *
  clear hr
  go_enter Try.func25, Try.ntmps25
  go_wp2
  go_quiet (fail)
  go_wp2
  go_ret
  exact ⟨congrArg (fun v => Ending.returned (Value.int .i64 v)) (or_join b1 b2), _, rfl⟩
end Go.Proofs.Ytmaemfjepdicfaa
