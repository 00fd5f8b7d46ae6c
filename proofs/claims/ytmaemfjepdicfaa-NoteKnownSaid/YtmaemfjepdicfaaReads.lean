/- The walk of NoteReads (it returns true). -/
import Derived.Test.YtmaemfjepdicfaaAwake
set_option linter.unusedVariables false
namespace Go.Proofs.Ytmaemfjepdicfaa
open Go.RowKit
attribute [local go_sem ↓] Go.wp_at_zero Go.wp_at_succ

theorem parse_D {bs : List UInt8} {D : NoteD} {k : Nat} (hD : noteS bs = D) (hk : errS bs = k) (A : Option Addr) (c : Nat) (w : World) (hr : Reads w w.heap.size 1 A bs.length (bs.map u8v)) (hlen : bs.length ≤ 140737488355328) (hcap : bs.length ≤ c) :
    Calls Try.prog 14 #[.slice A bs.length c] w fun e w' => ∃ A' c', e = .returned (.tuple #[noteV D A' c', .int .i64 (k : Int)]) ∧ ByteRow w' w.heap.size (.slice A' D.bs.length c') D.bs ∧ Below w.heap.size w w' := by
  subst hD hk
  exact parse_c bs A c w hr hlen hcap
theorem rparse_D {bs : List UInt8} {D : NoteD} {k : Nat} (hD : noteS bs = D) (hk : errS bs = k) (A : Option Addr) (c : Nat) (w : World) (hr : Reads w w.heap.size 1 A bs.length (bs.map u8v)) (hlen : bs.length ≤ 140737488355328) (hcap : bs.length ≤ c) :
    Calls Try.prog 15 #[.slice A bs.length c] w fun e w' => ∃ A' c', e = .returned (.tuple #[noteV D A' c', .int .i64 (k : Int)]) ∧ ByteRow w' w.heap.size (.slice A' D.bs.length c') D.bs ∧ Below w.heap.size w w' := by
  subst hD hk
  exact rparse_c bs A c w hr hlen hcap

set_option maxHeartbeats 800000 in
theorem reads_walk (bs : List UInt8) (A : Option Addr) (c : Nat) (w : World) (hr : Reads w w.heap.size 1 A bs.length (bs.map u8v)) (hlen : bs.length ≤ 140737488355328) (hcap : bs.length ≤ c) :
    Calls Try.prog 5 #[.slice A bs.length c] w fun e w' => e = .returned (.bool true) ∧ Below w.heap.size w w' := by
  obtain ⟨D, hD⟩ : ∃ D, noteS bs = D := ⟨_, rfl⟩
  obtain ⟨k, hk⟩ : ∃ k, errS bs = k := ⟨_, rfl⟩
  have HD := Lib.hid hD
  have HK := Lib.hid hk
  have HR := Lib.hid hr
  clear hD hk hr
  obtain ⟨d0, d1, d2, d3, d4, d5, db⟩ := D
  go_enter Try.func5, Try.ntmps5
  go_wp2_with fail
  refine (awake_c _).mono ?_
  rintro e0 w1 ⟨rfl, hb1⟩
  have HB1 := Lib.hid hb1
  clear hb1
  go_wp2_with fail
  refine (parse_D HD.out HK.out A c _ (HR.out.to_ HB1.out) hlen hcap).mono ?_
  rintro e0 w2 ⟨A2, c2, rfl, hv2, hb2⟩
  have HB2 := Lib.hid (bcall HB1.out hb2)
  have HV2 := Lib.hid hv2
  clear hv2 hb2
  unfold noteV
  go_wp2_with fail
  have HB3 := Lib.hid (balloc HB2.out (.cells #[.int .i64 d0, .int .i64 d1, .int .i64 d2, .int .i64 d3, .int .i64 d4, .int .i64 d5, .slice A2 db.length c2] 24))
  have b3 := Blk.new w2 24 #[.int .i64 d0, .int .i64 d1, .int .i64 d2, .int .i64 d3, .int .i64 d4, .int .i64 d5, .slice A2 db.length c2]
  have r2 : Reads w2 w2.heap.size 1 A2 db.length (db.map u8v) := Reads.of_own HV2.out
  have r3 := r2.to_ (balloc (Below.refl _ _) (.cells #[.int .i64 d0, .int .i64 d1, .int .i64 d2, .int .i64 d3, .int .i64 d4, .int .i64 d5, .slice A2 db.length c2] 24))
  generalize (w2.alloc (Obj.cells #[.int .i64 d0, .int .i64 d1, .int .i64 d2, .int .i64 d3, .int .i64 d4, .int .i64 d5, .slice A2 db.length c2] 24)) = w3 at *
  have HX3 := Lib.hid b3
  have HR3 := Lib.hid r3
  clear b3 r3 r2
  refine (rparse_D HD.out HK.out A c _ (HR.out.to_ HB3.out) hlen hcap).mono ?_
  rintro e0 w4 ⟨A4, c4, rfl, hv4, hb4⟩
  have HB4 := Lib.hid (bcall HB3.out hb4)
  have HV4 := Lib.hid hv4
  have q4 := (HX3.out.below hb4).cell7
  have l4 := (HX3.out.below hb4).lt
  have HR4 := Lib.hid (HR3.out.to_ hb4)
  clear hv4 hb4
  unfold noteV
  go_wp2_with fail
  refine (nsame_c ⟨d0, d1, d2, d3, d4, d5, db⟩ ⟨d0, d1, d2, d3, d4, d5, db⟩ A2 A4 c2 c4 _ (HR4.out.to_ (balloc (Below.refl _ _) _)) ((show Reads w4 w4.heap.size 1 A4 db.length (db.map u8v) from Reads.of_own HV4.out).to_ (balloc (Below.refl _ _) _))).mono ?_
  rintro e0 w5 ⟨rfl, hb5⟩
  rw [sameN_refl]
  have HB5 := Lib.hid (bcall (balloc HB4.out _) hb5)
  clear hb5
  go_wp2
  go_ret
  exact ⟨rfl, HB5.out⟩
end Go.Proofs.Ytmaemfjepdicfaa
