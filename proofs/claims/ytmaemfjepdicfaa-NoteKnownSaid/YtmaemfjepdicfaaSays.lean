/- The walk of NoteSays (it returns true). -/
import Derived.Test.YtmaemfjepdicfaaReads
set_option linter.unusedVariables false
namespace Go.Proofs.Ytmaemfjepdicfaa
open Go.RowKit
attribute [local go_sem ↓] Go.wp_at_zero Go.wp_at_succ

theorem bytes_V {d : NoteD} {bs : List UInt8} {k : Int} (hb : (if good d then bytesS d else []) = bs) (hk : (if good d then (0 : Int) else 1) = k) (A : Option Addr) (c : Nat) (w : World) (hr : Reads w w.heap.size 1 A d.bs.length (d.bs.map u8v)) (hlen : d.bs.length ≤ 9223372036854775807) :
    Calls Try.prog 9 #[noteV d A c] w fun e w' => ∃ A' c', e = .returned (.tuple #[.slice A' bs.length c', .int .i64 k]) ∧ ByteRow w' w.heap.size (.slice A' bs.length c') bs ∧ Below w.heap.size w w' := by
  subst hb hk
  exact bytes_c d A c w hr hlen
theorem rbytes_V {d : NoteD} {bs : List UInt8} {k : Int} (hb : (if good d then bytesS d else []) = bs) (hk : (if good d then (0 : Int) else 1) = k) (A : Option Addr) (c : Nat) (w : World) (hr : Reads w w.heap.size 1 A d.bs.length (d.bs.map u8v)) (hlen : d.bs.length ≤ 9223372036854775807) :
    Calls Try.prog 10 #[noteV d A c] w fun e w' => ∃ A' c', e = .returned (.tuple #[.slice A' bs.length c', .int .i64 k]) ∧ ByteRow w' w.heap.size (.slice A' bs.length c') bs ∧ Below w.heap.size w w' := by
  subst hb hk
  exact rbytes_c d A c w hr hlen

set_option maxHeartbeats 1600000 in
theorem says_walk (d : NoteD) (A : Option Addr) (c : Nat) (w : World) (hr : Reads w w.heap.size 1 A d.bs.length (d.bs.map u8v)) (hlen : d.bs.length ≤ 9223372036854775807) :
    Calls Try.prog 3 #[noteV d A c] w fun e w' => e = .returned (.bool true) ∧ Below w.heap.size w w' := by
  obtain ⟨B, hB⟩ : ∃ B, (if good d then bytesS d else []) = B := ⟨_, rfl⟩
  obtain ⟨k, hk⟩ : ∃ k, (if good d then (0 : Int) else 1) = k := ⟨_, rfl⟩
  obtain ⟨g, hg⟩ : ∃ g, good d = g := ⟨_, rfl⟩
  have HBB := Lib.hid hB
  have HK := Lib.hid hk
  have HG := Lib.hid hg
  have HR := Lib.hid hr
  clear hB hk hr hg
  obtain ⟨d0, d1, d2, d3, d4, d5, db⟩ := d
  simp only at hlen
  have HLEN := Lib.hid hlen
  unfold noteV
  go_enter Try.func3, Try.ntmps3
  go_wp2_with fail
  have HB0 := Lib.hid (balloc (Below.refl w.heap.size w) (.cells #[.int .i64 d0, .int .i64 d1, .int .i64 d2, .int .i64 d3, .int .i64 d4, .int .i64 d5, .slice A db.length c] 24))
  have HX0 := Lib.hid (Blk.new w 24 #[.int .i64 d0, .int .i64 d1, .int .i64 d2, .int .i64 d3, .int .i64 d4, .int .i64 d5, .slice A db.length c])
  generalize (w.alloc (Obj.cells #[.int .i64 d0, .int .i64 d1, .int .i64 d2, .int .i64 d3, .int .i64 d4, .int .i64 d5, .slice A db.length c] 24)) = w0 at *
  refine (awake_c _).mono ?_
  rintro e0 w1 ⟨rfl, hb1⟩
  have q1 := (HX0.out.below hb1).cell7
  have l1 := (HX0.out.below hb1).lt
  have HX1 := Lib.hid (HX0.out.below hb1)
  have HB1 := Lib.hid (bcall HB0.out hb1)
  clear hb1
  go_wp2_with fail
  clear q1
  have HB2 := Lib.hid (balloc HB1.out (.cells #[.int .i64 d0, .int .i64 d1, .int .i64 d2, .int .i64 d3, .int .i64 d4, .int .i64 d5, .slice A db.length c] 26))
  have HX2 := Lib.hid (HX1.out.alloc (.cells #[.int .i64 d0, .int .i64 d1, .int .i64 d2, .int .i64 d3, .int .i64 d4, .int .i64 d5, .slice A db.length c] 26))
  have HY2 := Lib.hid (Blk.new w1 26 #[.int .i64 d0, .int .i64 d1, .int .i64 d2, .int .i64 d3, .int .i64 d4, .int .i64 d5, .slice A db.length c])
  generalize (w1.alloc (Obj.cells #[.int .i64 d0, .int .i64 d1, .int .i64 d2, .int .i64 d3, .int .i64 d4, .int .i64 d5, .slice A db.length c] 26)) = w2 at *
  refine (bytes_V HBB.out HK.out A c w2 (HR.out.to_ HB2.out) HLEN.out).mono ?_
  rintro e0 w3 ⟨A3, c3, rfl, hv3, hb3⟩
  have HV3 := Lib.hid hv3
  have HB3 := Lib.hid (bcall HB2.out hb3)
  have HX3 := Lib.hid (HX2.out.below hb3)
  have HY3 := Lib.hid (HY2.out.below hb3)
  have q3 := HY3.out.cell7
  have l3 := HY3.out.lt
  clear hv3 hb3
  go_wp2_with fail
  refine (rbytes_V HBB.out HK.out A c w3 (HR.out.to_ HB3.out) HLEN.out).mono ?_
  rintro e0 w4 ⟨A4, c4, rfl, hv4, hb4⟩
  have HV4 := Lib.hid hv4
  have HB4 := Lib.hid (bcall HB3.out hb4)
  have HX4 := Lib.hid (HX3.out.below hb4)
  have HY4 := Lib.hid (HY3.out.below hb4)
  have HR3 := Lib.hid ((show Reads w3 w3.heap.size 1 A3 B.length (B.map u8v) from Reads.of_own HV3.out).to_ hb4)
  have HR4 := Lib.hid (show Reads w4 w4.heap.size 1 A4 B.length (B.map u8v) from Reads.of_own HV4.out)
  clear hv4 hb4 q3
  go_wp2_with fail
  have kW := Below.refl w4.heap.size w4
  have keep : ∀ w', Below w4.heap.size w4 w' →
      (w'.cell? ⟨w.heap.size, 0, none⟩ = some (.int .i64 d0) ∧ w'.cell? ⟨w.heap.size, 1, none⟩ = some (.int .i64 d1) ∧ w'.cell? ⟨w.heap.size, 2, none⟩ = some (.int .i64 d2) ∧ w'.cell? ⟨w.heap.size, 3, none⟩ = some (.int .i64 d3) ∧ w'.cell? ⟨w.heap.size, 4, none⟩ = some (.int .i64 d4) ∧ w'.cell? ⟨w.heap.size, 5, none⟩ = some (.int .i64 d5) ∧ w'.cell? ⟨w.heap.size, 6, none⟩ = some (.slice A db.length c)) ∧
      (w'.cell? ⟨w1.heap.size, 0, none⟩ = some (.int .i64 d0) ∧ w'.cell? ⟨w1.heap.size, 1, none⟩ = some (.int .i64 d1) ∧ w'.cell? ⟨w1.heap.size, 2, none⟩ = some (.int .i64 d2) ∧ w'.cell? ⟨w1.heap.size, 3, none⟩ = some (.int .i64 d3) ∧ w'.cell? ⟨w1.heap.size, 4, none⟩ = some (.int .i64 d4) ∧ w'.cell? ⟨w1.heap.size, 5, none⟩ = some (.int .i64 d5) ∧ w'.cell? ⟨w1.heap.size, 6, none⟩ = some (.slice A db.length c)) ∧ Below w4.heap.size w4 w' :=
    fun w' hb => ⟨(HX4.out.below hb).cell7, (HY4.out.below hb).cell7, hb⟩
  have K := Lib.hid keep
  have HGC := Lib.hid (fun w' (hb : Below w4.heap.size w4 w') => good_c ⟨d0, d1, d2, d3, d4, d5, db⟩ A c w' (HR.out.to_ (bcall HB4.out hb)) HLEN.out)
  have HGR := Lib.hid (fun w' (hb : Below w4.heap.size w4 w') => goodr_c ⟨d0, d1, d2, d3, d4, d5, db⟩ A c w' (HR.out.to_ (bcall HB4.out hb)) HLEN.out)
  have HSM := Lib.hid (fun w' (hb : Below w4.heap.size w4 w') => same_c (c1 := c3) (c2 := c4) (HR3.out.to_ hb) (HR4.out.to_ hb))
  rw [HG.out] at HGC HGR
  clear keep
  go_region_held3 (fun w' => (w'.cell? ⟨w.heap.size, 0, none⟩ = some (.int .i64 d0) ∧ w'.cell? ⟨w.heap.size, 1, none⟩ = some (.int .i64 d1) ∧ w'.cell? ⟨w.heap.size, 2, none⟩ = some (.int .i64 d2) ∧ w'.cell? ⟨w.heap.size, 3, none⟩ = some (.int .i64 d3) ∧ w'.cell? ⟨w.heap.size, 4, none⟩ = some (.int .i64 d4) ∧ w'.cell? ⟨w.heap.size, 5, none⟩ = some (.int .i64 d5) ∧ w'.cell? ⟨w.heap.size, 6, none⟩ = some (.slice A db.length c)) ∧
      (w'.cell? ⟨w1.heap.size, 0, none⟩ = some (.int .i64 d0) ∧ w'.cell? ⟨w1.heap.size, 1, none⟩ = some (.int .i64 d1) ∧ w'.cell? ⟨w1.heap.size, 2, none⟩ = some (.int .i64 d2) ∧ w'.cell? ⟨w1.heap.size, 3, none⟩ = some (.int .i64 d3) ∧ w'.cell? ⟨w1.heap.size, 4, none⟩ = some (.int .i64 d4) ∧ w'.cell? ⟨w1.heap.size, 5, none⟩ = some (.int .i64 d5) ∧ w'.cell? ⟨w1.heap.size, 6, none⟩ = some (.slice A db.length c)) ∧ Below w4.heap.size w4 w')
    (first | exact K.out _ (by assumption) | exact K.out _ (bdrew (by assumption)))
    (first
      | (go_at_call 11; refine (HGC.out _ (by first | assumption | exact bdrew (by assumption))).mono ?_; rintro e0 w' ⟨rfl, hb⟩; have kW' := bcallr hb (by first | assumption | exact bdrew (by assumption)))
      | (go_at_call 12; refine (HGR.out _ (by first | assumption | exact bdrew (by assumption))).mono ?_; rintro e0 w' ⟨rfl, hb⟩; have kW' := bcallr hb (by first | assumption | exact bdrew (by assumption)))
      | (go_at_call 13; refine (HSM.out _ (by first | assumption | exact bdrew (by assumption))).mono ?_; rintro e0 w' ⟨rfl, rfl⟩))
  go_wp2
  go_ret
  exact ⟨by simp, bcall HB4.out (by assumption)⟩
end Go.Proofs.Ytmaemfjepdicfaa
