/- The walk of NoteBack (it returns true). -/
import Derived.Test.YtmaemfjepdicfaaSays
set_option linter.unusedVariables false
namespace Go.Proofs.Ytmaemfjepdicfaa
open Go.RowKit
attribute [local go_sem ↓] Go.wp_at_zero Go.wp_at_succ

theorem own_cap {w : World} {B c n : Nat} {A : Option Addr} {bs : List UInt8} (h : ByteRow w B (.slice A n c) bs) : bs.length ≤ c := by
  rcases h.2 with ⟨e, h0⟩ | ⟨g, cap, cur, e, _, _, h1, _⟩
  · omega
  · injection e with _ _ e
    omega
set_option maxHeartbeats 1600000 in
theorem back_walk (d : NoteD) (A : Option Addr) (c : Nat) (bs : List UInt8) (A2 : Option Addr) (c2 : Nat) (w : World) (hr : Reads w w.heap.size 1 A d.bs.length (d.bs.map u8v)) (hlen : d.bs.length ≤ 9223372036854775807)
    (hr2 : Reads w w.heap.size 1 A2 bs.length (bs.map u8v)) (hl2 : bs.length ≤ 140737488355328) (hc2 : bs.length ≤ c2) :
    Calls Try.prog 6 #[noteV d A c, .slice A2 bs.length c2] w fun e w' => e = .returned (.bool true) ∧ Below w.heap.size w w' := by
  obtain ⟨M, hM⟩ : ∃ M, noteS bs = M := ⟨_, rfl⟩
  obtain ⟨k, hk⟩ : ∃ k, errS bs = k := ⟨_, rfl⟩
  have HD := Lib.hid hM
  have HK := Lib.hid hk
  have HR := Lib.hid hr
  have HR2 := Lib.hid hr2
  clear hM hk hr hr2
  obtain ⟨g, hg⟩ : ∃ g, good d = g := ⟨_, rfl⟩
  have HG := Lib.hid hg
  clear hg
  obtain ⟨d0, d1, d2, d3, d4, d5, db⟩ := d
  simp only at hlen
  have HLEN := Lib.hid hlen
  unfold noteV
  go_enter Try.func6, Try.ntmps6
  go_wp2_with fail
  have HB0 := Lib.hid (balloc (Below.refl w.heap.size w) (.cells #[.int .i64 d0, .int .i64 d1, .int .i64 d2, .int .i64 d3, .int .i64 d4, .int .i64 d5, .slice A db.length c] 24))
  have HX0 := Lib.hid (Blk.new w 24 #[.int .i64 d0, .int .i64 d1, .int .i64 d2, .int .i64 d3, .int .i64 d4, .int .i64 d5, .slice A db.length c])
  generalize (w.alloc (Obj.cells #[.int .i64 d0, .int .i64 d1, .int .i64 d2, .int .i64 d3, .int .i64 d4, .int .i64 d5, .slice A db.length c] 24)) = w0 at *
  refine (awake_c _).mono ?_
  rintro e0 w1 ⟨rfl, hb1⟩
  have q1 := (HX0.out.below hb1).cell7
  have HX1 := Lib.hid (HX0.out.below hb1)
  have HB1 := Lib.hid (bcall HB0.out hb1)
  clear hb1
  go_wp2_with fail
  clear q1
  cases g with
  | true =>
    have heb := err_back HG.out
    have hbl := bytesS_len ⟨d0, d1, d2, d3, d4, d5, db⟩
    have hfl := (good_fit HG.out).2.2.2.2.2.2.2.2.2.2.2.2
    simp only at hbl hfl
    have hby := bytes_good HG.out A c w1 (HR.out.to_ HB1.out) HLEN.out
    obtain ⟨X, hX⟩ : ∃ X, bytesS ⟨d0, d1, d2, d3, d4, d5, db⟩ = X := ⟨_, rfl⟩
    rw [hX] at heb hbl hby
    have HEB := Lib.hid heb
    have hXl : X.length ≤ 140737488355328 := by omega
    have HXL := Lib.hid hXl
    clear heb hbl hfl hXl hX
    refine hby.mono ?_
    rintro e0 w3 ⟨A3, c3, rfl, hv3, hb3⟩
    have hcap := own_cap hv3
    have HB3 := Lib.hid (bcall HB1.out hb3)
    have HX3 := Lib.hid (HX1.out.below hb3)
    have HR3 := Lib.hid (show Reads w3 w3.heap.size 1 A3 X.length (X.map u8v) from Reads.of_own hv3)
    have HC := Lib.hid hcap
    clear hv3 hb3 hby hcap
    go_wp2_with fail
    refine (parse_D HEB.out.2 HEB.out.1 A3 c3 w3 HR3.out HXL.out HC.out).mono ?_
    rintro e0 w4 ⟨A4, c4, rfl, hv4, hb4⟩
    have q4 := (HX3.out.below hb4).cell7
    have l4 := (HX3.out.below hb4).lt
    have HB4 := Lib.hid (bcall HB3.out hb4)
    have HR4 := Lib.hid (show Reads w4 w4.heap.size 1 A4 db.length (db.map u8v) from Reads.of_own hv4)
    clear hv4 hb4
    unfold noteV
    go_wp2_with fail
    have HB5 := Lib.hid (balloc HB4.out (.cells #[.int .i64 d0, .int .i64 d1, .int .i64 d2, .int .i64 d3, .int .i64 d4, .int .i64 d5, .slice A4 db.length c4] 24))
    have HR5 := Lib.hid (HR4.out.to_ (balloc (Below.refl _ _) (.cells #[.int .i64 d0, .int .i64 d1, .int .i64 d2, .int .i64 d3, .int .i64 d4, .int .i64 d5, .slice A4 db.length c4] 24)))
    generalize (w4.alloc (Obj.cells #[.int .i64 d0, .int .i64 d1, .int .i64 d2, .int .i64 d3, .int .i64 d4, .int .i64 d5, .slice A4 db.length c4] 24)) = w5 at *
    clear q4
    refine (nsame_c ⟨d0, d1, d2, d3, d4, d5, db⟩ ⟨d0, d1, d2, d3, d4, d5, db⟩ A4 A c4 c w5 HR5.out (HR.out.to_ HB5.out)).mono ?_
    rintro e0 w6 ⟨rfl, hb6⟩
    rw [sameN_refl]
    have HB6 := Lib.hid (bcall HB5.out hb6)
    clear hb6
    go_wp2_with fail
    refine (parse_D HD.out HK.out A2 c2 _ (HR2.out.to_ HB6.out) hl2 hc2).mono ?_
    rintro e0 w7 ⟨A7, c7, rfl, hv7, hb7⟩
    have HB7 := Lib.hid (bcall HB6.out hb7)
    have HV7 := Lib.hid hv7
    clear hv7 hb7
    by_cases hk0 : k = 0
    · subst hk0
      obtain ⟨hng, hnb⟩ := note_good HK.out
      rw [HD.out] at hng hnb
      have HNG := Lib.hid hng
      have HNB := Lib.hid hnb
      clear hng hnb
      obtain ⟨m0, m1, m2, m3, m4, m5, mb⟩ := M
      unfold noteV
      go_wp2_with fail
      have HB8 := Lib.hid (balloc HB7.out (.cells #[.int .i64 m0, .int .i64 m1, .int .i64 m2, .int .i64 m3, .int .i64 m4, .int .i64 m5, .slice A7 mb.length c7] 24))
      have HX8 := Lib.hid (Blk.new w7 24 #[.int .i64 m0, .int .i64 m1, .int .i64 m2, .int .i64 m3, .int .i64 m4, .int .i64 m5, .slice A7 mb.length c7])
      have HR8 := Lib.hid ((show Reads w7 w7.heap.size 1 A7 mb.length (mb.map u8v) from Reads.of_own HV7.out).to_ (balloc (Below.refl _ _) (.cells #[.int .i64 m0, .int .i64 m1, .int .i64 m2, .int .i64 m3, .int .i64 m4, .int .i64 m5, .slice A7 mb.length c7] 24)))
      have hml : mb.length ≤ 9223372036854775807 := by have := (good_fit HNG.out).2.2.2.2.2.2.2.2.2.2.2.2; simp only at this; omega
      have HML := Lib.hid hml
      generalize (w7.alloc (Obj.cells #[.int .i64 m0, .int .i64 m1, .int .i64 m2, .int .i64 m3, .int .i64 m4, .int .i64 m5, .slice A7 mb.length c7] 24)) = w8 at *
      clear hml
      have hbc := bytes_good HNG.out A7 c7 w8 HR8.out HML.out
      rw [HNB.out] at hbc
      refine hbc.mono ?_
      rintro e0 w9 ⟨A9, c9, rfl, hv9, hb9⟩
      have HB9 := Lib.hid (bcall HB8.out hb9)
      have HV9 := Lib.hid hv9
      have q9 := (HX8.out.below hb9).cell7
      have l9 := (HX8.out.below hb9).lt
      have HR9 := Lib.hid (HR8.out.to_ hb9)
      clear hv9 hb9 hbc
      go_wp2_with fail
      have hgc := good_c ⟨m0, m1, m2, m3, m4, m5, mb⟩ A7 c7 w9 HR9.out HML.out
      rw [HNG.out] at hgc
      refine hgc.mono ?_
      rintro e0 w10 ⟨rfl, hb10⟩
      have HB10 := Lib.hid (bcall HB9.out hb10)
      have HR10 := Lib.hid ((show Reads w9 w9.heap.size 1 A9 bs.length (bs.map u8v) from Reads.of_own HV9.out).to_ hb10)
      clear hb10 q9 hgc
      go_wp2_with fail
      refine (same_c (b1 := bs) (b2 := bs) HR10.out (HR2.out.to_ HB10.out)).mono ?_
      rintro e0 w11 ⟨rfl, rfl⟩
      go_wp2
      go_ret
      exact ⟨by simp, HB10.out⟩
    · have hk1 : ((k : Int) == 0) = false := by simpa using hk0
      have hk2 : ((k : Int) != 0) = true := by simpa using hk0
      obtain ⟨m0, m1, m2, m3, m4, m5, mb⟩ := M
      clear hk0
      unfold noteV
      go_wp2
      go_ret
      exact ⟨rfl, balloc HB7.out _⟩
  | false =>
    refine (bytes_bad HG.out A c w1 (HR.out.to_ HB1.out) HLEN.out).mono ?_
    rintro e0 w3 ⟨A3, c3, rfl, hv3, hb3⟩
    have HB3 := Lib.hid (bcall HB1.out hb3)
    clear hv3 hb3
    go_wp2_with fail
    refine (parse_D HD.out HK.out A2 c2 _ (HR2.out.to_ HB3.out) hl2 hc2).mono ?_
    rintro e0 w7 ⟨A7, c7, rfl, hv7, hb7⟩
    have HB7 := Lib.hid (bcall HB3.out hb7)
    have HV7 := Lib.hid hv7
    clear hv7 hb7
    by_cases hk0 : k = 0
    · subst hk0
      obtain ⟨hng, hnb⟩ := note_good HK.out
      rw [HD.out] at hng hnb
      have HNG := Lib.hid hng
      have HNB := Lib.hid hnb
      clear hng hnb
      obtain ⟨m0, m1, m2, m3, m4, m5, mb⟩ := M
      unfold noteV
      go_wp2_with fail
      have HB8 := Lib.hid (balloc HB7.out (.cells #[.int .i64 m0, .int .i64 m1, .int .i64 m2, .int .i64 m3, .int .i64 m4, .int .i64 m5, .slice A7 mb.length c7] 24))
      have HX8 := Lib.hid (Blk.new w7 24 #[.int .i64 m0, .int .i64 m1, .int .i64 m2, .int .i64 m3, .int .i64 m4, .int .i64 m5, .slice A7 mb.length c7])
      have HR8 := Lib.hid ((show Reads w7 w7.heap.size 1 A7 mb.length (mb.map u8v) from Reads.of_own HV7.out).to_ (balloc (Below.refl _ _) (.cells #[.int .i64 m0, .int .i64 m1, .int .i64 m2, .int .i64 m3, .int .i64 m4, .int .i64 m5, .slice A7 mb.length c7] 24)))
      have hml : mb.length ≤ 9223372036854775807 := by have := (good_fit HNG.out).2.2.2.2.2.2.2.2.2.2.2.2; simp only at this; omega
      have HML := Lib.hid hml
      generalize (w7.alloc (Obj.cells #[.int .i64 m0, .int .i64 m1, .int .i64 m2, .int .i64 m3, .int .i64 m4, .int .i64 m5, .slice A7 mb.length c7] 24)) = w8 at *
      clear hml
      have hbc := bytes_good HNG.out A7 c7 w8 HR8.out HML.out
      rw [HNB.out] at hbc
      refine hbc.mono ?_
      rintro e0 w9 ⟨A9, c9, rfl, hv9, hb9⟩
      have HB9 := Lib.hid (bcall HB8.out hb9)
      have HV9 := Lib.hid hv9
      have q9 := (HX8.out.below hb9).cell7
      have l9 := (HX8.out.below hb9).lt
      have HR9 := Lib.hid (HR8.out.to_ hb9)
      clear hv9 hb9 hbc
      go_wp2_with fail
      have hgc := good_c ⟨m0, m1, m2, m3, m4, m5, mb⟩ A7 c7 w9 HR9.out HML.out
      rw [HNG.out] at hgc
      refine hgc.mono ?_
      rintro e0 w10 ⟨rfl, hb10⟩
      have HB10 := Lib.hid (bcall HB9.out hb10)
      have HR10 := Lib.hid ((show Reads w9 w9.heap.size 1 A9 bs.length (bs.map u8v) from Reads.of_own HV9.out).to_ hb10)
      clear hb10 q9 hgc
      go_wp2_with fail
      refine (same_c (b1 := bs) (b2 := bs) HR10.out (HR2.out.to_ HB10.out)).mono ?_
      rintro e0 w11 ⟨rfl, rfl⟩
      go_wp2
      go_ret
      exact ⟨by simp, HB10.out⟩
    · have hk1 : ((k : Int) == 0) = false := by simpa using hk0
      have hk2 : ((k : Int) != 0) = true := by simpa using hk0
      obtain ⟨m0, m1, m2, m3, m4, m5, mb⟩ := M
      clear hk0
      unfold noteV
      go_wp2
      go_ret
      exact ⟨rfl, balloc HB7.out _⟩
end Go.Proofs.Ytmaemfjepdicfaa
