/- What the reference's seats returns, and its Good where its first tests fail (contracts). Conditions: the note's bytes read. -/
import Derived.Test.YtmaemfjepdicfaaFields
set_option linter.unusedVariables false
namespace Go.Proofs.Ytmaemfjepdicfaa
open Go.RowKit
attribute [local go_sem ↓] Go.wp_at_zero Go.wp_at_succ
theorem has_114 (l : List UInt8) (w : World) (h : l.length ≤ 1000) : Calls Try.prog 23 #[.string ⟨l.toArray⟩, .int .u8 114] w fun e w' => e = .returned (.bool (l.contains 114)) ∧ w = w' :=
  has_c ⟨l.toArray⟩ 114 _ w (by simpa [ByteArray.size] using h) rfl
theorem has_115 (l : List UInt8) (w : World) (h : l.length ≤ 1000) : Calls Try.prog 23 #[.string ⟨l.toArray⟩, .int .u8 115] w fun e w' => e = .returned (.bool (l.contains 115)) ∧ w = w' :=
  has_c ⟨l.toArray⟩ 115 _ w (by simpa [ByteArray.size] using h) rfl
theorem has_101 (l : List UInt8) (w : World) (h : l.length ≤ 1000) : Calls Try.prog 23 #[.string ⟨l.toArray⟩, .int .u8 101] w fun e w' => e = .returned (.bool (l.contains 101)) ∧ w = w' :=
  has_c ⟨l.toArray⟩ 101 _ w (by simpa [ByteArray.size] using h) rfl
theorem has_110 (l : List UInt8) (w : World) (h : l.length ≤ 1000) : Calls Try.prog 23 #[.string ⟨l.toArray⟩, .int .u8 110] w fun e w' => e = .returned (.bool (l.contains 110)) ∧ w = w' :=
  has_c ⟨l.toArray⟩ 110 _ w (by simpa [ByteArray.size] using h) rfl
theorem has_109 (l : List UInt8) (w : World) (h : l.length ≤ 1000) : Calls Try.prog 23 #[.string ⟨l.toArray⟩, .int .u8 109] w fun e w' => e = .returned (.bool (l.contains 109)) ∧ w = w' :=
  has_c ⟨l.toArray⟩ 109 _ w (by simpa [ByteArray.size] using h) rfl
theorem has_98 (l : List UInt8) (w : World) (h : l.length ≤ 1000) : Calls Try.prog 23 #[.string ⟨l.toArray⟩, .int .u8 98] w fun e w' => e = .returned (.bool (l.contains 98)) ∧ w = w' :=
  has_c ⟨l.toArray⟩ 98 _ w (by simpa [ByteArray.size] using h) rfl

set_option maxRecDepth 100000 in
set_option maxHeartbeats 1600000 in
theorem goodr_no (d : NoteD) (A : Option Addr) (c : Nat) (w : World) (hlen : d.bs.length ≤ 9223372036854775807) (hno : goodR1 d = false) (s : ByteArray) (hs : ∀ wx : World, Calls Try.prog 21 #[.int .i64 d.kind] wx fun e w' => e = .returned (.string s) ∧ wx = w') (hs2 : s.toList.isEmpty = (fieldsS d.kind).isEmpty) :
    Calls Try.prog 12 #[noteV d A c] w fun e w' => e = .returned (.bool false) ∧ Below w.heap.size w w' := by
  have HS := Lib.hid hs
  have HNO := Lib.hid hno
  obtain ⟨kind, room, slot, epoch, n, m, bs⟩ := d
  simp only at hlen
  obtain ⟨em, hem⟩ : ∃ em, em = (fieldsS kind).isEmpty := ⟨_, rfl⟩
  have HEM := Lib.hid hem
  rw [show (fieldsS (NoteD.mk kind room slot epoch n m bs).kind).isEmpty = em from hem.symm] at hs2
  clear hs hno hem
  unfold noteV
  go_enter Try.func12, Try.ntmps12
  go_wp2_with fail
  refine (HS.out _).mono ?_
  rintro e0 w1 ⟨rfl, rfl⟩
  cases em with
  | true =>
    go_wp2
    go_ret
    exact ⟨rfl, balloc (Below.refl _ _) _⟩
  | false =>
    go_wp2_with fail
    refine (in_c _ _ _ _).mono ?_
    rintro e0 wy ⟨rfl, rfl⟩
    cases h1 : inB room 0 3 with
    | false =>
      clear h1
      go_wp2
      go_ret
      exact ⟨rfl, balloc (Below.refl _ _) _⟩
    | true =>
      have Hh1 := Lib.hid h1
      clear h1
      go_wp2_with fail
      refine (in_c _ _ _ _).mono ?_
      rintro e0 wy ⟨rfl, rfl⟩
      cases h2 : inB slot 0 7 with
      | false =>
        clear h2
        go_wp2
        go_ret
        exact ⟨rfl, balloc (Below.refl _ _) _⟩
      | true =>
        have Hh2 := Lib.hid h2
        clear h2
        go_wp2_with fail
        refine (in_c _ _ _ _).mono ?_
        rintro e0 wy ⟨rfl, rfl⟩
        cases h3 : inB epoch 0 65535 with
        | false =>
          clear h3
          go_wp2
          go_ret
          exact ⟨rfl, balloc (Below.refl _ _) _⟩
        | true =>
          have Hh3 := Lib.hid h3
          clear h3
          go_wp2_with fail
          refine (in_c _ _ _ _).mono ?_
          rintro e0 wy ⟨rfl, rfl⟩
          cases h4 : inB n 0 65535 with
          | false =>
            clear h4
            go_wp2
            go_ret
            exact ⟨rfl, balloc (Below.refl _ _) _⟩
          | true =>
            have Hh4 := Lib.hid h4
            clear h4
            go_wp2_with fail
            refine (in_c _ _ _ _).mono ?_
            rintro e0 wy ⟨rfl, rfl⟩
            cases h5 : inB m 0 65535 with
            | false =>
              clear h5
              go_wp2
              go_ret
              exact ⟨rfl, balloc (Below.refl _ _) _⟩
            | true =>
              have Hh5 := Lib.hid h5
              clear h5
              have h6 : ¬ bs.length ≤ 200 := by
                intro h6
                have := HNO.out
                simp only [goodR1, ← HEM.out, Hh1.out, Hh2.out, Hh3.out, Hh4.out, Hh5.out, h6] at this
                simp at this
              go_wp2
              go_ret
              exact ⟨rfl, balloc (Below.refl _ _) _⟩

set_option maxHeartbeats 800000 in
theorem seats_c (d : NoteD) (A : Option Addr) (c N : Nat) (w : World) (hr : Reads w w.heap.size 1 A d.bs.length (d.bs.map u8v)) (hN : d.n = N) (hN2 : N < 256) :
    Calls Try.prog 24 #[noteV d A c] w fun e w' => e = .returned (.bool (decide (d.bs.length = 8) && allAt N 0 d.bs)) ∧ Below w.heap.size w w' := by
  obtain ⟨kind, room, slot, epoch, n, m, bs⟩ := d
  simp only at hN hr ⊢
  subst hN
  have HR := Lib.hid hr
  clear hr
  unfold noteV
  obtain ⟨res, hres⟩ : ∃ res, res = (decide (bs.length = 8) && allAt N 0 bs) := ⟨_, rfl⟩
  rw [← hres]
  have HRES := Lib.hid hres
  clear hres
  by_cases hl : bs.length = 8
  · have hl1 : ((bs.length : Int) != 8) = false := by simp [hl]
    have HL := Lib.hid hl
    have hl2 : 8 ≤ bs.length := by omega
    have hl3 : (8 : Int) ≤ (bs.length : Int) := by omega
    clear hl
    go_enter Try.func24, Try.ntmps24
    go_wp2_with fail
    go_loopg [3] 8 (fun gg i wr => ∃ k, k ≤ 8 ∧ gg = 8 - k ∧ i = .int .i64 k ∧ allAt N 0 (bs.take k) = true ∧ Below w.heap.size w wr ∧ w.heap.size < wr.heap.size ∧ (wr.cell? ⟨w.heap.size, 4, none⟩ = some (.int .i64 N) ∧ wr.cell? ⟨w.heap.size, 6, none⟩ = some (.slice A bs.length c)))
    case atStart => exact ⟨0, by omega, rfl, rfl, by simp [allAt], (Below.refl _ _).alloc (Nat.le_refl _) _, by simp, by simp⟩
    case round =>
      obtain ⟨k, hk, rfl, rfl, hall, hbel, hlt, hcells⟩ := hrel
      obtain ⟨hc4, hc6⟩ := hcells
      have HA := Lib.hid hall
      clear hall
      by_cases hk8 : k < 8
      · have hkn : k < bs.length := by omega
        obtain ⟨ad, rfl, hadl, hcell⟩ := (HR.out.below hbel).2 (by omega)
        obtain ⟨a, ha⟩ : ∃ a, a = bs[k] := ⟨_, rfl⟩
        have ck := hcell k (u8v a) (by simp [hkn, ha])
        have c00 := hcell 0 (u8v (bs[0]'(by omega))) (by rw [List.getElem?_map, List.getElem?_eq_getElem (by omega)]; rfl)
        obtain ⟨b, off, rfl⟩ := addr_plain c00
        rw [Go.WideShapes.add_plain] at ck
        have HK := Lib.hid ha
        clear c00 hcell ha
        unfold u8v at ck
        have hk8i : (k : Int) < 8 := by omega
        by_cases hb : N.testBit k = true
        · have hbit := bit_on (n := N) (k := k) (by omega) hb
          have HB := Lib.hid hb
          clear hb
          by_cases hu : a.toNat ≤ 63
          · have hui : (a.toNat : Int) ≤ 63 := by omega
            go_wp2
            go_roundg (8 - (k + 1))
            case measure => omega
            case rel => exact ⟨k + 1, by omega, rfl, by go_num, allAt_next hkn HA.out (by rw [← HK.out]; simp [okAt, HB.out, hu]), hbel, hlt, hc4, hc6⟩
          · have hui : ¬ (a.toNat : Int) ≤ 63 := by omega
            have HP : Hid (res = false) := by show _ = _; rw [HRES.out, allAt_no hkn (by rw [← HK.out]; simp [okAt, HB.out, hu]), Bool.and_false]
            go_wp2
            go_ret
            exact ⟨by rw [HP.out]; rfl, hbel⟩
        · have hb2 : N.testBit k = false := by simpa using hb
          have hbit := bit_off (n := N) (k := k) (by omega) hb2
          have HB := Lib.hid hb2
          clear hb hb2
          by_cases hu : a = 255
          · subst hu
            go_wp2
            go_roundg (8 - (k + 1))
            case measure => omega
            case rel => exact ⟨k + 1, by omega, rfl, by go_num, allAt_next hkn HA.out (by rw [← HK.out]; simp [okAt, HB.out]), hbel, hlt, hc4, hc6⟩
          · have hu2 : ((a.toNat : Int) != 255) = true := by
              rw [bne_iff_ne]; intro e; exact hu (UInt8.toNat_inj.1 (by show a.toNat = 255; omega))
            have HP : Hid (res = false) := by show _ = _; rw [HRES.out, allAt_no hkn (by rw [← HK.out]; simp [okAt, HB.out, hu]), Bool.and_false]
            clear hu
            go_wp2
            go_ret
            exact ⟨by rw [HP.out]; rfl, hbel⟩
      · have hkn' : k = 8 := by omega
        have HALL : Hid (allAt N 0 bs = true) := by
          have := HA.out
          rw [hkn', show 8 = bs.length from HL.out.symm, List.take_length] at this; exact this
        subst hkn'
        have HP : Hid (res = true) := by show _ = _; rw [HRES.out, HALL.out, HL.out]; rfl
        go_wp2
        go_ret
        exact ⟨by rw [HP.out]; rfl, hbel⟩
  · have hl1 : ((bs.length : Int) != 8) = true := by rw [bne_iff_ne]; omega
    have HP : Hid (res = false) := by show _ = _; rw [HRES.out]; simp [hl]
    clear hl
    go_enter Try.func24, Try.ntmps24
    go_wp2
    go_ret
    exact ⟨by rw [HP.out]; rfl, (Below.refl _ _).alloc (Nat.le_refl _) _⟩
end Go.Proofs.Ytmaemfjepdicfaa
