/- What the program's Good returns (contract). Conditions: the note's bytes read. -/
import Derived.Test.YtmaemfjepdicfaaWelcome
set_option linter.unusedVariables false
namespace Go.Proofs.Ytmaemfjepdicfaa
open Go.RowKit
attribute [local go_sem ↓] Go.wp_at_zero Go.wp_at_succ

theorem Reads.to_ {w w' : World} {size n : Nat} {A : Option Addr} {xs : List Value} (h : Reads w w.heap.size size A n xs) (hb : Below w.heap.size w w') : Reads w' w'.heap.size size A n xs := (h.below hb).more hb.size
/-- What a note within its kind's bounds has. -/
theorem goodB_fit {d : NoteD} (h : goodB d = true) : (d.kind = 17 ∨ d.kind = 19 ∨ d.kind = 20 → 0 ≤ d.n ∧ d.n ≤ 255 ∧ 0 ≤ d.slot ∧ d.slot ≤ 7) ∧ (d.kind = 17 → d.bs.length = 8) := by
  constructor
  · rintro (hk | hk | hk) <;> (simp [goodB, hk, bnd, wB] at h; omega)
  · intro hk
    simp [goodB, hk, bnd, wB] at h
    omega
set_option maxRecDepth 100000 in
set_option maxHeartbeats 1600000 in
theorem good_c (d : NoteD) (A : Option Addr) (c : Nat) (w : World) (hr : Reads w w.heap.size 1 A d.bs.length (d.bs.map u8v)) (hlen : d.bs.length ≤ 9223372036854775807) :
    Calls Try.prog 11 #[noteV d A c] w fun e w' => e = .returned (.bool (good d)) ∧ Below w.heap.size w w' := by
  obtain ⟨res, hres⟩ : ∃ res, res = good d := ⟨_, rfl⟩
  rw [← hres]
  have HFIT := Lib.hid (goodB_fit (d := d))
  obtain ⟨kind, room, slot, epoch, n, m, bs⟩ := d
  simp only at hr hlen ⊢
  have HR := Lib.hid hr
  have HB0 : Hid (∀ br bsl be bn bm bl bmo bok, bnd kind = ⟨br, bsl, be, bn, bm, bl, bmo, bok⟩ → goodB ⟨kind, room, slot, epoch, n, m, bs⟩ = (bok && wB room br && wB slot bsl && wB epoch be && wB n bn && wB m bm && decide (bl ≤ bs.length) && decide ((bs.length : Int) ≤ bmo))) := by
    intro br bsl be bn bm bl bmo bok h
    simp only [goodB, h]
  obtain ⟨br, bsl, be, bn, bm, bl, bmo, bok, hbnd⟩ : ∃ br bsl be bn bm bl bmo bok, bnd kind = ⟨br, bsl, be, bn, bm, bl, bmo, bok⟩ := ⟨_, _, _, _, _, _, _, _, rfl⟩
  have HGB := Lib.hid (HB0.out _ _ _ _ _ _ _ _ hbnd)
  have HOF : Hid (∀ wx : World, Calls Try.prog 18 #[.int .i64 kind] wx fun e w' => e = .returned (.tuple #[.agg #[.int .i64 br, .int .i64 bsl, .int .i64 be, .int .i64 bn, .int .i64 bm, .int .i64 bl, .int .i64 bmo], .bool bok]) ∧ Below wx.heap.size wx w') := by
    intro wx
    have := of_c kind wx
    rw [hbnd] at this
    exact this
  have HRES : Hid (res = (goodB ⟨kind, room, slot, epoch, n, m, bs⟩ && goodK ⟨kind, room, slot, epoch, n, m, bs⟩)) := hres
  have HN : Hid (goodB ⟨kind, room, slot, epoch, n, m, bs⟩ = false → res = false) := fun h => by rw [HRES.out, h]; rfl
  clear hr hres hbnd HB0
  unfold noteV
  go_enter Try.func11, Try.ntmps11
  go_wp2_with fail
  refine (HOF.out _).mono ?_
  rintro e0 w1 ⟨rfl, hb1⟩
  have k1 := bcall (balloc (Below.refl w.heap.size w) (.cells #[.int .i64 kind, .int .i64 room, .int .i64 slot, .int .i64 epoch, .int .i64 n, .int .i64 m, .slice A bs.length c] 24)) hb1
  have bx := (Blk.new w 24 #[.int .i64 kind, .int .i64 room, .int .i64 slot, .int .i64 epoch, .int .i64 n, .int .i64 m, .slice A bs.length c]).below hb1
  have x0 : w1.cell? ⟨w.heap.size, 0, none⟩ = some (.int .i64 kind) := bx.cell 0
  have x1 : w1.cell? ⟨w.heap.size, 1, none⟩ = some (.int .i64 room) := bx.cell 1
  have x2 : w1.cell? ⟨w.heap.size, 2, none⟩ = some (.int .i64 slot) := bx.cell 2
  have x3 : w1.cell? ⟨w.heap.size, 3, none⟩ = some (.int .i64 epoch) := bx.cell 3
  have x4 : w1.cell? ⟨w.heap.size, 4, none⟩ = some (.int .i64 n) := bx.cell 4
  have x5 : w1.cell? ⟨w.heap.size, 5, none⟩ = some (.int .i64 m) := bx.cell 5
  have x6 : w1.cell? ⟨w.heap.size, 6, none⟩ = some (.slice A bs.length c) := bx.cell 6
  have hlt := bx.lt
  have HK1 := Lib.hid k1
  clear k1 bx hb1
  cases hok : bok with
  | false =>
    have HP : Hid (res = false) := HN.out (by rw [HGB.out, hok]; rfl)
    clear hok
    go_wp2
    go_ret
    exact ⟨by rw [HP.out]; rfl, balloc HK1.out _⟩
  | true =>
    have HOK := Lib.hid hok
    clear hok
    go_wp2_with fail
    refine (within_c _ _ _).mono ?_
    rintro e0 wy ⟨rfl, rfl⟩
    cases h1 : wB room br with
    | false =>
      have HP : Hid (res = false) := HN.out (by rw [HGB.out, HOK.out, h1]; simp)
      clear h1
      go_wp2
      go_ret
      exact ⟨by rw [HP.out]; rfl, balloc HK1.out _⟩
    | true =>
      have Hh1 := Lib.hid h1
      clear h1
      go_wp2_with fail
      refine (within_c _ _ _).mono ?_
      rintro e0 wy ⟨rfl, rfl⟩
      cases h2 : wB slot bsl with
      | false =>
        have HP : Hid (res = false) := HN.out (by rw [HGB.out, HOK.out, Hh1.out, h2]; simp)
        clear h2
        go_wp2
        go_ret
        exact ⟨by rw [HP.out]; rfl, balloc HK1.out _⟩
      | true =>
        have Hh2 := Lib.hid h2
        clear h2
        go_wp2_with fail
        refine (within_c _ _ _).mono ?_
        rintro e0 wy ⟨rfl, rfl⟩
        cases h3 : wB epoch be with
        | false =>
          have HP : Hid (res = false) := HN.out (by rw [HGB.out, HOK.out, Hh1.out, Hh2.out, h3]; simp)
          clear h3
          go_wp2
          go_ret
          exact ⟨by rw [HP.out]; rfl, balloc HK1.out _⟩
        | true =>
          have Hh3 := Lib.hid h3
          clear h3
          go_wp2_with fail
          refine (within_c _ _ _).mono ?_
          rintro e0 wy ⟨rfl, rfl⟩
          cases h4 : wB n bn with
          | false =>
            have HP : Hid (res = false) := HN.out (by rw [HGB.out, HOK.out, Hh1.out, Hh2.out, Hh3.out, h4]; simp)
            clear h4
            go_wp2
            go_ret
            exact ⟨by rw [HP.out]; rfl, balloc HK1.out _⟩
          | true =>
            have Hh4 := Lib.hid h4
            clear h4
            go_wp2_with fail
            refine (within_c _ _ _).mono ?_
            rintro e0 wy ⟨rfl, rfl⟩
            cases h5 : wB m bm with
            | false =>
              have HP : Hid (res = false) := HN.out (by rw [HGB.out, HOK.out, Hh1.out, Hh2.out, Hh3.out, Hh4.out, h5]; simp)
              clear h5
              go_wp2
              go_ret
              exact ⟨by rw [HP.out]; rfl, balloc HK1.out _⟩
            | true =>
              have Hh5 := Lib.hid h5
              clear h5
              by_cases h6 : bl ≤ (bs.length : Int)
              · by_cases h7 : (bs.length : Int) ≤ bmo
                · have HGT := Lib.hid (by rw [HGB.out, HOK.out, Hh1.out, Hh2.out, Hh3.out, Hh4.out, Hh5.out]; simp [h6, h7] : goodB ⟨kind, room, slot, epoch, n, m, bs⟩ = true)
                  have HRG : Hid (res = goodK ⟨kind, room, slot, epoch, n, m, bs⟩) := by show _ = _; rw [HRES.out, HGT.out, Bool.true_and]
                  have hfit : (kind = 17 ∨ kind = 19 ∨ kind = 20 → 0 ≤ n ∧ n ≤ 255 ∧ 0 ≤ slot ∧ slot ≤ 7) ∧ (kind = 17 → bs.length = 8) := HFIT.out HGT.out
                  obtain ⟨hf1, hf2⟩ := hfit
                  have HF1 := Lib.hid hf1
                  have HF2 := Lib.hid hf2
                  clear hf1 hf2
                  by_cases k17 : kind = 17
                  · obtain ⟨n0, n1, s0, s1⟩ := HF1.out (.inl k17)
                    have hl8 := HF2.out k17
                    have HL8 : Hid (bs.length ≤ 8) := by show _ ≤ _; omega
                    have hk1 : (kind == 17) = true := by simpa using k17
                    have HRG2 : Hid (res = (allAt n.toNat 0 bs && decide (epoch ≤ m) && n.toNat.testBit slot.toNat)) := by show _ = _; rw [HRG.out, goodK, if_pos k17]
                    have HNN : Hid ((n.toNat : Int) = n) := by show _ = _; omega
                    have HSS : Hid ((slot.toNat : Int) = slot) := by show _ = _; omega
                    have HN2 : Hid (n.toNat < 256) := by show _ < _; omega
                    have HS2 : Hid (slot.toNat < 8) := by show _ < _; omega
                    clear k17 hl8
                    go_wp2_with fail
                    refine (welcome_c ⟨kind, room, slot, epoch, n, m, bs⟩ A c n.toNat slot.toNat _ (HR.out.to_ (balloc HK1.out _)) HNN.out.symm HN2.out HSS.out.symm HS2.out HL8.out).mono ?_
                    rintro e0 w2 ⟨rfl, hb2⟩
                    go_wp2
                    go_ret
                    exact ⟨by rw [HRG2.out]; rfl, bcall (balloc HK1.out _) hb2⟩
                  · have hk1 : (kind == 17) = false := by simpa using k17
                    by_cases k18 : kind = 18
                    · have hk2 : (kind == 18) = true := by simpa using k18
                      have HRG2 : Hid (res = decide (1 ≤ n)) := by show _ = _; rw [HRG.out, goodK, if_neg k17, if_pos k18]
                      clear k17 k18
                      go_wp2
                      go_ret
                      exact ⟨by rw [HRG2.out]; rfl, balloc HK1.out _⟩
                    · have hk2 : (kind == 18) = false := by simpa using k18
                      by_cases k19 : kind = 19
                      · have hk3 : (kind == 19) = true := by simpa using k19
                        obtain ⟨n0, n1, s0, s1⟩ := HF1.out (.inr (.inl k19))
                        have HRG2 : Hid (res = n.toNat.testBit slot.toNat) := by show _ = _; rw [HRG.out, goodK, if_neg k17, if_neg k18, if_pos k19]
                        clear k17 k18 k19
                        obtain ⟨N, rfl⟩ := Int.eq_ofNat_of_zero_le n0
                        obtain ⟨S, rfl⟩ := Int.eq_ofNat_of_zero_le s0
                        cases hb : N.testBit S with
                        | true =>
                          have hbit := bit_on (n := N) (k := S) (by omega) hb
                          have HRG3 : Hid (res = true) := by show _ = _; rw [HRG2.out]; first | exact hb | (show (!N.testBit S) = _; rw [hb]; rfl)
                          clear hb
                          go_wp2
                          go_ret
                          exact ⟨by rw [HRG3.out]; rfl, balloc HK1.out _⟩
                        | false =>
                          have hbit := bit_off (n := N) (k := S) (by omega) hb
                          have HRG3 : Hid (res = false) := by show _ = _; rw [HRG2.out]; first | exact hb | (show (!N.testBit S) = _; rw [hb]; rfl)
                          clear hb
                          go_wp2
                          go_ret
                          exact ⟨by rw [HRG3.out]; rfl, balloc HK1.out _⟩
                      · have hk3 : (kind == 19) = false := by simpa using k19
                        by_cases k20 : kind = 20
                        · have hk4 : (kind == 20) = true := by simpa using k20
                          obtain ⟨n0, n1, s0, s1⟩ := HF1.out (.inr (.inr k20))
                          have HRG2 : Hid (res = !n.toNat.testBit slot.toNat) := by show _ = _; rw [HRG.out, goodK, if_neg k17, if_neg k18, if_neg k19, if_pos k20]
                          clear k17 k18 k19 k20
                          obtain ⟨N, rfl⟩ := Int.eq_ofNat_of_zero_le n0
                          obtain ⟨S, rfl⟩ := Int.eq_ofNat_of_zero_le s0
                          cases hb : N.testBit S with
                          | true =>
                            have hbit := bit_on (n := N) (k := S) (by omega) hb
                            have HRG3 : Hid (res = false) := by show _ = _; rw [HRG2.out]; first | exact hb | (show (!N.testBit S) = _; rw [hb]; rfl)
                            clear hb
                            go_wp2
                            go_ret
                            exact ⟨by rw [HRG3.out]; rfl, balloc HK1.out _⟩
                          | false =>
                            have hbit := bit_off (n := N) (k := S) (by omega) hb
                            have HRG3 : Hid (res = true) := by show _ = _; rw [HRG2.out]; first | exact hb | (show (!N.testBit S) = _; rw [hb]; rfl)
                            clear hb
                            go_wp2
                            go_ret
                            exact ⟨by rw [HRG3.out]; rfl, balloc HK1.out _⟩
                        · have hk4 : (kind == 20) = false := by simpa using k20
                          have HRG2 : Hid (res = true) := by show _ = _; rw [HRG.out, goodK, if_neg k17, if_neg k18, if_neg k19, if_neg k20]
                          clear k17 k18 k19 k20
                          go_wp2
                          go_ret
                          exact ⟨by rw [HRG2.out]; rfl, balloc HK1.out _⟩
                · have HP : Hid (res = false) := HN.out (by rw [HGB.out]; simp [h7])
                  go_wp2
                  go_ret
                  exact ⟨by rw [HP.out]; rfl, balloc HK1.out _⟩
              · have HP : Hid (res = false) := HN.out (by rw [HGB.out]; simp [h6])
                go_wp2
                go_ret
                exact ⟨by rw [HP.out]; rfl, balloc HK1.out _⟩
end Go.Proofs.Ytmaemfjepdicfaa
