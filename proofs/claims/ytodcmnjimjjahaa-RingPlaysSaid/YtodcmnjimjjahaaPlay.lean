/- The law RingPlays, walked. Conditions: the slices read. -/
import Derived.Test.YtodcmnjimjjahaaPlay1
set_option linter.unusedVariables false
namespace Go.Proofs.Ytodcmnjimjjahaa
open Go.RowKit
attribute [local go_sem ↓] Go.wp_at_zero Go.wp_at_succ

def rtp : TypeId → Bool := fun t => t == 45 || t == 49 || t == 36
theorem Fr.below0 {T : TypeId → Bool} {w w' : World} (h : Fr w.heap.size T w w') : Fr w.heap.size (fun _ => false) w w' := Fr.of_below h.far
set_option maxRecDepth 100000 in
set_option maxHeartbeats 3200000 in
theorem plays_walk (A A2 : Option Addr) (n c n2 c2 : Nat) (ps : List Ent) (qs : List Nat) (w : World)
    (hr : Reads w w.heap.size 2 A n (ecells ps)) (hl : ps.length = n) (hpb : ∀ e ∈ ps, BytesV 5 w.heap.size w e.v e.bs) (hps : ∀ e ∈ ps, e.seq < 65536 ∧ e.bs.length ≤ 140737488351232)
    (hr2 : Reads w w.heap.size 1 A2 n2 (qs.map fun (q : Nat) => .int .u16 (q : Int))) (hl2 : qs.length = n2) (hc : n ≤ 9223372036854775807) (hc2 : n2 ≤ 9223372036854775807) :
    Calls Try.prog 4 #[.slice A n c, .slice A2 n2 c2] w fun e w' => e = .returned (.bool true) ∧ Below w.heap.size w w' := by
  have HRD := Lib.hid hr
  have HL := Lib.hid hl
  have HPB := Lib.hid hpb
  have HPS := Lib.hid hps
  have HR2 := Lib.hid hr2
  have HL2 := Lib.hid hl2
  clear hr hl hpb hps hr2 hl2
  go_enter Try.func4, Try.ntmps4
  go_wp2_with fail
  refine (new_c w).mono ?_
  rintro e0 w1 ⟨rfl, hw1⟩
  have hr1 : RingK w1 w.heap.size w.heap.size [] := by rw [hw1]; exact RingK.new w _ (Nat.le_refl _)
  have hf1 : Fr w.heap.size rt w w1 := by rw [hw1]; exact (Fr.refl _ _ _).alloc _
  have hle := hf1.size
  clear hw1
  go_wp2_with fail
  have hr2 := hr1.alloc (.cells #[.slice none 0 0, .slice none 0 0] 36)
  have hq2 := RefK.new w1 w.heap.size hle
  have hf2 := hf1.alloc (.cells #[.slice none 0 0, .slice none 0 0] 36)
  generalize w1.heap.size = q at *
  generalize w1.alloc (.cells #[.slice none 0 0, .slice none 0 0] 36) = w2 at *
  refine (awake_c w2).mono ?_
  rintro e0 w3 ⟨rfl, hb3⟩
  have HR3 := Lib.hid (hr2.below hb3)
  have HQ3 := Lib.hid (hq2.below hb3)
  have HF3 := Lib.hid ((hf2.call hb3).mono (T' := rtp) (by unfold rt rtp; intro t h; simp at h ⊢; rcases h with h | h <;> simp [h]))
  clear hr1 hf1 hr2 hq2 hf2 hb3
  go_wp2_with fail
  go_loopg [7] n (fun gg i wr => ∃ k, k ≤ n ∧ k ≤ 200 ∧ gg = n - k ∧ i = .int .i64 k ∧ RingK wr w.heap.size w.heap.size (playK (ps.map Ent.key) k) ∧ RefK wr w.heap.size q (playK (ps.map Ent.key) k) ∧ Fr w.heap.size rtp w wr)
  case atStart => exact ⟨0, by omega, by omega, rfl, rfl, HR3.out, HQ3.out, HF3.out⟩
  case round =>
    obtain ⟨k, hk, hk2, rfl, rfl, hrk, hqk, hfk⟩ := hrel
    have HRK := Lib.hid hrk
    have HQK := Lib.hid hqk
    have HFK := Lib.hid hfk
    clear hrk hqk hfk HR3 HQ3 HF3
    obtain ⟨w4, rfl⟩ : ∃ w4, w4 = wr := ⟨_, rfl⟩
    by_cases hgo : k < n ∧ k < 200
    · obtain ⟨hkn, hk200⟩ := hgo
      · obtain ⟨E, hE⟩ : ∃ E, ps[k]? = some E := ⟨_, List.getElem?_eq_getElem (by rw [HL.out]; exact hkn)⟩
        have hEm := List.mem_of_getElem? hE
        have hEk : (ps.map Ent.key)[k]? = some E.key := by rw [List.getElem?_map, hE]; rfl
        obtain ⟨hs1, hs2⟩ := playK_succ _ k _ hEk
        have HS1 := Lib.hid hs1
        have HS2 := Lib.hid hs2
        have hlen := (playK_ok (ps.map Ent.key) k).1
        obtain ⟨hEs, hEb⟩ := HPS.out E hEm
        have hbe := (HPB.out E hEm).fr HFK.out.below0 rfl
        have hbe2 := hbe
        obtain ⟨A3, c3, hv3, _⟩ := hbe2
        obtain ⟨ad, rfl, hadl, hcell⟩ := (HRD.out.below HFK.out.far).2 (by omega)
        obtain ⟨h1, h2⟩ := ecells_at ps k (by rw [HL.out]; exact hkn)
        have hEe : ps[k]'(by rw [HL.out]; exact hkn) = E := by rw [List.getElem?_eq_getElem (by rw [HL.out]; exact hkn)] at hE; exact Option.some.inj hE
        rw [hEe] at h1 h2
        rw [hv3] at h2 hbe
        have c00 := hcell 0 _ (ecells_at ps 0 (by rw [HL.out]; omega)).1
        have ca := hcell _ _ h1
        have cb := hcell _ _ h2
        obtain ⟨b, off, rfl⟩ := addr_plain c00
        rw [Go.WideShapes.add_plain] at ca cb
        rw [← Nat.add_assoc] at cb
        have HBE := Lib.hid hbe
        clear hs1 hs2 hE hEm hEk hEe h1 h2 hcell c00 hbe hv3
        have hk0 : (0 : Int) ≤ (k : Int) := by omega
        have hk1 : (k : Int) < (n : Int) := by omega
        have HEB := Lib.hid hEb
        have HES := Lib.hid hEs
        have HLEN := Lib.hid hlen
        clear hEb hEs hlen hle
        go_wp2_with fail
        go_region_held3 (fun w' => w'.cell? ⟨b, off + k * 2, none⟩ = some (.int .u16 (E.seq : Int)) ∧ w'.cell? ⟨b, off + k * 2 + 1, none⟩ = some (.slice A3 E.bs.length c3)) (first | exact ⟨ca, cb⟩ | exact ⟨((hf5.below HFK.out.size).cell (p := ⟨b, off + k * 2, none⟩) hadl).trans ca, ((hf5.below HFK.out.size).cell (p := ⟨b, off + k * 2 + 1, none⟩) hadl).trans cb⟩)
          ((go_at_call 9; refine (addK_c (r := w.heap.size) (s := E.seq) (bs := E.bs) (v := .slice A3 E.bs.length c3) (w := w4.drew) (B := w.heap.size) (ks := playK (ps.map Ent.key) k) HRK.out HBE.out (by have := HEB.out; omega) HES.out HLEN.out).mono ?_; rintro e0 w5 ⟨rfl, hr5, hf5⟩))
        rw [show (E.seq, E.bs) = E.key from rfl, ← HS1.out] at hr5
        have HR5 := Lib.hid hr5
        have hf5' := hf5.mono (T' := rtp) (by unfold rt rtp; intro t h; simp at h ⊢; rcases h with h | h <;> simp [h])
        have HF5 := Lib.hid (HFK.out.drew.trans hf5')
        have HQ5 := Lib.hid ((show RefK w4.drew _ _ _ from HQK.out).fr hf5 rfl rfl rfl rfl)
        have HB5 := Lib.hid ((show BytesV 5 _ w4.drew _ _ from HBE.out).fr hf5 rfl)
        have ca5 := ((hf5.below HFK.out.size).cell (p := ⟨b, off + k * 2, none⟩) hadl).trans ca
        have cb5 := ((hf5.below HFK.out.size).cell (p := ⟨b, off + k * 2 + 1, none⟩) hadl).trans cb
        clear hr5 hf5 hf5' ca cb HRK HFK HQK HBE
        go_wp2_with fail
        go_region_held3 (fun w' => w'.cell? ⟨b, off + k * 2, none⟩ = some (.int .u16 (E.seq : Int)) ∧ w'.cell? ⟨b, off + k * 2 + 1, none⟩ = some (.slice A3 E.bs.length c3)) (first | exact ⟨ca5, cb5⟩ | exact ⟨((hf6.below HF5.out.size).cell (p := ⟨b, off + k * 2, none⟩) hadl).trans ca5, ((hf6.below HF5.out.size).cell (p := ⟨b, off + k * 2 + 1, none⟩) hadl).trans cb5⟩)
          ((go_at_call 12; refine (reddK_c (r := q) (s := E.seq) (bs := E.bs) (v := .slice A3 E.bs.length c3) (w := w5.drew) (B := w.heap.size) (ks := playK (ps.map Ent.key) k) HQ5.out HB5.out (by have := HEB.out; omega) HLEN.out).mono ?_; rintro e0 w6 ⟨rfl, hq6, hf6⟩))
        rw [show (E.seq, E.bs) = E.key from rfl, ← HS2.out] at hq6
        have HQ6 := Lib.hid hq6
        have hf6' := hf6.mono (T' := rtp) (by unfold rtp; intro t h; simp at h ⊢; simp [h])
        have HF6 := Lib.hid (HF5.out.drew.trans hf6')
        have HR6 := Lib.hid ((show RingK w5.drew _ _ _ from HR5.out).fr hf6 rfl rfl rfl)
        obtain ⟨A9, c9, cq⟩ := hq6.cells
        have hneq : (((playK (ps.map Ent.key) (k + 1)).length : Int) != ((playK (ps.map Ent.key) (k + 1)).length : Int)) = false := by simp
        have HLN : Hid (∀ m, Calls Try.prog 11 #[.pointer (some ⟨w.heap.size, 0, none⟩)] (w6.drewN m) fun e w' => e = .returned (.int .i64 (playK (ps.map Ent.key) (k + 1)).length) ∧ w' = w6.drewN m) :=
          fun m => (lenK_c (show RingK (w6.drewN m) w.heap.size w.heap.size _ from HR6.out)).mono (by rintro e w' ⟨rfl, rfl⟩; exact ⟨rfl, rfl⟩)
        clear hq6 hf6 hf6' ca5 cb5 HR5 HF5 HQ5 HB5 HS1 HS2
        go_wp2_with fail
        go_quiet ((go_at_call 11; exact Calls.quiet_of_same (HLN.out _)))
        go_wp2
        go_roundg (n - (k + 1))
        case measure => omega
        case rel => exact ⟨k + 1, by omega, by omega, rfl, by go_num, HR6.out, HQ6.out, HF6.out.drewN _⟩
    · obtain ⟨ks, hks⟩ : ∃ ks, ks = playK (ps.map Ent.key) k := ⟨_, rfl⟩
      have hlen := (playK_ok (ps.map Ent.key) k).1
      rw [← hks] at hlen
      have HR4 : Hid (RingK w4 w.heap.size w.heap.size ks) := by rw [hks]; exact HRK.out
      have HQ4 : Hid (RefK w4 w.heap.size q ks) := by rw [hks]; exact HQK.out
      have HLEN := Lib.hid hlen
      clear HRK HQK hle hlen
      have HBD : Hid (∀ x bs, getK ks x = some bs → bs.length ≤ 140737488351232) := by
        intro x bs h
        obtain ⟨e, he, rfl⟩ := getK_mem h
        rw [hks] at he
        obtain ⟨E, hE, rfl⟩ := List.mem_map.1 (playK_mem _ _ _ he)
        exact (HPS.out E hE).2
      clear hks
      by_cases hkn : k < n
      all_goals
        try have hk200 : ¬ k < 200 := by omega
        go_wp2_with fail
        go_loopg [8] n2 (fun gg i wr => ∃ j, j ≤ n2 ∧ j ≤ 200 ∧ gg = n2 - j ∧ i = .int .i64 j ∧ RingK wr w.heap.size w.heap.size ks ∧ RefK wr w.heap.size q ks ∧ Fr w.heap.size rtp w wr)
        case atStart => exact ⟨0, by omega, by omega, rfl, rfl, HR4.out, HQ4.out, HFK.out⟩
        case round =>
          obtain ⟨j, hj, hj2, rfl, rfl, hrk, hqk, hfk⟩ := hrel
          have HRJ := Lib.hid hrk
          have HQJ := Lib.hid hqk
          have HFJ := Lib.hid hfk
          clear hrk hqk hfk HR4 HQ4 HFK
          obtain ⟨w5, rfl⟩ : ∃ w5, w5 = wr := ⟨_, rfl⟩
          by_cases hgo : j < n2 ∧ j < 200
          · obtain ⟨hjn, hj200⟩ := hgo
            obtain ⟨x, hx⟩ : ∃ x, qs[j]? = some x := ⟨_, List.getElem?_eq_getElem (by rw [HL2.out]; exact hjn)⟩
            obtain ⟨ad, rfl, hadl, hcell⟩ := (HR2.out.below HFJ.out.far).2 (by omega)
            have c00 := hcell 0 _ (by rw [List.getElem?_map, List.getElem?_eq_getElem (by rw [HL2.out]; omega : 0 < qs.length)]; rfl)
            have ca := hcell j (.int .u16 (x : Int)) (by rw [List.getElem?_map, hx]; rfl)
            obtain ⟨b, off, rfl⟩ := addr_plain c00
            rw [Go.WideShapes.add_plain] at ca
            clear hcell c00 hx
            have hk0 : (0 : Int) ≤ (j : Int) := by omega
            have hk1 : (j : Int) < (n2 : Int) := by omega
            go_wp2_with fail
            cases hg : getK ks x with
            | some bs =>
              have hbd := HBD.out x bs hg
              have HG := Lib.hid hg
              clear hg
              refine (getK_hit HRJ.out HLEN.out (by omega) HG.out).mono ?_
              rintro e0 w6 ⟨A6, c6, rfl, _, hv6, hb6⟩
              have HR6 := Lib.hid (HRJ.out.below hb6)
              have HQ6 := Lib.hid (HQJ.out.below hb6)
              have HF6 := Lib.hid (HFJ.out.call hb6)
              have HV6 := Lib.hid hv6
              have ca6 := (hb6.cell (p := ⟨b, off + j, none⟩) (Nat.lt_of_lt_of_le hadl HFJ.out.size)).trans ca
              clear hb6 ca hv6 hbd
              go_wp2_with fail
              refine (rgetK_hit HQ6.out HLEN.out HG.out).mono ?_
              rintro e0 w7 ⟨A7, c7, rfl, hv7, rfl⟩
              have HV7 := Lib.hid hv7
              clear hv7
              go_wp2_with fail
              refine (same_c HV6.out HV7.out).mono ?_
              rintro e0 w7 ⟨rfl, rfl⟩
              rw [beq_self_eq_true]
              go_wp2
              go_roundg (n2 - (j + 1))
              case measure => omega
              case rel => exact ⟨j + 1, by omega, by omega, rfl, by go_num, HR6.out, HQ6.out, HF6.out⟩
            | none =>
              have HG := Lib.hid hg
              clear hg
              refine (getK_miss HRJ.out HLEN.out HG.out).mono ?_
              rintro e0 w6 ⟨rfl, hb6⟩
              have HR6 := Lib.hid (HRJ.out.below hb6)
              have HQ6 := Lib.hid (HQJ.out.below hb6)
              have HF6 := Lib.hid (HFJ.out.call hb6)
              have ca6 := (hb6.cell (p := ⟨b, off + j, none⟩) (Nat.lt_of_lt_of_le hadl HFJ.out.size)).trans ca
              clear hb6 ca
              go_wp2_with fail
              refine (rgetK_miss HQ6.out HLEN.out HG.out).mono ?_
              rintro e0 w7 ⟨rfl, rfl⟩
              go_wp2_with fail
              refine (same_c (BytesV.nil 5 0 w6) (BytesV.nil 5 0 w6)).mono ?_
              rintro e0 w7 ⟨rfl, rfl⟩
              go_wp2
              go_roundg (n2 - (j + 1))
              case measure => omega
              case rel => exact ⟨j + 1, by omega, by omega, rfl, by go_num, HR6.out, HQ6.out, HF6.out⟩
          · go_wp2
            all_goals (go_ret; exact ⟨rfl, HFJ.out.far⟩)
end Go.Proofs.Ytodcmnjimjjahaa
