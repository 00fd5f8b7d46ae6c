/- The walk of NoteCuts (it returns true). -/
import Derived.Test.YtmaemfjepdicfaaBack
set_option linter.unusedVariables false
namespace Go.Proofs.Ytmaemfjepdicfaa
open Go.RowKit
attribute [local go_sem ↓] Go.wp_at_zero Go.wp_at_succ

theorem reads_take {w : World} {B n r : Nat} {A : Option Addr} {bs : List UInt8} (h : Reads w B 1 A n (bs.map u8v)) (hn : bs.length = n) (hr : r ≤ n) : Reads w B 1 A (bs.take r).length ((bs.take r).map u8v) := by
  refine ⟨by simp, fun h0 => ?_⟩
  rw [List.length_take] at h0
  obtain ⟨ad, e, hb, hc⟩ := h.2 (by omega)
  refine ⟨ad, e, hb, fun j u hj => hc j u ?_⟩
  rw [List.map_take, List.getElem?_take] at hj
  split at hj
  · exact hj
  · cases hj
theorem err_zero {bs : List UInt8} {k : Nat} (h : errS bs = k) (h0 : k ≠ 0) : noteS bs = NoteD.zero := by unfold noteS; rw [if_neg (by omega)]

set_option maxHeartbeats 1600000 in
theorem cuts_walk (d : NoteD) (A : Option Addr) (c cut : Nat) (bs : List UInt8) (A2 : Option Addr) (c2 : Nat) (w : World) (hr : Reads w w.heap.size 1 A d.bs.length (d.bs.map u8v)) (hlen : d.bs.length ≤ 9223372036854775807) (hcut : cut < 65536)
    (hr2 : Reads w w.heap.size 1 A2 bs.length (bs.map u8v)) (hl2 : bs.length ≤ 140737488351232) :
    Calls Try.prog 7 #[noteV d A c, .int .u16 (cut : Int), .slice A2 bs.length c2] w fun e w' => e = .returned (.bool true) ∧ Below w.heap.size w w' := by
  obtain ⟨iB, hiB, hz0, hz1, hz2⟩ := info_parts infoByte
  have HR := Lib.hid hr
  have HR2 := Lib.hid hr2
  clear hr hr2
  obtain ⟨g, hg⟩ : ∃ g, good d = g := ⟨_, rfl⟩
  have HG := Lib.hid hg
  clear hg
  obtain ⟨d0, d1, d2, d3, d4, d5, db⟩ := d
  simp only at hlen
  have HLEN := Lib.hid hlen
  unfold noteV
  go_enter Try.func7, Try.ntmps7
  go_wp2_with fail
  have HB0 := Lib.hid (balloc (Below.refl w.heap.size w) (.cells #[.int .i64 d0, .int .i64 d1, .int .i64 d2, .int .i64 d3, .int .i64 d4, .int .i64 d5, .slice A db.length c] 24))
  have HX0 := Lib.hid (Blk.new w 24 #[.int .i64 d0, .int .i64 d1, .int .i64 d2, .int .i64 d3, .int .i64 d4, .int .i64 d5, .slice A db.length c])
  generalize (w.alloc (Obj.cells #[.int .i64 d0, .int .i64 d1, .int .i64 d2, .int .i64 d3, .int .i64 d4, .int .i64 d5, .slice A db.length c] 24)) = w0 at *
  refine (awake_c _).mono ?_
  rintro e0 w1 ⟨rfl, hb1⟩
  have q1 := (HX0.out.below hb1).cell7
  have HX1 := Lib.hid (HX0.out.below hb1)
  have HB1 := Lib.hid (bcall HB0.out hb1)
  clear hb1
  go_wp2_with fail
  clear q1
  cases g with
  | true =>
    have hbl := bytesS_len ⟨d0, d1, d2, d3, d4, d5, db⟩
    have hfl := (good_fit HG.out).2.2.2.2.2.2.2.2.2.2.2.2
    simp only at hbl hfl
    have hby := bytes_good HG.out A c w1 (HR.out.to_ HB1.out) HLEN.out
    have hec := err_cut HG.out
    have hem := err_more HG.out bs
    obtain ⟨X, hX⟩ : ∃ X, bytesS ⟨d0, d1, d2, d3, d4, d5, db⟩ = X := ⟨_, rfl⟩
    rw [hX] at hec hem hbl hby
    have hXl : X.length ≤ 211 := by omega
    have hX0 : 11 ≤ X.length := by omega
    obtain ⟨xn, hxn⟩ : ∃ xn, X.length = xn := ⟨_, rfl⟩
    rw [hxn] at hby hec hXl hX0
    have HXN := Lib.hid hxn
    have HEC := Lib.hid hec
    have HEM := Lib.hid hem
    clear hbl hfl hX hec hem hxn
    refine hby.mono ?_
    rintro e0 w3 ⟨A3, c3, rfl, hv3, hb3⟩
    have hcap := own_cap hv3
    rw [HXN.out] at hcap
    have HB3 := Lib.hid (bcall HB1.out hb3)
    have HR3 := Lib.hid (show Reads w3 w3.heap.size 1 A3 xn (X.map u8v) from by have := hv3; unfold ByteRow at this; rw [HXN.out] at this; exact Reads.of_own this)
    clear hv3 hb3 hby
    obtain ⟨ad, rfl, _, _⟩ := HR3.out.2 (by omega)
    by_cases hm : bs.length = 0
    · have hmi : ((bs.length : Int) == 0) = true := by rw [hm]; rfl
      go_wp2
      go_ret
      exact ⟨by simp, HB3.out⟩
    · have hmi : ((bs.length : Int) == 0) = false := by rw [beq_eq_false_iff_ne]; omega
      have hne : bs ≠ [] := by intro e; rw [e] at hm; exact hm rfl
      have HNE := Lib.hid hne
      have HM := Lib.hid hm
      have hx0 : ((xn : Int) == 0) = false := by rw [beq_eq_false_iff_ne]; omega
      obtain ⟨r, hr⟩ : ∃ r, r = cut % xn := ⟨_, rfl⟩
      have hrl : r < xn := by rw [hr]; exact Nat.mod_lt _ (by omega)
      have hrem : (cut : Int).tmod (xn : Int) = (r : Int) := by rw [hr, Int.tmod_eq_emod_of_nonneg (by omega)]; rfl
      have hri : (r : Int) ≤ (c3 : Int) := by omega
      clear hm hne hr
      go_wp2_with fail
      have hec := HEC.out r hrl
      have hlr : (X.take r).length = r := by rw [List.length_take, HXN.out]; omega
      have hpc := parse_D (err_zero hec (by decide)) hec (some ad) c3 w3 (reads_take HR3.out HXN.out (by omega)) (by omega) (by omega)
      rw [hlr] at hpc
      refine hpc.mono ?_
      rintro e0 w6 ⟨A6, c6, rfl, hv6, hb6⟩
      have HB6 := Lib.hid (bcall HB3.out hb6)
      have HR6 := Lib.hid (HR3.out.to_ hb6)
      clear hv6 hb6 hpc hec hlr
      unfold noteV NoteD.zero
      simp only [List.length_nil]
      go_upto_region 7 with (fail)
      have HB7 := Lib.hid (balloc HB6.out (.cells #[.int .i64 0, .int .i64 0, .int .i64 0, .int .i64 0, .int .i64 0, .int .i64 0, .slice A6 0 c6] 24))
      have HR7 := Lib.hid (HR6.out.to_ (balloc (Below.refl _ _) (.cells #[.int .i64 0, .int .i64 0, .int .i64 0, .int .i64 0, .int .i64 0, .int .i64 0, .slice A6 0 c6] 24)))
      generalize (w6.alloc (Obj.cells #[.int .i64 0, .int .i64 0, .int .i64 0, .int .i64 0, .int .i64 0, .int .i64 0, .slice A6 0 c6] 24)) = w7 at *
      go_wp2_with (first
        | (at_builtin
           refine wpList_append_any _ rfl (.tmp 46) (.tmp 47) _ rfl w7.heap.size 5 iB _ 1 1 Try.underlying22 hiB hz0 hz1 hz2 rfl (by omega) (.slice (some ⟨w7.heap.size, 0, none⟩) 0 0) 0 [] rfl (own_empty w7 5 1)
             (w7.alloc (.cells #[] 5)).heap.size (some ad) xn c3 (X.map u8v) rfl (HR7.out.to_ (balloc (Below.refl _ _) _)) (u8_one X) (by simp only [maxLen]; omega) (by omega) (by simp) ?_
           intro v8 w8 hown8 hg8 hat8
           rw [Nat.zero_add, List.nil_append] at hown8
           obtain ⟨A8, c8, rfl⟩ := own_slice hown8
           have HB8' := Lib.hid (fresh_below hg8)
           have HB8 := Lib.hid (bcall HB7.out HB8'.out)
           have HO8 := Lib.hid hown8
           clear hown8 hg8 hat8)
        | (at_builtin
           refine wpList_append_any _ rfl (.tmp 48) (.tmp 49) _ rfl w7.heap.size 5 iB _ 1 1 Try.underlying22 hiB hz0 hz1 hz2 rfl (by omega) (.slice A8 xn c8) xn (X.map u8v) rfl HO8.out
             w8.heap.size A2 bs.length c2 (bs.map u8v) rfl (HR2.out.to_ HB8.out) (u8_one bs) (by simp only [maxLen]; omega) (by omega) HB8'.out.size ?_
           intro v9 w9 hown9 hg9 hat9
           rw [← List.map_append] at hown9
           obtain ⟨A9, c9, rfl⟩ := own_slice hown9
           have HB9' := Lib.hid (own_grow_below HB8'.out HO8.out hg9)
           have HB9 := Lib.hid (bcall HB7.out HB9'.out)
           have HO9 := Lib.hid hown9
           clear hown9 hg9 hat9))
      have hem := HEM.out HNE.out
      have hxl : (X ++ bs).length = xn + bs.length := by rw [List.length_append, HXN.out]
      have hrow : ByteRow w9 w7.heap.size (.slice A9 (X ++ bs).length c9) (X ++ bs) := by unfold ByteRow; rw [hxl]; exact HO9.out
      have hcap9 := own_cap hrow
      have hpc := parse_D (err_zero hem (by decide)) hem A9 c9 w9 (Reads.of_own hrow) (by omega) hcap9
      rw [hxl] at hpc
      refine hpc.mono ?_
      rintro e0 w10 ⟨A10, c10, rfl, hv10, hb10⟩
      have HB10 := Lib.hid (bcall HB9.out hb10)
      clear hv10 hb10 hpc hem hxl hrow hcap9
      unfold noteV NoteD.zero
      simp only [List.length_nil]
      go_wp2
      go_ret
      exact ⟨rfl, balloc HB10.out _⟩
  | false =>
    refine (bytes_bad HG.out A c w1 (HR.out.to_ HB1.out) HLEN.out).mono ?_
    rintro e0 w3 ⟨A3, c3, rfl, hv3, hb3⟩
    have HB3 := Lib.hid (bcall HB1.out hb3)
    clear hv3 hb3
    go_wp2
    go_ret
    exact ⟨rfl, HB3.out⟩
end Go.Proofs.Ytmaemfjepdicfaa
