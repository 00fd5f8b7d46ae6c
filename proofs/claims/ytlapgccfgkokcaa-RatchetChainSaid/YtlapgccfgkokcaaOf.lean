/- What the program's Of does (contract). Conditions: the parts lie in memory. -/
import Derived.Test.YtlapgccfgkokcaaSum
set_option linter.unusedVariables false
set_option linter.unusedSimpArgs false
namespace Go.Proofs.Ytlapgccfgkokcaa
open Go.RowKit
attribute [local go_sem ↓] Go.wp_at_zero Go.wp_at_succ

/-- A slice of slices of bytes that reads ps. -/
def Parts (w : World) (A : Option Addr) (ps : List (List UInt8)) : Prop :=
  0 < ps.length → ∃ g o, A = some ⟨g, o, none⟩ ∧ g < w.heap.size ∧ ∀ i, i < ps.length → ∃ Ai ci, w.cell? ⟨g, o + i, none⟩ = some (.slice Ai (ps.getD i []).length ci) ∧ (ps.getD i []).length ≤ ci ∧ Reads w w.heap.size 1 Ai (ps.getD i []).length ((ps.getD i []).map u8v)
theorem Parts.nil (w : World) (A : Option Addr) : Parts w A [] := fun h => absurd h (by simp)
theorem take_flat (ps : List (List UInt8)) (i : Nat) (hi : i < ps.length) : (ps.take (i + 1)).flatten = (ps.take i).flatten ++ ps.getD i [] := by
  rw [List.take_add_one, List.getElem?_eq_getElem hi, List.getD_eq_getElem?_getD, List.getElem?_eq_getElem hi, List.flatten_append]
  simp
theorem Src.of_below {w : World} {gs gc c B : Nat} {v : Value} {A : Option Addr} {b : List UInt8} (hc : b.length ≤ c) (h : Reads w B 1 A b.length (b.map u8v)) (hB : B ≤ w.heap.size) (h1 : B ≤ gs) (h2 : B ≤ gc) (h3 : ∀ g, v.ownBlock = some g → B ≤ g) : Src w gs gc v A c b := by
  refine ⟨hc, fun hp => ?_⟩
  obtain ⟨gb, o, rfl, h4, h5⟩ := head_cells h hp
  exact ⟨gb, o, rfl, by omega, by omega, by omega, fun e => by have := h3 _ e; omega, h5⟩
theorem there32 {w : World} {g : Nat} {l O : List UInt8} (h : UB w g 24 l) (hl : l.length = 32) (hO : O.length = 32) : w.there g 0 (O.map u8v).toArray.size := by
  rw [show (O.map u8v).toArray.size = 32 by rw [List.size_toArray, List.length_map, hO]]
  exact blk_there h (by rw [List.length_map, hl])
theorem infoO {O : List UInt8} (hO : O.length = 32) : (Try.prog.info? 24).map (·.size) = some (O.map u8v).toArray.size := by rw [List.size_toArray, List.length_map, hO]; exact info32
theorem infoL {O : List UInt8} (hO : O.length = 32) : (Try.prog.info? 24).map (·.size) = some (O.map u8v).length := by rw [List.length_map, hO]; exact info32
set_option maxRecDepth 100000 in
set_option maxHeartbeats 6400000 in
theorem of_c (ps : List (List UInt8)) (A : Option Addr) (c : Nat) (w : World) (hp : Parts w A ps) (hn : ps.length < 9223372036854775808) :
    Calls Try.prog 22 #[.slice A ps.length c] w fun e w' => e = .returned (.agg ((shaS ps.flatten).map u8v).toArray) ∧ Below w.heap.size w w' := by
  have HP := Lib.hid hp
  clear hp
  obtain ⟨n, hnn⟩ : ∃ n, n = ps.length := ⟨_, rfl⟩
  have HN := Lib.hid hnn
  rw [← hnn] at hn
  rw [← hnn]
  clear hnn
  go_enter Try.func22, Try.ntmps22
  go_upto_region 1 with fail
  obtain ⟨w0, hw0⟩ : ∃ w0, w0 = w.alloc (.cells (z32.map u8v).toArray 24) := ⟨_, rfl⟩
  change Code.wp _ _ _ _ (w.alloc (.cells (z32.map u8v).toArray 24))
  have HU0 : Hid (UB w0 w.heap.size 24 z32) := by show UB _ _ _ _; rw [hw0]; exact Blk.new _ _ _
  have HB0 : Hid (Below w.heap.size w w0) := by show Below _ _ _; rw [hw0]; exact balloc (Below.refl _ _) _
  have HW0 : Hid (w.heap.size < w0.heap.size) := HU0.out.lt
  rw [← hw0]
  clear hw0
  have hc := new_c w0
  obtain ⟨gs, hgs⟩ : ∃ gs, gs = w0.heap.size + 1 := ⟨_, rfl⟩
  rw [← hgs] at hc
  have HGS : Hid (w0.heap.size < gs) := by show _ < _; omega
  clear hgs
  go_upto_region 2 with (first
    | (go_at_call 25; refine hc.mono ?_; rintro e0 w1 ⟨rfl, hs1, hb1⟩))
  have HS1 := Lib.hid hs1
  have HB1 := Lib.hid hb1
  clear hs1 hb1 hc
  go_upto_region 3 with fail
  go_loopg [9] n (fun gg v9 wx => ∃ (i : Nat) (v : Value), i ≤ n ∧ gg = n - i ∧ v9 = .int .i64 (i : Int) ∧ StrV wx w0.heap.size gs w0.heap.size v (ps.take i).flatten ∧ Below w0.heap.size w0 wx)
  case atStart => exact ⟨0, _, Nat.zero_le _, rfl, rfl, HS1.out, HB1.out⟩
  case round =>
    obtain ⟨i, v, hi, rfl, rfl, hs, hb⟩ := hrel
    clear HS1 HB1
    by_cases hi2 : i < n
    · have hii : (i : Int) < (n : Int) := by omega
      obtain ⟨g, o, hA, hg, hcs⟩ := HP.out (by rw [← HN.out]; omega)
      subst hA
      obtain ⟨Ai, ci, hcell, hci, hrd⟩ := hcs i (by rw [← HN.out]; exact hi2)
      obtain ⟨b, hbb⟩ : ∃ b, b = ps.getD i [] := ⟨_, rfl⟩
      rw [← hbb] at hcell hci hrd
      have hbw : Below w.heap.size w wr := ⟨hb.os.trans HB0.out.os, hb.tape.trans HB0.out.tape, hb.output.trans HB0.out.output, Nat.le_trans HB0.out.size hb.size, fun k hk => (hb.block k (by have := HW0.out; omega)).trans (HB0.out.block k hk)⟩
      have hcell' : wr.cell? ⟨g, o + i, none⟩ = some (.slice Ai b.length ci) := (hbw.cell (p := ⟨g, o + i, none⟩) hg).trans hcell
      have hsrc : Src wr gs w0.heap.size v Ai ci b := Src.of_below hci (hrd.below hbw) hbw.size (by have := HGS.out; have := HW0.out; omega) (by have := HW0.out; omega) (fun g' h => by have := (hs.2.1.lt _ h).1; have := HW0.out; omega)
      have HADD := Lib.hid (add_c (ps.take i).flatten b v Ai w0.heap.size gs w0.heap.size ci wr hb.size hs hsrc)
      have HBB := Lib.hid hbb
      have HB := Lib.hid hb
      have HRL := Lib.hid hs.2.1
      clear hsrc hbb hb hs hcs hg hci hcell hrd hbw
      go_upto_region 6 with (first
        | (go_at_call 26; refine HADD.out.mono ?_; rintro e0 w2 ⟨rfl, ⟨v2, hs2, hv2⟩, hsv⟩))
      have hb2 : Below w0.heap.size w0 w2 := by
        have := hsv.toBelow (B := w0.heap.size) (fun k hk => by
          rcases hk with h | h | h
          · have := HGS.out; omega
          · omega
          · exact (HRL.out.lt _ h).1) HB.out.size
        exact HB.out.trans this
      have HS2 := Lib.hid hs2
      have HB2 := Lib.hid hb2
      clear hs2 hb2 hsv hv2 hcell' HADD HRL
      go_wp2_with fail
      go_roundg (n - (i + 1))
      case measure => omega
      case rel =>
        refine ⟨i + 1, v2, by omega, rfl, by go_num, ?_, HB2.out⟩
        rw [take_flat ps i (by rw [← HN.out]; exact hi2), ← HBB.out]
        exact HS2.out
    · have hin : i = n := by omega
      subst hin
      have hfl : (ps.take i).flatten = ps.flatten := by rw [HN.out, List.take_length]
      rw [hfl] at hs
      have hsum := sum_c ps.flatten v w0.heap.size gs w0.heap.size wr hs
      obtain ⟨O, hO⟩ : ∃ O, O = shaS ps.flatten := ⟨_, rfl⟩
      rw [← hO] at hsum
      have HOE := Lib.hid hO
      have hOl : O.length = 32 := by rw [hO]; exact shaS_len _
      have hu : UB wr w.heap.size 24 z32 := Blk.below HU0.out hb
      have HB := Lib.hid hb
      have HU := Lib.hid hu
      have HOL := Lib.hid hOl
      have HSUM := Lib.hid hsum
      have HJ := Lib.hid (infoO hOl)
      have HI := Lib.hid (infoL hOl)
      clear hs hb hu hsum hO hOl hfl
      go_upto_region 7 with fail
      go_wp2_with (first
        | (go_at_call 27
           refine HSUM.out.mono ?_
           rintro e0 w2 ⟨rfl, hci2, hsv2⟩
           have HU2 : Hid (UB w2 w.heap.size 24 z32) := hsv2.blk HU.out (by have := HW0.out; omega)
           have HTH : Hid (w2.there w.heap.size 0 (O.map u8v).toArray.size) := there32 HU2.out rfl HOL.out
           have HB2 : Hid (Below w0.heap.size w0 w2) := HB.out.trans (hsv2.toBelow (B := w0.heap.size) (fun k hk => Nat.le_of_eq hk.symm) HB.out.size)
           clear hci2 hsv2)
        | ((with_reducible show wpList _ _ _ (⟨none, .store 24 (.tmp 2) (.tmp 18), _, _, _, _⟩ :: _) _ _); refine wpList_store_mid rfl 24 (.tmp 2) (.tmp 18) rfl w.heap.size 0 (O.map u8v).toArray rfl rfl HTH.out HJ.out (bytes_one _) ?_))
      have hst : UB (w2.setCells w.heap.size 0 (O.map u8v)) w.heap.size 24 O := blk_setAll HU2.out (by rw [List.length_map, HOL.out]; rfl)
      have hload := run_loadVar_mid (P := Try.prog) (w2.setCells w.heap.size 0 (O.map u8v)) w.heap.size 0 24 (O.map u8v) _ hst.range Try.underlying24 rfl HI.out
      refine bodyPost_ret (results_one rfl _ _ w.heap.size _ rfl hload) rfl ⟨by rw [HOE.out], ?_⟩
      exact below_setCells (HB0.out.trans (HB2.out.mono (Nat.le_of_lt HW0.out))) (Nat.le_refl _) _ _
end Go.Proofs.Ytlapgccfgkokcaa
