/- What the chain's Go does (contract); the ratchet statements' awake. Conditions: the chain lies in memory. -/
import Derived.Test.YtlapgccfgkokcaaChain
set_option linter.unusedVariables false
set_option linter.unusedSimpArgs false
namespace Go.Proofs.Ytlapgccfgkokcaa
open Go.RowKit
attribute [local go_sem ↓] Go.wp_at_zero Go.wp_at_succ

set_option maxRecDepth 100000 in
set_option maxHeartbeats 1600000 in
theorem go_bad (p : Nat) (z : Int) (w : World) (hz : z < 0 ∨ 31 < z) :
    Calls Try.prog 46 #[.pointer (some ⟨p, 0, none⟩), .int .i64 z] w fun e w' => e = .returned (.int .i64 1) ∧ w = w' := by
  have HW := Lib.hid (at_bad p z w hz)
  clear hz
  go_enter Try.func46, Try.ntmps46
  go_wp2_with (first
    | (go_at_call 45
       refine HW.out.mono ?_
       rintro e0 wx ⟨rfl, rfl⟩))
  go_ret
  exact ⟨rfl, rfl⟩
set_option maxRecDepth 100000 in
set_option maxHeartbeats 1600000 in
theorem go_old (p st z : Nat) (v : Value) (w : World) (h : Blk w p 94 #[.int .i64 (st : Int), v]) (hz : z ≤ 31) (hs : z < st) :
    Calls Try.prog 46 #[.pointer (some ⟨p, 0, none⟩), .int .i64 (z : Int)] w fun e w' => ∃ n, e = .returned (.int .i64 9) ∧ w' = w.drewN n := by
  have HW := Lib.hid (at_old p st z v w h hz hs)
  clear h hz hs
  go_enter Try.func46, Try.ntmps46
  go_wp2_with (first
    | (go_at_call 45
       refine HW.out.mono ?_
       rintro e0 wx ⟨n, rfl, rfl⟩))
  go_ret
  exact ⟨n, rfl, rfl⟩
set_option maxRecDepth 100000 in
set_option maxHeartbeats 3200000 in
theorem go_c (b : List UInt8) (A : Option Addr) (n c p st z : Nat) (w : World) (h : Blk w p 94 #[.int .i64 (st : Int), .slice A n c]) (hs : SlV w (.slice A n c) b) (hl : n ≤ 140737488355328) (hz : z ≤ 31) (hst : st ≤ z) :
    Calls Try.prog 46 #[.pointer (some ⟨p, 0, none⟩), .int .i64 (z : Int)] w fun e w' => ∃ A' n' c' w1, e = .returned (.int .i64 0) ∧ SlV w1 (.slice A' n' c') (iterS b (z - st)) ∧ Below w.heap.size w w1 ∧ w' = (w1.setCell ⟨p, 0, none⟩ (.int .i64 (z : Int))).setCell ⟨p, 1, none⟩ (.slice A' n' c') := by
  have HW := Lib.hid (at_c b A n c p st z w h hs hl hz hst)
  have HK := Lib.hid h
  clear h hs hz hst
  go_enter Try.func46, Try.ntmps46
  go_wp2_with (first
    | (go_at_call 45
       refine HW.out.mono ?_
       rintro e0 w1 ⟨A1, n1, c1, rfl, hs1, hb1⟩
       have HS1 := Lib.hid hs1
       have HB1 := Lib.hid hb1
       have hk1 := Blk.below HK.out hb1
       have hc1 := hk1.cell2
       have f0 := hk1.frozen 0
       have f1 := hk1.frozen 1
       clear hs1 hb1 hk1))
  go_ret
  exact ⟨A1, n1, c1, w1, rfl, HS1.out, HB1.out, rfl⟩
set_option maxRecDepth 100000 in
theorem slv_str4 {w : World} {A : Option Addr} {n c : Nat} {b : List UInt8} (h : SlV w (.slice A n c) b) : (convert 27 9 (.slice A n c)).run Try.prog w = .ok (.string ⟨b.toArray⟩) w := by
  obtain ⟨A1, c1, e1, _, h1⟩ := h
  injection e1 with x1 x2 x3
  subst x1 x2 x3
  exact str_of h1
def base4 : List UInt8 := [98, 97, 115, 101]
set_option maxRecDepth 100000 in
set_option maxHeartbeats 3200000 in
theorem awake4_c (w : World) : Calls Try.prog 41 #[] w fun e w' => e = .returned (.bool true) ∧ Below w.heap.size w w' := by
  have kc := fun (w : World) (C : Array Value) (n c : Nat) => Lib.run_convert_bytes_const (P := Try.prog) w 27 5 C n c Try.underlying27 Try.underlying5
  go_enter Try.func41, Try.ntmps41
  go_upto_region 6 with
   (first
    | (go_at_call 44
       refine (cnew_c base4 _ 4 4 3 _ (SlV.lit w _ _ 4 _ rfl rfl) (by decide) (by decide)).mono ?_
       rintro e0 w1 ⟨p, A1, c1, rfl, hp, hk1, hs1, hb1⟩
       have HK1 := Lib.hid hk1
       have HS1 := Lib.hid hs1
       have HB1 : Hid (Below w.heap.size w w1) := bcall (balloc (Below.refl _ _) _) hb1
       clear hp hk1 hs1 hb1)
    | (go_at_call 45
       first
         | ((with_reducible show Calls _ _ _ w1 _)
            refine (at_old p 3 2 _ w1 HK1.out (by decide) (by decide)).mono ?_
            rintro e0 wa ⟨n2, rfl, rfl⟩
            have HK2 : Hid (Blk (w1.drewN n2) p 94 #[.int .i64 3, .slice A1 4 c1]) := HK1.out
            have HB2 : Hid (Below w.heap.size w (w1.drewN n2)) := below_drewN HB1.out n2
            have HS2 : Hid (SlV (w1.drewN n2) (.slice A1 4 c1) base4) := HS1.out.below (below_drewN (Below.refl _ _) n2))
         | (refine (at_c base4 A1 4 c1 p 3 3 _ HK2.out HS2.out (by decide) (by decide) (by decide)).mono ?_
            rintro e0 w3 ⟨A3, n3, c3, rfl, hs3, hb3⟩
            have hn3 : n3 = 4 := hs3.num
            subst hn3
            have HS3 : Hid (SlV w3 (.slice A3 4 c3) base4) := hs3
            have HB3 := Lib.hid (bcall HB2.out hb3)
            have HK3 := Lib.hid (Blk.below HK2.out hb3)
            clear hs3 hb3)))
  have hstr := slv_str4 HS3.out
  have HST := Lib.hid (step_c p 3 _ w3 HK3.out)
  go_wp2_with
   (first
    | (go_at_call 47
       refine HST.out.mono ?_
       rintro e0 wx ⟨rfl, rfl⟩))
  go_ret
  exact ⟨rfl, HB3.out⟩
end Go.Proofs.Ytlapgccfgkokcaa
