/- The program's Consts and the reference's (contracts). Conditions: none. -/
import Derived.Test.YtlapgccfgkokcaaParts
set_option linter.unusedVariables false
set_option linter.unusedSimpArgs false
namespace Go.Proofs.Ytlapgccfgkokcaa
open Go.RowKit
attribute [local go_sem ↓] Go.wp_at_zero Go.wp_at_succ

theorem info40 : (Try.prog.info? 40).map (·.size) = some 64 := by kernel_rfl
theorem infoU32 : (Try.prog.info? 39).map (fun i => (i.zero, i.size, i.bytes)) = some (some (.int .u32 0), 1, 4) := by kernel_rfl
set_option maxRecDepth 100000 in
set_option maxHeartbeats 1600000 in
theorem rconsts_c (w : World) : Calls Try.prog 30 #[] w fun e w' => e = .returned (.agg (kL.map u32v).toArray) ∧ Below w.heap.size w w' := by
  obtain ⟨Z, hZ⟩ : ∃ Z : List Value, Z = kL.map u32v := ⟨_, rfl⟩
  have hZl : Z.length = 64 := by rw [hZ, List.length_map]; exact kL_len
  have HONE : Hid (Z.toArray.all (·.oneCell') = true) := by show _ = _; rw [hZ]; exact all_oneCell_toArray (u32_one _)
  have hz : (kL.map fun x => (x.toNat : Int)).map (Value.int .u32) = Z := by rw [hZ, List.map_map]; rfl
  have HI : Hid ((Try.prog.info? 40).map (·.size) = some Z.length) := by show _ = _; rw [hZl]; exact info40
  have HJ : Hid ((Try.prog.info? 40).map (·.size) = some Z.toArray.size) := by show _ = _; rw [List.size_toArray, hZl]; exact info40
  have HU : Hid (WB (w.alloc (.cells (z64.map u32v).toArray 40)) w.heap.size 40 z64) := Blk.new _ _ _
  have HTH : Hid ((w.alloc (.cells (z64.map u32v).toArray 40)).there w.heap.size 0 Z.toArray.size) := by show World.there _ _ _ Z.toArray.size; rw [show Z.toArray.size = 64 by rw [List.size_toArray, hZl]]; exact wb_there HU.out rfl
  have HZL := Lib.hid hZl
  have HZE := Lib.hid hZ
  have HMAP := Lib.hid hz
  clear hZ hZl hz
  go_enter Try.func30, Try.ntmps30
  go_upto_region 1 with fail
  change Code.wp _ _ _ _ (w.alloc (.cells (z64.map u32v).toArray 40))
  go_wp2_with (first
    | ((with_reducible show wpList _ _ _ (⟨none, .store 40 (.tmp 0) (.tmp 1), _, _, _, _⟩ :: _) _ _); refine wpList_store_mid rfl 40 (.tmp 0) (.tmp 1) rfl w.heap.size 0 Z.toArray rfl ((show _ = Value.agg (kL.map u32v).toArray by kernel_rfl).trans (by rw [HZE.out])) HTH.out HJ.out HONE.out ?_))
  have hload := run_loadVar_mid (P := Try.prog) ((w.alloc (.cells (z64.map u32v).toArray 40)).setCells w.heap.size 0 Z) w.heap.size 0 40 Z _ (blk_range (blk_setAll HU.out (by rw [HZL.out]; rfl))) Try.underlying40 rfl HI.out
  refine bodyPost_ret (results_one rfl _ _ w.heap.size _ rfl hload) rfl (And.intro (by rw [HZE.out]) ?_)
  exact below_setCells (balloc (Below.refl _ _) _) (Nat.le_refl _) _ _
set_option maxRecDepth 100000 in
set_option maxHeartbeats 1600000 in
theorem consts_c (w : World) : Calls Try.prog 29 #[] w fun e w' => (∃ A c, e = .returned (.slice A 64 c) ∧ Reads w' w'.heap.size 1 A 64 (kL.map u32v)) ∧ Below w.heap.size w w' := by
  go_enter Try.func29, Try.ntmps29
  go_upto_region 2 with fail
  obtain ⟨w0, hw0⟩ : ∃ w0, w0 = w.alloc (.cells (.int .u32 0 :: .int .i32 0 :: .int .u32 0 :: z64.map u32v).toArray 85) := ⟨_, rfl⟩
  change Code.wp _ _ _ _ (w.alloc (.cells (.int .u32 0 :: .int .i32 0 :: .int .u32 0 :: z64.map u32v).toArray 85))
  have HC0 : Hid (CI w0 w.heap.size) := .inl (by rw [hw0]; exact Blk.new _ _ _)
  have HB0 : Hid (Below w.heap.size w w0) := by show Below _ _ _; rw [hw0]; exact balloc (Below.refl _ _) _
  rw [← hw0]
  clear hw0
  go_upto_region 3 with (first
    | (go_at_call 51
       refine (all_c w.heap.size w0 HC0.out).mono ?_
       rintro e0 w1 ⟨rfl, hd1, hb1⟩
       have HD1 := Lib.hid hd1
       have HB1 : Hid (Below w.heap.size w w1) := ⟨hb1.sv.os.trans HB0.out.os, hb1.sv.tape.trans HB0.out.tape, hb1.sv.output.trans HB0.out.output, Nat.le_trans HB0.out.size hb1.sv.size, fun k hk => (hb1.sv.block k (by have := HB0.out.size; omega) (by intro e; omega)).trans (HB0.out.block k hk)⟩
       clear hd1 hb1))
  have HRD : Hid (Reads w1 w1.heap.size 1 (some ⟨w.heap.size, 3, none⟩) 64 (kL.map u32v)) := ⟨by rw [List.length_map, kL_len], fun _ => ⟨_, rfl, HD1.out.lt, fun j u hu => by
    rw [Go.WideShapes.add_plain]
    have hj : j < 64 := by
      rcases Nat.lt_or_ge j 64 with h | h
      · exact h
      · rw [List.getElem?_eq_none (by rw [List.length_map, kL_len]; exact h)] at hu; cases hu
    have hj' : j < kL.length := by rw [kL_len]; exact hj
    have h1 := CT.cell HD1.out j hj'
    rw [List.getElem?_map, List.getElem?_eq_getElem hj'] at hu
    injection hu with hu
    rw [h1, ← hu, List.getD_eq_getElem?_getD, List.getElem?_eq_getElem hj']
    rfl⟩⟩
  obtain ⟨i5, hi5, hz0, hz1, hz2⟩ := info_parts infoU32
  clear HC0 HB0
  go_wp2_with
   (at_builtin
    refine wpList_append_any _ rfl (.const (.slice none 0 0)) (.tmp 6) _ rfl w1.heap.size 39 i5 _ 1 4 Try.underlying37 hi5 hz0 hz1 hz2 rfl (by omega) (.slice none 0 0) 0 [] rfl (World.ownsRow_nil _ _ _ _)
      w1.heap.size (some ⟨w.heap.size, 3, none⟩) 64 64 (kL.map u32v) rfl HRD.out (u32_one _) (by simp only [maxLen]; omega) (by omega) (Nat.le_refl _) ?_
    intro v5 w5 hown5 hg5 hv5
    rw [Nat.zero_add, List.nil_append] at hown5
    obtain ⟨A5, c5, rfl⟩ := own_slice hown5
    have HO5 := Lib.hid hown5
    have HB5 : Hid (Below w1.heap.size w1 w5) := ⟨hg5.os, hg5.tape, hg5.output, hg5.size, fun k hk => hg5.block k hk (by simp [Value.ownBlock])⟩
    clear hown5 hg5 hv5)
  go_ret
  exact ⟨⟨A5, c5, rfl, Reads.of_own HO5.out⟩, bcall HB1.out HB5.out⟩
end Go.Proofs.Ytlapgccfgkokcaa
