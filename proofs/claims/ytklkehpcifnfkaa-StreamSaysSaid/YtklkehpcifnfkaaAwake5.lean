/- What the stream law's awake returns: true (contract). -/
import Derived.Test.YtklkehpcifnfkaaCrypt
set_option linter.unusedVariables false
namespace Go.Proofs.Ytklkehpcifnfkaa
open Go.RowKit
attribute [local go_sem ↓] Go.wp_at_zero Go.wp_at_succ

theorem next258 : nextS zero16 258 = [0, 0, 0, 0, 0, 0, 0, 0, 0, 0, 0, 0, 0, 0, 1, 2] := by decide +kernel
theorem n258 : (([0, 0, 0, 0, 0, 0, 0, 0, 0, 0, 0, 0, 0, 0, 1, 2] : List UInt8).map u8v).toArray = #[.int .u8 0, .int .u8 0, .int .u8 0, .int .u8 0, .int .u8 0, .int .u8 0, .int .u8 0, .int .u8 0, .int .u8 0, .int .u8 0, .int .u8 0, .int .u8 0, .int .u8 0, .int .u8 0, .int .u8 1, .int .u8 2] := by rfl
theorem next_zero : nextS zero16 0 = zero16 := bytes16_numS zero16 rfl
theorem crypt_head (W : List UInt8) : cryptS W zero16 0 [0] = [(blockS W zero16).getD 0 0] := by
  show [0 ^^^ (strmS W zero16 0 0).getD 0 0] = _
  rw [show strmS W zero16 0 0 = blockS W (nextS zero16 0) from rfl, next_zero, UInt8.zero_xor]
set_option maxRecDepth 100000 in
set_option maxHeartbeats 1600000 in
theorem awake5_c (w : World) : Calls Try.prog 21 #[] w fun e w' => e = .returned (.bool true) ∧ Below w.heap.size w w' := by
  have hmk : ∀ wx : World, (Instr.makeSlice 22 (.int .i64 16) (.int .i64 16)).run Try.prog wx = .ok (.slice (some ⟨wx.heap.size, 0, none⟩) 16 16) (wx.alloc (.cells ((zerosB 16).map u8v).toArray 5)) := fun wx => run_make_bytes 16 (by decide) wx
  go_enter Try.func21, Try.ntmps21
  go_wp2_with fail
  have hkey := key_c (zerosB 16) (some ⟨w.heap.size, 0, none⟩) 16 _ (.inl rfl) (reads_zeros w 16) (by decide)
  rw [zerosB_len] at hkey
  refine hkey.mono ?_
  rintro e0 w1 ⟨rfl, hk, hb1⟩
  have HK1 := Lib.hid hk
  have HB1 := Lib.hid (bcall (balloc (Below.refl w.heap.size w) (.cells ((zerosB 16).map u8v).toArray 5)) hb1)
  obtain ⟨g, hg⟩ : ∃ g, g = (w.alloc (.cells ((zerosB 16).map u8v).toArray 5)).heap.size := ⟨_, rfl⟩
  obtain ⟨W, hW⟩ : ∃ W, W = keyS (zerosB 16) := ⟨_, rfl⟩
  rw [← hg, ← hW] at HK1
  rw [← hg]
  clear hkey hk hb1 hmk hg hW
  go_wp2_with fail
  have hr1 := lit_reads w1 5 #[.int .u8 0] [0] 1 (by rfl) rfl (by decide)
  have HB2 := Lib.hid (balloc HB1.out (.cells #[.int .u8 0] 5))
  have HK2 := Lib.hid (HK1.out.below (balloc (Below.refl w1.heap.size w1) (.cells #[.int .u8 0] 5)))
  generalize (w1.alloc (.cells #[.int .u8 0] 5)) = w2 at *
  have hcr := crypt_c W zero16 [0] g 0 (some ⟨w1.heap.size, 0, none⟩) 1 w2 HK2.out rfl (by decide) hr1 (by decide)
  rw [crypt_head, z16] at hcr
  obtain ⟨X, hX⟩ : ∃ X, X = blockS W zero16 := ⟨_, rfl⟩
  rw [← hX] at hcr
  refine hcr.mono ?_
  rintro e0 w3 ⟨rfl, ho, hb3⟩
  have HO3 := Lib.hid ho
  have HB3 := Lib.hid (bcall HB2.out hb3)
  have HK3 := Lib.hid (HK2.out.below hb3)
  clear hcr hr1 ho hb3
  have hbk := block_p zero16 W g w3 rfl HK3.out
  rw [← hX, z16] at hbk
  have HBK := Lib.hid hbk
  have hXl : X.length = 16 := by rw [hX]; exact blockS_len _ _
  have HXL := Lib.hid hXl
  clear hbk hX hXl
  go_upto_region 6 with (first
    | (go_at_call 16
       refine HBK.out.mono ?_
       rintro e0 w4 ⟨rfl, hb4⟩
       have HB4 := Lib.hid (bcall HB3.out hb4)
       have HO4 := Lib.hid (HO3.out.below hb4)
       have HN4 := Lib.hid (BB.new w4 23 zero16)
       have HTH : Hid ((w4.alloc (.cells (zero16.map u8v).toArray 23)).there w4.heap.size 0 (X.map u8v).toArray.size) := there16 HN4.out (by rw [List.size_toArray, List.length_map, HXL.out]; rfl)
       have HJ : Hid ((Try.prog.info? 23).map (·.size) = some (X.map u8v).toArray.size) := by show _ = _; rw [List.size_toArray, List.length_map, HXL.out]; exact info23
       clear hb4)
    | (rw [← z16]
       refine wpList_store_mid rfl 23 (.tmp 4) (.tmp 18) rfl w4.heap.size 0 (X.map u8v).toArray rfl rfl HTH.out HJ.out (bytes_one _) ?_))
  have HX5 : Hid (BB ((w4.alloc (.cells (zero16.map u8v).toArray 23)).setCells w4.heap.size 0 (X.map u8v)) w4.heap.size 23 X) := BB.setAll HN4.out HXL.out
  have HO5 : Hid (BB ((w4.alloc (.cells (zero16.map u8v).toArray 23)).setCells w4.heap.size 0 (X.map u8v)) (w2.heap.size + 1) 5 [X.getD 0 0]) := Blk.farAll (by have := HO4.out.lt; omega) _ _ _ (HO4.out.alloc _)
  have HB5 : Hid (Below w.heap.size w ((w4.alloc (.cells (zero16.map u8v).toArray 23)).setCells w4.heap.size 0 (X.map u8v))) := below_setCells (balloc HB4.out _) HB4.out.size _ _
  generalize ((w4.alloc (.cells (zero16.map u8v).toArray 23)).setCells w4.heap.size 0 (X.map u8v)) = w5 at *
  have c1 := HX5.out.cell 0 (by rw [HXL.out]; decide)
  have c2 := HO5.out.cell 0 (Nat.zero_lt_one)
  rw [List.getD_cons_zero] at c2
  obtain ⟨y, hy⟩ : ∃ y, y = X.getD 0 0 := ⟨_, rfl⟩
  rw [← hy] at c1 c2
  have hn : ∀ wx, Calls Try.prog 24 #[.agg #[.int .u8 0, .int .u8 0, .int .u8 0, .int .u8 0, .int .u8 0, .int .u8 0, .int .u8 0, .int .u8 0, .int .u8 0, .int .u8 0, .int .u8 0, .int .u8 0, .int .u8 0, .int .u8 0, .int .u8 0, .int .u8 0], .int .u64 258] wx fun e w' => e = .returned (.agg #[.int .u8 0, .int .u8 0, .int .u8 0, .int .u8 0, .int .u8 0, .int .u8 0, .int .u8 0, .int .u8 0, .int .u8 0, .int .u8 0, .int .u8 0, .int .u8 0, .int .u8 0, .int .u8 0, .int .u8 1, .int .u8 2]) ∧ Below wx.heap.size wx w' := fun wx => by
    have := next_c zero16 258 wx rfl (by decide)
    rw [next258, z16, n258] at this
    exact this
  have HN := Lib.hid hn
  have hidx : ∀ wx, (Instr.index 23 (.agg #[.int .u8 0, .int .u8 0, .int .u8 0, .int .u8 0, .int .u8 0, .int .u8 0, .int .u8 0, .int .u8 0, .int .u8 0, .int .u8 0, .int .u8 0, .int .u8 0, .int .u8 0, .int .u8 0, .int .u8 1, .int .u8 2]) (.int .i64 14)).run Try.prog wx = .ok (.int .u8 1) wx := fun wx => by
    have := run_index_row wx 23 16 [0, 0, 0, 0, 0, 0, 0, 0, 0, 0, 0, 0, 0, 0, 1, 2] 14 Try.underlying23 (by decide) rfl 1 rfl
    rw [n258] at this
    exact this
  have K : Hid (∀ w', Below w5.heap.size w5 w' → (w'.cell? ⟨w4.heap.size, 0, none⟩ = some (.int .u8 (y.toNat : Int)) ∧ w'.cell? ⟨w2.heap.size + 1, 0, none⟩ = some (.int .u8 (y.toNat : Int))) ∧ Below w5.heap.size w5 w') := fun w' hb => ⟨⟨(hb.cell (p := ⟨w4.heap.size, 0, none⟩) HX5.out.lt).trans c1, (hb.cell (p := ⟨w2.heap.size + 1, 0, none⟩) HO5.out.lt).trans c2⟩, hb⟩
  have k0 := Below.refl w5.heap.size w5
  clear HO3 HB3 HK3 HBK HB4 HO4 HN4 HTH HJ HX5 HO5 hy hn HXL c1 c2
  go_region_held3 (fun w' => (w'.cell? ⟨w4.heap.size, 0, none⟩ = some (.int .u8 (y.toNat : Int)) ∧ w'.cell? ⟨w2.heap.size + 1, 0, none⟩ = some (.int .u8 (y.toNat : Int))) ∧ Below w5.heap.size w5 w')
    (first | exact K.out _ (by assumption) | exact K.out _ (bdrew (by assumption)))
    (first
      | (go_at_call 24; refine (HN.out _).mono ?_; rintro e0 w6 ⟨rfl, hb6⟩; have kW' := bcallr hb6 (by first | assumption | exact bdrew (by assumption))))
  go_wp2
  go_ret
  exact ⟨rfl, bcall HB5.out kW'⟩
end Go.Proofs.Ytklkehpcifnfkaa
