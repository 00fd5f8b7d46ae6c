/- The walk of StreamNext (it returns true). -/
import Derived.Test.YtklkehpcifnfkaaAwake5
import Derived.Test.YtklkehpcifnfkaaApartW
set_option linter.unusedVariables false
set_option linter.unusedSimpArgs false
namespace Go.Proofs.Ytklkehpcifnfkaa
open Go.RowKit
attribute [local go_sem ↓] Go.wp_at_zero Go.wp_at_succ

def Sx (x : List UInt8) (w w2 w' : World) : Prop := w'.rangeAt w.heap.size 0 (x.map u8v) ∧ Below w2.heap.size w2 w'
theorem eq23 (X Y : List UInt8) (hX : X.length = 16) (hY : Y.length = 16) (w : World) : (Op.equalIn 10000 23 (.agg (X.map u8v).toArray) (.agg (Y.map u8v).toArray)).run Try.prog w = .ok (X == Y) w :=
  run_equalIn_bytes (P := Try.prog) w 9998 23 5 16 Try.underlying23 Try.underlying5 size_byte X Y hX hY
theorem cast_beq (n : Nat) : ((n : Int) == 0) = decide (n = 0) := by
  by_cases h : n = 0
  · rw [h]; rfl
  · rw [decide_eq_false h, beq_eq_false_iff_ne]; omega
set_option maxRecDepth 100000 in
set_option maxHeartbeats 12800000 in
theorem next_walk (x : List UInt8) (n m : Nat) (w : World) (hx : x.length = 16) (hn : n < 18446744073709551616) (hm : m < 18446744073709551616) :
    Calls Try.prog 12 #[.agg (x.map u8v).toArray, .int .u64 (n : Int), .int .u64 (m : Int)] w fun e w' => e = .returned (.bool true) ∧ Below w.heap.size w w' := by
  obtain ⟨a, ha⟩ : ∃ a, a = n / 2 := ⟨_, rfl⟩
  obtain ⟨b, hb⟩ : ∃ b, b = m / 2 := ⟨_, rfl⟩
  obtain ⟨ab, hab⟩ : ∃ ab, ab = a + b := ⟨_, rfl⟩
  have hsn : IntKind.u64.wrap ((n : Int) / 2) = (a : Int) := by rw [wrapU]; omega
  have hsm : IntKind.u64.wrap ((m : Int) / 2) = (b : Int) := by rw [wrapU]; omega
  have hsab : IntKind.u64.wrap ((a : Int) + (b : Int)) = (ab : Int) := by rw [wrapU]; omega
  have hna : (n : Int) / 2 = (a : Int) := by omega
  have hmb : (m : Int) / 2 = (b : Int) := by omega
  have hai : (a : Int) ≤ 9223372036854775807 := by omega
  have hbi : (b : Int) ≤ 9223372036854775807 := by omega
  have hadd : (a : Int) + (b : Int) = (ab : Int) := by omega
  obtain ⟨A, hA⟩ : ∃ A, A = nextS x n := ⟨_, rfl⟩
  obtain ⟨B, hB⟩ : ∃ B, B = nextS x a := ⟨_, rfl⟩
  obtain ⟨C, hC⟩ : ∃ C, C = nextS x ab := ⟨_, rfl⟩
  have hBl : B.length = 16 := by rw [hB]; exact nextS_len _ _
  have hCB : nextS B b = C := by rw [hB, hC, nextS_next, hab]
  have K1 : Hid (∀ wx, Calls Try.prog 24 #[.agg (x.map u8v).toArray, .int .u64 (n : Int)] wx fun e w' => e = .returned (.agg (A.map u8v).toArray) ∧ Below wx.heap.size wx w') := fun wx => by rw [hA]; exact next_c x n wx hx hn
  have K2 : Hid (∀ wx, Calls Try.prog 27 #[.agg (x.map u8v).toArray, .int .u64 (n : Int)] wx fun e w' => e = .returned (.agg (A.map u8v).toArray) ∧ Below wx.heap.size wx w') := fun wx => by rw [hA]; exact rnext_c x n wx hx hn
  have K3 : Hid (∀ wx, Calls Try.prog 24 #[.agg (x.map u8v).toArray, .int .u64 (a : Int)] wx fun e w' => e = .returned (.agg (B.map u8v).toArray) ∧ Below wx.heap.size wx w') := fun wx => by rw [hB]; exact next_c x a wx hx (by omega)
  have K4 : Hid (∀ wx, Calls Try.prog 24 #[.agg (B.map u8v).toArray, .int .u64 (b : Int)] wx fun e w' => e = .returned (.agg (C.map u8v).toArray) ∧ Below wx.heap.size wx w') := fun wx => by rw [← hCB]; exact next_c B b wx hBl (by omega)
  have K5 : Hid (∀ wx, Calls Try.prog 24 #[.agg (x.map u8v).toArray, .int .u64 (ab : Int)] wx fun e w' => e = .returned (.agg (C.map u8v).toArray) ∧ Below wx.heap.size wx w') := fun wx => by rw [hC]; exact next_c x ab wx hx (by omega)
  obtain ⟨q, hq⟩ : ∃ q : Bool, q = decide (n = 0) := ⟨_, rfl⟩
  have hq0 : ((n : Int) == 0) = q := by rw [hq]; exact cast_beq n
  have hAx : (A == x) = q := by rw [hq, Bool.eq_iff_iff, beq_iff_eq, decide_eq_true_eq, hA]; exact nextS_eq x hx n hn
  have hAl : A.length = 16 := by rw [hA]; exact nextS_len _ _
  have hCl : C.length = 16 := by rw [hC]; exact nextS_len _ _
  have eAA := eq23 A A hAl hAl
  have eCC := eq23 C C hCl hCl
  have eAx := eq23 A x hAl hx
  rw [beq_self_eq_true] at eAA eCC
  rw [hAx] at eAx
  have EAA := Lib.hid eAA
  have ECC := Lib.hid eCC
  have EAX := Lib.hid eAx
  have HX := Lib.hid hx
  have HAB := Lib.hid hadd
  have hwab : IntKind.u64.wrap (ab : Int) = (ab : Int) := by rw [wrapU]; omega
  have HWAB := Lib.hid hwab
  have hix : (Try.prog.info? 23).map (·.size) = some (x.map u8v).length := by rw [List.length_map, hx]; exact info23
  have HIX := Lib.hid hix
  clear eAA eCC eAx hA hB hC hBl hCB hq hAl hCl hAx hx ha hb hab hix hn hm hadd hwab hsn hsm hsab
  go_enter Try.func12, Try.ntmps12
  go_wp2_with fail
  have HB0 := Lib.hid (balloc (Below.refl w.heap.size w) (.cells (x.map u8v).toArray 23))
  have HX0 := Lib.hid (BB.new w 23 x)
  generalize (w.alloc (.cells (x.map u8v).toArray 23)) = w0 at *
  refine (awake5_c _).mono ?_
  rintro e0 w2 ⟨rfl, hb2⟩
  have HB2 := Lib.hid (bcall HB0.out hb2)
  have HX2 := Lib.hid (HX0.out.below hb2)
  clear hb2
  go_upto_region 4 with (fail)
  have K : Hid (∀ w', Below w2.heap.size w2 w' → Sx x w w2 w') := fun w' hb => ⟨(HX2.out.below hb).range, hb⟩
  have hu := Try.underlying23
  have hix := HIX.out
  have eAA := EAA.out
  have eCC := ECC.out
  have eAx := EAX.out
  have hadd := HAB.out
  have hwab := HWAB.out
  refine wp_region_held_drew (S := Sx x w w2) (by kernel_rfl) (K.out _ (bdrew (Below.refl _ _))) (fun hHeld => ?_)
  refine wpAnyH_take (i := 0) (v := (.agg (x.map u8v).toArray)) rfl (by kernel_rfl) (by kernel_rfl) (by kernel_rfl) (fun _ _ _ h => h) (yieldsIf_load_mid (by rfl) 23 _ rfl w.heap.size 0 rfl (x.map u8v) _ (fun w' hS => hS.1) hu rfl hix) hHeld ?_
  try simp only [Act.put, List.setIfInBounds_toArray, List.set_cons_zero, List.set_cons_succ]
  refine wpAnyH_take (i := 1) (v := (.int .u64 (n : Int))) rfl (by kernel_rfl) (by kernel_rfl) (by kernel_rfl) (fun _ _ _ h => h) (Or.inl ⟨by rfl, fun w' hS => ?_⟩) hHeld ?_
  · go_simp
  try simp only [Act.put, List.setIfInBounds_toArray, List.set_cons_zero, List.set_cons_succ]
  refine wpAnyH_take (i := 3) (v := (.agg (x.map u8v).toArray)) rfl (by kernel_rfl) (by kernel_rfl) (by kernel_rfl) (fun _ _ _ h => h) (yieldsIf_load_mid (by rfl) 23 _ rfl w.heap.size 0 rfl (x.map u8v) _ (fun w' hS => hS.1) hu rfl hix) hHeld ?_
  try simp only [Act.put, List.setIfInBounds_toArray, List.set_cons_zero, List.set_cons_succ]
  refine wpAnyH_take (i := 4) (v := (.int .u64 (n : Int))) rfl (by kernel_rfl) (by kernel_rfl) (by kernel_rfl) (fun _ _ _ h => h) (Or.inl ⟨by rfl, fun w' hS => ?_⟩) hHeld ?_
  · go_simp
  try simp only [Act.put, List.setIfInBounds_toArray, List.set_cons_zero, List.set_cons_succ]
  refine wpAnyH_ready (rs := [2]) (by kernel_rfl) (by simp) (AllReadyH.cons rfl (fun K' hK => ?_) AllReadyH.nil)
  go_simp
  go_at_call 24
  refine (K1.out _).mono ?_
  rintro e0 w' ⟨rfl, hb⟩
  go_wp2_with fail
  refine hK.out _ _ (K.out _ (bcall hHeld.2 hb)) (fun hHeld' => ?_)
  clear hK hHeld hb
  have hHeld := hHeld'
  clear hHeld'
  try simp only [Act.put, List.setIfInBounds_toArray, List.set_cons_zero, List.set_cons_succ]
  refine wpAnyH_ready (rs := [5]) (by kernel_rfl) (by simp) (AllReadyH.cons rfl (fun K' hK => ?_) AllReadyH.nil)
  go_simp
  go_at_call 27
  refine (K2.out _).mono ?_
  rintro e0 w' ⟨rfl, hb⟩
  go_wp2_with fail
  refine hK.out _ _ (K.out _ (bcall hHeld.2 hb)) (fun hHeld' => ?_)
  clear hK hHeld hb
  have hHeld := hHeld'
  clear hHeld'
  try simp only [Act.put, List.setIfInBounds_toArray, List.set_cons_zero, List.set_cons_succ]
  refine wpAnyH_take (i := 6) (v := (.bool true)) rfl (by kernel_rfl) (by kernel_rfl) (by kernel_rfl) (fun _ _ _ h => h) (Or.inl ⟨by rfl, fun w' hS => ?_⟩) hHeld ?_
  · go_simp
  try simp only [Act.put, List.setIfInBounds_toArray, List.set_cons_zero, List.set_cons_succ]
  refine wpAnyH_take (i := 7) (v := (.bool true)) rfl (by kernel_rfl) (by kernel_rfl) (by kernel_rfl) (fun _ _ _ h => h) (Or.inl ⟨by rfl, fun w' hS => ?_⟩) hHeld ?_
  · go_simp
  try simp only [Act.put, List.setIfInBounds_toArray, List.set_cons_zero, List.set_cons_succ]
  refine wpAnyH_take (i := 8) (v := (.agg (x.map u8v).toArray)) rfl (by kernel_rfl) (by kernel_rfl) (by kernel_rfl) (fun _ _ _ h => h) (yieldsIf_load_mid (by rfl) 23 _ rfl w.heap.size 0 rfl (x.map u8v) _ (fun w' hS => hS.1) hu rfl hix) hHeld ?_
  try simp only [Act.put, List.setIfInBounds_toArray, List.set_cons_zero, List.set_cons_succ]
  refine wpAnyH_take (i := 9) (v := (.int .u64 (a : Int))) rfl (by kernel_rfl) (by kernel_rfl) (by kernel_rfl) (fun _ _ _ h => h) (Or.inl ⟨by rfl, fun w' hS => ?_⟩) hHeld ?_
  · go_simp
  try simp only [Act.put, List.setIfInBounds_toArray, List.set_cons_zero, List.set_cons_succ]
  refine wpAnyH_take (i := 11) (v := (.int .u64 (b : Int))) rfl (by kernel_rfl) (by kernel_rfl) (by kernel_rfl) (fun _ _ _ h => h) (Or.inl ⟨by rfl, fun w' hS => ?_⟩) hHeld ?_
  · go_simp
  try simp only [Act.put, List.setIfInBounds_toArray, List.set_cons_zero, List.set_cons_succ]
  refine wpAnyH_take (i := 13) (v := (.agg (x.map u8v).toArray)) rfl (by kernel_rfl) (by kernel_rfl) (by kernel_rfl) (fun _ _ _ h => h) (yieldsIf_load_mid (by rfl) 23 _ rfl w.heap.size 0 rfl (x.map u8v) _ (fun w' hS => hS.1) hu rfl hix) hHeld ?_
  try simp only [Act.put, List.setIfInBounds_toArray, List.set_cons_zero, List.set_cons_succ]
  refine wpAnyH_take (i := 14) (v := (.int .u64 (a : Int))) rfl (by kernel_rfl) (by kernel_rfl) (by kernel_rfl) (fun _ _ _ h => h) (Or.inl ⟨by rfl, fun w' hS => ?_⟩) hHeld ?_
  · go_simp
  try simp only [Act.put, List.setIfInBounds_toArray, List.set_cons_zero, List.set_cons_succ]
  refine wpAnyH_take (i := 15) (v := (.int .u64 (b : Int))) rfl (by kernel_rfl) (by kernel_rfl) (by kernel_rfl) (fun _ _ _ h => h) (Or.inl ⟨by rfl, fun w' hS => ?_⟩) hHeld ?_
  · go_simp
  try simp only [Act.put, List.setIfInBounds_toArray, List.set_cons_zero, List.set_cons_succ]
  refine wpAnyH_take (i := 16) (v := (.int .u64 (ab : Int))) rfl (by kernel_rfl) (by kernel_rfl) (by kernel_rfl) (fun _ _ _ h => h) (Or.inl ⟨by rfl, fun w' hS => ?_⟩) hHeld ?_
  · go_simp
  try simp only [Act.put, List.setIfInBounds_toArray, List.set_cons_zero, List.set_cons_succ]
  refine wpAnyH_ready (rs := [10]) (by kernel_rfl) (by simp) (AllReadyH.cons rfl (fun K' hK => ?_) AllReadyH.nil)
  go_simp
  go_at_call 24
  refine (K3.out _).mono ?_
  rintro e0 w' ⟨rfl, hb⟩
  go_wp2_with fail
  refine hK.out _ _ (K.out _ (bcall hHeld.2 hb)) (fun hHeld' => ?_)
  clear hK hHeld hb
  have hHeld := hHeld'
  clear hHeld'
  try simp only [Act.put, List.setIfInBounds_toArray, List.set_cons_zero, List.set_cons_succ]
  refine wpAnyH_ready (rs := [12]) (by kernel_rfl) (by simp) (AllReadyH.cons rfl (fun K' hK => ?_) AllReadyH.nil)
  go_simp
  go_at_call 24
  refine (K4.out _).mono ?_
  rintro e0 w' ⟨rfl, hb⟩
  go_wp2_with fail
  refine hK.out _ _ (K.out _ (bcall hHeld.2 hb)) (fun hHeld' => ?_)
  clear hK hHeld hb
  have hHeld := hHeld'
  clear hHeld'
  try simp only [Act.put, List.setIfInBounds_toArray, List.set_cons_zero, List.set_cons_succ]
  refine wpAnyH_ready (rs := [17]) (by kernel_rfl) (by simp) (AllReadyH.cons rfl (fun K' hK => ?_) AllReadyH.nil)
  go_simp
  go_at_call 24
  refine (K5.out _).mono ?_
  rintro e0 w' ⟨rfl, hb⟩
  go_wp2_with fail
  refine hK.out _ _ (K.out _ (bcall hHeld.2 hb)) (fun hHeld' => ?_)
  clear hK hHeld hb
  have hHeld := hHeld'
  clear hHeld'
  try simp only [Act.put, List.setIfInBounds_toArray, List.set_cons_zero, List.set_cons_succ]
  refine wpAnyH_take (i := 18) (v := (.bool true)) rfl (by kernel_rfl) (by kernel_rfl) (by kernel_rfl) (fun _ _ _ h => h) (Or.inl ⟨by rfl, fun w' hS => ?_⟩) hHeld ?_
  · go_simp
  try simp only [Act.put, List.setIfInBounds_toArray, List.set_cons_zero, List.set_cons_succ]
  refine wpAnyH_take (i := 19) (v := (.bool true)) rfl (by kernel_rfl) (by kernel_rfl) (by kernel_rfl) (fun _ _ _ h => h) (Or.inl ⟨by rfl, fun w' hS => ?_⟩) hHeld ?_
  · go_simp
  try simp only [Act.put, List.setIfInBounds_toArray, List.set_cons_zero, List.set_cons_succ]
  refine wpAnyH_take (i := 20) (v := (.bool true)) rfl (by kernel_rfl) (by kernel_rfl) (by kernel_rfl) (fun _ _ _ h => h) (Or.inl ⟨by rfl, fun w' hS => ?_⟩) hHeld ?_
  · go_simp
  try simp only [Act.put, List.setIfInBounds_toArray, List.set_cons_zero, List.set_cons_succ]
  refine wpAnyH_take (i := 21) (v := (.agg (x.map u8v).toArray)) rfl (by kernel_rfl) (by kernel_rfl) (by kernel_rfl) (fun _ _ _ h => h) (yieldsIf_load_mid (by rfl) 23 _ rfl w.heap.size 0 rfl (x.map u8v) _ (fun w' hS => hS.1) hu rfl hix) hHeld ?_
  try simp only [Act.put, List.setIfInBounds_toArray, List.set_cons_zero, List.set_cons_succ]
  refine wpAnyH_take (i := 22) (v := (.int .u64 (n : Int))) rfl (by kernel_rfl) (by kernel_rfl) (by kernel_rfl) (fun _ _ _ h => h) (Or.inl ⟨by rfl, fun w' hS => ?_⟩) hHeld ?_
  · go_simp
  try simp only [Act.put, List.setIfInBounds_toArray, List.set_cons_zero, List.set_cons_succ]
  refine wpAnyH_take (i := 24) (v := (.agg (x.map u8v).toArray)) rfl (by kernel_rfl) (by kernel_rfl) (by kernel_rfl) (fun _ _ _ h => h) (yieldsIf_load_mid (by rfl) 23 _ rfl w.heap.size 0 rfl (x.map u8v) _ (fun w' hS => hS.1) hu rfl hix) hHeld ?_
  try simp only [Act.put, List.setIfInBounds_toArray, List.set_cons_zero, List.set_cons_succ]
  refine wpAnyH_take (i := 26) (v := (.int .u64 (n : Int))) rfl (by kernel_rfl) (by kernel_rfl) (by kernel_rfl) (fun _ _ _ h => h) (Or.inl ⟨by rfl, fun w' hS => ?_⟩) hHeld ?_
  · go_simp
  try simp only [Act.put, List.setIfInBounds_toArray, List.set_cons_zero, List.set_cons_succ]
  refine wpAnyH_take (i := 27) (v := (.bool q)) rfl (by kernel_rfl) (by kernel_rfl) (by kernel_rfl) (fun _ _ _ h => h) (Or.inl ⟨by rfl, fun w' hS => ?_⟩) hHeld ?_
  · go_simp
  try simp only [Act.put, List.setIfInBounds_toArray, List.set_cons_zero, List.set_cons_succ]
  refine wpAnyH_ready (rs := [23]) (by kernel_rfl) (by simp) (AllReadyH.cons rfl (fun K' hK => ?_) AllReadyH.nil)
  go_simp
  go_at_call 24
  refine (K1.out _).mono ?_
  rintro e0 w' ⟨rfl, hb⟩
  go_wp2_with fail
  refine hK.out _ _ (K.out _ (bcall hHeld.2 hb)) (fun hHeld' => ?_)
  clear hK hHeld hb
  have hHeld := hHeld'
  clear hHeld'
  try simp only [Act.put, List.setIfInBounds_toArray, List.set_cons_zero, List.set_cons_succ]
  refine wpAnyH_take (i := 25) (v := (.bool q)) rfl (by kernel_rfl) (by kernel_rfl) (by kernel_rfl) (fun _ _ _ h => h) (Or.inl ⟨by rfl, fun w' hS => ?_⟩) hHeld ?_
  · go_simp
  try simp only [Act.put, List.setIfInBounds_toArray, List.set_cons_zero, List.set_cons_succ]
  refine wpAnyH_take (i := 28) (v := (.bool true)) rfl (by kernel_rfl) (by kernel_rfl) (by kernel_rfl) (fun _ _ _ h => h) (Or.inl ⟨by rfl, fun w' hS => ?_⟩) hHeld ?_
  · go_simp
  try simp only [Act.put, List.setIfInBounds_toArray, List.set_cons_zero, List.set_cons_succ]
  refine wpAnyH_ready (rs := [29]) (by kernel_rfl) (by simp) (AllReadyH.cons rfl (fun K' hK => ?_) AllReadyH.nil)
  go_simp
  refine hK.out _ _ hHeld (fun hHeld' => ?_)
  clear hK hHeld
  have hHeld := hHeld'
  clear hHeld'
  try simp only [Act.put, List.setIfInBounds_toArray, List.set_cons_zero, List.set_cons_succ]
  refine wpAnyH_ready (rs := [30]) (by kernel_rfl) (by simp) (AllReadyH.cons rfl (fun K' hK => ?_) AllReadyH.nil)
  go_simp
  refine hK.out _ _ hHeld (fun hHeld' => ?_)
  clear hK hHeld
  have hHeld := hHeld'
  clear hHeld'
  try simp only [Act.put, List.setIfInBounds_toArray, List.set_cons_zero, List.set_cons_succ]
  refine wpAnyH_done (by kernel_rfl) ?_ _
  go_wp2
  go_ret
  exact ⟨rfl, bcall HB2.out hHeld.2⟩
end Go.Proofs.Ytklkehpcifnfkaa
