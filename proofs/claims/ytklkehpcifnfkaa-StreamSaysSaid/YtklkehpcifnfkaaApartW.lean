/- The walk of BlockApart (it returns true). -/
import Derived.Test.YtklkehpcifnfkaaAwake4
import Derived.Test.YtklkehpcifnfkaaInj
import Derived.Stop.BytesEq
import Derived.Deep.RegionHeld3
set_option linter.unusedVariables false
set_option linter.unusedSimpArgs false
namespace Go.Proofs.Ytklkehpcifnfkaa
open Go.RowKit
attribute [local go_sem ↓] Go.wp_at_zero Go.wp_at_succ

def Sxy (x y : List UInt8) (w w2 w' : World) : Prop := w'.rangeAt (w.heap.size + 1) 0 (x.map u8v) ∧ w'.rangeAt (w.heap.size + 1 + 1) 0 (y.map u8v) ∧ Below w2.heap.size w2 w'
theorem BB.reads {w : World} {g : Nat} {t : TypeId} {l : List UInt8} {n : Nat} (h : BB w g t l) (hn : l.length = n) : Reads w w.heap.size 1 (some ⟨g, 0, none⟩) n (l.map u8v) :=
  ⟨by rw [List.length_map, hn, Nat.mul_one], fun _ => ⟨_, rfl, h.lt, fun j u hj => by
    rw [Go.WideShapes.add_plain]
    exact h.range j u hj⟩⟩
set_option maxRecDepth 100000 in
set_option maxHeartbeats 1600000 in
theorem apart_f (kb x y : List UInt8) (w : World) (hkb : kb.length = 32) (hx : x.length = 16) (hy : y.length = 16) :
    Calls Try.prog 4 #[.agg (kb.map u8v).toArray, .bool false, .agg (x.map u8v).toArray, .agg (y.map u8v).toArray] w fun e w' => e = .returned (.bool true) ∧ Below w.heap.size w w' := by
  have HKB := Lib.hid hkb
  have HX := Lib.hid hx
  have HY := Lib.hid hy
  have hl : kb.length = 32 := by exact hkb
  have HL := Lib.hid hl
  clear hkb hx hy hl
  go_enter Try.func4, Try.ntmps4
  go_upto_region 4 with (fail)
  have h0 := ((BB.new w 37 kb).alloc (.cells (x.map u8v).toArray 23)).alloc (.cells (y.map u8v).toArray 23)
  have h1 := (BB.new (w.alloc (.cells (kb.map u8v).toArray 37)) 23 x).alloc (.cells (y.map u8v).toArray 23)
  have h2 := BB.new ((w.alloc (.cells (kb.map u8v).toArray 37)).alloc (.cells (x.map u8v).toArray 23)) 23 y
  simp only [World.size_alloc] at h1 h2
  have HB0 := Lib.hid (balloc (balloc (balloc (Below.refl w.heap.size w) (.cells (kb.map u8v).toArray 37)) (.cells (x.map u8v).toArray 23)) (.cells (y.map u8v).toArray 23))
  have H0 := Lib.hid h0
  have H1 := Lib.hid h1
  have H2 := Lib.hid h2
  clear h0 h1 h2
  generalize (((w.alloc (Obj.cells (kb.map u8v).toArray 37)).alloc (.cells (x.map u8v).toArray 23)).alloc (.cells (y.map u8v).toArray 23)) = w0 at *
  go_wp2_with fail
  have hnew := new_c kb (some ⟨w.heap.size, 0, none⟩) 32 w0 (by rw [HL.out]; decide) (by rw [HL.out]; exact H0.out.reads (by rw [HKB.out])) (by rw [HL.out]; decide)
  rw [HL.out] at hnew
  refine hnew.mono ?_
  rintro e0 w1 ⟨rfl, hk, hb1⟩
  have HK1 := Lib.hid hk
  have HB1 := Lib.hid (bcall HB0.out hb1)
  have HX1 := Lib.hid (H1.out.below hb1)
  have HY1 := Lib.hid (H2.out.below hb1)
  clear hnew hk hb1
  go_wp2_with fail
  refine (awake4_c _).mono ?_
  rintro e0 w2 ⟨rfl, hb2⟩
  have HK2 := Lib.hid (HK1.out.below hb2)
  have HB2 := Lib.hid (bcall HB1.out hb2)
  have HX2 := Lib.hid (HX1.out.below hb2)
  have HY2 := Lib.hid (HY1.out.below hb2)
  clear hb2
  go_upto_region 7 with (fail)
  obtain ⟨W, hW⟩ : ∃ W, W = keyS kb := ⟨_, rfl⟩
  rw [← hW] at HK2
  obtain ⟨X, hXX⟩ : ∃ X, X = blockS W x := ⟨_, rfl⟩
  obtain ⟨Y, hYY⟩ : ∃ Y, Y = blockS W y := ⟨_, rfl⟩
  have hXl : X.length = 16 := by rw [hXX]; exact blockS_len _ _
  have hYl : Y.length = 16 := by rw [hYY]; exact blockS_len _ _
  have hp : (X == Y) = (x == y) := by
    rw [Bool.eq_iff_iff, beq_iff_eq, beq_iff_eq, hXX, hYY]
    exact blockS_inj HX.out HY.out
  obtain ⟨p, hpp⟩ : ∃ p, p = (x == y) := ⟨_, rfl⟩
  have eXY : ∀ w, (Op.equalIn 10000 23 (.agg (X.map u8v).toArray) (.agg (Y.map u8v).toArray)).run Try.prog w = .ok (X == Y) w := fun w => run_equalIn_bytes (P := Try.prog) w 9998 23 5 16 Try.underlying23 Try.underlying5 size_byte X Y hXl hYl
  have exy : ∀ w, (Op.equalIn 10000 23 (.agg (x.map u8v).toArray) (.agg (y.map u8v).toArray)).run Try.prog w = .ok (x == y) w := fun w => run_equalIn_bytes (P := Try.prog) w 9998 23 5 16 Try.underlying23 Try.underlying5 size_byte x y HX.out HY.out
  have eXX : ∀ w, (Op.equalIn 10000 23 (.agg (X.map u8v).toArray) (.agg (X.map u8v).toArray)).run Try.prog w = .ok (X == X) w := fun w => run_equalIn_bytes (P := Try.prog) w 9998 23 5 16 Try.underlying23 Try.underlying5 size_byte X X hXl hXl
  rw [hp, ← hpp] at eXY
  rw [← hpp] at exy
  rw [beq_self_eq_true] at eXX
  have hu := Try.underlying23
  have hix : (Try.prog.info? 23).map (·.size) = some (x.map u8v).length := by rw [List.length_map, HX.out]; exact info23
  have hiy : (Try.prog.info? 23).map (·.size) = some (y.map u8v).length := by rw [List.length_map, HY.out]; exact info23
  have KX : Hid (∀ w', Below w2.heap.size w2 w' → Calls Try.prog 16 #[.pointer (some ⟨w0.heap.size, 0, none⟩), .agg (x.map u8v).toArray] w' fun e w'' => e = .returned (.agg (X.map u8v).toArray) ∧ Below w'.heap.size w' w'') := fun w' hb => by
    rw [hXX]; exact block_c x W _ _ _ 14 w' HX.out (HK2.out.below hb) (by rfl) (by decide) (by decide)
  have KY : Hid (∀ w', Below w2.heap.size w2 w' → Calls Try.prog 16 #[.pointer (some ⟨w0.heap.size, 0, none⟩), .agg (y.map u8v).toArray] w' fun e w'' => e = .returned (.agg (Y.map u8v).toArray) ∧ Below w'.heap.size w' w'') := fun w' hb => by
    rw [hYY]; exact block_c y W _ _ _ 14 w' HY.out (HK2.out.below hb) (by rfl) (by decide) (by decide)
  have K : Hid (∀ w', Below w2.heap.size w2 w' → Sxy x y w w2 w') := fun w' hb => ⟨(HX2.out.below hb).range, (HY2.out.below hb).range, hb⟩
  clear hW hXX hYY hp hpp hXl hYl
  refine wp_region_held_drew (S := Sxy x y w w2) (by kernel_rfl) (K.out _ (bdrew (Below.refl _ _))) (fun hHeld => ?_)
  refine wpAnyH_take (i := 0) (v := (.pointer (some ⟨w0.heap.size, 0, none⟩))) rfl (by kernel_rfl) (by kernel_rfl) (by kernel_rfl) (fun _ _ _ h => h) (Or.inl ⟨by rfl, fun w' hS => ?_⟩) hHeld ?_
  · go_simp
  try simp only [Act.put, List.setIfInBounds_toArray, List.set_cons_zero, List.set_cons_succ]
  refine wpAnyH_take (i := 1) (v := (.agg (x.map u8v).toArray)) rfl (by kernel_rfl) (by kernel_rfl) (by kernel_rfl) (fun _ _ _ h => h) (yieldsIf_load_mid (by rfl) 23 _ rfl (w.heap.size + 1) 0 rfl (x.map u8v) _ (fun w' hS => hS.1) hu rfl hix) hHeld ?_
  try simp only [Act.put, List.setIfInBounds_toArray, List.set_cons_zero, List.set_cons_succ]
  refine wpAnyH_take (i := 3) (v := (.pointer (some ⟨w0.heap.size, 0, none⟩))) rfl (by kernel_rfl) (by kernel_rfl) (by kernel_rfl) (fun _ _ _ h => h) (Or.inl ⟨by rfl, fun w' hS => ?_⟩) hHeld ?_
  · go_simp
  try simp only [Act.put, List.setIfInBounds_toArray, List.set_cons_zero, List.set_cons_succ]
  refine wpAnyH_take (i := 4) (v := (.agg (y.map u8v).toArray)) rfl (by kernel_rfl) (by kernel_rfl) (by kernel_rfl) (fun _ _ _ h => h) (yieldsIf_load_mid (by rfl) 23 _ rfl (w.heap.size + 1 + 1) 0 rfl (y.map u8v) _ (fun w' hS => hS.2.1) hu rfl hiy) hHeld ?_
  try simp only [Act.put, List.setIfInBounds_toArray, List.set_cons_zero, List.set_cons_succ]
  refine wpAnyH_take (i := 7) (v := (.agg (x.map u8v).toArray)) rfl (by kernel_rfl) (by kernel_rfl) (by kernel_rfl) (fun _ _ _ h => h) (yieldsIf_load_mid (by rfl) 23 _ rfl (w.heap.size + 1) 0 rfl (x.map u8v) _ (fun w' hS => hS.1) hu rfl hix) hHeld ?_
  try simp only [Act.put, List.setIfInBounds_toArray, List.set_cons_zero, List.set_cons_succ]
  refine wpAnyH_take (i := 8) (v := (.agg (y.map u8v).toArray)) rfl (by kernel_rfl) (by kernel_rfl) (by kernel_rfl) (fun _ _ _ h => h) (yieldsIf_load_mid (by rfl) 23 _ rfl (w.heap.size + 1 + 1) 0 rfl (y.map u8v) _ (fun w' hS => hS.2.1) hu rfl hiy) hHeld ?_
  try simp only [Act.put, List.setIfInBounds_toArray, List.set_cons_zero, List.set_cons_succ]
  refine wpAnyH_take (i := 9) (v := (.bool p)) rfl (by kernel_rfl) (by kernel_rfl) (by kernel_rfl) (fun _ _ _ h => h) (Or.inl ⟨by rfl, fun w' hS => ?_⟩) hHeld ?_
  · go_simp
  try simp only [Act.put, List.setIfInBounds_toArray, List.set_cons_zero, List.set_cons_succ]
  refine wpAnyH_ready (rs := [2]) (by kernel_rfl) (by simp) (AllReadyH.cons rfl (fun K' hK => ?_) AllReadyH.nil)
  go_simp
  go_at_call 16
  refine (KX.out _ hHeld.2.2).mono ?_
  rintro e0 w' ⟨rfl, hb⟩
  go_wp2_with fail
  refine hK.out _ _ (K.out _ (bcall hHeld.2.2 hb)) (fun hHeld' => ?_)
  clear hK hHeld hb
  have hHeld := hHeld'
  clear hHeld'
  try simp only [Act.put, List.setIfInBounds_toArray, List.set_cons_zero, List.set_cons_succ]
  refine wpAnyH_ready (rs := [5]) (by kernel_rfl) (by simp) (AllReadyH.cons rfl (fun K' hK => ?_) AllReadyH.nil)
  go_simp
  go_at_call 16
  refine (KY.out _ hHeld.2.2).mono ?_
  rintro e0 w' ⟨rfl, hb⟩
  go_wp2_with fail
  refine hK.out _ _ (K.out _ (bcall hHeld.2.2 hb)) (fun hHeld' => ?_)
  clear hK hHeld hb
  have hHeld := hHeld'
  clear hHeld'
  try simp only [Act.put, List.setIfInBounds_toArray, List.set_cons_zero, List.set_cons_succ]
  refine wpAnyH_take (i := 6) (v := (.bool p)) rfl (by kernel_rfl) (by kernel_rfl) (by kernel_rfl) (fun _ _ _ h => h) (Or.inl ⟨by rfl, fun w' hS => ?_⟩) hHeld ?_
  · go_simp
  try simp only [Act.put, List.setIfInBounds_toArray, List.set_cons_zero, List.set_cons_succ]
  refine wpAnyH_take (i := 10) (v := (.bool true)) rfl (by kernel_rfl) (by kernel_rfl) (by kernel_rfl) (fun _ _ _ h => h) (Or.inl ⟨by rfl, fun w' hS => ?_⟩) hHeld ?_
  · go_simp
  try simp only [Act.put, List.setIfInBounds_toArray, List.set_cons_zero, List.set_cons_succ]
  refine wpAnyH_take (i := 11) (v := (.bool true)) rfl (by kernel_rfl) (by kernel_rfl) (by kernel_rfl) (fun _ _ _ h => h) (Or.inl ⟨by rfl, fun w' hS => ?_⟩) hHeld ?_
  · go_simp
  try simp only [Act.put, List.setIfInBounds_toArray, List.set_cons_zero, List.set_cons_succ]
  refine wpAnyH_take (i := 12) (v := (.pointer (some ⟨w0.heap.size, 0, none⟩))) rfl (by kernel_rfl) (by kernel_rfl) (by kernel_rfl) (fun _ _ _ h => h) (Or.inl ⟨by rfl, fun w' hS => ?_⟩) hHeld ?_
  · go_simp
  try simp only [Act.put, List.setIfInBounds_toArray, List.set_cons_zero, List.set_cons_succ]
  refine wpAnyH_take (i := 13) (v := (.agg (x.map u8v).toArray)) rfl (by kernel_rfl) (by kernel_rfl) (by kernel_rfl) (fun _ _ _ h => h) (yieldsIf_load_mid (by rfl) 23 _ rfl (w.heap.size + 1) 0 rfl (x.map u8v) _ (fun w' hS => hS.1) hu rfl hix) hHeld ?_
  try simp only [Act.put, List.setIfInBounds_toArray, List.set_cons_zero, List.set_cons_succ]
  refine wpAnyH_take (i := 15) (v := (.pointer (some ⟨w0.heap.size, 0, none⟩))) rfl (by kernel_rfl) (by kernel_rfl) (by kernel_rfl) (fun _ _ _ h => h) (Or.inl ⟨by rfl, fun w' hS => ?_⟩) hHeld ?_
  · go_simp
  try simp only [Act.put, List.setIfInBounds_toArray, List.set_cons_zero, List.set_cons_succ]
  refine wpAnyH_take (i := 16) (v := (.agg (x.map u8v).toArray)) rfl (by kernel_rfl) (by kernel_rfl) (by kernel_rfl) (fun _ _ _ h => h) (yieldsIf_load_mid (by rfl) 23 _ rfl (w.heap.size + 1) 0 rfl (x.map u8v) _ (fun w' hS => hS.1) hu rfl hix) hHeld ?_
  try simp only [Act.put, List.setIfInBounds_toArray, List.set_cons_zero, List.set_cons_succ]
  refine wpAnyH_ready (rs := [14]) (by kernel_rfl) (by simp) (AllReadyH.cons rfl (fun K' hK => ?_) AllReadyH.nil)
  go_simp
  go_at_call 16
  refine (KX.out _ hHeld.2.2).mono ?_
  rintro e0 w' ⟨rfl, hb⟩
  go_wp2_with fail
  refine hK.out _ _ (K.out _ (bcall hHeld.2.2 hb)) (fun hHeld' => ?_)
  clear hK hHeld hb
  have hHeld := hHeld'
  clear hHeld'
  try simp only [Act.put, List.setIfInBounds_toArray, List.set_cons_zero, List.set_cons_succ]
  refine wpAnyH_ready (rs := [17]) (by kernel_rfl) (by simp) (AllReadyH.cons rfl (fun K' hK => ?_) AllReadyH.nil)
  go_simp
  go_at_call 16
  refine (KX.out _ hHeld.2.2).mono ?_
  rintro e0 w' ⟨rfl, hb⟩
  go_wp2_with fail
  refine hK.out _ _ (K.out _ (bcall hHeld.2.2 hb)) (fun hHeld' => ?_)
  clear hK hHeld hb
  have hHeld := hHeld'
  clear hHeld'
  try simp only [Act.put, List.setIfInBounds_toArray, List.set_cons_zero, List.set_cons_succ]
  refine wpAnyH_take (i := 18) (v := (.bool true)) rfl (by kernel_rfl) (by kernel_rfl) (by kernel_rfl) (fun _ _ _ h => h) (Or.inl ⟨by rfl, fun w' hS => ?_⟩) hHeld ?_
  · go_simp
  try simp only [Act.put, List.setIfInBounds_toArray, List.set_cons_zero, List.set_cons_succ]
  refine wpAnyH_ready (rs := [19]) (by kernel_rfl) (by simp) (AllReadyH.cons rfl (fun K' hK => ?_) AllReadyH.nil)
  go_simp
  refine hK.out _ _ hHeld (fun hHeld' => ?_)
  clear hK hHeld
  have hHeld := hHeld'
  clear hHeld'
  try simp only [Act.put, List.setIfInBounds_toArray, List.set_cons_zero, List.set_cons_succ]
  refine wpAnyH_ready (rs := [20]) (by kernel_rfl) (by simp) (AllReadyH.cons rfl (fun K' hK => ?_) AllReadyH.nil)
  go_simp
  refine hK.out _ _ hHeld (fun hHeld' => ?_)
  clear hK hHeld
  have hHeld := hHeld'
  clear hHeld'
  try simp only [Act.put, List.setIfInBounds_toArray, List.set_cons_zero, List.set_cons_succ]
  refine wpAnyH_done (by kernel_rfl) ?_ _
  go_wp2
  go_ret
  exact ⟨rfl, bcall HB2.out hHeld.2.2⟩
set_option maxRecDepth 100000 in
set_option maxHeartbeats 1600000 in
theorem apart_t (kb x y : List UInt8) (w : World) (hkb : kb.length = 32) (hx : x.length = 16) (hy : y.length = 16) :
    Calls Try.prog 4 #[.agg (kb.map u8v).toArray, .bool true, .agg (x.map u8v).toArray, .agg (y.map u8v).toArray] w fun e w' => e = .returned (.bool true) ∧ Below w.heap.size w w' := by
  have HKB := Lib.hid hkb
  have HX := Lib.hid hx
  have HY := Lib.hid hy
  have hl : (kb.take 16).length = 16 := by rw [List.length_take, hkb]; rfl
  have HL := Lib.hid hl
  clear hkb hx hy hl
  go_enter Try.func4, Try.ntmps4
  go_upto_region 4 with (fail)
  have h0 := ((BB.new w 37 kb).alloc (.cells (x.map u8v).toArray 23)).alloc (.cells (y.map u8v).toArray 23)
  have h1 := (BB.new (w.alloc (.cells (kb.map u8v).toArray 37)) 23 x).alloc (.cells (y.map u8v).toArray 23)
  have h2 := BB.new ((w.alloc (.cells (kb.map u8v).toArray 37)).alloc (.cells (x.map u8v).toArray 23)) 23 y
  simp only [World.size_alloc] at h1 h2
  have HB0 := Lib.hid (balloc (balloc (balloc (Below.refl w.heap.size w) (.cells (kb.map u8v).toArray 37)) (.cells (x.map u8v).toArray 23)) (.cells (y.map u8v).toArray 23))
  have H0 := Lib.hid h0
  have H1 := Lib.hid h1
  have H2 := Lib.hid h2
  clear h0 h1 h2
  generalize (((w.alloc (Obj.cells (kb.map u8v).toArray 37)).alloc (.cells (x.map u8v).toArray 23)).alloc (.cells (y.map u8v).toArray 23)) = w0 at *
  go_wp2_with fail
  have hnew := new_c (kb.take 16) (some ⟨w.heap.size, 0, none⟩) 32 w0 (by rw [HL.out]; decide) (by rw [HL.out]; exact (by have := reads_take (r := 16) (H0.out.reads (by rw [HKB.out])) HKB.out (by decide); rwa [HL.out] at this)) (by rw [HL.out]; decide)
  rw [HL.out] at hnew
  refine hnew.mono ?_
  rintro e0 w1 ⟨rfl, hk, hb1⟩
  have HK1 := Lib.hid hk
  have HB1 := Lib.hid (bcall HB0.out hb1)
  have HX1 := Lib.hid (H1.out.below hb1)
  have HY1 := Lib.hid (H2.out.below hb1)
  clear hnew hk hb1
  go_wp2_with fail
  refine (awake4_c _).mono ?_
  rintro e0 w2 ⟨rfl, hb2⟩
  have HK2 := Lib.hid (HK1.out.below hb2)
  have HB2 := Lib.hid (bcall HB1.out hb2)
  have HX2 := Lib.hid (HX1.out.below hb2)
  have HY2 := Lib.hid (HY1.out.below hb2)
  clear hb2
  go_upto_region 7 with (fail)
  obtain ⟨W, hW⟩ : ∃ W, W = keyS (kb.take 16) := ⟨_, rfl⟩
  rw [← hW] at HK2
  obtain ⟨X, hXX⟩ : ∃ X, X = blockS W x := ⟨_, rfl⟩
  obtain ⟨Y, hYY⟩ : ∃ Y, Y = blockS W y := ⟨_, rfl⟩
  have hXl : X.length = 16 := by rw [hXX]; exact blockS_len _ _
  have hYl : Y.length = 16 := by rw [hYY]; exact blockS_len _ _
  have hp : (X == Y) = (x == y) := by
    rw [Bool.eq_iff_iff, beq_iff_eq, beq_iff_eq, hXX, hYY]
    exact blockS_inj HX.out HY.out
  obtain ⟨p, hpp⟩ : ∃ p, p = (x == y) := ⟨_, rfl⟩
  have eXY : ∀ w, (Op.equalIn 10000 23 (.agg (X.map u8v).toArray) (.agg (Y.map u8v).toArray)).run Try.prog w = .ok (X == Y) w := fun w => run_equalIn_bytes (P := Try.prog) w 9998 23 5 16 Try.underlying23 Try.underlying5 size_byte X Y hXl hYl
  have exy : ∀ w, (Op.equalIn 10000 23 (.agg (x.map u8v).toArray) (.agg (y.map u8v).toArray)).run Try.prog w = .ok (x == y) w := fun w => run_equalIn_bytes (P := Try.prog) w 9998 23 5 16 Try.underlying23 Try.underlying5 size_byte x y HX.out HY.out
  have eXX : ∀ w, (Op.equalIn 10000 23 (.agg (X.map u8v).toArray) (.agg (X.map u8v).toArray)).run Try.prog w = .ok (X == X) w := fun w => run_equalIn_bytes (P := Try.prog) w 9998 23 5 16 Try.underlying23 Try.underlying5 size_byte X X hXl hXl
  rw [hp, ← hpp] at eXY
  rw [← hpp] at exy
  rw [beq_self_eq_true] at eXX
  have hu := Try.underlying23
  have hix : (Try.prog.info? 23).map (·.size) = some (x.map u8v).length := by rw [List.length_map, HX.out]; exact info23
  have hiy : (Try.prog.info? 23).map (·.size) = some (y.map u8v).length := by rw [List.length_map, HY.out]; exact info23
  have KX : Hid (∀ w', Below w2.heap.size w2 w' → Calls Try.prog 16 #[.pointer (some ⟨w0.heap.size, 0, none⟩), .agg (x.map u8v).toArray] w' fun e w'' => e = .returned (.agg (X.map u8v).toArray) ∧ Below w'.heap.size w' w'') := fun w' hb => by
    rw [hXX]; exact block_c x W _ _ _ 10 w' HX.out (HK2.out.below hb) (by rfl) (by decide) (by decide)
  have KY : Hid (∀ w', Below w2.heap.size w2 w' → Calls Try.prog 16 #[.pointer (some ⟨w0.heap.size, 0, none⟩), .agg (y.map u8v).toArray] w' fun e w'' => e = .returned (.agg (Y.map u8v).toArray) ∧ Below w'.heap.size w' w'') := fun w' hb => by
    rw [hYY]; exact block_c y W _ _ _ 10 w' HY.out (HK2.out.below hb) (by rfl) (by decide) (by decide)
  have K : Hid (∀ w', Below w2.heap.size w2 w' → Sxy x y w w2 w') := fun w' hb => ⟨(HX2.out.below hb).range, (HY2.out.below hb).range, hb⟩
  clear hW hXX hYY hp hpp hXl hYl
  refine wp_region_held_drew (S := Sxy x y w w2) (by kernel_rfl) (K.out _ (bdrew (Below.refl _ _))) (fun hHeld => ?_)
  refine wpAnyH_take (i := 0) (v := (.pointer (some ⟨w0.heap.size, 0, none⟩))) rfl (by kernel_rfl) (by kernel_rfl) (by kernel_rfl) (fun _ _ _ h => h) (Or.inl ⟨by rfl, fun w' hS => ?_⟩) hHeld ?_
  · go_simp
  try simp only [Act.put, List.setIfInBounds_toArray, List.set_cons_zero, List.set_cons_succ]
  refine wpAnyH_take (i := 1) (v := (.agg (x.map u8v).toArray)) rfl (by kernel_rfl) (by kernel_rfl) (by kernel_rfl) (fun _ _ _ h => h) (yieldsIf_load_mid (by rfl) 23 _ rfl (w.heap.size + 1) 0 rfl (x.map u8v) _ (fun w' hS => hS.1) hu rfl hix) hHeld ?_
  try simp only [Act.put, List.setIfInBounds_toArray, List.set_cons_zero, List.set_cons_succ]
  refine wpAnyH_take (i := 3) (v := (.pointer (some ⟨w0.heap.size, 0, none⟩))) rfl (by kernel_rfl) (by kernel_rfl) (by kernel_rfl) (fun _ _ _ h => h) (Or.inl ⟨by rfl, fun w' hS => ?_⟩) hHeld ?_
  · go_simp
  try simp only [Act.put, List.setIfInBounds_toArray, List.set_cons_zero, List.set_cons_succ]
  refine wpAnyH_take (i := 4) (v := (.agg (y.map u8v).toArray)) rfl (by kernel_rfl) (by kernel_rfl) (by kernel_rfl) (fun _ _ _ h => h) (yieldsIf_load_mid (by rfl) 23 _ rfl (w.heap.size + 1 + 1) 0 rfl (y.map u8v) _ (fun w' hS => hS.2.1) hu rfl hiy) hHeld ?_
  try simp only [Act.put, List.setIfInBounds_toArray, List.set_cons_zero, List.set_cons_succ]
  refine wpAnyH_take (i := 7) (v := (.agg (x.map u8v).toArray)) rfl (by kernel_rfl) (by kernel_rfl) (by kernel_rfl) (fun _ _ _ h => h) (yieldsIf_load_mid (by rfl) 23 _ rfl (w.heap.size + 1) 0 rfl (x.map u8v) _ (fun w' hS => hS.1) hu rfl hix) hHeld ?_
  try simp only [Act.put, List.setIfInBounds_toArray, List.set_cons_zero, List.set_cons_succ]
  refine wpAnyH_take (i := 8) (v := (.agg (y.map u8v).toArray)) rfl (by kernel_rfl) (by kernel_rfl) (by kernel_rfl) (fun _ _ _ h => h) (yieldsIf_load_mid (by rfl) 23 _ rfl (w.heap.size + 1 + 1) 0 rfl (y.map u8v) _ (fun w' hS => hS.2.1) hu rfl hiy) hHeld ?_
  try simp only [Act.put, List.setIfInBounds_toArray, List.set_cons_zero, List.set_cons_succ]
  refine wpAnyH_take (i := 9) (v := (.bool p)) rfl (by kernel_rfl) (by kernel_rfl) (by kernel_rfl) (fun _ _ _ h => h) (Or.inl ⟨by rfl, fun w' hS => ?_⟩) hHeld ?_
  · go_simp
  try simp only [Act.put, List.setIfInBounds_toArray, List.set_cons_zero, List.set_cons_succ]
  refine wpAnyH_ready (rs := [2]) (by kernel_rfl) (by simp) (AllReadyH.cons rfl (fun K' hK => ?_) AllReadyH.nil)
  go_simp
  go_at_call 16
  refine (KX.out _ hHeld.2.2).mono ?_
  rintro e0 w' ⟨rfl, hb⟩
  go_wp2_with fail
  refine hK.out _ _ (K.out _ (bcall hHeld.2.2 hb)) (fun hHeld' => ?_)
  clear hK hHeld hb
  have hHeld := hHeld'
  clear hHeld'
  try simp only [Act.put, List.setIfInBounds_toArray, List.set_cons_zero, List.set_cons_succ]
  refine wpAnyH_ready (rs := [5]) (by kernel_rfl) (by simp) (AllReadyH.cons rfl (fun K' hK => ?_) AllReadyH.nil)
  go_simp
  go_at_call 16
  refine (KY.out _ hHeld.2.2).mono ?_
  rintro e0 w' ⟨rfl, hb⟩
  go_wp2_with fail
  refine hK.out _ _ (K.out _ (bcall hHeld.2.2 hb)) (fun hHeld' => ?_)
  clear hK hHeld hb
  have hHeld := hHeld'
  clear hHeld'
  try simp only [Act.put, List.setIfInBounds_toArray, List.set_cons_zero, List.set_cons_succ]
  refine wpAnyH_take (i := 6) (v := (.bool p)) rfl (by kernel_rfl) (by kernel_rfl) (by kernel_rfl) (fun _ _ _ h => h) (Or.inl ⟨by rfl, fun w' hS => ?_⟩) hHeld ?_
  · go_simp
  try simp only [Act.put, List.setIfInBounds_toArray, List.set_cons_zero, List.set_cons_succ]
  refine wpAnyH_take (i := 10) (v := (.bool true)) rfl (by kernel_rfl) (by kernel_rfl) (by kernel_rfl) (fun _ _ _ h => h) (Or.inl ⟨by rfl, fun w' hS => ?_⟩) hHeld ?_
  · go_simp
  try simp only [Act.put, List.setIfInBounds_toArray, List.set_cons_zero, List.set_cons_succ]
  refine wpAnyH_take (i := 11) (v := (.bool true)) rfl (by kernel_rfl) (by kernel_rfl) (by kernel_rfl) (fun _ _ _ h => h) (Or.inl ⟨by rfl, fun w' hS => ?_⟩) hHeld ?_
  · go_simp
  try simp only [Act.put, List.setIfInBounds_toArray, List.set_cons_zero, List.set_cons_succ]
  refine wpAnyH_take (i := 12) (v := (.pointer (some ⟨w0.heap.size, 0, none⟩))) rfl (by kernel_rfl) (by kernel_rfl) (by kernel_rfl) (fun _ _ _ h => h) (Or.inl ⟨by rfl, fun w' hS => ?_⟩) hHeld ?_
  · go_simp
  try simp only [Act.put, List.setIfInBounds_toArray, List.set_cons_zero, List.set_cons_succ]
  refine wpAnyH_take (i := 13) (v := (.agg (x.map u8v).toArray)) rfl (by kernel_rfl) (by kernel_rfl) (by kernel_rfl) (fun _ _ _ h => h) (yieldsIf_load_mid (by rfl) 23 _ rfl (w.heap.size + 1) 0 rfl (x.map u8v) _ (fun w' hS => hS.1) hu rfl hix) hHeld ?_
  try simp only [Act.put, List.setIfInBounds_toArray, List.set_cons_zero, List.set_cons_succ]
  refine wpAnyH_take (i := 15) (v := (.pointer (some ⟨w0.heap.size, 0, none⟩))) rfl (by kernel_rfl) (by kernel_rfl) (by kernel_rfl) (fun _ _ _ h => h) (Or.inl ⟨by rfl, fun w' hS => ?_⟩) hHeld ?_
  · go_simp
  try simp only [Act.put, List.setIfInBounds_toArray, List.set_cons_zero, List.set_cons_succ]
  refine wpAnyH_take (i := 16) (v := (.agg (x.map u8v).toArray)) rfl (by kernel_rfl) (by kernel_rfl) (by kernel_rfl) (fun _ _ _ h => h) (yieldsIf_load_mid (by rfl) 23 _ rfl (w.heap.size + 1) 0 rfl (x.map u8v) _ (fun w' hS => hS.1) hu rfl hix) hHeld ?_
  try simp only [Act.put, List.setIfInBounds_toArray, List.set_cons_zero, List.set_cons_succ]
  refine wpAnyH_ready (rs := [14]) (by kernel_rfl) (by simp) (AllReadyH.cons rfl (fun K' hK => ?_) AllReadyH.nil)
  go_simp
  go_at_call 16
  refine (KX.out _ hHeld.2.2).mono ?_
  rintro e0 w' ⟨rfl, hb⟩
  go_wp2_with fail
  refine hK.out _ _ (K.out _ (bcall hHeld.2.2 hb)) (fun hHeld' => ?_)
  clear hK hHeld hb
  have hHeld := hHeld'
  clear hHeld'
  try simp only [Act.put, List.setIfInBounds_toArray, List.set_cons_zero, List.set_cons_succ]
  refine wpAnyH_ready (rs := [17]) (by kernel_rfl) (by simp) (AllReadyH.cons rfl (fun K' hK => ?_) AllReadyH.nil)
  go_simp
  go_at_call 16
  refine (KX.out _ hHeld.2.2).mono ?_
  rintro e0 w' ⟨rfl, hb⟩
  go_wp2_with fail
  refine hK.out _ _ (K.out _ (bcall hHeld.2.2 hb)) (fun hHeld' => ?_)
  clear hK hHeld hb
  have hHeld := hHeld'
  clear hHeld'
  try simp only [Act.put, List.setIfInBounds_toArray, List.set_cons_zero, List.set_cons_succ]
  refine wpAnyH_take (i := 18) (v := (.bool true)) rfl (by kernel_rfl) (by kernel_rfl) (by kernel_rfl) (fun _ _ _ h => h) (Or.inl ⟨by rfl, fun w' hS => ?_⟩) hHeld ?_
  · go_simp
  try simp only [Act.put, List.setIfInBounds_toArray, List.set_cons_zero, List.set_cons_succ]
  refine wpAnyH_ready (rs := [19]) (by kernel_rfl) (by simp) (AllReadyH.cons rfl (fun K' hK => ?_) AllReadyH.nil)
  go_simp
  refine hK.out _ _ hHeld (fun hHeld' => ?_)
  clear hK hHeld
  have hHeld := hHeld'
  clear hHeld'
  try simp only [Act.put, List.setIfInBounds_toArray, List.set_cons_zero, List.set_cons_succ]
  refine wpAnyH_ready (rs := [20]) (by kernel_rfl) (by simp) (AllReadyH.cons rfl (fun K' hK => ?_) AllReadyH.nil)
  go_simp
  refine hK.out _ _ hHeld (fun hHeld' => ?_)
  clear hK hHeld
  have hHeld := hHeld'
  clear hHeld'
  try simp only [Act.put, List.setIfInBounds_toArray, List.set_cons_zero, List.set_cons_succ]
  refine wpAnyH_done (by kernel_rfl) ?_ _
  go_wp2
  go_ret
  exact ⟨rfl, bcall HB2.out hHeld.2.2⟩

theorem apart_walk (kb x y : List UInt8) (s : Bool) (w : World) (hkb : kb.length = 32) (hx : x.length = 16) (hy : y.length = 16) :
    Calls Try.prog 4 #[.agg (kb.map u8v).toArray, .bool s, .agg (x.map u8v).toArray, .agg (y.map u8v).toArray] w fun e w' => e = .returned (.bool true) ∧ Below w.heap.size w w' := by
  cases s
  · exact apart_f kb x y w hkb hx hy
  · exact apart_t kb x y w hkb hx hy
end Go.Proofs.Ytklkehpcifnfkaa
