/- What the reference's NewKey returns for 16 bytes or 32 (contract). Conditions: the bytes read. -/
import Derived.Test.YtklkehpcifnfkaaRKeyB
set_option linter.unusedVariables false
set_option linter.unusedSimpArgs false
namespace Go.Proofs.Ytklkehpcifnfkaa
open Go.RowKit
attribute [local go_sem ↓] Go.wp_at_zero Go.wp_at_succ

def NewKeyPost (w : World) (W : List UInt8) (m : Nat) (e : Ending) (w' : World) : Prop :=
  ∃ A c, e = .returned (.tuple #[.agg (rkV (.slice A m c)).toArray, .int .i64 0]) ∧ w'.ownsRow w.heap.size 23 16 (.slice A m c) m (W.map u8v) ∧ Below w.heap.size w w'
theorem rk_there {w : World} {g : Nat} {v : Value} (h : Blk w g 31 zkV.toArray) : w.there g 0 (rkV v).toArray.size := by rw [List.size_toArray, rkV_len]; exact blk_there h zkV_len
theorem rk_store {w : World} {g : Nat} {v : Value} (h : Blk w g 31 zkV.toArray) : KT (w.setCells g 0 (rkV v)) g v := blk_setAll h (by rw [rkV_len, zkV_len])
theorem row_form {w : World} {B : Nat} {v : Value} {bs : List UInt8} (h : ByteRow w B v bs) (hp : 0 < bs.length) :
    ∃ g c, v = .slice (some ⟨g, 0, none⟩) bs.length c ∧ B ≤ g ∧ g < w.heap.size ∧ ∀ j, j < bs.length → w.cell? ⟨g, j, none⟩ = some (.int .u8 ((bs.getD j 0).toNat : Int)) := by
  obtain ⟨g, c, hv, hb, hl⟩ := World.ownsRow.form h hp
  subst hv
  refine ⟨g, c, rfl, hb, hl, fun j hj => ?_⟩
  have := World.ownsRow.cells (g := g) h rfl j (u8v (bs.getD j 0)) (by rw [List.getElem?_map, List.getElem?_eq_getElem hj, List.getD_eq_getElem?_getD, List.getElem?_eq_getElem hj]; rfl)
  rwa [Go.WideShapes.add_plain, Nat.zero_add] at this
theorem row_at {w : World} {B bb n c : Nat} {bs : List UInt8} (h : ByteRow w B (.slice (some ⟨bb, 0, none⟩) n c) bs) (hp : 0 < bs.length) :
    bb < w.heap.size ∧ B ≤ bb ∧ ∀ j, j < bs.length → w.cell? ⟨bb, j, none⟩ = some (.int .u8 ((bs.getD j 0).toNat : Int)) := by
  obtain ⟨g, c', e, h1, h2, h3⟩ := row_form h hp
  injection e with e
  injection e with e
  injection e with e
  subst e
  exact ⟨h2, h1, h3⟩
theorem rtw_c (a : UInt8) (w : World) : Calls Try.prog 19 #[.int .u8 (a.toNat : Int), .int .u8 2] w fun e w' => e = .returned (.int .u8 ((tw a).toNat : Int)) ∧ w = w' := by
  have := rtimes_c a 2 w
  rw [times_two] at this
  exact this
theorem cut_lh (wx : World) (g n c l h : Nat) (hl : l ≤ h) (hc : h ≤ c) (hlc : ¬ c = l) : (Instr.slice 22 (.slice (some ⟨g, 0, none⟩) n c) (some (.int .i64 (l : Int))) (some (.int .i64 (h : Int))) none).run Try.prog wx = .ok (.slice (some ⟨g, l, none⟩) (h - l) (c - l)) wx := by
  rw [run_slice_lh (P := Try.prog) wx 22 (some ⟨g, 0, none⟩) n c slice22 .i64 .i64 (l : Int) (h : Int) (by omega) (by omega) (by omega)]
  rw [size22]
  simp [Result.andThen, sliced, hlc, Go.WideShapes.add_plain]
theorem cut_lh' (wx : World) (g n c l h : Nat) (hl : l ≤ h) (hc : h ≤ c) (hlc : ¬ c = l) : (Instr.sliceAt 22 (.slice (some ⟨g, 0, none⟩) n c) (some (.int .i64 (l : Int))) (some (.int .i64 (h : Int))) none).run Try.prog wx = .ok (.slice (some ⟨g, l, none⟩) (h - l) (c - l)) wx := by
  rw [run_sliceAt_slice (P := Try.prog) wx 22 _ _ _ _ slice22]; exact cut_lh wx g n c l h hl hc hlc
theorem infoBlk : (Try.prog.info? 23).map (fun i => (i.zero, i.size, i.bytes)) = some (some (.agg (zero16.map u8v).toArray), 16, 16) := by kernel_rfl
theorem split16 {X : List UInt8} (h : X.length = 16) : ∃ a b c d e f g i j k l m n o p q, X = [a, b, c, d, e, f, g, i, j, k, l, m, n, o, p, q] := by
  match X, h with
  | [a, b, c, d, e, f, g, i, j, k, l, m, n, o, p, q], _ => exact ⟨a, b, c, d, e, f, g, i, j, k, l, m, n, o, p, q, rfl⟩
theorem fill29 (X : List UInt8) (hX : X.length = 16) : Instr.fill (fun i => some (i * 16, 16)) ((Array.range (1 * 16)).map ((Value.agg (zero16.map u8v).toArray).cells[· % (Value.agg (zero16.map u8v).toArray).cells.size]!)) [(0, .agg (X.map u8v).toArray)] = some (X.map u8v).toArray := by
  obtain ⟨a, b, c, d, e, f, g, i, j, k, l, m, n, o, p, q, rfl⟩ := split16 hX
  kernel_rfl
theorem wpList_build29 {ops : Array Oper} {rest : List Oper} {op : Oper} {a : Act} {w : World} {Q : Exit → Act → World → Prop} (hgd : op.guard = none) (x : Operand) (ho : op.op = .buildSlice 29 1 #[(0, x)]) (X : List UInt8) (hX : X.length = 16) (hx : a.eval x = .agg (X.map u8v).toArray)
    (h : wpList Try.prog ops Q rest (a.put op.dst (.slice (some ⟨w.heap.size, 0, none⟩) 1 1)) (w.alloc (.cells (X.map u8v).toArray 23))) : wpList Try.prog ops Q (op :: rest) a w := by
  obtain ⟨ie, hi, h0, h1, h2⟩ := info_parts infoBlk
  refine wpList_plain hgd fun K hK => wp_buildSlice 29 23 1 #[(0, x)] ho (X.map u8v).toArray ie _ Try.underlying29 hi h0 (by rw [h1]; decide) (by rw [h1]; decide) ?_ (hK _ _ h)
  rw [h1]
  simp only [List.map_toArray, List.map_cons, List.map_nil, hx]
  exact fill29 X hX
theorem own_lit16 (w : World) (X : List UInt8) (hX : X.length = 16) : (w.alloc (.cells (X.map u8v).toArray 23)).ownsRow w.heap.size 23 16 (.slice (some ⟨w.heap.size, 0, none⟩) 1 1) 1 (X.map u8v) :=
  ⟨by simp [hX], .inr ⟨_, 1, (X.map u8v).toArray, rfl, Nat.le_refl _, by show (w.heap.push _)[w.heap.size]? = _; simp, Nat.le_refl _, by simp [maxLen], by simp [hX], by rw [Nat.one_mul]; exact List.take_of_length_le (by simp [hX])⟩⟩
theorem take_cat (W : List UInt8) (r : Nat) (h : 16 * (r + 1) ≤ W.length) : W.take (16 * r) ++ (W.drop (16 * r)).take 16 = W.take (16 * (r + 1)) := by
  rw [show 16 * (r + 1) = 16 * r + 16 by omega, List.take_add]
theorem own_cap' {w : World} {B c n e s : Nat} {A : Option Addr} {xs : List Value} (h : w.ownsRow B e s (.slice A n c) n xs) : n ≤ c := own_bound h
/-- A key with one round's key more. -/
theorem rk_put {w w5 : World} {B g i c c5 : Nat} {A A5 : Option Addr} {W news : List Value} (ht : KT w g (.slice A i c)) (ho : w.ownsRow B 23 16 (.slice A i c) i W) (h5 : w5.ownsRow B 23 16 (.slice A5 (i + 1) c5) (i + 1) (W ++ news)) (hg : w.grownBy w5 (Value.slice A i c).ownBlock) :
    KT w5 g (.slice A i c) ∧ KT (w5.setCell ⟨g, 256, none⟩ (.slice A5 (i + 1) c5)) g (.slice A5 (i + 1) c5) ∧ (w5.setCell ⟨g, 256, none⟩ (.slice A5 (i + 1) c5)).ownsRow B 23 16 (.slice A5 (i + 1) c5) (i + 1) (W ++ news) := by
  have hT5 : KT w5 g (.slice A i c) := Blk.grown ht hg (Ne.symm (own_blk_ne ho ht (by decide)))
  exact ⟨hT5, hT5.set _, own_set h5 (own_blk_ne h5 hT5 (by decide)) 256 _⟩
theorem size5 : (Try.prog.info? 5).map (·.size) = some 1 := by kernel_rfl
theorem own_setAll {g : Nat} {base e size n : Nat} {v : Value} {xs : List Value} (hne : v.ownBlock ≠ some g) : ∀ (vs : List Value) (o : Nat) (w : World), w.ownsRow base e size v n xs → (w.setCells g o vs).ownsRow base e size v n xs
  | [], _, _, h => h
  | u :: vs, o, w, h => own_setAll hne vs (o + 1) _ (own_set h hne o u)
theorem splice_full {cur cs : List Value} (h : cur.length = cs.length) : splice cur 0 cs = cs := by
  simp [splice, ← h]
/-- A row is as it was where another row, of other elements, grows. -/
theorem own_grown_far {w w' : World} {B e s n B' e' s' n' : Nat} {v v' : Value} {xs xs' : List Value} (h : w.ownsRow B e s v n xs) (ho : w.ownsRow B' e' s' v' n' xs') (hne : e ≠ e') (hg : w.grownBy w' v'.ownBlock) : w'.ownsRow B e s v n xs := by
  refine ⟨h.1, ?_⟩
  rcases h.2 with h0 | ⟨g, cap, cur, rfl, hb, hc, h1, h2, h3, h4⟩
  · exact .inl h0
  · refine .inr ⟨g, cap, cur, rfl, hb, ?_, h1, h2, h3, h4⟩
    have hlt : g < w.heap.size := by
      rcases Nat.lt_or_ge g w.heap.size with hlt | hge
      · exact hlt
      · rw [Array.getElem?_eq_none hge] at hc; cases hc
    refine (hg.block g hlt (fun eq => ?_)).trans hc
    obtain ⟨_, cs, hcs⟩ := own_tag ho g eq.symm
    rw [hc] at hcs
    injection hcs with hcs
    injection hcs with _ he
    exact hne he
theorem kwN_two (n i : Nat) (c : UInt8) (W : List UInt8) (j : Nat) (hj : j < 4) : (kwN n i c W).getD j 0 = (kwT n i c W).getD j 0 ^^^ W.getD (4 * (i - n) + j) 0 := by
  simp [kwN, List.getD_eq_getElem?_getD, hj]
set_option maxRecDepth 100000 in
set_option maxHeartbeats 6400000 in
theorem newkey_c (n : Nat) (b : List UInt8) (A : Option Addr) (L c : Nat) (w : World) (hn : n = 4 ∨ n = 8) (hL : b.length = L) (hL4 : L = 4 * n) (hr : Reads w w.heap.size 1 A L (b.map u8v)) :
    Calls Try.prog 14 #[.slice A L c] w (NewKeyPost w (schS n b (4 * (n + 7) - n)).2 (n + 7)) := by
  obtain ⟨i5, hi5, hz0, hz1, hz2⟩ := info_parts infoByte
  obtain ⟨iV, hiV, hv0, hv1, hv2⟩ := info_parts infoBlk
  have hbz := run_build31
  have HZ0 : Hid (Blk (w.alloc (.cells Try.zeroCells31 31)) w.heap.size 31 zkV.toArray) := by show Blk _ _ _ _; rw [zero31]; exact Blk.new w 31 _
  have HJ : Hid ((Try.prog.info? 31).map (·.size) = some (rkV (.slice none 0 0)).toArray.size) := by show _ = _; rw [List.size_toArray, rkV_len]; exact info31
  have HB0 := Lib.hid (balloc (Below.refl w.heap.size w) (.cells Try.zeroCells31 31))
  have HR := Lib.hid hr
  have HL := Lib.hid hL
  have HN := Lib.hid hn
  have HL4 := Lib.hid hL4
  have hquo : (L : Int).tdiv 4 = (n : Int) := by rw [hL4]; show (((4 * n) / 4 : Nat) : Int) = _; congr 1; omega
  have hn4 : (4 : Int) ≤ (n : Int) := by omega
  have hn8 : (n : Int) ≤ 8 := by omega
  have hnp : 4 ≤ n := by omega
  have hnq : n ≤ 8 := by omega
  have hwn := wrap64 n (by omega)
  have h16 : ((L : Int) != 16) = decide (n = 8) := by
    rcases hn with h | h <;> subst h <;> subst hL4 <;> rfl
  have h32 : n = 8 → ((L : Int) != 32) = false := by
    intro h
    subst h
    subst hL4
    rfl
  have H16 := Lib.hid h16
  have H32 := Lib.hid h32
  clear hr hL hn hL4 h16 h32
  go_enter Try.func14, Try.ntmps14
  go_upto_region 1 with (fail)
  generalize (w.alloc (.cells Try.zeroCells31 31)) = w0 at *
  go_cut [20] from 13 to 20 (fun v20 wx => v20 = .bool false ∧ w0 = wx)
  case first =>
    by_cases h8 : n = 8
    · have hq16 := H16.out
      rw [decide_eq_true h8] at hq16
      have hq32 := H32.out h8
      go_wp2
      go_meet
      exact ⟨rfl, rfl⟩
    · have hq16 := H16.out
      rw [decide_eq_false h8] at hq16
      go_wp2
      go_meet
      exact ⟨rfl, rfl⟩
  case rest =>
    obtain ⟨rfl, rfl⟩ := hcut
    go_upto_region 4 with (first
      | (go_at_call 30
         refine (rbox_c w0).mono ?_
         rintro e0 w1 ⟨rfl, hb1⟩
         have HB1 := Lib.hid (bcall HB0.out hb1)
         have HZ1 := Lib.hid (HZ0.out.below hb1)
         have HZ2 : Hid (Blk (w1.alloc (.cells Try.zeroCells31 31)) w1.heap.size 31 zkV.toArray) := by show Blk _ _ _ _; rw [zero31]; exact Blk.new w1 31 _
         have HTH : Hid ((w1.alloc (.cells Try.zeroCells31 31)).there w1.heap.size 0 (rkV (.slice none 0 0)).toArray.size) := rk_there HZ2.out
         clear hb1)
      | (refine wpList_store_mid rfl 31 (.tmp 4) (.tmp 23) rfl w1.heap.size 0 (rkV (.slice none 0 0)).toArray rfl rfl HTH.out HJ.out (rkV_one _ _ _) ?_))
    have HK2 : Hid (KT ((w1.alloc (.cells Try.zeroCells31 31)).setCells w1.heap.size 0 (rkV (.slice none 0 0))) w1.heap.size (.slice none 0 0)) := rk_store HZ2.out
    have HR2 : Hid (Blk ((w1.alloc (.cells Try.zeroCells31 31)).setCells w1.heap.size 0 (rkV (.slice none 0 0))) w.heap.size 31 zkV.toArray) := Blk.farAll (by have := HB1.out.size; have := HZ1.out.lt; omega) _ _ _ (HZ1.out.alloc _)
    have HB2 : Hid (Below w.heap.size w ((w1.alloc (.cells Try.zeroCells31 31)).setCells w1.heap.size 0 (rkV (.slice none 0 0)))) := below_setCells (balloc HB1.out _) HB1.out.size _ _
    obtain ⟨gk, hgk⟩ : ∃ gk, gk = w1.heap.size := ⟨_, rfl⟩
    rw [← hgk] at HK2 HR2 HB2 ⊢
    have hgkl : w.heap.size < gk := by rw [hgk]; exact HZ1.out.lt
    generalize ((w1.alloc (.cells Try.zeroCells31 31)).setCells gk 0 (rkV (.slice none 0 0))) = w2 at *
    clear hgk HZ1 HZ2 HTH HB1 HZ0 HB0 HJ
    go_upto_region 6 with (first
      | (at_builtin
         refine wpList_append_any _ rfl (.tmp 27) (.tmp 28) _ rfl w2.heap.size 5 i5 _ 1 1 Try.underlying22 hi5 hz0 hz1 hz2 rfl (by omega) (.slice (some ⟨w2.heap.size, 0, none⟩) 0 0) 0 [] rfl (own_empty w2 5 1)
           (w2.alloc (.cells #[] 5)).heap.size A L c (b.map u8v) rfl (HR.out.to_ (balloc HB2.out _)) (u8_one b) (by have := HL4.out; simp only [maxLen]; omega) (by have := HL4.out; omega) (by simp) ?_
         intro v1 w3 hown1 hg1 hat1
         rw [Nat.zero_add, List.nil_append] at hown1
         obtain ⟨A3, c3, rfl⟩ := own_slice hown1
         have HO3 : Hid (ByteRow w3 w.heap.size (.slice A3 L c3) b) := by show World.ownsRow _ _ _ _ _ _ _; rw [HL.out]; exact own_lower hown1 HB2.out.size
         have hb3 := fresh_below hg1
         have HB3 := Lib.hid (bcall HB2.out hb3)
         have HK3 : Hid (KT w3 gk (.slice none 0 0)) := Blk.below HK2.out hb3
         have HR3 := Lib.hid (HR2.out.below hb3)
         clear hown1 hg1 hat1 hb3))
    have HO3' : Hid (ByteRow w3 w.heap.size (.slice A3 (4 * n) c3) b) := by show ByteRow _ _ _ _; rw [← HL4.out]; exact HO3.out
    have hLn : L = 4 * n := HL4.out
    subst hLn
    clear HO3 HL4 HR2 HK2 HB2 HR hbz
    obtain ⟨g3, c3', e3, hg31, hg32, _⟩ := row_form HO3'.out (by have := HL.out; omega)
    rw [HL.out] at e3
    injection e3 with e3 _ e4
    subst e3 e4
    obtain ⟨M, hM⟩ : ∃ M, M = 4 * (n + 7) := ⟨_, rfl⟩
    have hMi : 4 * ((n : Int) + 7) = (M : Int) := by omega
    have hwM := wrap64 M (by omega)
    have hM60 : M ≤ 60 := by omega
    go_wp2_with fail
    go_loopg [6, 7, 8] (M - n) (fun gg v6 v7 v8 wx => ∃ (k bb cw : Nat), k ≤ M - n ∧ gg = M - n - k ∧ v6 = .slice (some ⟨bb, 0, none⟩) (4 * (n + k)) cw ∧ v7 = .int .u8 ((schS n b k).1.toNat : Int) ∧ v8 = .int .i64 ((n + k : Nat) : Int) ∧
      ByteRow wx w.heap.size (.slice (some ⟨bb, 0, none⟩) (4 * (n + k)) cw) (schS n b k).2 ∧ KT wx gk (.slice none 0 0) ∧ Blk wx w.heap.size 31 zkV.toArray ∧ Below w.heap.size w wx)
    case atStart => exact ⟨0, g3, c3, by omega, rfl, rfl, rfl, rfl, HO3'.out, HK3.out, HR3.out, HB3.out⟩
    case round =>
      obtain ⟨k, bb, cw, hk, rfl, rfl, rfl, rfl, hrow, hkt, hres, hbel⟩ := hrel
      have hWl : (schS n b k).2.length = 4 * (n + k) := by rw [schS_len, HL.out]; omega
      by_cases hk2 : k < M - n
      · obtain ⟨i, hi⟩ : ∃ i, i = n + k := ⟨_, rfl⟩
        obtain ⟨i4, hi4⟩ : ∃ i4, i4 = 4 * i := ⟨_, rfl⟩
        obtain ⟨W, hW⟩ : ∃ W, W = (schS n b k).2 := ⟨_, rfl⟩
        obtain ⟨rc, hrc⟩ : ∃ rc, rc = (schS n b k).1 := ⟨_, rfl⟩
        have HNX : Hid (schS n b (k + 1) = (if i % n = 0 then tw rc else rc, W ++ kwN n i rc W)) := by show _ = _; rw [schS, ← hi, ← hW, ← hrc]
        rw [← hi, ← hi4, ← hW] at hrow
        rw [← hi, ← hi4, ← hrc]
        rw [← hi, ← hi4, ← hW] at hWl
        have hilt : (i : Int) < (M : Int) := by omega
        have hin : n ≤ i := by omega
        have hi60 : i < 60 := by omega
        have hii : (i : Int) < 60 := by omega
        have hi4l : i4 < 240 := by omega
        have hcl := row_at hrow (by omega)
        obtain ⟨hbl, hbb, hcl⟩ := hcl
        obtain ⟨p0, hp0⟩ : ∃ p, p = i4 - 4 := ⟨_, rfl⟩
        obtain ⟨p1, hp1⟩ : ∃ p, p = i4 - 3 := ⟨_, rfl⟩
        obtain ⟨p2, hp2⟩ : ∃ p, p = i4 - 2 := ⟨_, rfl⟩
        obtain ⟨p3, hp3⟩ : ∃ p, p = i4 - 1 := ⟨_, rfl⟩
        obtain ⟨x0, e0⟩ : ∃ y, y = W.getD p0 0 := ⟨_, rfl⟩
        obtain ⟨x1, e1⟩ : ∃ y, y = W.getD p1 0 := ⟨_, rfl⟩
        obtain ⟨x2, e2⟩ : ∃ y, y = W.getD p2 0 := ⟨_, rfl⟩
        obtain ⟨x3, e3⟩ : ∃ y, y = W.getD p3 0 := ⟨_, rfl⟩
        have hmul : 4 * (i : Int) = (i4 : Int) := by omega
        have hw4 := wrap64 i4 (by omega)
        have hs0 : IntKind.i64.wrap ((i4 : Int) - 4) = (p0 : Int) := by rw [show (i4 : Int) - 4 = (p0 : Int) by omega]; exact wrap64 p0 (by omega)
        have hs1 : IntKind.i64.wrap ((i4 : Int) - 3) = (p1 : Int) := by rw [show (i4 : Int) - 3 = (p1 : Int) by omega]; exact wrap64 p1 (by omega)
        have hs2 : IntKind.i64.wrap ((i4 : Int) - 2) = (p2 : Int) := by rw [show (i4 : Int) - 2 = (p2 : Int) by omega]; exact wrap64 p2 (by omega)
        have hs3 : IntKind.i64.wrap ((i4 : Int) - 1) = (p3 : Int) := by rw [show (i4 : Int) - 1 = (p3 : Int) by omega]; exact wrap64 p3 (by omega)
        have hl0 : p0 < i4 := by omega
        have hl1 : p1 < i4 := by omega
        have hl2 : p2 < i4 := by omega
        have hl3 : p3 < i4 := by omega
        have hm0 : (p0 : Int) < (i4 : Int) := by omega
        have hm1 : (p1 : Int) < (i4 : Int) := by omega
        have hm2 : (p2 : Int) < (i4 : Int) := by omega
        have hm3 : (p3 : Int) < (i4 : Int) := by omega
        have K : Hid (∀ w', Below wr.heap.size wr w' → (w'.cell? ⟨bb, p0, none⟩ = some (.int .u8 (x0.toNat : Int)) ∧ w'.cell? ⟨bb, p1, none⟩ = some (.int .u8 (x1.toNat : Int)) ∧ w'.cell? ⟨bb, p2, none⟩ = some (.int .u8 (x2.toNat : Int)) ∧ w'.cell? ⟨bb, p3, none⟩ = some (.int .u8 (x3.toNat : Int))) ∧ Below wr.heap.size wr w') := fun w' hb => by
          have hx : ∀ j, j < i4 → w'.cell? ⟨bb, j, none⟩ = some (.int .u8 ((W.getD j 0).toNat : Int)) := fun j hj => (hb.cell (p := ⟨bb, j, none⟩) hbl).trans (hcl j (by omega))
          exact ⟨⟨by rw [e0]; exact hx _ hl0, by rw [e1]; exact hx _ hl1, by rw [e2]; exact hx _ hl2, by rw [e3]; exact hx _ hl3⟩, hb⟩
        have HT : Hid (kwT n i rc W = if i % n = 0 then [sb x1 ^^^ rc, sb x2, sb x3, sb x0] else if 6 < n ∧ i % n = 4 then [sb x0, sb x1, sb x2, sb x3] else [x0, x1, x2, x3]) := by show _ = _; rw [kwT, e0, e1, e2, e3, hp0, hp1, hp2, hp3, hi4]
        have HROW := Lib.hid hrow
        have HKT := Lib.hid hkt
        have HRES := Lib.hid hres
        have HBEL := Lib.hid hbel
        have HWL := Lib.hid hWl
        have HII := Lib.hid hi
        have HI4 := Lib.hid hi4
        have HM := Lib.hid hM
        clear hrow hkt hres hbel hWl hW hrc e0 e1 e2 e3 hi hi4 hp0 hp1 hp2 hp3 hcl hM HK3 HR3 HB3 HO3'
        go_upto_region 10 with (fail)
        refine wp_region_held_drew (S := (fun w' => (w'.cell? ⟨bb, p0, none⟩ = some (.int .u8 (x0.toNat : Int)) ∧ w'.cell? ⟨bb, p1, none⟩ = some (.int .u8 (x1.toNat : Int)) ∧ w'.cell? ⟨bb, p2, none⟩ = some (.int .u8 (x2.toNat : Int)) ∧ w'.cell? ⟨bb, p3, none⟩ = some (.int .u8 (x3.toNat : Int))) ∧ Below wr.heap.size wr w')) (by kernel_rfl) (K.out _ (bdrew (Below.refl _ _))) (fun hHeld => ?_)
        refine wpAnyH_takeAt (i := 0) (v := (.slice (some ⟨bb, 0, none⟩) i4 cw)) rfl (by kernel_rfl) (by kernel_rfl) (by kernel_rfl) (fun _ _ _ h => h) rfl (Or.inl ⟨by rfl, fun w' hS => ?_⟩) hHeld ?_
        · go_simp
        simp only [List.set_cons_zero, List.set_cons_succ]
        refine wpAnyH_takeAt (i := 1) (v := (.int .i64 (i : Int))) rfl (by kernel_rfl) (by kernel_rfl) (by kernel_rfl) (fun _ _ _ h => h) rfl (Or.inl ⟨by rfl, fun w' hS => ?_⟩) hHeld ?_
        · go_simp
        simp only [List.set_cons_zero, List.set_cons_succ]
        refine wpAnyH_takeAt (i := 2) (v := (.int .i64 (i4 : Int))) rfl (by kernel_rfl) (by kernel_rfl) (by kernel_rfl) (fun _ _ _ h => h) rfl (Or.inl ⟨by rfl, fun w' hS => ?_⟩) hHeld ?_
        · go_simp
        simp only [List.set_cons_zero, List.set_cons_succ]
        refine wpAnyH_takeAt (i := 3) (v := (.int .i64 (p0 : Int))) rfl (by kernel_rfl) (by kernel_rfl) (by kernel_rfl) (fun _ _ _ h => h) rfl (Or.inl ⟨by rfl, fun w' hS => ?_⟩) hHeld ?_
        · go_simp
        simp only [List.set_cons_zero, List.set_cons_succ]
        refine wpAnyH_takeAt (i := 4) (v := (.pointer (some ⟨bb, p0, none⟩))) rfl (by kernel_rfl) (by kernel_rfl) (by kernel_rfl) (fun _ _ _ h => h) rfl (Or.inl ⟨by rfl, fun w' hS => ?_⟩) hHeld ?_
        · go_simp
        simp only [List.set_cons_zero, List.set_cons_succ]
        refine wpAnyH_takeAt (i := 5) (v := (.int .u8 (x0.toNat : Int))) rfl (by kernel_rfl) (by kernel_rfl) (by kernel_rfl) (fun _ _ _ h => h) rfl (Or.inl ⟨by rfl, fun w' hS => ?_⟩) hHeld ?_
        · have hc := hS.1.1
          go_simp
        simp only [List.set_cons_zero, List.set_cons_succ]
        refine wpAnyH_takeAt (i := 6) (v := (.slice (some ⟨bb, 0, none⟩) i4 cw)) rfl (by kernel_rfl) (by kernel_rfl) (by kernel_rfl) (fun _ _ _ h => h) rfl (Or.inl ⟨by rfl, fun w' hS => ?_⟩) hHeld ?_
        · go_simp
        simp only [List.set_cons_zero, List.set_cons_succ]
        refine wpAnyH_takeAt (i := 7) (v := (.int .i64 (i : Int))) rfl (by kernel_rfl) (by kernel_rfl) (by kernel_rfl) (fun _ _ _ h => h) rfl (Or.inl ⟨by rfl, fun w' hS => ?_⟩) hHeld ?_
        · go_simp
        simp only [List.set_cons_zero, List.set_cons_succ]
        refine wpAnyH_takeAt (i := 8) (v := (.int .i64 (i4 : Int))) rfl (by kernel_rfl) (by kernel_rfl) (by kernel_rfl) (fun _ _ _ h => h) rfl (Or.inl ⟨by rfl, fun w' hS => ?_⟩) hHeld ?_
        · go_simp
        simp only [List.set_cons_zero, List.set_cons_succ]
        refine wpAnyH_takeAt (i := 9) (v := (.int .i64 (p1 : Int))) rfl (by kernel_rfl) (by kernel_rfl) (by kernel_rfl) (fun _ _ _ h => h) rfl (Or.inl ⟨by rfl, fun w' hS => ?_⟩) hHeld ?_
        · go_simp
        simp only [List.set_cons_zero, List.set_cons_succ]
        refine wpAnyH_takeAt (i := 10) (v := (.pointer (some ⟨bb, p1, none⟩))) rfl (by kernel_rfl) (by kernel_rfl) (by kernel_rfl) (fun _ _ _ h => h) rfl (Or.inl ⟨by rfl, fun w' hS => ?_⟩) hHeld ?_
        · go_simp
        simp only [List.set_cons_zero, List.set_cons_succ]
        refine wpAnyH_takeAt (i := 11) (v := (.int .u8 (x1.toNat : Int))) rfl (by kernel_rfl) (by kernel_rfl) (by kernel_rfl) (fun _ _ _ h => h) rfl (Or.inl ⟨by rfl, fun w' hS => ?_⟩) hHeld ?_
        · have hc := hS.1.2.1
          go_simp
        simp only [List.set_cons_zero, List.set_cons_succ]
        refine wpAnyH_takeAt (i := 12) (v := (.slice (some ⟨bb, 0, none⟩) i4 cw)) rfl (by kernel_rfl) (by kernel_rfl) (by kernel_rfl) (fun _ _ _ h => h) rfl (Or.inl ⟨by rfl, fun w' hS => ?_⟩) hHeld ?_
        · go_simp
        simp only [List.set_cons_zero, List.set_cons_succ]
        refine wpAnyH_takeAt (i := 13) (v := (.int .i64 (i : Int))) rfl (by kernel_rfl) (by kernel_rfl) (by kernel_rfl) (fun _ _ _ h => h) rfl (Or.inl ⟨by rfl, fun w' hS => ?_⟩) hHeld ?_
        · go_simp
        simp only [List.set_cons_zero, List.set_cons_succ]
        refine wpAnyH_takeAt (i := 14) (v := (.int .i64 (i4 : Int))) rfl (by kernel_rfl) (by kernel_rfl) (by kernel_rfl) (fun _ _ _ h => h) rfl (Or.inl ⟨by rfl, fun w' hS => ?_⟩) hHeld ?_
        · go_simp
        simp only [List.set_cons_zero, List.set_cons_succ]
        refine wpAnyH_takeAt (i := 15) (v := (.int .i64 (p2 : Int))) rfl (by kernel_rfl) (by kernel_rfl) (by kernel_rfl) (fun _ _ _ h => h) rfl (Or.inl ⟨by rfl, fun w' hS => ?_⟩) hHeld ?_
        · go_simp
        simp only [List.set_cons_zero, List.set_cons_succ]
        refine wpAnyH_takeAt (i := 16) (v := (.pointer (some ⟨bb, p2, none⟩))) rfl (by kernel_rfl) (by kernel_rfl) (by kernel_rfl) (fun _ _ _ h => h) rfl (Or.inl ⟨by rfl, fun w' hS => ?_⟩) hHeld ?_
        · go_simp
        simp only [List.set_cons_zero, List.set_cons_succ]
        refine wpAnyH_takeAt (i := 17) (v := (.int .u8 (x2.toNat : Int))) rfl (by kernel_rfl) (by kernel_rfl) (by kernel_rfl) (fun _ _ _ h => h) rfl (Or.inl ⟨by rfl, fun w' hS => ?_⟩) hHeld ?_
        · have hc := hS.1.2.2.1
          go_simp
        simp only [List.set_cons_zero, List.set_cons_succ]
        refine wpAnyH_takeAt (i := 18) (v := (.slice (some ⟨bb, 0, none⟩) i4 cw)) rfl (by kernel_rfl) (by kernel_rfl) (by kernel_rfl) (fun _ _ _ h => h) rfl (Or.inl ⟨by rfl, fun w' hS => ?_⟩) hHeld ?_
        · go_simp
        simp only [List.set_cons_zero, List.set_cons_succ]
        refine wpAnyH_takeAt (i := 19) (v := (.int .i64 (i : Int))) rfl (by kernel_rfl) (by kernel_rfl) (by kernel_rfl) (fun _ _ _ h => h) rfl (Or.inl ⟨by rfl, fun w' hS => ?_⟩) hHeld ?_
        · go_simp
        simp only [List.set_cons_zero, List.set_cons_succ]
        refine wpAnyH_takeAt (i := 20) (v := (.int .i64 (i4 : Int))) rfl (by kernel_rfl) (by kernel_rfl) (by kernel_rfl) (fun _ _ _ h => h) rfl (Or.inl ⟨by rfl, fun w' hS => ?_⟩) hHeld ?_
        · go_simp
        simp only [List.set_cons_zero, List.set_cons_succ]
        refine wpAnyH_takeAt (i := 21) (v := (.int .i64 (p3 : Int))) rfl (by kernel_rfl) (by kernel_rfl) (by kernel_rfl) (fun _ _ _ h => h) rfl (Or.inl ⟨by rfl, fun w' hS => ?_⟩) hHeld ?_
        · go_simp
        simp only [List.set_cons_zero, List.set_cons_succ]
        refine wpAnyH_takeAt (i := 22) (v := (.pointer (some ⟨bb, p3, none⟩))) rfl (by kernel_rfl) (by kernel_rfl) (by kernel_rfl) (fun _ _ _ h => h) rfl (Or.inl ⟨by rfl, fun w' hS => ?_⟩) hHeld ?_
        · go_simp
        simp only [List.set_cons_zero, List.set_cons_succ]
        refine wpAnyH_takeAt (i := 23) (v := (.int .u8 (x3.toNat : Int))) rfl (by kernel_rfl) (by kernel_rfl) (by kernel_rfl) (fun _ _ _ h => h) rfl (Or.inl ⟨by rfl, fun w' hS => ?_⟩) hHeld ?_
        · have hc := hS.1.2.2.2
          go_simp
        simp only [List.set_cons_zero, List.set_cons_succ]
        refine wpAnyH_takeAt (i := 24) (v := (.agg #[(.int .u8 (x0.toNat : Int)), (.int .u8 (x1.toNat : Int)), (.int .u8 (x2.toNat : Int)), (.int .u8 (x3.toNat : Int))])) rfl (by kernel_rfl) (by kernel_rfl) (by kernel_rfl) (fun _ _ _ h => h) rfl (Or.inl ⟨by rfl, fun w' hS => ?_⟩) hHeld ?_
        · go_simp
        simp only [List.set_cons_zero, List.set_cons_succ]
        refine wpAnyH_ready (rs := [25]) (by kernel_rfl) (by simp) (AllReadyH.cons rfl (fun K' hK => ?_) AllReadyH.nil)
        go_simp
        refine hK.out _ _ (K.out _ (by repeat (first | exact Below.refl _ _ | refine bdrew ?_ | refine balloc ?_ _ | refine bset ?_ (by simp) _))) (fun hHeld' => ?_)
        clear hK hHeld
        have hHeld := hHeld'
        clear hHeld'
        refine wpAnyH_ready (rs := [26]) (by kernel_rfl) (by simp) (AllReadyH.cons rfl (fun K' hK => ?_) AllReadyH.nil)
        go_simp
        refine hK.out _ _ (K.out _ (by repeat (first | exact Below.refl _ _ | refine bdrew ?_ | refine balloc ?_ _ | refine bset ?_ (by simp) _))) (fun hHeld' => ?_)
        clear hK hHeld
        have hHeld := hHeld'
        clear hHeld'
        refine wpAnyH_done (by kernel_rfl) ?_ _
        have HBW := Lib.hid (show BB (wr.alloc (.cells #[.int .u8 (x0.toNat : Int), .int .u8 (x1.toNat : Int), .int .u8 (x2.toNat : Int), .int .u8 (x3.toNat : Int)] 76)).drew wr.heap.size 76 [x0, x1, x2, x3] from Blk.new wr 76 _)
        have HB4 : Hid (Below wr.heap.size wr (wr.alloc (.cells #[.int .u8 (x0.toNat : Int), .int .u8 (x1.toNat : Int), .int .u8 (x2.toNat : Int), .int .u8 (x3.toNat : Int)] 76)).drew) := bdrew (balloc (Below.refl _ _) _)
        generalize ((wr.alloc (.cells #[.int .u8 (x0.toNat : Int), .int .u8 (x1.toNat : Int), .int .u8 (x2.toNat : Int), .int .u8 (x3.toNat : Int)] 76)).drew) = w4 at *
        obtain ⟨h1, hh1⟩ : ∃ h1, h1 = wr.heap.size := ⟨_, rfl⟩
        rw [← hh1] at HBW ⊢
        have HH1 := Lib.hid hh1
        have hgkr : gk < h1 := by rw [hh1]; exact Blk.lt HKT.out
        have hwr : w.heap.size < h1 := by omega
        have hbh : bb < h1 := by omega
        have HKT4 : Hid (KT w4 gk (.slice none 0 0)) := Blk.below HKT.out HB4.out
        obtain ⟨m, hm⟩ : ∃ m, m = i % n := ⟨_, rfl⟩
        have hrem : (i : Int).tmod (n : Int) = (m : Int) := by rw [hm]; rfl
        obtain ⟨q0, hq0⟩ : ∃ q0, q0 = decide (m = 0) := ⟨_, rfl⟩
        have hqm : ((m : Int) == 0) = q0 := by rw [hq0]; exact cast_beq m
        have HMM := Lib.hid hm
        have HQ0 := Lib.hid hq0
        obtain ⟨rc2, hrc2⟩ : ∃ rc2, rc2 = if m = 0 then tw rc else rc := ⟨_, rfl⟩
        have HRC2 := Lib.hid hrc2
        have hm8 : m < 8 := by rw [hm]; have := Nat.mod_lt i (show 0 < n by omega); omega
        clear hh1 hm hq0 hrc2 K hHeld hmul hw4 hs0 hs1 hs2 hs3 hl0 hl1 hl2 hl3 hm0 hm1 hm2 hm3
        go_upto_if 66 with (fail)
        go_cut [7] (fun v7 wx => v7 = .int .u8 (rc2.toNat : Int) ∧ BB wx h1 76 (kwT n i rc W) ∧ Below wr.heap.size wr wx)
        case first =>
          cases q0 with
          | true =>
            have hmz : m = 0 := of_decide_eq_true HQ0.out.symm
            have b0 := HBW.out.cell 0 (by simp)
            have b1 := HBW.out.cell 1 (by simp)
            have b2 := HBW.out.cell 2 (by simp)
            have b3 := HBW.out.cell 3 (by simp)
            have f0 := HBW.out.free 0
            have f1 := HBW.out.free 1
            have f2 := HBW.out.free 2
            have f3 := HBW.out.free 3
            simp only [List.getD_cons_zero, List.getD_cons_succ] at b0 b1 b2 b3
            have l0 : x0.toNat < 256 := UInt8.toNat_lt x0
            have l1 : x1.toNat < 256 := UInt8.toNat_lt x1
            have l2 : x2.toNat < 256 := UInt8.toNat_lt x2
            have l3 : x3.toNat < 256 := UInt8.toNat_lt x3
            have k0 : (x0.toNat : Int) < 256 := by omega
            have k1 : (x1.toNat : Int) < 256 := by omega
            have k2 : (x2.toNat : Int) < 256 := by omega
            have k3 : (x3.toNat : Int) < 256 := by omega
            have t0 := HKT4.out.cell x0.toNat l0
            have t1 := HKT4.out.cell x1.toNat l1
            have t2 := HKT4.out.cell x2.toNat l2
            have t3 := HKT4.out.cell x3.toNat l3
            obtain ⟨s0, g0⟩ : ∃ s0, s0 = sb x0 := ⟨_, rfl⟩
            obtain ⟨s1, g1⟩ : ∃ s1, s1 = sb x1 := ⟨_, rfl⟩
            obtain ⟨s2, g2⟩ : ∃ s2, s2 = sb x2 := ⟨_, rfl⟩
            obtain ⟨s3, g3⟩ : ∃ s3, s3 = sb x3 := ⟨_, rfl⟩
            rw [← show s0 = sbL.getD x0.toNat 0 from g0] at t0
            rw [← show s1 = sbL.getD x1.toNat 0 from g1] at t1
            rw [← show s2 = sbL.getD x2.toNat 0 from g2] at t2
            rw [← show s3 = sbL.getD x3.toNat 0 from g3] at t3
            rw [← g0, ← g1, ← g2, ← g3, ← HMM.out] at HT
            have hle : wr.heap.size ≤ h1 := by rw [HH1.out]; exact Nat.le_refl _
            obtain ⟨y, hy⟩ : ∃ y, y = s1 ^^^ rc := ⟨_, rfl⟩
            have hxor := U8.xor s1 rc
            rw [← hy] at hxor
            rw [if_pos hmz, ← hy] at HT
            have HV : Hid (rc2 = tw rc) := by show _ = _; rw [HRC2.out, if_pos hmz]
            clear g0 g1 g2 g3 hmz hy l0 l1 l2 l3 hqm
            go_upto_region 12 with (fail)
            go_still_tail 23, (by kernel_rfl)
            change wpList _ _ _ _ _ w4.drew
            go_wp2_with (go_at_call 19; refine (rtw_c rc _).mono ?_; rintro e0 w5 ⟨rfl, rfl⟩)
            go_meet
            refine ⟨by rw [HV.out], by rw [HT.out]; exact BB.set4 HBW.out, ?_⟩
            exact bdrew (bset4 HB4.out hle)
          | false =>
            have hmz : ¬ m = 0 := of_decide_eq_false HQ0.out.symm
            have HV : Hid (rc2 = rc) := by show _ = _; rw [HRC2.out, if_neg hmz]
            by_cases h8 : n = 8
            · have hn8b : ((n : Int) == 8) = true := by rw [h8]; rfl
              by_cases h4 : m = 4
              · have hm4b : ((m : Int) == 4) = true := by rw [h4]; rfl
                have b0 := HBW.out.cell 0 (by simp)
                have b1 := HBW.out.cell 1 (by simp)
                have b2 := HBW.out.cell 2 (by simp)
                have b3 := HBW.out.cell 3 (by simp)
                have f0 := HBW.out.free 0
                have f1 := HBW.out.free 1
                have f2 := HBW.out.free 2
                have f3 := HBW.out.free 3
                simp only [List.getD_cons_zero, List.getD_cons_succ] at b0 b1 b2 b3
                have l0 : x0.toNat < 256 := UInt8.toNat_lt x0
                have l1 : x1.toNat < 256 := UInt8.toNat_lt x1
                have l2 : x2.toNat < 256 := UInt8.toNat_lt x2
                have l3 : x3.toNat < 256 := UInt8.toNat_lt x3
                have k0 : (x0.toNat : Int) < 256 := by omega
                have k1 : (x1.toNat : Int) < 256 := by omega
                have k2 : (x2.toNat : Int) < 256 := by omega
                have k3 : (x3.toNat : Int) < 256 := by omega
                have t0 := HKT4.out.cell x0.toNat l0
                have t1 := HKT4.out.cell x1.toNat l1
                have t2 := HKT4.out.cell x2.toNat l2
                have t3 := HKT4.out.cell x3.toNat l3
                obtain ⟨s0, g0⟩ : ∃ s0, s0 = sb x0 := ⟨_, rfl⟩
                obtain ⟨s1, g1⟩ : ∃ s1, s1 = sb x1 := ⟨_, rfl⟩
                obtain ⟨s2, g2⟩ : ∃ s2, s2 = sb x2 := ⟨_, rfl⟩
                obtain ⟨s3, g3⟩ : ∃ s3, s3 = sb x3 := ⟨_, rfl⟩
                rw [← show s0 = sbL.getD x0.toNat 0 from g0] at t0
                rw [← show s1 = sbL.getD x1.toNat 0 from g1] at t1
                rw [← show s2 = sbL.getD x2.toNat 0 from g2] at t2
                rw [← show s3 = sbL.getD x3.toNat 0 from g3] at t3
                rw [← g0, ← g1, ← g2, ← g3, ← HMM.out] at HT
                have hle : wr.heap.size ≤ h1 := by rw [HH1.out]; exact Nat.le_refl _
                rw [if_neg hmz, if_pos ⟨by omega, h4⟩] at HT
                clear g0 g1 g2 g3 hmz h4 h8 l0 l1 l2 l3 hqm
                go_upto_region 15 with (fail)
                go_still_tail 21, (by kernel_rfl)
                change wpList _ _ _ _ _ w4.drew
                go_wp2_with fail
                go_meet
                refine ⟨by rw [HV.out], by rw [HT.out]; exact BB.set4 HBW.out, ?_⟩
                exact bdrew (bset4 HB4.out hle)
              · have hm4b : ((m : Int) == 4) = false := by rw [beq_eq_false_iff_ne]; omega
                rw [← HMM.out, if_neg hmz, if_neg (fun h => h4 h.2)] at HT
                clear hmz h4 h8
                go_wp2_with fail
                go_meet
                exact ⟨by rw [HV.out], by rw [HT.out]; exact HBW.out, HB4.out⟩
            · have hn8b : ((n : Int) == 8) = false := by rw [beq_eq_false_iff_ne]; omega
              have h6 : ¬ 6 < n := by have := HN.out; omega
              rw [← HMM.out, if_neg hmz, if_neg (fun h => h6 h.1)] at HT
              clear hmz h6 h8
              go_wp2_with fail
              go_meet
              exact ⟨by rw [HV.out], by rw [HT.out]; exact HBW.out, HB4.out⟩
        case rest =>
          obtain ⟨rfl, hbw, hbel3⟩ := hcut
          obtain ⟨T, hT⟩ : ∃ T, T = kwT n i rc W := ⟨_, rfl⟩
          obtain ⟨NW, hNW⟩ : ∃ NW, NW = kwN n i rc W := ⟨_, rfl⟩
          rw [← hT] at hbw
          have hTl : T.length = 4 := by rw [hT, kwT]; split; rfl; split <;> rfl
          have hNl : NW.length = 4 := by rw [hNW, kwN_len]
          have HTL := Lib.hid hTl
          have HNL := Lib.hid hNl
          have HF : Hid (∀ j, j < 4 → NW.getD j 0 = W.getD (4 * (i - n) + j) 0 ^^^ T.getD j 0) := by
            show ∀ j, _ → _
            intro j hj
            rw [hNW, kwN_two n i rc W j hj, ← hT, UInt8.xor_comm]
          rw [← hNW] at HNX
          have HROW5 := Lib.hid (show ByteRow wc w.heap.size (.slice (some ⟨bb, 0, none⟩) i4 cw) W from own_below HROW.out hbel3)
          have HKT5 : Hid (KT wc gk (.slice none 0 0)) := Blk.below HKT.out hbel3
          have HRES5 := Lib.hid (HRES.out.below hbel3)
          have HBEL5 := Lib.hid (bcall HBEL.out hbel3)
          have HBW5 := Lib.hid hbw
          clear hbw hbel3 hT hNW hTl hNl HBW HB4 HKT4 HT HROW HKT HRES HBEL hqm
          go_wp2_with fail
          go_loopg [6, 10] 4 (fun gg v6 v10 wx => ∃ (j b2 c2 : Nat), j ≤ 4 ∧ gg = 4 - j ∧ v6 = .slice (some ⟨b2, 0, none⟩) (i4 + j) c2 ∧ v10 = .int .i64 (j : Int) ∧
            ByteRow wx w.heap.size (.slice (some ⟨b2, 0, none⟩) (i4 + j) c2) (W ++ NW.take j) ∧ BB wx h1 76 T ∧ KT wx gk (.slice none 0 0) ∧ Blk wx w.heap.size 31 zkV.toArray ∧ Below w.heap.size w wx)
          case atStart => exact ⟨0, bb, cw, by omega, rfl, rfl, rfl, by rw [List.take_zero, List.append_nil]; exact HROW5.out, HBW5.out, HKT5.out, HRES5.out, HBEL5.out⟩
          case round =>
            obtain ⟨j, b2, c2, hj, rfl, rfl, rfl, hrow, hbw, hkt, hres, hbel⟩ := hrel
            clear HROW5 HBW5 HKT5 HRES5 HBEL5
            by_cases hj2 : j < 4
            · obtain ⟨lj, hlj⟩ : ∃ lj, lj = i4 + j := ⟨_, rfl⟩
              rw [← hlj] at hrow ⊢
              obtain ⟨dd, hdd⟩ : ∃ dd, dd = i - n := ⟨_, rfl⟩
              obtain ⟨d4, hd4⟩ : ∃ d4, d4 = 4 * dd := ⟨_, rfl⟩
              obtain ⟨dj, hdj⟩ : ∃ dj, dj = d4 + j := ⟨_, rfl⟩
              have hji : (j : Int) < 4 := by omega
              have hi4p : 0 < i4 := by have := HI4.out; omega
              have h4i := HI4.out
              have hdl : dj < i4 := by omega
              have hsub : (i : Int) - (n : Int) = (dd : Int) := by omega
              have hwd := wrap64 dd (by omega)
              have hmu : 4 * (dd : Int) = (d4 : Int) := by omega
              have hw4 := wrap64 d4 (by omega)
              have had : (d4 : Int) + (j : Int) = (dj : Int) := by omega
              have hwj := wrap64 dj (by omega)
              have hdjl : dj < lj := by omega
              have hdji : (dj : Int) < (lj : Int) := by omega
              have hljl : lj < 300 := by omega
              have hlen : (W ++ NW.take j).length = lj := by rw [List.length_append, List.length_take, HNL.out, Nat.min_eq_left (by omega), HWL.out, hlj]
              obtain ⟨hb2l, hb2b, hcl⟩ := row_at hrow (by omega)
              have cq := hcl dj (by omega)
              have eq1 : (W ++ NW.take j).getD dj 0 = W.getD (4 * (i - n) + j) 0 := by rw [List.getD_eq_getElem?_getD, List.getElem?_append_left (by rw [HWL.out]; exact hdl), ← List.getD_eq_getElem?_getD, hdj, hd4, hdd]
              obtain ⟨q, hq⟩ : ∃ q, q = W.getD (4 * (i - n) + j) 0 := ⟨_, rfl⟩
              obtain ⟨a, ha⟩ : ∃ a, a = T.getD j 0 := ⟨_, rfl⟩
              obtain ⟨y, hy⟩ : ∃ y, y = q ^^^ a := ⟨_, rfl⟩
              rw [eq1, ← hq] at cq
              have ca := hbw.cell j (by rw [HTL.out]; exact hj2)
              rw [← ha] at ca
              have hxor := U8.xor q a
              rw [← hy] at hxor
              have hny : NW.getD j 0 = y := by rw [HF.out j hj2, hy, hq, ha]
              have HE : Hid ((W ++ NW.take j).map u8v ++ [.int .u8 (y.toNat : Int)] = (W ++ NW.take (j + 1)).map u8v) := by
                show _ = _
                have e : NW.take (j + 1) = NW.take j ++ [y] := by
                  rw [List.take_succ_eq_append_getElem (by rw [HNL.out]; exact hj2)]
                  congr 2
                  rw [← hny, List.getD_eq_getElem?_getD, List.getElem?_eq_getElem (by rw [HNL.out]; exact hj2)]
                  rfl
                rw [e]
                simp [u8v]
              have HOW : Hid ((World.drew (wr.alloc (.cells #[.int .u8 (y.toNat : Int)] 5))).ownsRow w.heap.size 5 1 (.slice (some ⟨b2, 0, none⟩) lj c2) lj ((W ++ NW.take j).map u8v)) := by
                have := hrow
                unfold ByteRow at this
                rw [hlen] at this
                exact this.alloc (.cells #[.int .u8 (y.toNat : Int)] 5)
              have HNEW : Hid (∀ (j : Nat) (u : Value), [Value.int .u8 (y.toNat : Int)][j]? = some u → (World.drew (wr.alloc (.cells #[.int .u8 (y.toNat : Int)] 5))).cell? ((⟨wr.heap.size, 0, none⟩ : Addr).add j) = some u) := (own_one wr 5 (.int .u8 (y.toNat : Int))).cells (g := wr.heap.size) rfl
              have hown2 : (Value.slice (some ⟨b2, 0, none⟩) lj c2).ownBlock = some b2 := rfl
              have HNE : Hid (some h1 ≠ some b2) := fun e => own_blk_ne hrow hbw (by decide) (by rw [hown2, e])
              have HNK : Hid (some gk ≠ some b2) := fun e => own_blk_ne hrow hkt (by decide) (by rw [hown2, e])
              have HNR : Hid (some w.heap.size ≠ some b2) := fun e => own_blk_ne hrow hres (by decide) (by rw [hown2, e])
              have hh1l : h1 < wr.heap.size := Blk.lt hbw
              have CQ := Lib.hid cq
              have CA := Lib.hid ca
              have HA := Lib.hid ha
              have HBW := Lib.hid hbw
              have HKT := Lib.hid hkt
              have HRES := Lib.hid hres
              have HBEL := Lib.hid hbel
              have HLJ := Lib.hid hlj
              clear hrow hbw hkt hres hbel cq ca hq ha hy hny eq1 hlen hcl hown2 hdd hd4 hdj h4i hdl hlj
              go_upto_region 19 with (fail)
              refine wp_region_held_drew (S := (fun w' => (w'.cell? ⟨b2, dj, none⟩ = some (.int .u8 (q.toNat : Int)) ∧ w'.cell? ⟨h1, j, none⟩ = some (.int .u8 (a.toNat : Int))) ∧ Below w.heap.size w w')) (by kernel_rfl) (⟨⟨CQ.out, CA.out⟩, bdrew HBEL.out⟩) (fun hHeld => ?_)
              refine wpAnyH_takeAt (i := 0) (v := (.slice (some ⟨b2, 0, none⟩) lj c2)) rfl (by kernel_rfl) (by kernel_rfl) (by kernel_rfl) (fun _ _ _ h => h) rfl (Or.inl ⟨by rfl, fun w' hS => ?_⟩) hHeld ?_
              · go_simp
              simp only [List.set_cons_zero, List.set_cons_succ]
              refine wpAnyH_takeAt (i := 1) (v := (.slice (some ⟨b2, 0, none⟩) lj c2)) rfl (by kernel_rfl) (by kernel_rfl) (by kernel_rfl) (fun _ _ _ h => h) rfl (Or.inl ⟨by rfl, fun w' hS => ?_⟩) hHeld ?_
              · go_simp
              simp only [List.set_cons_zero, List.set_cons_succ]
              refine wpAnyH_takeAt (i := 2) (v := (.int .i64 (i : Int))) rfl (by kernel_rfl) (by kernel_rfl) (by kernel_rfl) (fun _ _ _ h => h) rfl (Or.inl ⟨by rfl, fun w' hS => ?_⟩) hHeld ?_
              · go_simp
              simp only [List.set_cons_zero, List.set_cons_succ]
              refine wpAnyH_takeAt (i := 3) (v := (.int .i64 (n : Int))) rfl (by kernel_rfl) (by kernel_rfl) (by kernel_rfl) (fun _ _ _ h => h) rfl (Or.inl ⟨by rfl, fun w' hS => ?_⟩) hHeld ?_
              · go_simp
              simp only [List.set_cons_zero, List.set_cons_succ]
              refine wpAnyH_takeAt (i := 4) (v := (.int .i64 (dd : Int))) rfl (by kernel_rfl) (by kernel_rfl) (by kernel_rfl) (fun _ _ _ h => h) rfl (Or.inl ⟨by rfl, fun w' hS => ?_⟩) hHeld ?_
              · go_simp
              simp only [List.set_cons_zero, List.set_cons_succ]
              refine wpAnyH_takeAt (i := 5) (v := (.int .i64 (d4 : Int))) rfl (by kernel_rfl) (by kernel_rfl) (by kernel_rfl) (fun _ _ _ h => h) rfl (Or.inl ⟨by rfl, fun w' hS => ?_⟩) hHeld ?_
              · go_simp
              simp only [List.set_cons_zero, List.set_cons_succ]
              refine wpAnyH_takeAt (i := 6) (v := (.int .i64 (j : Int))) rfl (by kernel_rfl) (by kernel_rfl) (by kernel_rfl) (fun _ _ _ h => h) rfl (Or.inl ⟨by rfl, fun w' hS => ?_⟩) hHeld ?_
              · go_simp
              simp only [List.set_cons_zero, List.set_cons_succ]
              refine wpAnyH_takeAt (i := 7) (v := (.int .i64 (dj : Int))) rfl (by kernel_rfl) (by kernel_rfl) (by kernel_rfl) (fun _ _ _ h => h) rfl (Or.inl ⟨by rfl, fun w' hS => ?_⟩) hHeld ?_
              · go_simp
              simp only [List.set_cons_zero, List.set_cons_succ]
              refine wpAnyH_takeAt (i := 8) (v := (.pointer (some ⟨b2, dj, none⟩))) rfl (by kernel_rfl) (by kernel_rfl) (by kernel_rfl) (fun _ _ _ h => h) rfl (Or.inl ⟨by rfl, fun w' hS => ?_⟩) hHeld ?_
              · go_simp
              simp only [List.set_cons_zero, List.set_cons_succ]
              refine wpAnyH_takeAt (i := 9) (v := (.int .u8 (q.toNat : Int))) rfl (by kernel_rfl) (by kernel_rfl) (by kernel_rfl) (fun _ _ _ h => h) rfl (Or.inl ⟨by rfl, fun w' hS => ?_⟩) hHeld ?_
              · have hc := hS.1.1
                go_simp
              simp only [List.set_cons_zero, List.set_cons_succ]
              refine wpAnyH_takeAt (i := 10) (v := (.int .i64 (j : Int))) rfl (by kernel_rfl) (by kernel_rfl) (by kernel_rfl) (fun _ _ _ h => h) rfl (Or.inl ⟨by rfl, fun w' hS => ?_⟩) hHeld ?_
              · go_simp
              simp only [List.set_cons_zero, List.set_cons_succ]
              refine wpAnyH_takeAt (i := 11) (v := (.pointer (some ⟨h1, j, none⟩))) rfl (by kernel_rfl) (by kernel_rfl) (by kernel_rfl) (fun _ _ _ h => h) rfl (Or.inl ⟨by rfl, fun w' hS => ?_⟩) hHeld ?_
              · go_simp
              simp only [List.set_cons_zero, List.set_cons_succ]
              refine wpAnyH_takeAt (i := 12) (v := (.int .u8 (a.toNat : Int))) rfl (by kernel_rfl) (by kernel_rfl) (by kernel_rfl) (fun _ _ _ h => h) rfl (Or.inl ⟨by rfl, fun w' hS => ?_⟩) hHeld ?_
              · have hc := hS.1.2
                go_simp
              simp only [List.set_cons_zero, List.set_cons_succ]
              refine wpAnyH_takeAt (i := 13) (v := (.int .u8 (y.toNat : Int))) rfl (by kernel_rfl) (by kernel_rfl) (by kernel_rfl) (fun _ _ _ h => h) rfl (Or.inl ⟨by rfl, fun w' hS => ?_⟩) hHeld ?_
              · go_simp
              simp only [List.set_cons_zero, List.set_cons_succ]
              refine wpAnyH_ready (rs := [14]) (by kernel_rfl) (by simp) (AllReadyH.cons rfl (fun K' hK => ?_) AllReadyH.nil)
              go_simp
              refine hK.out _ _ (⟨⟨(World.cell?_alloc_lt wr _ ⟨b2, dj, none⟩ hb2l).trans CQ.out, (World.cell?_alloc_lt wr _ ⟨h1, j, none⟩ hh1l).trans CA.out⟩, bdrew (balloc HBEL.out _)⟩) (fun hHeld' => ?_)
              clear hK hHeld
              have hHeld := hHeld'
              clear hHeld'
              refine wpAnyH_ready (rs := [15]) (by kernel_rfl) (by simp) (AllReadyH.cons rfl (fun K' hK => ?_) AllReadyH.nil)
              refine step_append_keep _ (by rfl) (.tmp 125) (.tmp 139) _ (by rfl) w.heap.size 5 i5 _ 1 1 Try.underlying22 hi5 hz0 hz1 hz2 rfl (by omega) b2 lj c2 ((W ++ NW.take j).map u8v) (by rfl) HOW.out
                w.heap.size ⟨wr.heap.size, 0, none⟩ 1 1 [.int .u8 (y.toNat : Int)] (by rfl) rfl HNEW.out (by intro u hu; rw [List.mem_singleton] at hu; subst hu; rfl) (by simp only [maxLen]; omega) (by omega) (by have := HBEL.out.size; show w.heap.size ≤ (wr.alloc _).heap.size; rw [World.size_alloc]; omega) ?_
              intro v5 w5 hown5 hg5 hkeep5
              have hrow5 : ByteRow w5 w.heap.size v5 (W ++ NW.take (j + 1)) := by
                unfold ByteRow
                rw [← HE.out, List.length_append, List.length_take, HNL.out, Nat.min_eq_left (by omega), HWL.out, ← Nat.add_assoc, ← HLJ.out]
                exact hown5
              obtain ⟨b5, c5, e5, _, _, _⟩ := row_form hrow5 (by rw [List.length_append, HWL.out]; omega)
              subst e5
              have hlen5 : (W ++ NW.take (j + 1)).length = i4 + (j + 1) := by rw [List.length_append, List.length_take, HNL.out, Nat.min_eq_left (by omega), HWL.out]
              rw [hlen5] at hrow5 ⊢
              have cq5 : w5.cell? ⟨b2, dj, none⟩ = some (.int .u8 (q.toNat : Int)) := (hkeep5 dj (by omega)).trans ((World.cell?_alloc_lt wr _ ⟨b2, dj, none⟩ hb2l).trans CQ.out)
              have hne : some h1 ≠ some b2 := HNE.out
              have hbw5 : BB w5 h1 76 T := Blk.grown (show Blk (World.drew (wr.alloc (.cells #[.int .u8 (y.toNat : Int)] 5))) _ _ _ from HBW.out.alloc _) hg5 hne
              have hkt5 : KT w5 gk (.slice none 0 0) := Blk.grown (show Blk (World.drew (wr.alloc (.cells #[.int .u8 (y.toNat : Int)] 5))) _ _ _ from HKT.out.alloc _) hg5 HNK.out
              have hres5 : Blk w5 w.heap.size 31 zkV.toArray := Blk.grown (show Blk (World.drew (wr.alloc (.cells #[.int .u8 (y.toNat : Int)] 5))) _ _ _ from HRES.out.alloc _) hg5 HNR.out
              have hbel5 : Below w.heap.size w w5 := own_grow_below (bdrew (balloc HBEL.out (.cells #[.int .u8 (y.toNat : Int)] 5))) HOW.out hg5
              have ca5 := hbw5.cell j (by rw [HTL.out]; exact hj2)
              rw [← HA.out] at ca5
              have HROW6 := Lib.hid hrow5
              have HBW6 := Lib.hid hbw5
              have HKT6 := Lib.hid hkt5
              have HRES6 := Lib.hid hres5
              have HBEL6 := Lib.hid hbel5
              refine hK.out _ _ ⟨⟨cq5, ca5⟩, hbel5⟩ (fun hHeld' => ?_)
              clear hK hHeld hown5 hg5 hkeep5 hrow5 hbw5 hkt5 hres5 hbel5 cq5 ca5 hne hlen5
              have hHeld := hHeld'
              clear hHeld'
              refine wpAnyH_putAt rfl ?_
              simp only [List.set_cons_zero, List.set_cons_succ]
              refine wpAnyH_ready (rs := [16]) (by kernel_rfl) (by simp) (AllReadyH.cons rfl (fun K' hK => ?_) AllReadyH.nil)
              go_simp
              refine hK.out _ _ hHeld (fun hHeld' => ?_)
              clear hK hHeld
              have hHeld := hHeld'
              clear hHeld'
              refine wpAnyH_done (by kernel_rfl) ?_ _
              go_wp2_with fail
              go_roundg (4 - (j + 1))
              case measure => omega
              case rel => exact ⟨j + 1, b5, c5, by omega, rfl, rfl, by go_num, HROW6.out, HBW6.out, HKT6.out, HRES6.out, HBEL6.out⟩
            · have hj3 : j = 4 := by omega
              subst hj3
              rw [List.take_of_length_le (by rw [HNL.out]; exact Nat.le_refl _)] at hrow
              have hnx := HNX.out
              rw [← HMM.out, ← HRC2.out] at hnx
              have HROW6 : Hid (ByteRow wr w.heap.size (.slice (some ⟨b2, 0, none⟩) (i4 + 4) c2) (schS n b (k + 1)).2) := by show ByteRow _ _ _ _; rw [hnx]; exact hrow
              have HV : Hid (rc2 = (schS n b (k + 1)).1) := by show _ = _; rw [hnx]
              have HKT := Lib.hid hkt
              have HRES := Lib.hid hres
              have HBEL := Lib.hid hbel
              clear hrow hbw hkt hres hbel hnx
              go_wp2_with fail
              go_roundg (M - n - (k + 1))
              case measure => omega
              case rel =>
                have h1' := HII.out
                have h2' := HI4.out
                exact ⟨k + 1, b2, c2, by omega, rfl, by rw [show i4 + 4 = 4 * (n + (k + 1)) by omega], by rw [HV.out], by rw [h1']; go_num, by rw [show 4 * (n + (k + 1)) = i4 + 4 by omega]; exact HROW6.out, HKT.out, HRES.out, HBEL.out⟩
      · have hk3 : k = M - n := by omega
        subst hk3
        obtain ⟨W, hW⟩ : ∃ W, W = (schS n b (M - n)).2 := ⟨_, rfl⟩
        obtain ⟨lW, hlW⟩ : ∃ lW, lW = 4 * (n + (M - n)) := ⟨_, rfl⟩
        rw [← hW, ← hlW] at hrow
        rw [← hlW] at hWl ⊢
        rw [← hW] at hWl
        have hlWe : lW = 16 * (n + 7) := by omega
        have HGOAL : Hid (W = (schS n b (4 * (n + 7) - n)).2) := by show _ = _; rw [hW, hM]
        have HWL := Lib.hid hWl
        have HLW := Lib.hid hlWe
        have hcap := own_bound (show World.ownsRow _ _ _ _ (.slice (some ⟨bb, 0, none⟩) lW cw) lW _ by have := hrow; unfold ByteRow at this; rw [hWl] at this; exact this)
        have HCAP := Lib.hid hcap
        have HROW := Lib.hid hrow
        have HKT := Lib.hid hkt
        have HRES := Lib.hid hres
        have HBEL := Lib.hid hbel
        have hilt : ¬ ((n + (M - n) : Nat) : Int) < (M : Int) := by omega
        obtain ⟨iN, hiN⟩ : ∃ iN, iN = n + (M - n) := ⟨_, rfl⟩
        rw [← hiN] at hilt ⊢
        have hlWs : lW ≤ 240 := by omega
        clear hrow hkt hres hbel hWl hW hlW hlWe hM hcap HK3 HR3 HB3 HO3' hiN
        go_wp2_with fail
        go_loopg [11] (n + 7) (fun gg v11 wx => ∃ (r : Nat) (A' : Option Addr) (cR : Nat), r ≤ n + 7 ∧ gg = n + 7 - r ∧ v11 = .int .i64 ((16 * r : Nat) : Int) ∧ ByteRow wx w.heap.size (.slice (some ⟨bb, 0, none⟩) lW cw) W ∧ KT wx gk (.slice A' r cR) ∧ wx.ownsRow w.heap.size 23 16 (.slice A' r cR) r ((W.take (16 * r)).map u8v) ∧ Blk wx w.heap.size 31 zkV.toArray ∧ Below w.heap.size w wx)
        case atStart => exact ⟨0, none, 0, by omega, rfl, rfl, HROW.out, HKT.out, World.ownsRow_nil _ _ _ _, HRES.out, HBEL.out⟩
        case round =>
          obtain ⟨r, A', cR, hr, rfl, rfl, hrow, hkt, hown, hres, hbel⟩ := hrel
          clear HROW HKT HRES HBEL
          by_cases hr2 : r < n + 7
          · obtain ⟨at_, hat⟩ : ∃ a, a = 16 * r := ⟨_, rfl⟩
            rw [← hat] at hown ⊢
            have hlw := HLW.out
            have hatl : (at_ : Int) < (lW : Int) := by omega
            have hatn : at_ < lW := by omega
            have hat0 : (0 : Int) ≤ (at_ : Int) := Int.natCast_nonneg _
            obtain ⟨at2, hat2⟩ : ∃ a, a = at_ + 16 := ⟨_, rfl⟩
            have hadd : (at_ : Int) + 16 = (at2 : Int) := by omega
            have hw2 := wrap64 at2 (by omega)
            have hcap := HCAP.out
            have hcut := fun wx => cut_lh wx bb lW cw at_ at2 (by omega) (by omega) (by omega)
            have hcut' := fun wx => cut_lh' wx bb lW cw at_ at2 (by omega) (by omega) (by omega)
            rw [show at2 - at_ = 16 by omega] at hcut hcut'
            obtain ⟨X, hX⟩ : ∃ X, X = (W.drop at_).take 16 := ⟨_, rfl⟩
            have hXl : X.length = 16 := by rw [hX, List.length_take, List.length_drop, HWL.out]; omega
            have HXL := Lib.hid hXl
            have HF : Hid ((W.take at_).map u8v ++ X.map u8v = (W.take (16 * (r + 1))).map u8v) := by
              show _ = _
              rw [← List.map_append, hX, hat, take_cat W r (by rw [HWL.out]; omega)]
            obtain ⟨hbl, hbb2, hcl⟩ := row_at hrow (by rw [HWL.out]; omega)
            have hsrc : ∀ (j : Nat) (v : Value), (X.map u8v)[j]? = some v → wr.cell? ⟨bb, at_ + j, none⟩ = some v := fun j v hj => by
              have hj16 : j < 16 := by
                rcases Nat.lt_or_ge j 16 with h | h
                · exact h
                · rw [List.getElem?_eq_none (by rw [List.length_map, hXl]; exact h)] at hj; cases hj
              rw [hcl (at_ + j) (by rw [HWL.out]; omega), ← hj, List.getElem?_map, hX, List.getElem?_take, if_pos hj16, List.getElem?_drop, List.getD_eq_getElem?_getD, List.getElem?_eq_getElem (by rw [HWL.out]; omega)]
              rfl
            obtain ⟨gr, hgr⟩ : ∃ gr, gr = wr.heap.size := ⟨_, rfl⟩
            have HZA := Lib.hid (BB.new wr 23 zero16)
            have HBA : Hid (Below wr.heap.size wr (wr.alloc (.cells (zero16.map u8v).toArray 23))) := balloc (Below.refl _ _) _
            have HBELA : Hid (Below w.heap.size w (wr.alloc (.cells (zero16.map u8v).toArray 23))) := balloc hbel _
            have HSRC := Lib.hid hsrc
            have HROW := Lib.hid hrow
            have HKT := Lib.hid hkt
            have HOWN := Lib.hid hown
            have HRES := Lib.hid hres
            have HBEL := Lib.hid hbel
            have HAT := Lib.hid hat
            have HBB := Lib.hid hbl
            clear hrow hkt hown hres hbel hlw hcap hX hXl hcl hsrc hbl hat hat2
            go_upto_region 24 with (fail)
            rw [← z16]
            generalize (wr.alloc (.cells (zero16.map u8v).toArray 23)) = wA at *
            rw [← hgr]
            have HZR : Hid ((World.drew wA).heap[gr]? = some (.cells (zero16.map u8v).toArray 23 (0, 0))) := by show _ = _; rw [hgr]; exact HZA.out
            have HGR : Hid (wr.heap.size ≤ gr) := by show _ ≤ _; rw [hgr]; exact Nat.le_refl _
            have HPOS : Hid (0 < (X.map u8v).length → (some (⟨gr, 0, none⟩ : Addr)) = some ⟨gr, 0, none⟩ ∧ ∃ ad, (some (⟨bb, at_, none⟩ : Addr)) = some ad ∧ ∀ (j : Nat) (v : Value), (X.map u8v)[j]? = some v → (World.drew wA).cell? (ad.add j) = some v) := fun _ => ⟨rfl, ⟨bb, at_, none⟩, rfl, fun j v hj => by
              rw [Go.WideShapes.add_plain]
              exact (HBA.out.cell (p := ⟨bb, at_ + j, none⟩) HBB.out).trans (HSRC.out j v hj)⟩
            clear hgr HZA HSRC
            refine wp_region_held_drew (S := (fun w' => Below w.heap.size w w')) (by kernel_rfl) (bdrew HBELA.out) (fun hHeld => ?_)
            refine wpAnyH_takeAt (i := 0) (v := (.slice (some ⟨gr, 0, none⟩) 16 16)) rfl (by kernel_rfl) (by kernel_rfl) (by kernel_rfl) (fun _ _ _ h => h) rfl (Or.inl ⟨by rfl, fun w' hS => ?_⟩) hHeld ?_
            · go_simp
            simp only [List.set_cons_zero, List.set_cons_succ]
            refine wpAnyH_takeAt (i := 1) (v := (.slice (some ⟨bb, 0, none⟩) lW cw)) rfl (by kernel_rfl) (by kernel_rfl) (by kernel_rfl) (fun _ _ _ h => h) rfl (Or.inl ⟨by rfl, fun w' hS => ?_⟩) hHeld ?_
            · go_simp
            simp only [List.set_cons_zero, List.set_cons_succ]
            refine wpAnyH_takeAt (i := 2) (v := (.int .i64 (at_ : Int))) rfl (by kernel_rfl) (by kernel_rfl) (by kernel_rfl) (fun _ _ _ h => h) rfl (Or.inl ⟨by rfl, fun w' hS => ?_⟩) hHeld ?_
            · go_simp
            simp only [List.set_cons_zero, List.set_cons_succ]
            refine wpAnyH_takeAt (i := 3) (v := (.int .i64 (at_ : Int))) rfl (by kernel_rfl) (by kernel_rfl) (by kernel_rfl) (fun _ _ _ h => h) rfl (Or.inl ⟨by rfl, fun w' hS => ?_⟩) hHeld ?_
            · go_simp
            simp only [List.set_cons_zero, List.set_cons_succ]
            refine wpAnyH_takeAt (i := 4) (v := (.int .i64 (at2 : Int))) rfl (by kernel_rfl) (by kernel_rfl) (by kernel_rfl) (fun _ _ _ h => h) rfl (Or.inl ⟨by rfl, fun w' hS => ?_⟩) hHeld ?_
            · go_simp
            simp only [List.set_cons_zero, List.set_cons_succ]
            refine wpAnyH_takeAt (i := 5) (v := (.slice (some ⟨bb, at_, none⟩) 16 (cw - at_))) rfl (by kernel_rfl) (by kernel_rfl) (by kernel_rfl) (fun _ _ _ h => h) rfl (Or.inl ⟨by rfl, fun w' hS => ?_⟩) hHeld ?_
            · go_simp
            simp only [List.set_cons_zero, List.set_cons_succ]
            refine wpAnyH_ready (rs := [6]) (by kernel_rfl) (by simp) (AllReadyH.cons rfl (fun K' hK => ?_) AllReadyH.nil)
            refine step_copy_splice (by rfl) (.tmp 147) (.tmp 152) 22 22 (by rfl) 5 Try.underlying22 size5 (some ⟨gr, 0, none⟩) (some ⟨bb, at_, none⟩) 16 16 16 (cw - at_) (by rfl) (by rfl) gr 0 (zero16.map u8v) 23 HZR.out (X.map u8v) (by rw [List.length_map, HXL.out]; rfl) HPOS.out (by rw [List.length_map, HXL.out]; decide) (u8_one X) wr.heap.size wr (bdrew HBA.out) HGR.out ?_
            intro w4 hg4 hb4
            refine hK.out _ _ (bcall HBEL.out hb4) (fun hHeld' => ?_)
            have HG4 := Lib.hid (show BB w4 gr 23 X by have := hg4.out; rw [splice_full (by rw [List.length_map, List.length_map, HXL.out]; rfl)] at this; exact this)
            have HB4 := Lib.hid hb4
            clear hK hHeld hHeld' hg4 hb4
            refine wpAnyH_putAt rfl ?_
            simp only [List.set_cons_zero, List.set_cons_succ]
            refine wpAnyH_done (by kernel_rfl) ?_ _
            have hrow4 := Lib.hid (show ByteRow w4 w.heap.size (.slice (some ⟨bb, 0, none⟩) lW cw) W from own_below HROW.out HB4.out)
            have HKT4 : Hid (KT w4 gk (.slice A' r cR)) := Blk.below HKT.out HB4.out
            have HOWN4 := Lib.hid (own_below HOWN.out HB4.out)
            have HRES4 := Lib.hid (HRES.out.below HB4.out)
            have HBEL4 := Lib.hid (bcall HBEL.out HB4.out)
            have cs4 := HKT4.out.suf
            have hgk4 : gk < w4.heap.size := Blk.lt HKT4.out
            have HRG := Lib.hid (HG4.out.range)
            have HI : Hid ((Try.prog.info? 23).map (·.size) = some (X.map u8v).length) := by show _ = _; rw [List.length_map, HXL.out]; exact info23
            clear HROW HKT HOWN HRES HBEL HPOS HZR HBELA HBA hcut hcut' hadd hw2 HB4
            go_wp2_with (first
              | (refine wpList_load_mid rfl 23 (.tmp 12) rfl gr 0 rfl (X.map u8v) _ HRG.out Try.underlying23 rfl HI.out ?_)
              | (refine wpList_build29 rfl (.tmp 156) rfl X HXL.out rfl ?_)
              | (at_builtin
                 refine wpList_append_any _ rfl (.tmp 155) (.tmp 157) _ rfl w.heap.size 23 iV _ 16 16 Try.underlying29 hiV hv0 hv1 hv2 rfl (by omega) (.slice A' r cR) r ((W.take at_).map u8v) rfl (HOWN4.out.alloc (.cells (X.map u8v).toArray 23))
                   (w4.alloc (.cells (X.map u8v).toArray 23)).heap.size (some ⟨w4.heap.size, 0, none⟩) 1 1 (X.map u8v) rfl (Reads.of_own (own_lit16 w4 X HXL.out)) (u8_one X) (by simp only [maxLen]; omega) (by omega) (by have := HBEL4.out.size; rw [World.size_alloc]; omega) ?_
                 intro v5 w5 hown5 hg5 hat5
                 obtain ⟨A5, c5, rfl⟩ := own_slice hown5
                 obtain ⟨hT5, hK5, hO5⟩ := rk_put (show KT (w4.alloc (.cells (X.map u8v).toArray 23)) gk (.slice A' r cR) from Blk.alloc HKT4.out _) (HOWN4.out.alloc (.cells (X.map u8v).toArray 23)) hown5 hg5
                 rw [HF.out] at hO5
                 have hR5 := own_grown_far (hrow4.out.alloc (.cells (X.map u8v).toArray 23)) (HOWN4.out.alloc (.cells (X.map u8v).toArray 23)) (by decide) hg5
                 have HR5 : Hid (ByteRow (w5.setCell ⟨gk, 256, none⟩ (.slice A5 (r + 1) c5)) w.heap.size (.slice (some ⟨bb, 0, none⟩) lW cw) W) := own_set hR5 (own_blk_ne hR5 hT5 (by decide)) 256 _
                 have hS5 : Blk w5 w.heap.size 31 zkV.toArray := Blk.grown (HRES4.out.alloc (.cells (X.map u8v).toArray 23)) hg5 (Ne.symm (own_blk_ne (HOWN4.out.alloc (.cells (X.map u8v).toArray 23)) (HRES4.out.alloc (.cells (X.map u8v).toArray 23)) (by decide)))
                 have HS5 : Hid (Blk (w5.setCell ⟨gk, 256, none⟩ (.slice A5 (r + 1) c5)) w.heap.size 31 zkV.toArray) := Blk.far hS5 (by show w.heap.size ≠ gk; omega) _
                 have hb5 := own_grow_below (balloc HBEL4.out (.cells (X.map u8v).toArray 23)) (HOWN4.out.alloc (.cells (X.map u8v).toArray 23)) hg5
                 have HB5 : Hid (Below w.heap.size w (w5.setCell ⟨gk, 256, none⟩ (.slice A5 (r + 1) c5))) := bset hb5 (by show w.heap.size ≤ gk; omega) _
                 have cs5 := hT5.suf
                 have fs5 := Blk.frozen hT5 256
                 have HK5 := Lib.hid hK5
                 have HO5 := Lib.hid hO5
                 clear hown5 hg5 hat5 hT5 hK5 hO5 hR5 hS5 hb5))
            go_roundg (n + 7 - (r + 1))
            case measure => omega
            case rel => exact ⟨r + 1, A5, c5, by omega, rfl, by have := HAT.out; rw [this]; go_num, HR5.out, HK5.out, HO5.out, HS5.out, HB5.out⟩
          · have hr3 : r = n + 7 := by omega
            subst hr3
            have HKT := Lib.hid hkt
            have HROWN : Hid (wr.ownsRow w.heap.size 23 16 (.slice A' (n + 7) cR) (n + 7) (W.map u8v)) := by
              show World.ownsRow _ _ _ _ _ _ _
              rw [List.take_of_length_le (by rw [HWL.out, HLW.out]; exact Nat.le_refl _)] at hown
              exact hown
            have hlw := HLW.out
            have hatl : ¬ ((16 * (n + 7) : Nat) : Int) < (lW : Int) := by omega
            obtain ⟨at_, hat⟩ : ∃ a, a = 16 * (n + 7) := ⟨_, rfl⟩
            rw [← hat] at hatl ⊢
            have HRGK := Lib.hid (blk_range hkt)
            have HI31 : Hid ((Try.prog.info? 31).map (·.size) = some (rkV (.slice A' (n + 7) cR)).length) := by show _ = _; rw [rkV_len]; exact info31
            have HJ31 : Hid ((Try.prog.info? 31).map (·.size) = some (rkV (.slice A' (n + 7) cR)).toArray.size) := by show _ = _; rw [List.size_toArray, rkV_len]; exact info31
            have HTHR : Hid (wr.there w.heap.size 0 (rkV (.slice A' (n + 7) cR)).toArray.size) := rk_there hres
            have HRES := Lib.hid hres
            have HBEL := Lib.hid hbel
            clear hrow hkt hown hres hbel hlw hat
            go_wp2_with (first
              | (refine wpList_load_mid rfl 31 (.tmp 4) rfl gk 0 rfl (rkV (.slice A' (n + 7) cR)) _ HRGK.out Try.underlying31 rfl HI31.out ?_)
              | (refine wpList_store_mid rfl 31 (.tmp 2) (.tmp 160) rfl w.heap.size 0 (rkV (.slice A' (n + 7) cR)).toArray rfl rfl HTHR.out HJ31.out (rkV_one _ _ _) ?_))
            have hload := run_loadVar_mid (P := Try.prog) (wr.setCells w.heap.size 0 (rkV (.slice A' (n + 7) cR))) w.heap.size 0 31 (rkV (.slice A' (n + 7) cR)) _ (blk_range (rk_store HRES.out)) Try.underlying31 rfl HI31.out
            refine bodyPost_ret (results_ct rfl _ _ w.heap.size _ _ rfl rfl hload) rfl ⟨A', cR, rfl, ?_, below_setCells HBEL.out (Nat.le_refl _) _ _⟩
            rw [← HGOAL.out]
            exact own_setAll (own_blk_ne HROWN.out HRES.out (by decide)) _ _ _ HROWN.out
end Go.Proofs.Ytklkehpcifnfkaa
