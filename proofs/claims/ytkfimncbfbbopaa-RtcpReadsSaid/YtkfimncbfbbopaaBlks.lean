/- What the reader's blocks does (contract). Conditions: the reader's block and bytes lie in memory. -/
import Derived.Test.YtkfimncbfbbopaaNum
set_option linter.unusedVariables false
set_option linter.unusedSimpArgs false
namespace Go.Proofs.Ytkfimncbfbbopaa
open Go.RowKit
attribute [local go_sem ↓] Go.wp_at_zero Go.wp_at_succ

/-- Rows of numbers of kinds ks, cell by cell. -/
def numV (k : IntKind) (n : Nat) : Value := .int k (n : Int)
def rowC (ks : List IntKind) (l : List (List Nat)) : List Value := l.flatMap fun e => List.zipWith numV ks e
theorem rowC_append (ks : List IntKind) (a b : List (List Nat)) : rowC ks (a ++ b) = rowC ks a ++ rowC ks b := by simp [rowC]
theorem rowC_one (ks : List IntKind) (e : List Nat) : rowC ks [e] = List.zipWith numV ks e := by simp [rowC]
theorem rowC_len (ks : List IntKind) : ∀ l : List (List Nat), (∀ e ∈ l, e.length = ks.length) → (rowC ks l).length = l.length * ks.length
  | [], _ => by simp [rowC]
  | e :: l, h => by
    have h1 := rowC_len ks l fun x hx => h x (List.mem_cons_of_mem _ hx)
    have h2 := h e (List.mem_cons_self ..)
    have e1 : rowC ks (e :: l) = List.zipWith numV ks e ++ rowC ks l := by simp [rowC]
    rw [e1, List.length_append, h1, List.length_zipWith, h2, Nat.min_self, List.length_cons, Nat.add_mul, Nat.one_mul, Nat.add_comm]
def ks7 : List IntKind := [.u32, .u8, .u32, .u32, .u32, .u32, .u32]
theorem blksS_len (n : Nat) (s : RS) : (blksS n s).1.length = n := by
  induction n with
  | zero => rfl
  | succ n ih => rw [blksS, List.length_append, ih]; rfl
theorem infoBlk : (Try.prog.info? 81).map (fun i => (i.zero, i.size, i.bytes)) = some (some (.agg #[.int .u32 0, .int .u8 0, .int .u32 0, .int .u32 0, .int .u32 0, .int .u32 0, .int .u32 0]), 7, 28) := by kernel_rfl
theorem num_z {B g k : Nat} {z : Int} {s : RS} {w : World} (h : RdSt w B g s) (hz : z = (k : Int)) (hk0 : 0 < k) (hk : k ≤ 8) {X : Nat} {s' : RS} (hX : numS k s = (X, s')) :
    Calls Try.prog 51 #[.pointer (some ⟨g, 0, none⟩), .int .i64 z] w fun e w' => e = .returned (.int .u64 (X : Int)) ∧ RdSt w' B g s' ∧ Sv (fun j => j = g) w w' := by
  subst hz
  have := num_c B g k s w h hk0 hk
  rw [hX] at this
  exact this
theorem word_z {B g : Nat} {s : RS} {w : World} (h : RdSt w B g s) {X : Nat} {s' : RS} (hX : numS 4 s = (X, s')) :
    Calls Try.prog 50 #[.pointer (some ⟨g, 0, none⟩)] w fun e w' => e = .returned (.int .u32 (X : Int)) ∧ RdSt w' B g s' ∧ Sv (fun j => j = g) w w' := by
  have := word_c B g s w h
  rw [hX] at this
  exact this
theorem numS_x (k : Nat) (s : RS) (hk : 0 < k) : ∃ X s', numS k s = (X, s') ∧ X < 256 ^ k := ⟨(numS k s).1, (numS k s).2, rfl, numS_lt k s hk⟩
theorem rowC_cell (ks : List IntKind) (l : List (List Nat)) : ∀ u ∈ rowC ks l, u.oneCell' = true := by
  intro u hu
  obtain ⟨e, _, he⟩ := List.mem_flatMap.1 hu
  obtain ⟨i, hi, rfl⟩ := List.mem_iff_getElem.1 he
  rw [List.getElem_zipWith]
  rfl
theorem reads_blk {w : World} {g : Nat} {t : TypeId} {cs : Array Value} {n size : Nat} (h : Blk w g t cs) (hs : cs.size = n * size) : Reads w w.heap.size size (some ⟨g, 0, none⟩) n cs.toList := by
  refine ⟨by simpa using hs, fun hn => ⟨_, rfl, h.lt, fun j u hu => ?_⟩⟩
  rw [Go.WideShapes.add_plain, Nat.zero_add, Blk.cell h, ← Array.getElem?_toList]
  exact hu
theorem RdSt.below {w w' : World} {B g : Nat} {s : RS} (h : RdSt w B g s) (hb : Below w.heap.size w w') : RdSt w' B g s := h.sv (M := fun _ => False) (Sv.of_below hb) (fun _ h => h.elim) (fun h => h)
theorem RdSt.far {w : World} {B g : Nat} {s : RS} {p : Addr} (h : RdSt w B g s) (hB : B ≤ p.block) (hp : p.block ≠ g) (u : Value) : RdSt (w.setCell p u) B g s :=
  h.sv (M := fun k => k = p.block) ((Sv.refl (fun k => k = p.block) w).set (.inl rfl) u) (fun k e => by omega) (fun e => hp e.symm)
set_option maxRecDepth 100000 in
set_option maxHeartbeats 6400000 in
theorem blocks_c (B g n : Nat) (s : RS) (w : World) (h : RdSt w B g s) (hn : n ≤ 31) :
    Calls Try.prog 52 #[.pointer (some ⟨g, 0, none⟩), .int .i64 (n : Int)] w fun e w' => ∃ v, e = .returned v ∧ w'.ownsRow w.heap.size 81 7 v n (rowC ks7 (blksS n s).1) ∧ RdSt w' B g (blksS n s).2 ∧ Sv (fun j => j = g) w w' := by
  obtain ⟨i7, hi7, hz0, hz1, hz2⟩ := info_parts infoBlk
  have hgl := h.lt
  have H := Lib.hid h
  have HGL := Lib.hid hgl
  clear h hgl
  go_enter Try.func52, Try.ntmps52
  go_upto_region 3 with fail
  go_loopg [5, 8] n (fun gg v5 v8 wx => ∃ (i : Nat) (Ao : Option Addr) (co : Nat), i ≤ n ∧ gg = n - i ∧ v8 = .int .i64 (i : Int) ∧ v5 = .slice Ao i co ∧ wx.ownsRow w.heap.size 81 7 (.slice Ao i co) i (rowC ks7 (blksS i s).1) ∧ RdSt wx B g (blksS i s).2 ∧ Sv (fun j => j = g) w wx)
  case atStart => exact ⟨0, none, 0, Nat.zero_le _, rfl, rfl, rfl, World.ownsRow_nil _ _ _ _, H.out, Sv.refl _ _⟩
  case round =>
    obtain ⟨i, Ao, co, hi, rfl, rfl, rfl, ho, hr, hs⟩ := hrel
    have HO := Lib.hid ho
    have HR := Lib.hid hr
    have HS := Lib.hid hs
    clear ho hr hs
    by_cases hin : i < n
    · have hii : (i : Int) < (n : Int) := by omega
      obtain ⟨x1, s1, e1, b1⟩ := numS_x 4 (blksS i s).2 (by decide)
      obtain ⟨x2, s2, e2, b2⟩ := numS_x 1 s1 (by decide)
      obtain ⟨x3, s3, e3, b3⟩ := numS_x 3 s2 (by decide)
      obtain ⟨x4, s4, e4, b4⟩ := numS_x 4 s3 (by decide)
      obtain ⟨x5, s5, e5, b5⟩ := numS_x 4 s4 (by decide)
      obtain ⟨x6, s6, e6, b6⟩ := numS_x 4 s5 (by decide)
      obtain ⟨x7, s7, e7, b7⟩ := numS_x 4 s6 (by decide)
      have hx2 : (x2 : Int) < 256 := by omega
      have hx3 : (x3 : Int) < 4294967296 := by omega
      have HBL : Hid (blksS (i + 1) s = ((blksS i s).1 ++ [[x1, x2, x3, x4, x5, x6, x7]], s7)) := by
        show _ = _
        rw [blksS, blkS]
        simp only [e1, e2, e3, e4, e5, e6, e7]
      have HE1 := Lib.hid e1
      have HE2 := Lib.hid e2
      have HE3 := Lib.hid e3
      have HE4 := Lib.hid e4
      have HE5 := Lib.hid e5
      have HE6 := Lib.hid e6
      have HE7 := Lib.hid e7
      clear e1 e2 e3 e4 e5 e6 e7 b1 b2 b3 b4 b5 b6 b7
      go_upto_region 5 with (first
        | (go_at_call 50
           refine (word_z HR.out HE1.out).mono ?_
           rintro e0 w1 ⟨rfl, hr1, hs1⟩
           have HR1 := Lib.hid hr1
           have HS1 := Lib.hid hs1
           clear hr1 hs1)
        | (go_at_call 51
           first
             | ((with_reducible show Calls _ _ _ w1 _)
                refine (num_z HR1.out (k := 1) rfl (by decide) (by decide) HE2.out).mono ?_
                rintro e0 w2 ⟨rfl, hr2, hs2⟩
                have HR2 := Lib.hid hr2
                have HS2 := Lib.hid (HS1.out.trans_ hs2)
                clear hr2 hs2)
             | ((with_reducible show Calls _ _ _ w2 _)
                refine (num_z HR2.out (k := 3) rfl (by decide) (by decide) HE3.out).mono ?_
                rintro e0 w3 ⟨rfl, hr3, hs3⟩
                have HR3 := Lib.hid hr3
                have HS3 := Lib.hid (HS2.out.trans_ hs3)
                clear hr3 hs3)))
      obtain ⟨gx, hgx⟩ : ∃ gx, gx = w3.heap.size := ⟨_, rfl⟩
      obtain ⟨w4, hw4⟩ : ∃ w4, w4 = w3.alloc (.cells #[.int .u32 (x1 : Int), .int .u8 (x2 : Int), .int .u32 (x3 : Int), .int .u32 0, .int .u32 0, .int .u32 0, .int .u32 0] 81) := ⟨_, rfl⟩
      rw [← hw4, ← hgx]
      have HX4 : Hid (Blk w4 gx 81 #[.int .u32 (x1 : Int), .int .u8 (x2 : Int), .int .u32 (x3 : Int), .int .u32 0, .int .u32 0, .int .u32 0, .int .u32 0]) := by show Blk _ _ _ _; rw [hw4]; exact Blk.newAt hgx _ _
      have HR4 : Hid (RdSt w4 B g s3) := by show RdSt _ _ _ _; rw [hw4]; exact HR3.out.below (balloc (Below.refl _ _) _)
      have HS4 : Hid (Sv (fun j => j = g) wr w4) := by show Sv _ _ _; rw [hw4]; exact HS3.out.alloc _
      have HGX : Hid (wr.heap.size ≤ gx) := by show _ ≤ _; rw [hgx]; exact HS3.out.size
      have hgg : g < gx := by have := HGX.out; have := HR.out.lt; omega
      have HGG := Lib.hid hgg
      clear hw4 hgx hgg HR1 HS1 HR2 HS2 HR3 HS3
      go_upto_region 6 with (first
        | (go_at_call 50
           first
             | ((with_reducible show Calls _ _ _ w4 _)
                refine (word_z HR4.out HE4.out).mono ?_
                rintro e0 w5 ⟨rfl, hr5, hs5⟩
                have HR5 := Lib.hid hr5
                have HS5 := Lib.hid (HS4.out.trans_ hs5)
                have HX5 := Lib.hid (hs5.blk HX4.out (fun e => by have := HGG.out; omega))
                clear hr5 hs5)
             | ((with_reducible show Calls _ _ _ w5 _)
                refine (word_z HR5.out HE5.out).mono ?_
                rintro e0 w6 ⟨rfl, hr6, hs6⟩
                have HR6 := Lib.hid hr6
                have HS6 := Lib.hid (HS5.out.trans_ hs6)
                have HX6 := Lib.hid (hs6.blk HX5.out (fun e => by have := HGG.out; omega))
                clear hr6 hs6)
             | ((with_reducible show Calls _ _ _ w6 _)
                refine (word_z HR6.out HE6.out).mono ?_
                rintro e0 w7 ⟨rfl, hr7, hs7⟩
                have HR7 := Lib.hid hr7
                have HS7 := Lib.hid (HS6.out.trans_ hs7)
                have HX7 := Lib.hid (hs7.blk HX6.out (fun e => by have := HGG.out; omega))
                clear hr7 hs7)
             | ((with_reducible show Calls _ _ _ w7 _)
                refine (word_z HR7.out HE7.out).mono ?_
                rintro e0 w8 ⟨rfl, hr8, hs8⟩
                have HR8 := Lib.hid hr8
                have HS8 := Lib.hid (HS7.out.trans_ hs8)
                have hx8 := hs8.blk HX7.out (fun e => by have := HGG.out; omega)
                have k3 : w8.cell? ⟨gx, 3, none⟩ = some (.int .u32 0) := hx8.cell 3
                have k4 : w8.cell? ⟨gx, 4, none⟩ = some (.int .u32 0) := hx8.cell 4
                have k5 : w8.cell? ⟨gx, 5, none⟩ = some (.int .u32 0) := hx8.cell 5
                have k6 : w8.cell? ⟨gx, 6, none⟩ = some (.int .u32 0) := hx8.cell 6
                have f3 := hx8.frozen 3
                have f4 := hx8.frozen 4
                have f5 := hx8.frozen 5
                have f6 := hx8.frozen 6
                have HX8 := Lib.hid hx8
                clear hr8 hs8 hx8)))
      obtain ⟨w9, hw9⟩ : ∃ w9, w9 = (((w8.setCell ⟨gx, 3, none⟩ (.int .u32 (x4 : Int))).setCell ⟨gx, 4, none⟩ (.int .u32 (x5 : Int))).setCell ⟨gx, 5, none⟩ (.int .u32 (x6 : Int))).setCell ⟨gx, 6, none⟩ (.int .u32 (x7 : Int)) := ⟨_, rfl⟩
      rw [← hw9]
      clear k3 k4 k5 k6 f3 f4 f5 f6
      have hx9 : Blk w9 gx 81 #[.int .u32 (x1 : Int), .int .u8 (x2 : Int), .int .u32 (x3 : Int), .int .u32 (x4 : Int), .int .u32 (x5 : Int), .int .u32 (x6 : Int), .int .u32 (x7 : Int)] := by
        rw [hw9]
        exact (((HX8.out.set_ 3 _).set_ 4 _).set_ 5 _).set_ 6 _
      have hne : gx ≠ g := by have := HGG.out; omega
      have hBg : B ≤ gx := by have := HGG.out; have := HR.out.1; omega
      have HR9 : Hid (RdSt w9 B g s7) := by
        show RdSt _ _ _ _
        rw [hw9]
        exact (((HR8.out.far (p := ⟨gx, 3, none⟩) hBg hne _).far (p := ⟨gx, 4, none⟩) hBg hne _).far (p := ⟨gx, 5, none⟩) hBg hne _).far (p := ⟨gx, 6, none⟩) hBg hne _
      have HS9 : Hid (Sv (fun j => j = g) wr w9) := by
        show Sv _ _ _
        rw [hw9]
        exact (((HS8.out.set (p := ⟨gx, 3, none⟩) (.inr HGX.out) _).set (p := ⟨gx, 4, none⟩) (.inr HGX.out) _).set (p := ⟨gx, 5, none⟩) (.inr HGX.out) _).set (p := ⟨gx, 6, none⟩) (.inr HGX.out) _
      have k0 : w9.cell? ⟨gx, 0, none⟩ = some (.int .u32 (x1 : Int)) := hx9.cell 0
      have k1 : w9.cell? ⟨gx, 1, none⟩ = some (.int .u8 (x2 : Int)) := hx9.cell 1
      have k2 : w9.cell? ⟨gx, 2, none⟩ = some (.int .u32 (x3 : Int)) := hx9.cell 2
      have k3 : w9.cell? ⟨gx, 3, none⟩ = some (.int .u32 (x4 : Int)) := hx9.cell 3
      have k4 : w9.cell? ⟨gx, 4, none⟩ = some (.int .u32 (x5 : Int)) := hx9.cell 4
      have k5 : w9.cell? ⟨gx, 5, none⟩ = some (.int .u32 (x6 : Int)) := hx9.cell 5
      have k6 : w9.cell? ⟨gx, 6, none⟩ = some (.int .u32 (x7 : Int)) := hx9.cell 6
      have HO9 : Hid (w9.ownsRow w.heap.size 81 7 (.slice Ao i co) i (rowC ks7 (blksS i s).1)) := HS9.out.own HO.out (fun g' hg' e => by
        have := (HO.out.lt g' hg').1
        have := HGL.out
        omega)
      have HRE : Hid (Reads (w9.alloc (.cells #[.int .u32 (x1 : Int), .int .u8 (x2 : Int), .int .u32 (x3 : Int), .int .u32 (x4 : Int), .int .u32 (x5 : Int), .int .u32 (x6 : Int), .int .u32 (x7 : Int)] 81)) (w9.alloc (.cells #[.int .u32 (x1 : Int), .int .u8 (x2 : Int), .int .u32 (x3 : Int), .int .u32 (x4 : Int), .int .u32 (x5 : Int), .int .u32 (x6 : Int), .int .u32 (x7 : Int)] 81)).heap.size 7 (some ⟨w9.heap.size, 0, none⟩) 1 (rowC ks7 [[x1, x2, x3, x4, x5, x6, x7]])) := reads_blk (Blk.new _ _ _) rfl
      have HBS : Hid (w.heap.size ≤ (w9.alloc (.cells #[.int .u32 (x1 : Int), .int .u8 (x2 : Int), .int .u32 (x3 : Int), .int .u32 (x4 : Int), .int .u32 (x5 : Int), .int .u32 (x6 : Int), .int .u32 (x7 : Int)] 81)).heap.size) := Nat.le_trans HS.out.size (Nat.le_trans HS9.out.size (by rw [World.size_alloc]; omega))
      clear hw9 hx9 hne hBg HR4 HS4 HX4 HR5 HS5 HX5 HR6 HS6 HX6 HR7 HS7 HX7 HR8 HS8 HX8
      go_wp2_with
       (at_builtin
        refine wpList_append_any _ rfl (.tmp 31) (.tmp 33) _ rfl w.heap.size 81 i7 _ 7 28 Try.underlying42 hi7 hz0 hz1 hz2 rfl (by omega) (.slice Ao i co) i (rowC ks7 (blksS i s).1) rfl (HO9.out.alloc _)
          _ (some ⟨w9.heap.size, 0, none⟩) 1 1 (rowC ks7 [[x1, x2, x3, x4, x5, x6, x7]]) rfl HRE.out (rowC_cell _ _) (by simp only [maxLen]; omega) (by omega) HBS.out ?_
        intro v10 w10 hown hg10 hv10
        obtain ⟨A10, c10, rfl⟩ := own_slice hown
        have HR10 : Hid (RdSt w10 B g s7) := (HR9.out.below (balloc (Below.refl _ _) _)).sv (M := fun k => (Value.slice Ao i co).ownBlock = some k) ((Sv.refl _ _).grown hg10 (fun g e => .inl e)) (fun k e => by
          have := (HO.out.lt k e).1
          have := HGL.out
          have := HR.out.1
          omega) (fun e => by
          have := (HO.out.lt g e).1
          have := HGL.out
          omega)
        have HS10 : Hid (Sv (fun j => j = g) w w10) := (HS.out.trans_ (HS9.out.alloc _)).grown hg10 (fun g' e => .inr (HO.out.lt g' e).1)
        have HO10 := Lib.hid hown
        clear hown hg10 hv10)
      go_roundg (n - (i + 1))
      case measure => omega
      case rel =>
        refine ⟨i + 1, A10, c10, by omega, rfl, by go_num, rfl, ?_, ?_, HS10.out⟩
        · rw [HBL.out, rowC_append]
          exact HO10.out
        · rw [HBL.out]
          exact HR10.out
    · have hin2 : i = n := by omega
      subst hin2
      go_wp2_with fail
      go_ret
      exact ⟨_, rfl, HO.out, HR.out, HS.out⟩
end Go.Proofs.Ytkfimncbfbbopaa
