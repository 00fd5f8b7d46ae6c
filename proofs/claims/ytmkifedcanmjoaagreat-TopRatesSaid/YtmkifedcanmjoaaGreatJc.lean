/- Texts of this claim, one behind the other: QRtcp, QNum, QBlks, QHeld, QAbout. Each says ahead of itself what it proves, and its conditions. -/
import Derived.Test.YtmkifedcanmjoaaGreatJa
import Derived.Test.YtmkifedcanmjoaaGreatJb
import Derived.Deep.RegionHeld3
/- Reports as plain data: numbers read off bytes. No program in sight. -/
set_option linter.unusedVariables false
namespace Go.Proofs.YtmkifedcanmjoaaGreat

/-- A number of bytes, the highest first. -/
def beV : List UInt8 → Nat := List.foldl (fun x c => 256 * x + c.toNat) 0
theorem beV_snoc (l : List UInt8) (c : UInt8) : beV (l ++ [c]) = 256 * beV l + c.toNat := by
  unfold beV
  rw [List.foldl_append]
  rfl
theorem beV_ltAux : ∀ (l : List UInt8) (x : Nat), List.foldl (fun x (c : UInt8) => 256 * x + c.toNat) x l < (x + 1) * 256 ^ l.length
  | [], x => by simp
  | c :: l, x => by
    rw [List.foldl_cons, List.length_cons, Nat.pow_succ]
    have h := beV_ltAux l (256 * x + c.toNat)
    have hc := UInt8.toNat_lt c
    have h2 : (256 * x + c.toNat + 1) * 256 ^ l.length ≤ (256 * (x + 1)) * 256 ^ l.length := Nat.mul_le_mul_right _ (by omega)
    have h3 : (x + 1) * (256 ^ l.length * 256) = (256 * (x + 1)) * 256 ^ l.length := by rw [Nat.mul_comm (256 ^ l.length) 256, ← Nat.mul_assoc, Nat.mul_comm (x + 1) 256]
    omega
theorem beV_lt (l : List UInt8) : beV l < 256 ^ l.length := by
  have := beV_ltAux l 0
  rw [Nat.zero_add, Nat.one_mul] at this
  exact this
/-- What a reader has left, and whether it met too little. -/
abbrev RS := List UInt8 × Bool
/-- Takes a number of k bytes. -/
def numS (k : Nat) (s : RS) : Nat × RS := if s.1.length < k then (0, ([], true)) else (beV (s.1.take k), (s.1.drop k, s.2))
theorem numS_lt (k : Nat) (s : RS) (hk : 0 < k) : (numS k s).1 < 256 ^ k := by
  unfold numS
  split
  · exact Nat.pow_pos (by decide)
  · have := beV_lt (s.1.take k)
    rw [List.length_take] at this
    rwa [Nat.min_eq_left (by omega)] at this
theorem numS_len (k : Nat) (s : RS) : (numS k s).2.1.length ≤ s.1.length := by
  unfold numS
  split
  · simp
  · simp
/-- Seven numbers of a block. -/
def blkS (s : RS) : List Nat × RS :=
  let a := numS 4 s
  let b := numS 1 a.2
  let c := numS 3 b.2
  let d := numS 4 c.2
  let e := numS 4 d.2
  let f := numS 4 e.2
  let g := numS 4 f.2
  ([a.1, b.1, c.1, d.1, e.1, f.1, g.1], g.2)
def blksS : Nat → RS → List (List Nat) × RS
  | 0, s => ([], s)
  | n + 1, s => ((blksS n s).1 ++ [(blkS (blksS n s).2).1], (blkS (blksS n s).2).2)
end Go.Proofs.YtmkifedcanmjoaaGreat
/- What the reader's num and word do (contracts). Conditions: the reader's block and bytes lie in memory. -/
set_option linter.unusedVariables false
set_option linter.unusedSimpArgs false
namespace Go.Proofs.YtmkifedcanmjoaaGreat
open Go.RowKit
attribute [local go_sem ↓] Go.wp_at_zero Go.wp_at_succ

/-- A reader at block g, its bytes below block B. -/
def RdSt (w : World) (B g : Nat) (s : RS) : Prop :=
  B ≤ g ∧ s.1.length ≤ 140737488355328 ∧ ∃ A c, Blk w g 199 #[.slice A s.1.length c, .bool s.2] ∧ SlB w B (.slice A s.1.length c) s.1
theorem RdSt.sv {w w' : World} {B g : Nat} {s : RS} {M : Nat → Prop} (h : RdSt w B g s) (hs : Sv M w w') (hM : ∀ k, M k → B ≤ k) (hg : ¬ M g) : RdSt w' B g s := by
  obtain ⟨h1, h2, A, c, h3, h4⟩ := h
  have hlt := h3.lt
  exact ⟨h1, h2, A, c, hs.blk h3 hg, h4.sv hs (by omega) hM⟩
theorem RdSt.lt {w : World} {B g : Nat} {s : RS} (h : RdSt w B g s) : g < w.heap.size := by
  obtain ⟨h1, h2, A, c, h3, h4⟩ := h
  exact h3.lt
theorem or_byte (Y c : Nat) (hY : Y < 72057594037927936) (hc : c < 256) : bits .or .u64 ((256 * Y : Nat) : Int) (c : Int) = ((256 * Y + c : Nat) : Int) := by
  rw [u64_or_nat _ _ (by omega) (by omega)]
  have := Nat.two_pow_add_eq_or_of_lt (i := 8) hc Y
  rw [show (2 : Nat) ^ 8 = 256 from rfl] at this
  rw [this]
set_option maxHeartbeats 1600000 in
theorem num_c (B g k : Nat) (s : RS) (w : World) (h : RdSt w B g s) (hk0 : 0 < k) (hk : k ≤ 8) :
    Calls Tryz.prog 80 #[.pointer (some ⟨g, 0, none⟩), .int .i64 (k : Int)] w fun e w' => e = .returned (.int .u64 ((numS k s).1 : Int)) ∧ RdSt w' B g (numS k s).2 ∧ Sv (fun j => j = g) w w' := by
  obtain ⟨b, bad⟩ := s
  obtain ⟨hB, hbl, A, c, hblk, hsl⟩ := h
  simp only at hbl hblk hsl
  have hc0 := hblk.cell 0
  have hc1 := hblk.cell 1
  have hf0 := hblk.frozen 0
  have hf1 := hblk.frozen 1
  obtain ⟨n, hn⟩ : ∃ n, n = b.length := ⟨_, rfl⟩
  rw [← hn] at hbl hblk hsl hc0
  have HBLK := Lib.hid hblk
  have HSL := Lib.hid hsl
  have HN := Lib.hid hn
  have hc0' : w.cell? ⟨g, 0, none⟩ = some (.slice A n c) := hc0
  have hc1' : w.cell? ⟨g, 1, none⟩ = some (.bool bad) := hc1
  by_cases hlt : n < k
  · have hlti : (n : Int) < (k : Int) := by omega
    have HNS : Hid (numS k (b, bad) = (0, ([], true))) := by show _ = _; rw [numS, if_pos (by show b.length < k; omega)]
    clear hc0 hc1 hblk hsl hn
    go_enter Tryz.func80, Tryz.ntmps80
    go_wp2_with fail
    go_ret
    rw [HNS.out]
    refine ⟨rfl, ⟨hB, by simp, none, 0, (HBLK.out.set_ 1 _).set_ 0 _, SlB.nil _ _⟩, ?_⟩
    exact ((Sv.refl (fun j => j = g) w).set (p := ⟨g, 1, none⟩) (.inl rfl) _).set (p := ⟨g, 0, none⟩) (.inl rfl) _
  · have hlti : ¬ (n : Int) < (k : Int) := by omega
    have hkn : k ≤ n := by omega
    have hcap := hsl.cap
    obtain ⟨gb, o, hA, hgb, hcells⟩ := head_cells (hn ▸ hsl.rd) (by omega)
    subst hA
    have hct := fun wx : World => cut_to0 wx ⟨gb, o, none⟩ n c k (by omega)
    have hcf := fun wx : World => cut_from wx (some ⟨gb, o, none⟩) n c k hkn
    have HNS : Hid (numS k (b, bad) = (beV (b.take k), (b.drop k, bad))) := by show _ = _; rw [numS, if_neg (by show ¬ b.length < k; omega)]
    have HC := Lib.hid hcells
    clear hc0 hc1 hblk hsl hn hcells
    go_enter Tryz.func80, Tryz.ntmps80
    go_upto_region 6 with fail
    go_loop [5, 28] (fun x i => ∃ j : Nat, j ≤ k ∧ i = .int .i64 (j : Int) ∧ x = .int .u64 ((beV (b.take j) : Nat) : Int)) (fun _ i => k - (intOf i).toNat)
    case atStart => exact ⟨0, Nat.zero_le _, rfl, rfl⟩
    case round =>
      obtain ⟨j, hj, rfl, rfl⟩ := hrel
      have hbv := beV_lt (b.take j)
      rw [List.length_take, Nat.min_eq_left (by have := HN.out; omega)] at hbv
      obtain ⟨X, hX⟩ : ∃ X, X = beV (b.take j) := ⟨_, rfl⟩
      rw [← hX] at hbv
      rw [← hX]
      by_cases hjk : j < k
      · have hji : (j : Int) < (k : Int) := by omega
        have hX2 : X < 72057594037927936 := by
          have : (256 : Nat) ^ j ≤ 256 ^ 7 := Nat.pow_le_pow_right (by decide) (by omega)
          have e : (256 : Nat) ^ 7 = 72057594037927936 := by decide
          omega
        have hcell := HC.out j (by have := HN.out; omega)
        obtain ⟨y, hy⟩ : ∃ y, y = b.getD j 0 := ⟨_, rfl⟩
        rw [← hy] at hcell
        have hyl := U8.lt y
        obtain ⟨Y, hY⟩ : ∃ Y, Y = 256 * X := ⟨_, rfl⟩
        have hYi : (X : Int) * 256 = (Y : Int) := by omega
        have hYm : (X : Int) * 256 % 18446744073709551616 = (Y : Int) := by omega
        have hor := or_byte X y.toNat hX2 (by omega)
        rw [← hY] at hor
        obtain ⟨Z, hZ⟩ : ∃ Z, Z = Y + y.toNat := ⟨_, rfl⟩
        rw [← hZ] at hor
        have HNX : Hid (beV (b.take (j + 1)) = Z) := by
          show _ = _
          have hjl : j < b.length := by have := HN.out; omega
          rw [List.take_succ_eq_append_getElem hjl, beV_snoc, ← hX, hZ, hY, hy, List.getD_eq_getElem?_getD, List.getElem?_eq_getElem hjl]
          rfl
        clear hbv hX hY hZ hy
        go_wp2_with fail
        go_round
        case rel => exact ⟨j + 1, by omega, by go_num, by rw [HNX.out]⟩
        case measure => simp [intOf]; omega
      · have hjk2 : j = k := by omega
        subst hjk2
        have hji : ¬ (j : Int) < (j : Int) := by omega
        have HX := Lib.hid hX
        clear hbv hX
        go_wp2_with fail
        go_ret
        rw [HNS.out]
        refine ⟨by rw [HX.out]; rfl, ⟨hB, by simp; have := HN.out; omega, cutA (some ⟨gb, o, none⟩) c j, c - j, ?_, ?_⟩, ?_⟩
        · have := HBLK.out.set_ 0 (.slice (cutA (some ⟨gb, o, none⟩) c j) (n - j) (c - j))
          have e : (b.drop j).length = n - j := by rw [List.length_drop, ← HN.out]
          show Blk _ _ _ #[.slice _ (b.drop j).length _, _]
          rw [e]
          exact this
        · have := HSL.out.drop (k := j) (by omega)
          have e : (b.drop j).length = n - j := by rw [List.length_drop, ← HN.out]
          show SlB _ _ (.slice _ (b.drop j).length _) _
          rw [e]
          refine SlB.keep this (fun p hp => World.cell?_setCell_other _ _ _ _ (fun e => ?_))
          subst e
          have : g < B := hp
          omega
        · exact (Sv.refl (fun j => j = g) w).set (p := ⟨g, 0, none⟩) (.inl rfl) _
theorem word_c (B g : Nat) (s : RS) (w : World) (h : RdSt w B g s) :
    Calls Tryz.prog 79 #[.pointer (some ⟨g, 0, none⟩)] w fun e w' => e = .returned (.int .u32 ((numS 4 s).1 : Int)) ∧ RdSt w' B g (numS 4 s).2 ∧ Sv (fun j => j = g) w w' := by
  have HNC := Lib.hid (num_c B g 4 s w h (by decide) (by decide))
  have hlt := numS_lt 4 s (by decide)
  obtain ⟨X, hX⟩ : ∃ X, X = (numS 4 s).1 := ⟨_, rfl⟩
  rw [← hX] at hlt ⊢
  have hlt2 : (X : Int) < 4294967296 := by omega
  have HX := Lib.hid hX
  clear hX h hlt
  go_enter Tryz.func79, Tryz.ntmps79
  go_wp2_with (first
    | (go_at_call 80
       refine HNC.out.mono ?_
       rintro e0 w1 ⟨he, hr1, hs1⟩
       rw [← HX.out] at he
       subst he
       have HR1 := Lib.hid hr1
       have HS1 := Lib.hid hs1
       clear hr1 hs1))
  go_ret
  exact ⟨rfl, HR1.out, HS1.out⟩
end Go.Proofs.YtmkifedcanmjoaaGreat
/- What the reader's blocks does (contract). Conditions: the reader's block and bytes lie in memory. -/
set_option linter.unusedVariables false
set_option linter.unusedSimpArgs false
namespace Go.Proofs.YtmkifedcanmjoaaGreat
open Go.RowKit
attribute [local go_sem ↓] Go.wp_at_zero Go.wp_at_succ

/-- Rows of numbers of kinds ks, cell by cell. -/
def numV (k : IntKind) (n : Nat) : Value := .int k (n : Int)
def rowC (ks : List IntKind) (l : List (List Nat)) : List Value := l.flatMap fun e => List.zipWith numV ks e
theorem rowC_append (ks : List IntKind) (a b : List (List Nat)) : rowC ks (a ++ b) = rowC ks a ++ rowC ks b := by simp [rowC]
theorem rowC_one (ks : List IntKind) (e : List Nat) : rowC ks [e] = List.zipWith numV ks e := by simp [rowC]
theorem rowC_len (ks : List IntKind) : ∀ l : List (List Nat), (∀ e ∈ l, e.length = ks.length) → (rowC ks l).length = l.length * ks.length
  | [], _ => by simp [rowC]
  | e :: l, h => by
    have h1 := rowC_len ks l fun x hx => h x (List.mem_cons_of_mem _ hx)
    have h2 := h e (List.mem_cons_self ..)
    have e1 : rowC ks (e :: l) = List.zipWith numV ks e ++ rowC ks l := by simp [rowC]
    rw [e1, List.length_append, h1, List.length_zipWith, h2, Nat.min_self, List.length_cons, Nat.add_mul, Nat.one_mul, Nat.add_comm]
def ks7 : List IntKind := [.u32, .u8, .u32, .u32, .u32, .u32, .u32]
theorem blksS_len (n : Nat) (s : RS) : (blksS n s).1.length = n := by
  induction n with
  | zero => rfl
  | succ n ih => rw [blksS, List.length_append, ih]; rfl
theorem infoBlk : (Tryz.prog.info? 147).map (fun i => (i.zero, i.size, i.bytes)) = some (some (.agg #[.int .u32 0, .int .u8 0, .int .u32 0, .int .u32 0, .int .u32 0, .int .u32 0, .int .u32 0]), 7, 28) := by kernel_rfl
theorem num_z {B g k : Nat} {z : Int} {s : RS} {w : World} (h : RdSt w B g s) (hz : z = (k : Int)) (hk0 : 0 < k) (hk : k ≤ 8) {X : Nat} {s' : RS} (hX : numS k s = (X, s')) :
    Calls Tryz.prog 80 #[.pointer (some ⟨g, 0, none⟩), .int .i64 z] w fun e w' => e = .returned (.int .u64 (X : Int)) ∧ RdSt w' B g s' ∧ Sv (fun j => j = g) w w' := by
  subst hz
  have := num_c B g k s w h hk0 hk
  rw [hX] at this
  exact this
theorem word_z {B g : Nat} {s : RS} {w : World} (h : RdSt w B g s) {X : Nat} {s' : RS} (hX : numS 4 s = (X, s')) :
    Calls Tryz.prog 79 #[.pointer (some ⟨g, 0, none⟩)] w fun e w' => e = .returned (.int .u32 (X : Int)) ∧ RdSt w' B g s' ∧ Sv (fun j => j = g) w w' := by
  have := word_c B g s w h
  rw [hX] at this
  exact this
theorem numS_x (k : Nat) (s : RS) (hk : 0 < k) : ∃ X s', numS k s = (X, s') ∧ X < 256 ^ k := ⟨(numS k s).1, (numS k s).2, rfl, numS_lt k s hk⟩
theorem rowC_cell (ks : List IntKind) (l : List (List Nat)) : ∀ u ∈ rowC ks l, u.oneCell' = true := by
  intro u hu
  obtain ⟨e, _, he⟩ := List.mem_flatMap.1 hu
  obtain ⟨i, hi, rfl⟩ := List.mem_iff_getElem.1 he
  rw [List.getElem_zipWith]
  rfl
theorem reads_blk {w : World} {g : Nat} {t : TypeId} {cs : Array Value} {n size : Nat} (h : Blk w g t cs) (hs : cs.size = n * size) : Reads w w.heap.size size (some ⟨g, 0, none⟩) n cs.toList := by
  refine ⟨by simpa using hs, fun hn => ⟨_, rfl, h.lt, fun j u hu => ?_⟩⟩
  rw [Go.WideShapes.add_plain, Nat.zero_add, Blk.cell h, ← Array.getElem?_toList]
  exact hu
theorem RdSt.below {w w' : World} {B g : Nat} {s : RS} (h : RdSt w B g s) (hb : Below w.heap.size w w') : RdSt w' B g s := h.sv (M := fun _ => False) (Sv.of_below hb) (fun _ h => h.elim) (fun h => h)
theorem RdSt.far {w : World} {B g : Nat} {s : RS} {p : Addr} (h : RdSt w B g s) (hB : B ≤ p.block) (hp : p.block ≠ g) (u : Value) : RdSt (w.setCell p u) B g s :=
  h.sv (M := fun k => k = p.block) ((Sv.refl (fun k => k = p.block) w).set (.inl rfl) u) (fun k e => by omega) (fun e => hp e.symm)
set_option maxRecDepth 100000 in
set_option maxHeartbeats 6400000 in
theorem blocks_c (B g n : Nat) (s : RS) (w : World) (h : RdSt w B g s) (hn : n ≤ 31) :
    Calls Tryz.prog 81 #[.pointer (some ⟨g, 0, none⟩), .int .i64 (n : Int)] w fun e w' => ∃ v, e = .returned v ∧ w'.ownsRow w.heap.size 147 7 v n (rowC ks7 (blksS n s).1) ∧ RdSt w' B g (blksS n s).2 ∧ Sv (fun j => j = g) w w' := by
  obtain ⟨i7, hi7, hz0, hz1, hz2⟩ := info_parts infoBlk
  have hgl := h.lt
  have H := Lib.hid h
  have HGL := Lib.hid hgl
  clear h hgl
  go_enter Tryz.func81, Tryz.ntmps81
  go_upto_region 3 with fail
  go_loopg [5, 8] n (fun gg v5 v8 wx => ∃ (i : Nat) (Ao : Option Addr) (co : Nat), i ≤ n ∧ gg = n - i ∧ v8 = .int .i64 (i : Int) ∧ v5 = .slice Ao i co ∧ wx.ownsRow w.heap.size 147 7 (.slice Ao i co) i (rowC ks7 (blksS i s).1) ∧ RdSt wx B g (blksS i s).2 ∧ Sv (fun j => j = g) w wx)
  case atStart => exact ⟨0, none, 0, Nat.zero_le _, rfl, rfl, rfl, World.ownsRow_nil _ _ _ _, H.out, Sv.refl _ _⟩
  case round =>
    obtain ⟨i, Ao, co, hi, rfl, rfl, rfl, ho, hr, hs⟩ := hrel
    have HO := Lib.hid ho
    have HR := Lib.hid hr
    have HS := Lib.hid hs
    clear ho hr hs
    by_cases hin : i < n
    · have hii : (i : Int) < (n : Int) := by omega
      obtain ⟨x1, s1, e1, b1⟩ := numS_x 4 (blksS i s).2 (by decide)
      obtain ⟨x2, s2, e2, b2⟩ := numS_x 1 s1 (by decide)
      obtain ⟨x3, s3, e3, b3⟩ := numS_x 3 s2 (by decide)
      obtain ⟨x4, s4, e4, b4⟩ := numS_x 4 s3 (by decide)
      obtain ⟨x5, s5, e5, b5⟩ := numS_x 4 s4 (by decide)
      obtain ⟨x6, s6, e6, b6⟩ := numS_x 4 s5 (by decide)
      obtain ⟨x7, s7, e7, b7⟩ := numS_x 4 s6 (by decide)
      have hx2 : (x2 : Int) < 256 := by omega
      have hx3 : (x3 : Int) < 4294967296 := by omega
      have HBL : Hid (blksS (i + 1) s = ((blksS i s).1 ++ [[x1, x2, x3, x4, x5, x6, x7]], s7)) := by
        show _ = _
        rw [blksS, blkS]
        simp only [e1, e2, e3, e4, e5, e6, e7]
      have HE1 := Lib.hid e1
      have HE2 := Lib.hid e2
      have HE3 := Lib.hid e3
      have HE4 := Lib.hid e4
      have HE5 := Lib.hid e5
      have HE6 := Lib.hid e6
      have HE7 := Lib.hid e7
      clear e1 e2 e3 e4 e5 e6 e7 b1 b2 b3 b4 b5 b6 b7
      go_upto_region 5 with (first
        | (go_at_call 79
           refine (word_z HR.out HE1.out).mono ?_
           rintro e0 w1 ⟨rfl, hr1, hs1⟩
           have HR1 := Lib.hid hr1
           have HS1 := Lib.hid hs1
           clear hr1 hs1)
        | (go_at_call 80
           first
             | ((with_reducible show Calls _ _ _ w1 _)
                refine (num_z HR1.out (k := 1) rfl (by decide) (by decide) HE2.out).mono ?_
                rintro e0 w2 ⟨rfl, hr2, hs2⟩
                have HR2 := Lib.hid hr2
                have HS2 := Lib.hid (HS1.out.trans_ hs2)
                clear hr2 hs2)
             | ((with_reducible show Calls _ _ _ w2 _)
                refine (num_z HR2.out (k := 3) rfl (by decide) (by decide) HE3.out).mono ?_
                rintro e0 w3 ⟨rfl, hr3, hs3⟩
                have HR3 := Lib.hid hr3
                have HS3 := Lib.hid (HS2.out.trans_ hs3)
                clear hr3 hs3)))
      obtain ⟨gx, hgx⟩ : ∃ gx, gx = w3.heap.size := ⟨_, rfl⟩
      obtain ⟨w4, hw4⟩ : ∃ w4, w4 = w3.alloc (.cells #[.int .u32 (x1 : Int), .int .u8 (x2 : Int), .int .u32 (x3 : Int), .int .u32 0, .int .u32 0, .int .u32 0, .int .u32 0] 147) := ⟨_, rfl⟩
      rw [← hw4, ← hgx]
      have HX4 : Hid (Blk w4 gx 147 #[.int .u32 (x1 : Int), .int .u8 (x2 : Int), .int .u32 (x3 : Int), .int .u32 0, .int .u32 0, .int .u32 0, .int .u32 0]) := by show Blk _ _ _ _; rw [hw4]; exact Blk.newAt hgx _ _
      have HR4 : Hid (RdSt w4 B g s3) := by show RdSt _ _ _ _; rw [hw4]; exact HR3.out.below (balloc (Below.refl _ _) _)
      have HS4 : Hid (Sv (fun j => j = g) wr w4) := by show Sv _ _ _; rw [hw4]; exact HS3.out.alloc _
      have HGX : Hid (wr.heap.size ≤ gx) := by show _ ≤ _; rw [hgx]; exact HS3.out.size
      have hgg : g < gx := by have := HGX.out; have := HR.out.lt; omega
      have HGG := Lib.hid hgg
      clear hw4 hgx hgg HR1 HS1 HR2 HS2 HR3 HS3
      go_upto_region 6 with (first
        | (go_at_call 79
           first
             | ((with_reducible show Calls _ _ _ w4 _)
                refine (word_z HR4.out HE4.out).mono ?_
                rintro e0 w5 ⟨rfl, hr5, hs5⟩
                have HR5 := Lib.hid hr5
                have HS5 := Lib.hid (HS4.out.trans_ hs5)
                have HX5 := Lib.hid (hs5.blk HX4.out (fun e => by have := HGG.out; omega))
                clear hr5 hs5)
             | ((with_reducible show Calls _ _ _ w5 _)
                refine (word_z HR5.out HE5.out).mono ?_
                rintro e0 w6 ⟨rfl, hr6, hs6⟩
                have HR6 := Lib.hid hr6
                have HS6 := Lib.hid (HS5.out.trans_ hs6)
                have HX6 := Lib.hid (hs6.blk HX5.out (fun e => by have := HGG.out; omega))
                clear hr6 hs6)
             | ((with_reducible show Calls _ _ _ w6 _)
                refine (word_z HR6.out HE6.out).mono ?_
                rintro e0 w7 ⟨rfl, hr7, hs7⟩
                have HR7 := Lib.hid hr7
                have HS7 := Lib.hid (HS6.out.trans_ hs7)
                have HX7 := Lib.hid (hs7.blk HX6.out (fun e => by have := HGG.out; omega))
                clear hr7 hs7)
             | ((with_reducible show Calls _ _ _ w7 _)
                refine (word_z HR7.out HE7.out).mono ?_
                rintro e0 w8 ⟨rfl, hr8, hs8⟩
                have HR8 := Lib.hid hr8
                have HS8 := Lib.hid (HS7.out.trans_ hs8)
                have hx8 := hs8.blk HX7.out (fun e => by have := HGG.out; omega)
                have k3 : w8.cell? ⟨gx, 3, none⟩ = some (.int .u32 0) := hx8.cell 3
                have k4 : w8.cell? ⟨gx, 4, none⟩ = some (.int .u32 0) := hx8.cell 4
                have k5 : w8.cell? ⟨gx, 5, none⟩ = some (.int .u32 0) := hx8.cell 5
                have k6 : w8.cell? ⟨gx, 6, none⟩ = some (.int .u32 0) := hx8.cell 6
                have f3 := hx8.frozen 3
                have f4 := hx8.frozen 4
                have f5 := hx8.frozen 5
                have f6 := hx8.frozen 6
                have HX8 := Lib.hid hx8
                clear hr8 hs8 hx8)))
      obtain ⟨w9, hw9⟩ : ∃ w9, w9 = (((w8.setCell ⟨gx, 3, none⟩ (.int .u32 (x4 : Int))).setCell ⟨gx, 4, none⟩ (.int .u32 (x5 : Int))).setCell ⟨gx, 5, none⟩ (.int .u32 (x6 : Int))).setCell ⟨gx, 6, none⟩ (.int .u32 (x7 : Int)) := ⟨_, rfl⟩
      rw [← hw9]
      clear k3 k4 k5 k6 f3 f4 f5 f6
      have hx9 : Blk w9 gx 147 #[.int .u32 (x1 : Int), .int .u8 (x2 : Int), .int .u32 (x3 : Int), .int .u32 (x4 : Int), .int .u32 (x5 : Int), .int .u32 (x6 : Int), .int .u32 (x7 : Int)] := by
        rw [hw9]
        exact (((HX8.out.set_ 3 _).set_ 4 _).set_ 5 _).set_ 6 _
      have hne : gx ≠ g := by have := HGG.out; omega
      have hBg : B ≤ gx := by have := HGG.out; have := HR.out.1; omega
      have HR9 : Hid (RdSt w9 B g s7) := by
        show RdSt _ _ _ _
        rw [hw9]
        exact (((HR8.out.far (p := ⟨gx, 3, none⟩) hBg hne _).far (p := ⟨gx, 4, none⟩) hBg hne _).far (p := ⟨gx, 5, none⟩) hBg hne _).far (p := ⟨gx, 6, none⟩) hBg hne _
      have HS9 : Hid (Sv (fun j => j = g) wr w9) := by
        show Sv _ _ _
        rw [hw9]
        exact (((HS8.out.set (p := ⟨gx, 3, none⟩) (.inr HGX.out) _).set (p := ⟨gx, 4, none⟩) (.inr HGX.out) _).set (p := ⟨gx, 5, none⟩) (.inr HGX.out) _).set (p := ⟨gx, 6, none⟩) (.inr HGX.out) _
      have k0 : w9.cell? ⟨gx, 0, none⟩ = some (.int .u32 (x1 : Int)) := hx9.cell 0
      have k1 : w9.cell? ⟨gx, 1, none⟩ = some (.int .u8 (x2 : Int)) := hx9.cell 1
      have k2 : w9.cell? ⟨gx, 2, none⟩ = some (.int .u32 (x3 : Int)) := hx9.cell 2
      have k3 : w9.cell? ⟨gx, 3, none⟩ = some (.int .u32 (x4 : Int)) := hx9.cell 3
      have k4 : w9.cell? ⟨gx, 4, none⟩ = some (.int .u32 (x5 : Int)) := hx9.cell 4
      have k5 : w9.cell? ⟨gx, 5, none⟩ = some (.int .u32 (x6 : Int)) := hx9.cell 5
      have k6 : w9.cell? ⟨gx, 6, none⟩ = some (.int .u32 (x7 : Int)) := hx9.cell 6
      have HO9 : Hid (w9.ownsRow w.heap.size 147 7 (.slice Ao i co) i (rowC ks7 (blksS i s).1)) := HS9.out.own HO.out (fun g' hg' e => by
        have := (HO.out.lt g' hg').1
        have := HGL.out
        omega)
      have HRE : Hid (Reads (w9.alloc (.cells #[.int .u32 (x1 : Int), .int .u8 (x2 : Int), .int .u32 (x3 : Int), .int .u32 (x4 : Int), .int .u32 (x5 : Int), .int .u32 (x6 : Int), .int .u32 (x7 : Int)] 147)) (w9.alloc (.cells #[.int .u32 (x1 : Int), .int .u8 (x2 : Int), .int .u32 (x3 : Int), .int .u32 (x4 : Int), .int .u32 (x5 : Int), .int .u32 (x6 : Int), .int .u32 (x7 : Int)] 147)).heap.size 7 (some ⟨w9.heap.size, 0, none⟩) 1 (rowC ks7 [[x1, x2, x3, x4, x5, x6, x7]])) := reads_blk (Blk.new _ _ _) rfl
      have HBS : Hid (w.heap.size ≤ (w9.alloc (.cells #[.int .u32 (x1 : Int), .int .u8 (x2 : Int), .int .u32 (x3 : Int), .int .u32 (x4 : Int), .int .u32 (x5 : Int), .int .u32 (x6 : Int), .int .u32 (x7 : Int)] 147)).heap.size) := Nat.le_trans HS.out.size (Nat.le_trans HS9.out.size (by rw [World.size_alloc]; omega))
      clear hw9 hx9 hne hBg HR4 HS4 HX4 HR5 HS5 HX5 HR6 HS6 HX6 HR7 HS7 HX7 HR8 HS8 HX8
      go_wp2_with
       (at_builtin
        refine wpList_append_any _ rfl (.tmp 31) (.tmp 33) _ rfl w.heap.size 147 i7 _ 7 28 Tryz.underlying77 hi7 hz0 hz1 hz2 rfl (by omega) (.slice Ao i co) i (rowC ks7 (blksS i s).1) rfl (HO9.out.alloc _)
          _ (some ⟨w9.heap.size, 0, none⟩) 1 1 (rowC ks7 [[x1, x2, x3, x4, x5, x6, x7]]) rfl HRE.out (rowC_cell _ _) (by simp only [maxLen]; omega) (by omega) HBS.out ?_
        intro v10 w10 hown hg10 hv10
        obtain ⟨A10, c10, rfl⟩ := own_slice hown
        have HR10 : Hid (RdSt w10 B g s7) := (HR9.out.below (balloc (Below.refl _ _) _)).sv (M := fun k => (Value.slice Ao i co).ownBlock = some k) ((Sv.refl _ _).grown hg10 (fun g e => .inl e)) (fun k e => by
          have := (HO.out.lt k e).1
          have := HGL.out
          have := HR.out.1
          omega) (fun e => by
          have := (HO.out.lt g e).1
          have := HGL.out
          omega)
        have HS10 : Hid (Sv (fun j => j = g) w w10) := (HS.out.trans_ (HS9.out.alloc _)).grown hg10 (fun g' e => .inr (HO.out.lt g' e).1)
        have HO10 := Lib.hid hown
        clear hown hg10 hv10)
      go_roundg (n - (i + 1))
      case measure => omega
      case rel =>
        refine ⟨i + 1, A10, c10, by omega, rfl, by go_num, rfl, ?_, ?_, HS10.out⟩
        · rw [HBL.out, rowC_append]
          exact HO10.out
        · rw [HBL.out]
          exact HR10.out
    · have hin2 : i = n := by omega
      subst hin2
      go_wp2_with fail
      go_ret
      exact ⟨_, rfl, HO.out, HR.out, HS.out⟩
end Go.Proofs.YtmkifedcanmjoaaGreat
/- Steps of a drawn region walked by hand. Conditions: as each says. -/
set_option linter.unusedVariables false
namespace Go.Proofs.YtmkifedcanmjoaaGreat
open Go.RowKit
end Go.Proofs.YtmkifedcanmjoaaGreat
/- What the reader's about does (contracts, one for each kind). Conditions: the reader and the report lie in memory. (Printed by gen8a.py.) -/
set_option linter.unusedVariables false
set_option linter.unusedSimpArgs false
namespace Go.Proofs.YtmkifedcanmjoaaGreat
open Go.RowKit
attribute [local go_sem ↓] Go.wp_at_zero Go.wp_at_succ

def ksP : List IntKind := [.u16, .u16]
def ksF : List IntKind := [.u32, .u8]
def ksS : List IntKind := [.u32]
theorem infoPair : (Tryz.prog.info? 196).map (fun i => (i.zero, i.size, i.bytes)) = some (some (.agg #[.int .u16 0, .int .u16 0]), 2, 4) := by kernel_rfl
theorem infoFir : (Tryz.prog.info? 148).map (fun i => (i.zero, i.size, i.bytes)) = some (some (.agg #[.int .u32 0, .int .u8 0]), 2, 8) := by kernel_rfl
theorem infoU32 : (Tryz.prog.info? 32).map (fun i => (i.zero, i.size, i.bytes)) = some (some (.int .u32 0), 1, 4) := by kernel_rfl
/-- A report's cells. -/
def repA (k : Int) (fr ab ntp ts pk oc : Nat) (vb vp vf : Value) (ex : Int) (mt : Nat) (vs : Value) (ty ct : Int) (vd : Value) : Array Value :=
  #[.int .i64 k, .int .u32 (fr : Int), .int .u32 (ab : Int), .int .u64 (ntp : Int), .int .u32 (ts : Int), .int .u32 (pk : Int), .int .u32 (oc : Int), vb, vp, vf, .int .i64 ex, .int .u32 (mt : Int), vs, .int .i64 ty, .int .i64 ct, vd]
def nilV : Value := .slice none 0 0
/-- Rounds until nothing is left. -/
def doS (f : RS → List Nat × RS) : Nat → RS → List (List Nat) × RS
  | 0, s => ([], s)
  | n + 1, s => if (f s).2.1 = [] then ([(f s).1], (f s).2) else ((f s).1 :: (doS f n (f s).2).1, (doS f n (f s).2).2)
def itS (f : RS → List Nat × RS) : Nat → RS → List (List Nat) × RS
  | 0, s => ([], s)
  | n + 1, s => ((itS f n s).1 ++ [(f (itS f n s).2).1], (f (itS f n s).2).2)
def pairS (s : RS) : List Nat × RS := ([(numS 2 s).1, (numS 2 (numS 2 s).2).1], (numS 2 (numS 2 s).2).2)
def firS (s : RS) : List Nat × RS :=
  ([(numS 4 s).1, (numS 1 (numS 4 s).2).1], ((numS 3 (numS 1 (numS 4 s).2).2).2.1, (numS 3 (numS 1 (numS 4 s).2).2).2.2 || decide ((numS 3 (numS 1 (numS 4 s).2).2).1 ≠ 0)))
def ssrcS (s : RS) : List Nat × RS := ([(numS 4 s).1], (numS 4 s).2)
theorem numS_shorter (k : Nat) (s : RS) (hk : 0 < k) (h : s.1 ≠ []) : (numS k s).2.1.length < s.1.length := by
  have hp : 0 < s.1.length := List.length_pos_iff.2 h
  unfold numS
  split
  · simpa using hp
  · simp; omega
theorem numS_nil (k : Nat) (s : RS) (hk : 0 < k) (h : s.1 = []) : (numS k s).2.1 = [] := by
  unfold numS
  rw [if_pos (by rw [h]; exact hk)]
theorem numS_le (k : Nat) (s : RS) : (numS k s).2.1.length ≤ s.1.length := numS_len k s
/-- A round takes something, where there is something. -/
def Shrinks (f : RS → List Nat × RS) : Prop := ∀ s : RS, (f s).2.1 ≠ [] → (f s).2.1.length < s.1.length
theorem doS_more {f : RS → List Nat × RS} (n : Nat) {s s' : RS} {x : List Nat} (h : f s = (x, s')) (hne : s'.1 ≠ []) : doS f (n + 1) s = (x :: (doS f n s').1, (doS f n s').2) := by
  rw [doS, h, if_neg hne]
theorem doS_end {f : RS → List Nat × RS} (n : Nat) {s s' : RS} {x : List Nat} (h : f s = (x, s')) (he : s'.1 = []) : doS f (n + 1) s = ([x], s') := by
  rw [doS, h, if_pos he]
theorem shr_pair : Shrinks pairS := fun s h => by
  have hne : s.1 ≠ [] := fun e => h (by show (numS 2 (numS 2 s).2).2.1 = []; exact numS_nil 2 _ (by decide) (numS_nil 2 _ (by decide) e))
  have h1 := numS_shorter 2 s (by decide) hne
  have h2 := numS_len 2 (numS 2 s).2
  show (numS 2 (numS 2 s).2).2.1.length < _
  omega
theorem shr_fir : Shrinks firS := fun s h => by
  have hne : s.1 ≠ [] := fun e => h (by show (numS 3 (numS 1 (numS 4 s).2).2).2.1 = []; exact numS_nil 3 _ (by decide) (numS_nil 1 _ (by decide) (numS_nil 4 _ (by decide) e)))
  have h1 := numS_shorter 4 s (by decide) hne
  have h2 := numS_len 1 (numS 4 s).2
  have h3 := numS_len 3 (numS 1 (numS 4 s).2).2
  show (numS 3 (numS 1 (numS 4 s).2).2).2.1.length < _
  omega
set_option maxRecDepth 100000 in
set_option maxHeartbeats 3200000 in
theorem about4_c (B g gx fr : Nat) (s : RS) (w : World) (h : RdSt w B g s) (hx : Blk w gx 81 (repA 4 fr 0 0 0 0 0 nilV nilV nilV 0 0 nilV 0 0 nilV)) (hB : B ≤ gx) (hne : g ≠ gx) :
    Calls Tryz.prog 82 #[.pointer (some ⟨g, 0, none⟩), .pointer (some ⟨gx, 0, none⟩)] w fun e w' => e = .returned (.tuple #[]) ∧ Blk w' gx 81 (repA 4 fr (numS 4 s).1 0 0 0 0 nilV nilV nilV 0 0 nilV 0 0 nilV) ∧ RdSt w' B g (numS 4 s).2 ∧ Sv (fun j => j = g ∨ j = gx) w w' := by
  obtain ⟨ab, sA, eA, bA⟩ := numS_x 4 s (by decide)
  rw [eA]
  have H := Lib.hid h
  have HX := Lib.hid hx
  have HNE := Lib.hid hne
  have HEA := Lib.hid eA
  clear h hx hne eA bA
  go_enter Tryz.func82, Tryz.ntmps82
  go_wp2_with (first
    | (go_at_call 79
       refine (word_z H.out HEA.out).mono ?_
       rintro e0 w1 ⟨rfl, hr1, hs1⟩
       have hx1 := hs1.blk HX.out (fun e => HNE.out e.symm)
       have k0 : w1.cell? ⟨gx, 0, none⟩ = some (.int .i64 4) := hx1.cell 0
       have k2 : w1.cell? ⟨gx, 2, none⟩ = some (.int .u32 0) := hx1.cell 2
       have f2 := hx1.frozen 2
       have HR1 := Lib.hid hr1
       have HS1 := Lib.hid hs1
       have HX1 := Lib.hid hx1
       clear hr1 hs1 hx1))
  go_end0
  exact ⟨rfl, HX1.out.set_ 2 _, HR1.out.far (p := ⟨gx, 2, none⟩) hB (fun e => HNE.out e.symm) _, (HS1.out.mono (fun _ _ e => .inl e)).set (p := ⟨gx, 2, none⟩) (.inl (.inr rfl)) _⟩
end Go.Proofs.YtmkifedcanmjoaaGreat
