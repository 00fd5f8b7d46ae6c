/- The walk of BlockKnown (it returns true). -/
import Derived.Test.YtklkehpcifnfkaaBoxW
import Derived.Laws.MakeOwn
set_option linter.unusedVariables false
namespace Go.Proofs.Ytklkehpcifnfkaa
open Go.RowKit
attribute [local go_sem ↓] Go.wp_at_zero Go.wp_at_succ

theorem infoErr : (Try.prog.info? 25).map (fun i => (i.zero, i.size, i.bytes)) = some (some (.int .i64 0), 1, 8) := by kernel_rfl
def zerosB (i : Nat) : List UInt8 := List.replicate i 0
theorem zerosB_len (i : Nat) : (zerosB i).length = i := by simp [zerosB]
theorem made_zeros (i : Nat) : madeCells #[.int .u8 0] i = ((zerosB i).map u8v).toArray := by
  apply Array.ext'
  simp [madeCells, zerosB, u8v, Nat.mod_one, List.map_const']
theorem run_make_bytes (i : Nat) (hi : i ≤ 1000) (w : World) : (Instr.makeSlice 22 (.int .i64 (i : Int)) (.int .i64 (i : Int))).run Try.prog w = .ok (.slice (some ⟨w.heap.size, 0, none⟩) i i) (w.alloc (.cells ((zerosB i).map u8v).toArray 5)) := by
  obtain ⟨iB, hiB, hz0, hz1, hz2⟩ := info_parts infoByte
  have := run_make w 22 5 iB _ Try.underlying22 hiB hz0 .i64 .i64 (i : Int) (i : Int) (by omega) (by omega) (by rw [hz2]; omega) (by omega)
  rw [hz1] at this
  simp only [Int.toNat_natCast, Nat.mul_one] at this
  rw [← made_zeros]
  exact this
/-- The errors of keys of so many bytes. -/
def errV (k : Nat) : Value := .int .i64 (if k = 16 ∨ k = 32 then 0 else 1)
def errL (i : Nat) : List Value := (List.range i).map errV
theorem errL_next (i : Nat) : errL i ++ [errV i] = errL (i + 1) := by simp [errL, List.range_succ]
theorem errL_at {i k : Nat} (h : k < i) : (errL i)[k]? = some (errV k) := by simp [errL, h]
theorem own_one' (w : World) (e : TypeId) (u : Value) : (w.alloc (.cells #[u] e)).ownsRow w.heap.size e 1 (.slice (some ⟨w.heap.size, 0, none⟩) 1 1) 1 [u] :=
  ⟨by simp, .inr ⟨_, 1, #[u], rfl, Nat.le_refl _, by show (w.heap.push _)[w.heap.size]? = _; simp, by omega, by simp [maxLen], by simp, by simp⟩⟩
theorem own_at {w : World} {B e size n : Nat} {v : Value} {xs : List Value} (h : w.ownsRow B e size v n xs) (hn : 0 < n) : ∃ g c, v = .slice (some ⟨g, 0, none⟩) n c ∧ B ≤ g := by
  rcases h.2 with ⟨_, h0⟩ | ⟨g, cap, cur, e1, e2, _⟩
  · omega
  · exact ⟨g, cap, e1, e2⟩
theorem own_cells {w : World} {B e g c n : Nat} {xs : List Value} (h : w.ownsRow B e 1 (.slice (some ⟨g, 0, none⟩) n c) n xs) (hn : 0 < n) : ∀ k u, xs[k]? = some u → w.cell? ⟨g, k, none⟩ = some u := fun k u hk => by
  obtain ⟨ad, e, _, hc⟩ := (Reads.of_own h).2 hn
  injection e with e
  subst e
  have := hc k u hk
  rwa [Go.WideShapes.add_plain, Nat.zero_add] at this
def byteF (k : Nat) : UInt8 := UInt8.ofNat k
theorem kb_all : upTo 32 32 byteF (fun _ => 0) = [0, 1, 2, 3, 4, 5, 6, 7, 8, 9, 10, 11, 12, 13, 14, 15, 16, 17, 18, 19, 20, 21, 22, 23, 24, 25, 26, 27, 28, 29, 30, 31] := by decide +kernel
theorem kb_start : zerosB 32 = upTo 32 0 byteF (fun _ => 0) := by decide +kernel
theorem fips32 : blockS (keyS [0, 1, 2, 3, 4, 5, 6, 7, 8, 9, 10, 11, 12, 13, 14, 15, 16, 17, 18, 19, 20, 21, 22, 23, 24, 25, 26, 27, 28, 29, 30, 31]) [0, 17, 34, 51, 68, 85, 102, 119, 136, 153, 170, 187, 204, 221, 238, 255] = [142, 162, 183, 202, 81, 103, 69, 191, 234, 252, 73, 144, 75, 73, 96, 137] := by decide +kernel
theorem lit_r2 : (([142, 162, 183, 202, 81, 103, 69, 191, 234, 252, 73, 144, 75, 73, 96, 137] : List UInt8).map u8v).toArray = #[.int .u8 142, .int .u8 162, .int .u8 183, .int .u8 202, .int .u8 81, .int .u8 103, .int .u8 69, .int .u8 191, .int .u8 234, .int .u8 252, .int .u8 73, .int .u8 144, .int .u8 75, .int .u8 73, .int .u8 96, .int .u8 137] := by rfl
theorem reads_zeros (w : World) (i : Nat) : Reads (w.alloc (.cells ((zerosB i).map u8v).toArray 5)) (w.alloc (.cells ((zerosB i).map u8v).toArray 5)).heap.size 1 (some ⟨w.heap.size, 0, none⟩) (zerosB i).length ((zerosB i).map u8v) :=
  ⟨by simp, fun _ => ⟨_, rfl, (BB.new w 5 (zerosB i)).lt, fun j u hj => by
    rw [Go.WideShapes.add_plain]
    exact (BB.new w 5 (zerosB i)).range j u hj⟩⟩
/-- New of so many noughts. -/
theorem new_zeros (i : Nat) (hi : i ≤ 40) (w : World) : Calls Try.prog 13 #[.slice (some ⟨w.heap.size, 0, none⟩) i i] (w.alloc (.cells ((zerosB i).map u8v).toArray 5)) fun e w' =>
    ∃ p, e = .returned (.tuple #[.pointer p, errV i]) ∧ p.isNone = (if i = 16 ∨ i = 32 then false else true) ∧ Below w.heap.size w w' := by
  have hb := balloc (Below.refl w.heap.size w) (.cells ((zerosB i).map u8v).toArray 5)
  by_cases h : i = 16 ∨ i = 32
  · have := new_c (zerosB i) (some ⟨w.heap.size, 0, none⟩) i _ (by rw [zerosB_len]; exact h) (reads_zeros w i) (by rw [zerosB_len]; omega)
    rw [zerosB_len] at this
    refine this.mono ?_
    rintro e w' ⟨rfl, _, hb2⟩
    exact ⟨some ⟨(w.alloc (.cells ((zerosB i).map u8v).toArray 5)).heap.size, 0, none⟩, by simp [errV, h], by simp [h], bcall hb hb2⟩
  · have := new_bad (zerosB i) (some ⟨w.heap.size, 0, none⟩) i (w.alloc (.cells ((zerosB i).map u8v).toArray 5)) (by rw [zerosB_len]; omega)
    rw [zerosB_len] at this
    refine this.mono ?_
    rintro e w' ⟨rfl, rfl⟩
    exact ⟨none, by simp [errV, h], by simp [h], hb⟩

theorem BB.reads32 {w : World} {g : Nat} {t : TypeId} {l : List UInt8} {n : Nat} (h : BB w g t l) (hn : l.length = n) : Reads w w.heap.size 1 (some ⟨g, 0, none⟩) n (l.map u8v) :=
  ⟨by rw [List.length_map, hn, Nat.mul_one], fun _ => ⟨_, rfl, h.lt, fun j u hj => by
    rw [Go.WideShapes.add_plain]
    exact h.range j u hj⟩⟩
theorem Box_i {x r : UInt8} (h : sb x = r) (xi : Int) (hx : (x.toNat : Int) = xi) (w : World) : Calls Try.prog 20 #[.int .u8 xi] w fun e w' => e = .returned (.int .u8 (r.toNat : Int)) ∧ Below w.heap.size w w' := by
  subst h hx
  exact Box_c x w
set_option maxRecDepth 100000 in
set_option maxHeartbeats 1600000 in
theorem known_walk (w : World) : Calls Try.prog 6 #[] w fun e w' => e = .returned (.bool true) ∧ Below w.heap.size w w' := by
  obtain ⟨iE, hiE, hz0, hz1, hz2⟩ := info_parts infoErr
  go_enter Try.func6, Try.ntmps6
  go_wp2_with fail
  refine (awake4_c _).mono ?_
  rintro e0 w1 ⟨rfl, hb1⟩
  have HB1 := Lib.hid hb1
  clear hb1
  go_wp2_with fail
  go_loopg [1, 2] 40 (fun gg v1 v2 wr => ∃ i : Nat, i ≤ 40 ∧ gg = 40 - i ∧ v2 = .int .i64 (i : Int) ∧ wr.ownsRow w.heap.size 25 1 v1 i (errL i) ∧ Below w.heap.size w wr)
  case atStart => exact ⟨0, by omega, rfl, rfl, World.ownsRow_nil _ _ _ _, HB1.out⟩
  case round =>
    obtain ⟨i, hi, rfl, rfl, hown, hbel⟩ := hrel
    have HOWN := Lib.hid hown
    have HBEL := Lib.hid hbel
    by_cases hi2 : i < 40
    · have hii : (i : Int) < 40 := by omega
      have hmk := fun wx => run_make_bytes i (by omega) wx
      have HMK := Lib.hid hmk
      clear hown hbel
      go_wp2_with fail
      refine (new_zeros i (by omega) wr).mono ?_
      rintro e0 w2 ⟨p, rfl, hp, hb2⟩
      obtain ⟨b, hbb⟩ : ∃ b, b = (if i = 16 ∨ i = 32 then false else true) := ⟨_, rfl⟩
      rw [← hbb] at hp
      obtain ⟨ev, hev⟩ : ∃ ev : Int, ev = (if i = 16 ∨ i = 32 then 0 else 1) := ⟨_, rfl⟩
      have hE : errV i = .int .i64 ev := by rw [hev]; rfl
      have hev2 : (ev != 0) = b := by rw [hev, hbb]; split <;> rfl
      have HE := Lib.hid hE
      have HO2 := Lib.hid (own_below HOWN.out (hb2.mono (Nat.le_refl _)))
      have HB2 := Lib.hid (bcall HBEL.out hb2)
      rw [hE]
      clear hbb hev hE hb2
      go_wp2_with (first
        | (at_builtin
           refine wpList_append_any _ rfl (.tmp 27) (.tmp 29) _ rfl w.heap.size 25 iE _ 1 8 Try.underlying41 hiE hz0 hz1 hz2 rfl (by omega) u1 i (errL i) rfl (HO2.out.alloc _)
             (w2.alloc (.cells #[.int .i64 ev] 25)).heap.size (some ⟨w2.heap.size, 0, none⟩) 1 1 [.int .i64 ev] rfl (Reads.of_own (own_one' w2 25 _)) (by simp [Value.oneCell']) (by simp only [maxLen]; omega) (by omega) (by have := HB2.out.size; simp; omega) ?_
           intro v3 w3 hown3 hg3 hat3
           have HB3 := Lib.hid (own_grow_below (balloc HB2.out _) (HO2.out.alloc _) hg3)
           rw [← HE.out, errL_next] at hown3
           have HO3 := Lib.hid hown3
           clear hown3 hg3 hat3))
      go_roundg (40 - (i + 1))
      case measure => omega
      case rel => exact ⟨i + 1, by omega, rfl, by go_num, HO3.out, HB3.out⟩
    · have hi3 : i = 40 := by omega
      subst hi3
      obtain ⟨gl, capl, rfl, hcapl⟩ := own_at hown (by decide)
      clear hown hbel
      have hmk : ∀ wx : World, (Instr.makeSlice 22 (.int .i64 32) (.int .i64 32)).run Try.prog wx = .ok (.slice (some ⟨wx.heap.size, 0, none⟩) 32 32) (wx.alloc (.cells ((zerosB 32).map u8v).toArray 5)) := fun wx => run_make_bytes 32 (by decide) wx
      go_wp2_with fail
      clear hmk
      have HOW := Lib.hid (HOWN.out.alloc (.cells ((zerosB 32).map u8v).toArray 5))
      have HBZ := Lib.hid (BB.new wr 5 (zerosB 32))
      have HBE := Lib.hid (balloc HBEL.out (.cells ((zerosB 32).map u8v).toArray 5))
      obtain ⟨gb, hgb⟩ : ∃ gb, gb = wr.heap.size := ⟨_, rfl⟩
      have hgl : gl ≠ gb := by
        have := (Reads.of_own HOWN.out).2 (by decide)
        obtain ⟨ad, e, hlt, _⟩ := this
        injection e with e
        subst e
        rw [hgb]
        exact Nat.ne_of_lt hlt
      have hwb : w.heap.size ≤ gb := by rw [hgb]; exact HBEL.out.size
      rw [← hgb] at HBZ ⊢
      generalize (wr.alloc (Obj.cells ((zerosB 32).map u8v).toArray 5)) = wz at *
      have HGL := Lib.hid hgl
      have HWB := Lib.hid hwb
      clear hgb hgl hwb HOWN HBEL
      go_loopg [6] 32 (fun gg v6 wx => ∃ i : Nat, i ≤ 32 ∧ gg = 32 - i ∧ v6 = .int .i64 (i : Int) ∧ BB wx gb 5 (upTo 32 i byteF (fun _ => 0)) ∧ wx.ownsRow w.heap.size 25 1 (.slice (some ⟨gl, 0, none⟩) 40 capl) 40 (errL 40) ∧ Below w.heap.size w wx)
      case atStart => exact ⟨0, by omega, rfl, rfl, by rw [← kb_start]; exact HBZ.out, HOW.out, HBE.out⟩
      case round =>
        obtain ⟨i, hi, rfl, rfl, hbb, hown, hbel⟩ := hrel
        have HB := Lib.hid hbb
        have HO := Lib.hid hown
        have HE := Lib.hid hbel
        by_cases hi2 : i < 32
        · have hxx : ∃ x : UInt8, i = x.toNat := ⟨UInt8.ofNat i, by simp; omega⟩
          obtain ⟨x, rfl⟩ := hxx
          have hii : (x.toNat : Int) < 32 := by omega
          have cz := hbb.cell x.toNat (by rw [upTo_len]; exact hi2)
          have fz := hbb.free x.toNat
          have ce := own_cells hown (by decide) x.toNat _ (errL_at (by omega))
          have hne := HGL.out
          have hne2 : gb ≠ gl := Ne.symm hne
          have HN : Hid ((upTo 32 x.toNat byteF (fun _ => 0)).set x.toNat x = upTo 32 (x.toNat + 1) byteF (fun _ => 0)) := by
            show _ = _
            rw [← upTo_set byteF _ hi2, show byteF x.toNat = x by simp [byteF]]
          by_cases h16 : x.toNat = 16
          · have hev : errV x.toNat = .int .i64 0 := by rw [h16]; rfl
            have hx16 : ((x.toNat : Int) == 16) = true := by rw [beq_iff_eq]; omega
            rw [hev] at ce
            clear hbb hown hbel hev h16
            go_wp2_with fail
            go_roundg (32 - (x.toNat + 1))
            case measure => omega
            case rel => exact ⟨x.toNat + 1, by omega, rfl, by go_num, by rw [← HN.out]; exact BB.set HB.out _ x, own_set HO.out (by simp [Value.ownBlock]; exact HGL.out) _ _, bset (p := ⟨gb, x.toNat, none⟩) HE.out HWB.out _⟩
          · have hev : errV x.toNat = .int .i64 1 := by unfold errV; rw [if_neg (by omega)]
            have hx16 : ((x.toNat : Int) == 16) = false := by rw [beq_eq_false_iff_ne]; omega
            rw [hev] at ce
            clear hbb hown hbel hev h16
            go_wp2_with fail
            go_roundg (32 - (x.toNat + 1))
            case measure => omega
            case rel => exact ⟨x.toNat + 1, by omega, rfl, by go_num, by rw [← HN.out]; exact BB.set HB.out _ x, own_set HO.out (by simp [Value.ownBlock]; exact HGL.out) _ _, bset (p := ⟨gb, x.toNat, none⟩) HE.out HWB.out _⟩
        · have hi3 : i = 32 := by omega
          subst hi3
          rw [kb_all] at HB
          clear hbb hown hbel
          go_wp2_with fail
          refine (new_c [0, 1, 2, 3, 4, 5, 6, 7, 8, 9, 10, 11, 12, 13, 14, 15, 16, 17, 18, 19, 20, 21, 22, 23, 24, 25, 26, 27, 28, 29, 30, 31] (some ⟨gb, 0, none⟩) 32 _ (.inr rfl) (HB.out.reads32 rfl) (by decide)).mono ?_
          rintro e0 w5 ⟨rfl, hk5, hb5⟩
          have HK5 := Lib.hid hk5
          have ho5 := own_below HO.out hb5
          have c32 := own_cells ho5 (by decide) 32 (.int .i64 0) (by rfl)
          have c33 := own_cells ho5 (by decide) 33 (.int .i64 1) (by rfl)
          have HB5 := Lib.hid (bcall HE.out hb5)
          clear hk5 ho5 hb5
          go_wp2_with fail
          have hbl := block_c [0, 17, 34, 51, 68, 85, 102, 119, 136, 153, 170, 187, 204, 221, 238, 255] _ _ _ _ 14 w5 rfl HK5.out (by rfl) (by decide) (by decide)
          rw [fips32, lit_x, lit_r2] at hbl
          refine hbl.mono ?_
          rintro e0 w6 ⟨rfl, hb6⟩
          have HB6 := Lib.hid (bcall HB5.out hb6)
          clear hbl hb6 c32 c33
          go_wp2_with fail
          refine (Box_i (x := 0) (r := 99) (by decide +kernel) 0 rfl _).mono ?_
          rintro e0 w7 ⟨rfl, hb7⟩
          have HB7 := Lib.hid (bcall (balloc HB6.out _) hb7)
          clear hb7
          go_wp2_with fail
          refine (Box_i (x := 1) (r := 124) (by decide +kernel) 1 rfl _).mono ?_
          rintro e0 w8 ⟨rfl, hb8⟩
          have HB8 := Lib.hid (bcall HB7.out hb8)
          clear hb8
          go_wp2_with fail
          refine (Box_i (x := 83) (r := 237) (by decide +kernel) 83 rfl _).mono ?_
          rintro e0 w9 ⟨rfl, hb9⟩
          have HB9 := Lib.hid (bcall HB8.out hb9)
          clear hb9
          go_wp2_with fail
          refine (times_k (a := 87) (b := 131) (r := 193) (by decide +kernel) 87 131 rfl rfl _).mono ?_
          rintro e0 w10 ⟨rfl, rfl⟩
          go_wp2
          go_ret
          exact ⟨rfl, HB9.out⟩
end Go.Proofs.Ytklkehpcifnfkaa
