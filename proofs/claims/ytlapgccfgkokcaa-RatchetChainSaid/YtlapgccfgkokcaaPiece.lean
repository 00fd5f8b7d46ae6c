/- What the program's piece does to a stream (contract). Conditions: the stream, its constants and the piece lie in memory. -/
import Derived.Test.YtlapgccfgkokcaaAll
import Derived.StillTailTactics
set_option linter.unusedVariables false
set_option linter.unusedSimpArgs false
namespace Go.Proofs.Ytlapgccfgkokcaa
open Go.RowKit
attribute [local go_sem ↓] Go.wp_at_zero Go.wp_at_succ

/-- A stream's block: eight words, the bytes that are no whole piece, how many came, the constants. -/
def SB (w : World) (g : Nat) (H : List UInt32) (v : Value) (n gc : Nat) : Prop := Blk w g 87 (H.map u32v ++ [v, .int .u64 (n : Int), .pointer (some ⟨gc, 0, none⟩)]).toArray
section
variable {w w' : World} {g n gc : Nat} {H : List UInt32} {v : Value}
theorem SB.word (h : SB w g H v n gc) (i : Nat) (hi : i < H.length) : w.cell? ⟨g, i, none⟩ = some (.int .u32 ((H.getD i 0).toNat : Int)) := by
  rw [Blk.cell h, List.getElem?_toArray, List.getElem?_append_left (by rw [List.length_map]; exact hi), List.getElem?_map, List.getElem?_eq_getElem hi, List.getD_eq_getElem?_getD, List.getElem?_eq_getElem hi]
  rfl
theorem SB.buf (h : SB w g H v n gc) (hl : H.length = 8) : w.cell? ⟨g, 8, none⟩ = some v := by
  rw [Blk.cell h, List.getElem?_toArray, List.getElem?_append_right (by rw [List.length_map, hl]; exact Nat.le_refl _), List.length_map, hl]
  rfl
theorem SB.num (h : SB w g H v n gc) (hl : H.length = 8) : w.cell? ⟨g, 9, none⟩ = some (.int .u64 (n : Int)) := by
  rw [Blk.cell h, List.getElem?_toArray, List.getElem?_append_right (by rw [List.length_map, hl]; decide), List.length_map, hl]
  rfl
theorem SB.con (h : SB w g H v n gc) (hl : H.length = 8) : w.cell? ⟨g, 10, none⟩ = some (.pointer (some ⟨gc, 0, none⟩)) := by
  rw [Blk.cell h, List.getElem?_toArray, List.getElem?_append_right (by rw [List.length_map, hl]; decide), List.length_map, hl]
  rfl
theorem SB.free (h : SB w g H v n gc) (i : Nat) : w.frozen? ⟨g, i, none⟩ = false := Blk.frozen h i
theorem SB.lt (h : SB w g H v n gc) : g < w.heap.size := Blk.lt h
theorem SB.setWord (h : SB w g H v n gc) {i : Nat} (hi : i < H.length) (x : UInt32) : SB (w.setCell ⟨g, i, none⟩ (.int .u32 (x.toNat : Int))) g (H.set i x) v n gc := by
  have := Blk.set_ h i (u32v x)
  unfold SB
  rw [List.setIfInBounds_toArray, List.set_append_left _ _ (by rw [List.length_map]; exact hi)] at this
  rw [List.map_set]
  exact this
theorem SB.setBuf (h : SB w g H v n gc) (hl : H.length = 8) (u : Value) : SB (w.setCell ⟨g, 8, none⟩ u) g H u n gc := by
  have := Blk.set_ h 8 u
  unfold SB
  rw [List.setIfInBounds_toArray, List.set_append_right _ _ (by rw [List.length_map, hl]; exact Nat.le_refl _), List.length_map, hl] at this
  exact this
theorem SB.setNum (h : SB w g H v n gc) (hl : H.length = 8) (m : Nat) : SB (w.setCell ⟨g, 9, none⟩ (.int .u64 (m : Int))) g H v m gc := by
  have := Blk.set_ h 9 (.int .u64 (m : Int))
  unfold SB
  rw [List.setIfInBounds_toArray, List.set_append_right _ _ (by rw [List.length_map, hl]; decide), List.length_map, hl] at this
  exact this
theorem SB.far (h : SB w g H v n gc) {p : Addr} (hp : g ≠ p.block) (u : Value) : SB (w.setCell p u) g H v n gc := Blk.far h hp u
theorem SB.below (h : SB w g H v n gc) (hb : Below w.heap.size w w') : SB w' g H v n gc := Blk.below h hb
end
theorem W.notx (a : UInt32) : bits .xor .u32 (if IntKind.u32.signed = true then -1 else IntKind.u32.max) (a.toNat : Int) = ((~~~a).toNat : Int) := by
  rw [show (if IntKind.u32.signed = true then -1 else IntKind.u32.max) = (((-1 : UInt32)).toNat : Int) from by decide, W.xor, UInt32.xor_comm, UInt32.xor_neg_one]
theorem word_w (a b c d : UInt8) (g o n cc : Nat) (w : World) (hn : 4 ≤ n) (c0 : w.cell? ⟨g, o, none⟩ = some (.int .u8 (a.toNat : Int))) (c1 : w.cell? ⟨g, o + 1, none⟩ = some (.int .u8 (b.toNat : Int))) (c2 : w.cell? ⟨g, o + 2, none⟩ = some (.int .u8 (c.toNat : Int))) (c3 : w.cell? ⟨g, o + 3, none⟩ = some (.int .u8 (d.toNat : Int))) :
    Calls Try.prog 57 #[.slice (some ⟨g, o, none⟩) n cc] w fun e w' => e = .returned (.int .u32 ((word4 a b c d).toNat : Int)) ∧ ∃ j, w' = w.drewN j :=
  word_c a b c d g o n cc w 0 hn c0 c1 c2 c3
theorem But.sv {g : Nat} {w w' : World} (h : But g w w') : Sv (fun k => k = g) w w' := ⟨h.os, h.tape, h.output, h.size, h.block⟩
theorem wpAnyH_takeAt {P : Program} {md : Region.Mode} {ops : Array Oper} {Q : Exit → Act → World → Prop} {S : World → Prop} {i d : Nat} {oi : Oper} {v : Value} {fuel : Nat} {listed : Array Bool} {tm : List Value} {df : List Deferred} {w : World} (hi : ops[i]? = some oi)
    (hs : Region.noSelect ops = true) (hf : Region.free md ops listed i = true) (hr : (Region.ready md ops listed).contains i = true)
    (hQ : ∀ c a w, Q (.panic c) (a.put oi.dst v) w → Q (.panic c) a w) (hd : oi.dst = some d) (hy : YieldsIf P ops S oi v ⟨tm.toArray, df⟩) (hS : S w)
    (h : wpAnyH P md ops Q S fuel (listed.setIfInBounds i true) ⟨(tm.set d v).toArray, df⟩ w) : wpAnyH P md ops Q S (fuel + 1) listed ⟨tm.toArray, df⟩ w := by
  refine wpAnyH_take hi hs hf hr hQ hy hS ?_
  rw [hd]
  simpa [Act.put] using h
theorem wpAnyH_putAt {P : Program} {md : Region.Mode} {ops : Array Oper} {Q : Exit → Act → World → Prop} {S : World → Prop} {d : Nat} {x : Option Nat} {v : Value} {fuel : Nat} {listed : Array Bool} {tm : List Value} {df : List Deferred} {w : World} (hd : x = some d)
    (h : wpAnyH P md ops Q S fuel listed ⟨(tm.set d v).toArray, df⟩ w) : wpAnyH P md ops Q S fuel listed (Act.put ⟨tm.toArray, df⟩ x v) w := by
  rw [hd]
  simpa [Act.put] using h
theorem wpAnyH_putNone {P : Program} {md : Region.Mode} {ops : Array Oper} {Q : Exit → Act → World → Prop} {S : World → Prop} {x : Option Nat} {v : Value} {fuel : Nat} {listed : Array Bool} {a : Act} {w : World} (hd : x = none)
    (h : wpAnyH P md ops Q S fuel listed a w) : wpAnyH P md ops Q S fuel listed (Act.put a x v) w := by
  rw [hd]
  exact h
theorem wrap64 (n : Nat) (h : n < 9223372036854775808) : IntKind.i64.wrap (n : Int) = (n : Int) := by
  simp [IntKind.wrap, IntKind.bits, IntKind.signed]
  omega
def z8 : List UInt32 := List.replicate 8 0
theorem zero40 : (z64.map u32v).toArray = #[.int .u32 0, .int .u32 0, .int .u32 0, .int .u32 0, .int .u32 0, .int .u32 0, .int .u32 0, .int .u32 0, .int .u32 0, .int .u32 0, .int .u32 0, .int .u32 0, .int .u32 0, .int .u32 0, .int .u32 0, .int .u32 0, .int .u32 0, .int .u32 0, .int .u32 0, .int .u32 0, .int .u32 0, .int .u32 0, .int .u32 0, .int .u32 0, .int .u32 0, .int .u32 0, .int .u32 0, .int .u32 0, .int .u32 0, .int .u32 0, .int .u32 0, .int .u32 0, .int .u32 0, .int .u32 0, .int .u32 0, .int .u32 0, .int .u32 0, .int .u32 0, .int .u32 0, .int .u32 0, .int .u32 0, .int .u32 0, .int .u32 0, .int .u32 0, .int .u32 0, .int .u32 0, .int .u32 0, .int .u32 0, .int .u32 0, .int .u32 0, .int .u32 0, .int .u32 0, .int .u32 0, .int .u32 0, .int .u32 0, .int .u32 0, .int .u32 0, .int .u32 0, .int .u32 0, .int .u32 0, .int .u32 0, .int .u32 0, .int .u32 0, .int .u32 0] := by rfl
theorem z64_up (f : Nat → UInt32) : z64 = upW 64 0 f (fun _ => 0) := by rw [upW_zero]; decide
theorem z8v : (z8.map u32v).toArray = #[.int .u32 0, .int .u32 0, .int .u32 0, .int .u32 0, .int .u32 0, .int .u32 0, .int .u32 0, .int .u32 0] := by rfl
theorem info8 : (Try.prog.info? 69).map (·.size) = some 8 := by kernel_rfl
theorem wb_there {w : World} {g : Nat} {t : TypeId} {l : List UInt32} {n : Nat} (h : WB w g t l) (hn : l.length = n) : w.there g 0 n := fun j hj => by
  rw [Nat.zero_add]
  exact ⟨by rw [h.cell j (by omega)]; rfl, h.free j⟩
theorem wb_setAllAux {g : Nat} {t : TypeId} : ∀ (l' pre l : List UInt32) (w : World), l.length = l'.length → WB w g t (pre ++ l) → WB (w.setCells g pre.length (l'.map u32v)) g t (pre ++ l')
  | [], pre, l, w, h, hb => by
    have : l = [] := List.eq_nil_of_length_eq_zero h
    subst this
    exact hb
  | y :: ys, pre, l, w, h, hb => by
    match l, h with
    | x :: xs, h =>
      have h1 := hb.set pre.length y
      have e : (pre ++ x :: xs).set pre.length y = (pre ++ [y]) ++ xs := by simp
      rw [e] at h1
      have := wb_setAllAux ys (pre ++ [y]) xs _ (by simpa using h) h1
      rw [List.length_append] at this
      simp only [List.append_assoc, List.singleton_append] at this
      exact this
theorem WB.setAll {w : World} {g : Nat} {t : TypeId} {l l' : List UInt32} (h : WB w g t l) (hl : l'.length = l.length) : WB (w.setCells g 0 (l'.map u32v)) g t l' :=
  wb_setAllAux l' [] l w hl.symm h
theorem Blk.farAll {g g' : Nat} {t : TypeId} {cs : Array Value} (hg : g ≠ g') : ∀ (vs : List Value) (o : Nat) (w : World), Blk w g t cs → Blk (w.setCells g' o vs) g t cs
  | [], _, _, h => h
  | v :: vs, o, w, h => Blk.farAll hg vs (o + 1) _ (Blk.far h (p := ⟨g', o, none⟩) hg v)
theorem But.setAllNew {g g' : Nat} {w w' : World} (hg : w.heap.size ≤ g') : ∀ (vs : List Value) (o : Nat) (w' : World), But g w w' → But g w (w'.setCells g' o vs)
  | [], _, _, h => h
  | v :: vs, o, w', h => But.setAllNew (w' := w') hg vs (o + 1) _ (h.setNew (p := ⟨g', o, none⟩) hg v)
set_option maxRecDepth 100000 in
set_option maxHeartbeats 6400000 in
theorem piece_c (H : List UInt32) (m : List UInt8) (v : Value) (gs gc n gb o c : Nat) (w : World) (hH : H.length = 8) (hm : m.length = 64) (hs : SB w gs H v n gc) (hc : CI w gc) (hb : gb < w.heap.size) (hbs : gb ≠ gs) (hbc : gb ≠ gc) (hcap : 64 ≤ c)
    (hr : ∀ i, i < 64 → w.cell? ⟨gb, o + i, none⟩ = some (.int .u8 ((m.getD i 0).toNat : Int))) :
    Calls Try.prog 50 #[.pointer (some ⟨gs, 0, none⟩), .slice (some ⟨gb, o, none⟩) 64 c] w fun e w' => e = .returned (.tuple #[]) ∧ SB w' gs (cmp H m) v n gc ∧ CD w' gc ∧ Sv (fun k => k = gs ∨ k = gc) w w' := by
  have hsc : gs ≠ gc := by
    rintro rfl
    obtain ⟨cs, hcs⟩ := hc.blk
    have h1 : w.heap[gs]? = _ := hs
    have h2 : w.heap[gs]? = _ := hcs
    rw [h1] at h2
    injection h2 with h2
    injection h2 with _ h3
    exact absurd h3 (by decide)
  have hcon := hs.con hH
  have hgs := hs.lt
  have hgc := hc.lt
  have HS := Lib.hid hs
  have HC := Lib.hid hc
  have HH := Lib.hid hH
  have HM := Lib.hid hm
  have HR := Lib.hid hr
  clear hs hc hH hm hr
  go_enter Try.func50, Try.ntmps50
  go_wp2_with fail
  refine (all_c gc w HC.out).mono ?_
  rintro e0 w1 ⟨rfl, hd1, hbut1⟩
  have HD1 := Lib.hid hd1
  have HB1 := Lib.hid hbut1
  have HS1 : Hid (SB w1 gs H v n gc) := hbut1.blk HS.out hsc
  clear hd1 hbut1 hcon
  go_wp2_with fail
  obtain ⟨gw, hgw⟩ : ∃ gw, gw = w1.heap.size := ⟨_, rfl⟩
  have hgwl : w.heap.size ≤ gw := by rw [hgw]; exact HB1.out.size
  have HW2 : Hid (WB (w1.alloc (.cells (z64.map u32v).toArray 40)) gw 40 z64) := by show WB _ _ _ _; rw [hgw]; exact WB.new w1 _ z64
  have HD2 : Hid (CD (w1.alloc (.cells (z64.map u32v).toArray 40)) gc) := HD1.out.alloc _
  have HS2 : Hid (SB (w1.alloc (.cells (z64.map u32v).toArray 40)) gs H v n gc) := Blk.alloc HS1.out _
  have HB2 := Lib.hid (HB1.out.alloc (.cells (z64.map u32v).toArray 40))
  rw [← zero40, ← hgw]
  generalize (w1.alloc (.cells (z64.map u32v).toArray 40)) = w2 at *
  clear hgw HD1 HS1 HB1
  obtain ⟨F, hF⟩ : ∃ F, F = wf m := ⟨_, rfl⟩
  have HF := Lib.hid hF
  clear hF
  go_loopg [21] 64 (fun gg v21 wx => ∃ i : Nat, i ≤ 64 ∧ gg = 64 - i ∧ v21 = .int .i64 (i : Int) ∧ WB wx gw 40 (upW 64 i F (fun _ => 0)) ∧ CD wx gc ∧ SB wx gs H v n gc ∧ But gc w wx)
  case atStart => exact ⟨0, by omega, rfl, rfl, by rw [← z64_up]; exact HW2.out, HD2.out, HS2.out, HB2.out⟩
  case round =>
    obtain ⟨i, hi, rfl, rfl, hw, hd, hsb, hbut⟩ := hrel
    clear HW2 HD2 HS2 HB2
    have HW := Lib.hid hw
    have HD := Lib.hid hd
    have HSB := Lib.hid hsb
    have HBUT := Lib.hid hbut
    have hgwc : gw ≠ gc := by omega
    have hgws : gw ≠ gs := by omega
    clear hw hd hsb hbut
    by_cases hi2 : i < 64
    · have hii : (i : Int) < 64 := by omega
      have fi := HW.out.free i
      have ci := HW.out.cell i (by rw [upW_len]; exact hi2)
      by_cases h16 : i < 16
      · have h16i : (i : Int) < 16 := by omega
        obtain ⟨i4, hi4⟩ : ∃ i4, i4 = 4 * i := ⟨_, rfl⟩
        have hmul : 4 * (i : Int) = (i4 : Int) := by omega
        have hw4 := wrap64 i4 (by omega)
        have hl4 : (i4 : Int) ≤ 64 := by omega
        have hl8 : i4 ≤ 64 := by omega
        have hcne : ¬ c = i4 := by omega
        have hcni : ¬ (c : Int) = (i4 : Int) := by omega
        have hcl : ∀ j, j < 64 → wr.cell? ⟨gb, o + j, none⟩ = some (.int .u8 ((m.getD j 0).toNat : Int)) := fun j hj => (HBUT.out.cell (p := ⟨gb, o + j, none⟩) hb hbc).trans (HR.out j hj)
        have hword := word_w (m.getD i4 0) (m.getD (i4 + 1) 0) (m.getD (i4 + 2) 0) (m.getD (i4 + 3) 0) gb (o + i4) (64 - i4) (c - i4) wr (by omega) (hcl i4 (by omega)) (hcl (i4 + 1) (by omega)) (hcl (i4 + 2) (by omega)) (hcl (i4 + 3) (by omega))
        have hfi : F i = word4 (m.getD i4 0) (m.getD (i4 + 1) 0) (m.getD (i4 + 2) 0) (m.getD (i4 + 3) 0) := by rw [HF.out, wf_lo m i h16, ← hi4, wd_eq]
        obtain ⟨y, hy⟩ : ∃ y, y = word4 (m.getD i4 0) (m.getD (i4 + 1) 0) (m.getD (i4 + 2) 0) (m.getD (i4 + 3) 0) := ⟨_, rfl⟩
        rw [← hy] at hword hfi
        have HWORD := Lib.hid hword
        have HFI := Lib.hid hfi
        clear hcl hword hfi hy hi4
        go_wp2_with (go_at_call 57; refine HWORD.out.mono ?_; rintro e0 w5 ⟨rfl, j5, rfl⟩)
        go_roundg (64 - (i + 1))
        case measure => omega
        case rel =>
          refine ⟨i + 1, by omega, rfl, by go_num, ?_, ?_, ?_, ?_⟩
          · rw [← upW_set F _ hi2, HFI.out]
            exact WB.set (HW.out.drewN j5) i y
          · exact CT.far (HD.out.drewN j5) (Ne.symm hgwc) _
          · exact SB.far (show SB (World.drewN _ j5) _ _ _ _ _ from HSB.out) (Ne.symm hgws) _
          · exact (HBUT.out.drewN j5).setNew (by show w.heap.size ≤ gw; omega) _
      · have h16i : ¬ (i : Int) < 16 := by omega
        obtain ⟨i16, hi16⟩ : ∃ j, j = i - 16 := ⟨_, rfl⟩
        obtain ⟨i15, hi15⟩ : ∃ j, j = i - 15 := ⟨_, rfl⟩
        obtain ⟨i7, hi7⟩ : ∃ j, j = i - 7 := ⟨_, rfl⟩
        obtain ⟨i2, hi2'⟩ : ∃ j, j = i - 2 := ⟨_, rfl⟩
        have s16 : (i : Int) - 16 = (i16 : Int) := by omega
        have s15 : (i : Int) - 15 = (i15 : Int) := by omega
        have s7 : (i : Int) - 7 = (i7 : Int) := by omega
        have s2 : (i : Int) - 2 = (i2 : Int) := by omega
        have w16 := wrap64 i16 (by omega)
        have w15 := wrap64 i15 (by omega)
        have w7 := wrap64 i7 (by omega)
        have w2' := wrap64 i2 (by omega)
        have b16 : i16 < 64 := by omega
        have b15 : i15 < 64 := by omega
        have b7 : i7 < 64 := by omega
        have b2 : i2 < 64 := by omega
        have n16 : (i16 : Int) < 64 := by omega
        have n15 : (i15 : Int) < 64 := by omega
        have n7 : (i7 : Int) < 64 := by omega
        have n2 : (i2 : Int) < 64 := by omega
        have e16 : i16 ≠ i := by omega
        have e7 : i7 ≠ i := by omega
        have hg : ∀ j, j < i → wr.cell? ⟨gw, j, none⟩ = some (.int .u32 ((F j).toNat : Int)) := fun j hj => by
          have := HW.out.cell j (by rw [upW_len]; omega)
          rwa [upW_getD _ _ (by omega), if_pos hj] at this
        have c16 := hg i16 (by omega)
        have c15 := hg i15 (by omega)
        have c7 := hg i7 (by omega)
        have c2 := hg i2 (by omega)
        have hfi : F i = F i16 + g0 (F i15) + F i7 + g1 (F i2) := by rw [HF.out, hi16, hi15, hi7, hi2', wf_hi m i h16]
        obtain ⟨a, ha⟩ : ∃ z, z = F i16 := ⟨_, rfl⟩
        obtain ⟨x, hx⟩ : ∃ z, z = F i15 := ⟨_, rfl⟩
        obtain ⟨b, hb'⟩ : ∃ z, z = F i7 := ⟨_, rfl⟩
        obtain ⟨y, hy⟩ : ∃ z, z = F i2 := ⟨_, rfl⟩
        rw [← ha, ← hx, ← hb', ← hy] at hfi
        rw [← ha] at c16
        rw [← hx] at c15
        rw [← hb'] at c7
        rw [← hy] at c2
        have HFI := Lib.hid hfi
        clear hg hfi ha hx hb' hy hi16 hi15 hi7 hi2' h16
        obtain ⟨r7, h_r7⟩ : ∃ z : UInt32, z = rr x 7 := ⟨_, rfl⟩
        have T_r7 : Hid (∀ wx, Calls Try.prog 58 #[.int .u32 (x.toNat : Int), .int .i64 7] wx fun e w' => e = .returned (.int .u32 (r7.toNat : Int)) ∧ wx = w') := fun wx => by rw [h_r7]; exact turn_7 x wx
        have H_r7 := Lib.hid h_r7
        clear h_r7
        obtain ⟨r18, h_r18⟩ : ∃ z : UInt32, z = rr x 18 := ⟨_, rfl⟩
        have T_r18 : Hid (∀ wx, Calls Try.prog 58 #[.int .u32 (x.toNat : Int), .int .i64 18] wx fun e w' => e = .returned (.int .u32 (r18.toNat : Int)) ∧ wx = w') := fun wx => by rw [h_r18]; exact turn_18 x wx
        have H_r18 := Lib.hid h_r18
        clear h_r18
        obtain ⟨p1, h_p1⟩ : ∃ z : UInt32, z = r7 ^^^ r18 := ⟨_, rfl⟩
        have f_p1 := W.xor r7 r18
        rw [← h_p1] at f_p1
        have H_p1 := Lib.hid h_p1
        clear h_p1
        obtain ⟨q1, h_q1⟩ : ∃ z : UInt32, z = x >>> 3 := ⟨_, rfl⟩
        have f_q1 : (x.toNat : Int) / 8 = (q1.toNat : Int) := by rw [h_q1]; exact W.shr x 3 (by decide)
        have H_q1 := Lib.hid h_q1
        clear h_q1
        obtain ⟨p2, h_p2⟩ : ∃ z : UInt32, z = p1 ^^^ q1 := ⟨_, rfl⟩
        have f_p2 := W.xor p1 q1
        rw [← h_p2] at f_p2
        have H_p2 := Lib.hid h_p2
        clear h_p2
        obtain ⟨m1, h_m1⟩ : ∃ z : UInt32, z = a + p2 := ⟨_, rfl⟩
        have f_m1 := W.add a p2
        have e_m1 := W.addw a p2
        rw [← h_m1] at f_m1 e_m1
        have H_m1 := Lib.hid h_m1
        clear h_m1
        obtain ⟨m2, h_m2⟩ : ∃ z : UInt32, z = m1 + b := ⟨_, rfl⟩
        have f_m2 := W.add m1 b
        have e_m2 := W.addw m1 b
        rw [← h_m2] at f_m2 e_m2
        have H_m2 := Lib.hid h_m2
        clear h_m2
        obtain ⟨r17, h_r17⟩ : ∃ z : UInt32, z = rr y 17 := ⟨_, rfl⟩
        have T_r17 : Hid (∀ wx, Calls Try.prog 58 #[.int .u32 (y.toNat : Int), .int .i64 17] wx fun e w' => e = .returned (.int .u32 (r17.toNat : Int)) ∧ wx = w') := fun wx => by rw [h_r17]; exact turn_17 y wx
        have H_r17 := Lib.hid h_r17
        clear h_r17
        obtain ⟨r19, h_r19⟩ : ∃ z : UInt32, z = rr y 19 := ⟨_, rfl⟩
        have T_r19 : Hid (∀ wx, Calls Try.prog 58 #[.int .u32 (y.toNat : Int), .int .i64 19] wx fun e w' => e = .returned (.int .u32 (r19.toNat : Int)) ∧ wx = w') := fun wx => by rw [h_r19]; exact turn_19 y wx
        have H_r19 := Lib.hid h_r19
        clear h_r19
        obtain ⟨p3, h_p3⟩ : ∃ z : UInt32, z = r17 ^^^ r19 := ⟨_, rfl⟩
        have f_p3 := W.xor r17 r19
        rw [← h_p3] at f_p3
        have H_p3 := Lib.hid h_p3
        clear h_p3
        obtain ⟨q2, h_q2⟩ : ∃ z : UInt32, z = y >>> 10 := ⟨_, rfl⟩
        have f_q2 : (y.toNat : Int) / 1024 = (q2.toNat : Int) := by rw [h_q2]; exact W.shr y 10 (by decide)
        have H_q2 := Lib.hid h_q2
        clear h_q2
        obtain ⟨p4, h_p4⟩ : ∃ z : UInt32, z = p3 ^^^ q2 := ⟨_, rfl⟩
        have f_p4 := W.xor p3 q2
        rw [← h_p4] at f_p4
        have H_p4 := Lib.hid h_p4
        clear h_p4
        obtain ⟨m3, h_m3⟩ : ∃ z : UInt32, z = m2 + p4 := ⟨_, rfl⟩
        have f_m3 := W.add m2 p4
        have e_m3 := W.addw m2 p4
        rw [← h_m3] at f_m3 e_m3
        have H_m3 := Lib.hid h_m3
        clear h_m3
        have HZ : Hid (F i = m3) := by show _ = _; rw [HFI.out, H_m3.out, H_m2.out, H_m1.out, H_p2.out, H_p1.out, H_q1.out, H_r7.out, H_r18.out, H_p4.out, H_p3.out, H_q2.out, H_r17.out, H_r19.out]; rfl
        go_wp2_with fail
        go_quiet (fail)
        go_upto_region 8 with (fail)
        obtain ⟨w5, hw5⟩ : ∃ w5, w5 = wr.drewN nq := ⟨_, rfl⟩
        have c16 : w5.cell? ⟨gw, i16, none⟩ = some (.int .u32 (a.toNat : Int)) := by rw [hw5]; exact c16
        have c7 : w5.cell? ⟨gw, i7, none⟩ = some (.int .u32 (b.toNat : Int)) := by rw [hw5]; exact c7
        have fi : w5.frozen? ⟨gw, i, none⟩ = false := by rw [hw5]; exact fi
        have ci : w5.cell? ⟨gw, i, none⟩ = some (.int .u32 (((upW 64 i F (fun _ => 0)).getD i 0).toNat : Int)) := by rw [hw5]; exact ci
        have HW5 : Hid (WB w5 gw 40 (upW 64 i F (fun _ => 0))) := by show WB _ _ _ _; rw [hw5]; exact HW.out.drewN nq
        have HD5 : Hid (CD w5 gc) := by show CT _ _ _ _ _; rw [hw5]; exact HD.out.drewN nq
        have HSB5 : Hid (SB w5 gs H v n gc) := by show SB _ _ _ _ _ _; rw [hw5]; exact HSB.out
        have HBUT5 : Hid (But gc w w5) := by show But _ _ _; rw [hw5]; exact HBUT.out.drewN nq
        rw [← hw5]
        clear hw5 HW HD HSB HBUT c15 c2
        refine wp_region_held_drew (S := (fun w' => w'.cell? ⟨gw, i16, none⟩ = some (.int .u32 (a.toNat : Int)) ∧ w'.cell? ⟨gw, i7, none⟩ = some (.int .u32 (b.toNat : Int)))) (by kernel_rfl) (⟨c16, c7⟩) (fun hHeld => ?_)
        refine wpAnyH_takeAt (i := 0) (v := (.int .i64 (i : Int))) rfl (by kernel_rfl) (by kernel_rfl) (by kernel_rfl) (fun _ _ _ h => h) rfl (Or.inl ⟨by rfl, fun w' hS => ?_⟩) hHeld ?_
        · go_simp
        simp only [List.set_cons_zero, List.set_cons_succ]
        refine wpAnyH_takeAt (i := 1) (v := (.int .i64 (i : Int))) rfl (by kernel_rfl) (by kernel_rfl) (by kernel_rfl) (fun _ _ _ h => h) rfl (Or.inl ⟨by rfl, fun w' hS => ?_⟩) hHeld ?_
        · go_simp
        simp only [List.set_cons_zero, List.set_cons_succ]
        refine wpAnyH_takeAt (i := 2) (v := (.int .i64 (i16 : Int))) rfl (by kernel_rfl) (by kernel_rfl) (by kernel_rfl) (fun _ _ _ h => h) rfl (Or.inl ⟨by rfl, fun w' hS => ?_⟩) hHeld ?_
        · go_simp
        simp only [List.set_cons_zero, List.set_cons_succ]
        refine wpAnyH_takeAt (i := 3) (v := (.pointer (some ⟨gw, i16, none⟩))) rfl (by kernel_rfl) (by kernel_rfl) (by kernel_rfl) (fun _ _ _ h => h) rfl (Or.inl ⟨by rfl, fun w' hS => ?_⟩) hHeld ?_
        · go_simp
        simp only [List.set_cons_zero, List.set_cons_succ]
        refine wpAnyH_takeAt (i := 4) (v := (.int .u32 (a.toNat : Int))) rfl (by kernel_rfl) (by kernel_rfl) (by kernel_rfl) (fun _ _ _ h => h) rfl (Or.inl ⟨by rfl, fun w' hS => ?_⟩) hHeld ?_
        · have hc := hS.1
          go_simp
        simp only [List.set_cons_zero, List.set_cons_succ]
        refine wpAnyH_takeAt (i := 5) (v := (.int .u32 (x.toNat : Int))) rfl (by kernel_rfl) (by kernel_rfl) (by kernel_rfl) (fun _ _ _ h => h) rfl (Or.inl ⟨by rfl, fun w' hS => ?_⟩) hHeld ?_
        · go_simp
        simp only [List.set_cons_zero, List.set_cons_succ]
        refine wpAnyH_takeAt (i := 7) (v := (.int .u32 (x.toNat : Int))) rfl (by kernel_rfl) (by kernel_rfl) (by kernel_rfl) (fun _ _ _ h => h) rfl (Or.inl ⟨by rfl, fun w' hS => ?_⟩) hHeld ?_
        · go_simp
        simp only [List.set_cons_zero, List.set_cons_succ]
        refine wpAnyH_takeAt (i := 10) (v := (.int .u32 (x.toNat : Int))) rfl (by kernel_rfl) (by kernel_rfl) (by kernel_rfl) (fun _ _ _ h => h) rfl (Or.inl ⟨by rfl, fun w' hS => ?_⟩) hHeld ?_
        · go_simp
        simp only [List.set_cons_zero, List.set_cons_succ]
        refine wpAnyH_takeAt (i := 11) (v := (.int .u32 (q1.toNat : Int))) rfl (by kernel_rfl) (by kernel_rfl) (by kernel_rfl) (fun _ _ _ h => h) rfl (Or.inl ⟨by rfl, fun w' hS => ?_⟩) hHeld ?_
        · go_simp
        simp only [List.set_cons_zero, List.set_cons_succ]
        refine wpAnyH_takeAt (i := 14) (v := (.int .i64 (i : Int))) rfl (by kernel_rfl) (by kernel_rfl) (by kernel_rfl) (fun _ _ _ h => h) rfl (Or.inl ⟨by rfl, fun w' hS => ?_⟩) hHeld ?_
        · go_simp
        simp only [List.set_cons_zero, List.set_cons_succ]
        refine wpAnyH_takeAt (i := 15) (v := (.int .i64 (i7 : Int))) rfl (by kernel_rfl) (by kernel_rfl) (by kernel_rfl) (fun _ _ _ h => h) rfl (Or.inl ⟨by rfl, fun w' hS => ?_⟩) hHeld ?_
        · go_simp
        simp only [List.set_cons_zero, List.set_cons_succ]
        refine wpAnyH_takeAt (i := 16) (v := (.pointer (some ⟨gw, i7, none⟩))) rfl (by kernel_rfl) (by kernel_rfl) (by kernel_rfl) (fun _ _ _ h => h) rfl (Or.inl ⟨by rfl, fun w' hS => ?_⟩) hHeld ?_
        · go_simp
        simp only [List.set_cons_zero, List.set_cons_succ]
        refine wpAnyH_takeAt (i := 17) (v := (.int .u32 (b.toNat : Int))) rfl (by kernel_rfl) (by kernel_rfl) (by kernel_rfl) (fun _ _ _ h => h) rfl (Or.inl ⟨by rfl, fun w' hS => ?_⟩) hHeld ?_
        · have hc := hS.2
          go_simp
        simp only [List.set_cons_zero, List.set_cons_succ]
        refine wpAnyH_takeAt (i := 19) (v := (.int .u32 (y.toNat : Int))) rfl (by kernel_rfl) (by kernel_rfl) (by kernel_rfl) (fun _ _ _ h => h) rfl (Or.inl ⟨by rfl, fun w' hS => ?_⟩) hHeld ?_
        · go_simp
        simp only [List.set_cons_zero, List.set_cons_succ]
        refine wpAnyH_takeAt (i := 21) (v := (.int .u32 (y.toNat : Int))) rfl (by kernel_rfl) (by kernel_rfl) (by kernel_rfl) (fun _ _ _ h => h) rfl (Or.inl ⟨by rfl, fun w' hS => ?_⟩) hHeld ?_
        · go_simp
        simp only [List.set_cons_zero, List.set_cons_succ]
        refine wpAnyH_takeAt (i := 24) (v := (.int .u32 (y.toNat : Int))) rfl (by kernel_rfl) (by kernel_rfl) (by kernel_rfl) (fun _ _ _ h => h) rfl (Or.inl ⟨by rfl, fun w' hS => ?_⟩) hHeld ?_
        · go_simp
        simp only [List.set_cons_zero, List.set_cons_succ]
        refine wpAnyH_takeAt (i := 25) (v := (.int .u32 (q2.toNat : Int))) rfl (by kernel_rfl) (by kernel_rfl) (by kernel_rfl) (fun _ _ _ h => h) rfl (Or.inl ⟨by rfl, fun w' hS => ?_⟩) hHeld ?_
        · go_simp
        simp only [List.set_cons_zero, List.set_cons_succ]
        refine wpAnyH_ready (rs := [6]) (by kernel_rfl) (by simp) (AllReadyH.cons rfl (fun K' hK => ?_) AllReadyH.nil)
        go_simp
        go_at_call 58
        refine (T_r7.out _).mono ?_
        rintro e0 w' ⟨rfl, rfl⟩
        go_wp2_with fail
        refine hK.out _ _ hHeld (fun hHeld' => ?_)
        clear hK hHeld
        have hHeld := hHeld'
        clear hHeld'
        refine wpAnyH_ready (rs := [8]) (by kernel_rfl) (by simp) (AllReadyH.cons rfl (fun K' hK => ?_) AllReadyH.nil)
        go_simp
        go_at_call 58
        refine (T_r18.out _).mono ?_
        rintro e0 w' ⟨rfl, rfl⟩
        go_wp2_with fail
        refine hK.out _ _ hHeld (fun hHeld' => ?_)
        clear hK hHeld
        have hHeld := hHeld'
        clear hHeld'
        refine wpAnyH_takeAt (i := 9) (v := (.int .u32 (p1.toNat : Int))) rfl (by kernel_rfl) (by kernel_rfl) (by kernel_rfl) (fun _ _ _ h => h) rfl (Or.inl ⟨by rfl, fun w' hS => ?_⟩) hHeld ?_
        · go_simp
        simp only [List.set_cons_zero, List.set_cons_succ]
        refine wpAnyH_takeAt (i := 12) (v := (.int .u32 (p2.toNat : Int))) rfl (by kernel_rfl) (by kernel_rfl) (by kernel_rfl) (fun _ _ _ h => h) rfl (Or.inl ⟨by rfl, fun w' hS => ?_⟩) hHeld ?_
        · go_simp
        simp only [List.set_cons_zero, List.set_cons_succ]
        refine wpAnyH_takeAt (i := 13) (v := (.int .u32 (m1.toNat : Int))) rfl (by kernel_rfl) (by kernel_rfl) (by kernel_rfl) (fun _ _ _ h => h) rfl (Or.inl ⟨by rfl, fun w' hS => ?_⟩) hHeld ?_
        · go_simp
        simp only [List.set_cons_zero, List.set_cons_succ]
        refine wpAnyH_takeAt (i := 18) (v := (.int .u32 (m2.toNat : Int))) rfl (by kernel_rfl) (by kernel_rfl) (by kernel_rfl) (fun _ _ _ h => h) rfl (Or.inl ⟨by rfl, fun w' hS => ?_⟩) hHeld ?_
        · go_simp
        simp only [List.set_cons_zero, List.set_cons_succ]
        refine wpAnyH_ready (rs := [20]) (by kernel_rfl) (by simp) (AllReadyH.cons rfl (fun K' hK => ?_) AllReadyH.nil)
        go_simp
        go_at_call 58
        refine (T_r17.out _).mono ?_
        rintro e0 w' ⟨rfl, rfl⟩
        go_wp2_with fail
        refine hK.out _ _ hHeld (fun hHeld' => ?_)
        clear hK hHeld
        have hHeld := hHeld'
        clear hHeld'
        refine wpAnyH_ready (rs := [22]) (by kernel_rfl) (by simp) (AllReadyH.cons rfl (fun K' hK => ?_) AllReadyH.nil)
        go_simp
        go_at_call 58
        refine (T_r19.out _).mono ?_
        rintro e0 w' ⟨rfl, rfl⟩
        go_wp2_with fail
        refine hK.out _ _ hHeld (fun hHeld' => ?_)
        clear hK hHeld
        have hHeld := hHeld'
        clear hHeld'
        refine wpAnyH_takeAt (i := 23) (v := (.int .u32 (p3.toNat : Int))) rfl (by kernel_rfl) (by kernel_rfl) (by kernel_rfl) (fun _ _ _ h => h) rfl (Or.inl ⟨by rfl, fun w' hS => ?_⟩) hHeld ?_
        · go_simp
        simp only [List.set_cons_zero, List.set_cons_succ]
        refine wpAnyH_takeAt (i := 26) (v := (.int .u32 (p4.toNat : Int))) rfl (by kernel_rfl) (by kernel_rfl) (by kernel_rfl) (fun _ _ _ h => h) rfl (Or.inl ⟨by rfl, fun w' hS => ?_⟩) hHeld ?_
        · go_simp
        simp only [List.set_cons_zero, List.set_cons_succ]
        refine wpAnyH_takeAt (i := 27) (v := (.int .u32 (m3.toNat : Int))) rfl (by kernel_rfl) (by kernel_rfl) (by kernel_rfl) (fun _ _ _ h => h) rfl (Or.inl ⟨by rfl, fun w' hS => ?_⟩) hHeld ?_
        · go_simp
        simp only [List.set_cons_zero, List.set_cons_succ]
        refine wpAnyH_takeAt (i := 28) (v := (.pointer (some ⟨gw, i, none⟩))) rfl (by kernel_rfl) (by kernel_rfl) (by kernel_rfl) (fun _ _ _ h => h) rfl (Or.inl ⟨by rfl, fun w' hS => ?_⟩) hHeld ?_
        · go_simp
        simp only [List.set_cons_zero, List.set_cons_succ]
        refine wpAnyH_ready (rs := [29]) (by kernel_rfl) (by simp) (AllReadyH.cons rfl (fun K' hK => ?_) AllReadyH.nil)
        go_simp
        refine hK.out _ _ ⟨(World.cell?_setCell_other _ ⟨gw, i, none⟩ ⟨gw, i16, none⟩ _ (by intro h; have := congrArg Addr.off h; simp at this; omega)).trans c16, (World.cell?_setCell_other _ ⟨gw, i, none⟩ ⟨gw, i7, none⟩ _ (by intro h; have := congrArg Addr.off h; simp at this; omega)).trans c7⟩ (fun hHeld' => ?_)
        clear hK hHeld hHeld'
        refine wpAnyH_done (by kernel_rfl) ?_ _
        go_wp2_with fail
        go_roundg (64 - (i + 1))
        case measure => omega
        case rel =>
          refine ⟨i + 1, by omega, rfl, by go_num, ?_, ?_, ?_, ?_⟩
          · rw [← upW_set F _ hi2, HZ.out]
            exact WB.set HW5.out i m3
          · exact CT.far HD5.out (Ne.symm hgwc) _
          · exact SB.far HSB5.out (Ne.symm hgws) _
          · exact (HBUT5.out.drew).setNew (by show w.heap.size ≤ gw; omega) _
    · have hi3 : i = 64 := by omega
      subst hi3
      have hRG : wr.rangeAt gs 0 (H.map u32v) := fun j u hu => by
        have hj : j < 8 := by
          rcases Nat.lt_or_ge j 8 with h | h
          · exact h
          · rw [List.getElem?_eq_none (by rw [List.length_map, HH.out]; exact h)] at hu; cases hu
        rw [Nat.zero_add, HSB.out.word j (by rw [HH.out]; exact hj), ← hu, List.getElem?_map, List.getElem?_eq_getElem (by rw [HH.out]; exact hj), List.getD_eq_getElem?_getD, List.getElem?_eq_getElem (by rw [HH.out]; exact hj)]
        rfl
      have HRG := Lib.hid hRG
      have HI : Hid ((Try.prog.info? 69).map (·.size) = some (H.map u32v).length) := by show _ = _; rw [List.length_map, HH.out]; exact info8
      have HJ : Hid ((Try.prog.info? 69).map (·.size) = some (H.map u32v).toArray.size) := by show _ = _; rw [List.size_toArray, List.length_map, HH.out]; exact info8
      have HV0 : Hid (WB (wr.alloc (.cells (z8.map u32v).toArray 69)) wr.heap.size 69 z8) := WB.new wr _ z8
      have HTH : Hid ((wr.alloc (.cells (z8.map u32v).toArray 69)).there wr.heap.size 0 (H.map u32v).toArray.size) := by show World.there _ _ _ (H.map u32v).toArray.size; rw [show (H.map u32v).toArray.size = 8 by rw [List.size_toArray, List.length_map, HH.out]]; exact wb_there HV0.out rfl
      clear hRG
      go_upto_region 11 with (first
        | ((with_reducible show wpList _ _ _ (⟨some 74, .load 69 (.tmp 73), _, _, _, _⟩ :: _) _ _); refine wpList_load_mid rfl 69 (.tmp 73) rfl gs 0 rfl (H.map u32v) _ HRG.out Try.underlying69 rfl HI.out ?_)
        | ((with_reducible show wpList _ _ _ (⟨none, .store 69 (.tmp 9) (.tmp 74), _, _, _, _⟩ :: _) _ _); rw [← z8v]; refine wpList_store_mid rfl 69 (.tmp 9) (.tmp 74) rfl wr.heap.size 0 (H.map u32v).toArray rfl rfl HTH.out HJ.out (all_oneCell_toArray (u32_one _)) ?_))
      obtain ⟨gv, hgv⟩ : ∃ gv, gv = wr.heap.size := ⟨_, rfl⟩
      have hgvw : gw < gv := by rw [hgv]; exact HW.out.lt
      have HV1 : Hid (WB ((wr.alloc (.cells (z8.map u32v).toArray 69)).setCells gv 0 (H.map u32v)) gv 69 H) := by show WB _ _ _ _; rw [hgv]; exact WB.setAll HV0.out (by rw [HH.out]; rfl)
      have HW1 : Hid (WB ((wr.alloc (.cells (z8.map u32v).toArray 69)).setCells gv 0 (H.map u32v)) gw 40 (upW 64 64 F (fun _ => 0))) := Blk.farAll (by omega) _ _ _ (HW.out.alloc _)
      have HD1' : Hid (CD ((wr.alloc (.cells (z8.map u32v).toArray 69)).setCells gv 0 (H.map u32v)) gc) := Blk.farAll (by omega) _ _ _ (HD.out.alloc _)
      have HS1' : Hid (SB ((wr.alloc (.cells (z8.map u32v).toArray 69)).setCells gv 0 (H.map u32v)) gs H v n gc) := Blk.farAll (by omega) _ _ _ (Blk.alloc HSB.out _)
      have HB1' : Hid (But gc w ((wr.alloc (.cells (z8.map u32v).toArray 69)).setCells gv 0 (H.map u32v))) := But.setAllNew (w' := wr.alloc (.cells (z8.map u32v).toArray 69)) (by omega) _ _ _ (HBUT.out.alloc _)
      rw [← hgv]
      generalize ((wr.alloc (.cells (z8.map u32v).toArray 69)).setCells gv 0 (H.map u32v)) = w6 at *
      clear hgv HV0 HTH HRG HI HJ HW HD HSB HBUT
      go_wp2_with fail
      go_loopg [75] 64 (fun gg v75 wx => ∃ i : Nat, i ≤ 64 ∧ gg = 64 - i ∧ v75 = .int .i64 (i : Int) ∧ WB wx gv 69 (vS H m i) ∧ WB wx gw 40 (upW 64 64 F (fun _ => 0)) ∧ CD wx gc ∧ SB wx gs H v n gc ∧ But gc w wx)
      case atStart => exact ⟨0, by omega, rfl, rfl, HV1.out, HW1.out, HD1'.out, HS1'.out, HB1'.out⟩
      case round =>
        obtain ⟨i, hi, rfl, rfl, hv, hw, hd, hsb, hbut⟩ := hrel
        clear HV1 HW1 HD1' HS1' HB1'
        obtain ⟨V, hV⟩ : ∃ V, V = vS H m i := ⟨_, rfl⟩
        rw [← hV] at hv
        have hVl : V.length = 8 := by rw [hV]; exact vS_len m HH.out i
        by_cases hi2 : i < 64
        · have hii : (i : Int) < 64 := by omega
          have c0 := hv.cell 0 (by rw [hVl]; decide)
          have c1 := hv.cell 1 (by rw [hVl]; decide)
          have c2 := hv.cell 2 (by rw [hVl]; decide)
          have c3 := hv.cell 3 (by rw [hVl]; decide)
          have c4 := hv.cell 4 (by rw [hVl]; decide)
          have c5 := hv.cell 5 (by rw [hVl]; decide)
          have c6 := hv.cell 6 (by rw [hVl]; decide)
          have c7 := hv.cell 7 (by rw [hVl]; decide)
          have ck := CT.cell hd i (by rw [kL_len]; exact hi2)
          have cw := hw.cell i (by rw [upW_len]; exact hi2)
          rw [upW_getD _ _ hi2, if_pos hi2] at cw
          obtain ⟨a, ha⟩ : ∃ z, z = V.getD 0 0 := ⟨_, rfl⟩
          obtain ⟨x1, hx1⟩ : ∃ z, z = V.getD 1 0 := ⟨_, rfl⟩
          obtain ⟨x2, hx2⟩ : ∃ z, z = V.getD 2 0 := ⟨_, rfl⟩
          obtain ⟨x3, hx3⟩ : ∃ z, z = V.getD 3 0 := ⟨_, rfl⟩
          obtain ⟨e, he⟩ : ∃ z, z = V.getD 4 0 := ⟨_, rfl⟩
          obtain ⟨x5, hx5⟩ : ∃ z, z = V.getD 5 0 := ⟨_, rfl⟩
          obtain ⟨x6, hx6⟩ : ∃ z, z = V.getD 6 0 := ⟨_, rfl⟩
          obtain ⟨x7, hx7⟩ : ∃ z, z = V.getD 7 0 := ⟨_, rfl⟩
          obtain ⟨kk, hkk⟩ : ∃ z, z = kL.getD i 0 := ⟨_, rfl⟩
          obtain ⟨ww, hww⟩ : ∃ z, z = F i := ⟨_, rfl⟩
          have hT1 : t1 kk ww V = x7 + (rr e 6 ^^^ rr e 11 ^^^ rr e 25) + (e &&& x5 ^^^ ~~~e &&& x6) + kk + ww := by rw [t1, he, hx5, hx6, hx7]
          have hT2 : t2 V = (rr a 2 ^^^ rr a 13 ^^^ rr a 22) + (a &&& x1 ^^^ a &&& x2 ^^^ x1 &&& x2) := by rw [t2, ha, hx1, hx2]
          have hNX : vS H m (i + 1) = [t1 kk ww V + t2 V, a, x1, x2, x3 + t1 kk ww V, e, x5, x6] := by
            rw [vS, ← hV, ← hkk, rnd, ha, hx1, hx2, hx3, he, hx5, hx6, hww, HF.out]
          rw [← ha] at c0
          rw [← hx1] at c1
          rw [← hx2] at c2
          rw [← hx3] at c3
          rw [← he] at c4
          rw [← hx5] at c5
          rw [← hx6] at c6
          rw [← hx7] at c7
          rw [← hkk] at ck
          rw [← hww] at cw
          have HT1 := Lib.hid hT1
          have HT2 := Lib.hid hT2
          have HNX := Lib.hid hNX
          have HV := Lib.hid hv
          have HVL := Lib.hid hVl
          have HW := Lib.hid hw
          have HD := Lib.hid hd
          have HSB := Lib.hid hsb
          have HBUT := Lib.hid hbut
          clear hv hw hd hsb hbut ha hx1 hx2 hx3 he hx5 hx6 hx7 hkk hww hT1 hT2 hNX hV hVl
          obtain ⟨s6, h_s6⟩ : ∃ z : UInt32, z = rr e 6 := ⟨_, rfl⟩
          have T_s6 : Hid (∀ wx, Calls Try.prog 58 #[.int .u32 (e.toNat : Int), .int .i64 6] wx fun e w' => e = .returned (.int .u32 (s6.toNat : Int)) ∧ wx = w') := fun wx => by rw [h_s6]; exact turn_6 e wx
          have H_s6 := Lib.hid h_s6
          clear h_s6
          obtain ⟨s11, h_s11⟩ : ∃ z : UInt32, z = rr e 11 := ⟨_, rfl⟩
          have T_s11 : Hid (∀ wx, Calls Try.prog 58 #[.int .u32 (e.toNat : Int), .int .i64 11] wx fun e w' => e = .returned (.int .u32 (s11.toNat : Int)) ∧ wx = w') := fun wx => by rw [h_s11]; exact turn_11 e wx
          have H_s11 := Lib.hid h_s11
          clear h_s11
          obtain ⟨s25, h_s25⟩ : ∃ z : UInt32, z = rr e 25 := ⟨_, rfl⟩
          have T_s25 : Hid (∀ wx, Calls Try.prog 58 #[.int .u32 (e.toNat : Int), .int .i64 25] wx fun e w' => e = .returned (.int .u32 (s25.toNat : Int)) ∧ wx = w') := fun wx => by rw [h_s25]; exact turn_25 e wx
          have H_s25 := Lib.hid h_s25
          clear h_s25
          obtain ⟨p1, h_p1⟩ : ∃ z : UInt32, z = s6 ^^^ s11 := ⟨_, rfl⟩
          have f_p1 := W.xor s6 s11
          rw [← h_p1] at f_p1
          have H_p1 := Lib.hid h_p1
          clear h_p1
          obtain ⟨p2, h_p2⟩ : ∃ z : UInt32, z = p1 ^^^ s25 := ⟨_, rfl⟩
          have f_p2 := W.xor p1 s25
          rw [← h_p2] at f_p2
          have H_p2 := Lib.hid h_p2
          clear h_p2
          obtain ⟨m1, h_m1⟩ : ∃ z : UInt32, z = x7 + p2 := ⟨_, rfl⟩
          have f_m1 := W.add x7 p2
          have e_m1 := W.addw x7 p2
          rw [← h_m1] at f_m1 e_m1
          have H_m1 := Lib.hid h_m1
          clear h_m1
          obtain ⟨q1, h_q1⟩ : ∃ z : UInt32, z = e &&& x5 := ⟨_, rfl⟩
          have f_q1 := W.and e x5
          rw [← h_q1] at f_q1
          have H_q1 := Lib.hid h_q1
          clear h_q1
          obtain ⟨q2, h_q2⟩ : ∃ z : UInt32, z = ~~~e := ⟨_, rfl⟩
          have f_q2 := W.notx e
          rw [← h_q2] at f_q2
          have H_q2 := Lib.hid h_q2
          clear h_q2
          obtain ⟨q3, h_q3⟩ : ∃ z : UInt32, z = q2 &&& x6 := ⟨_, rfl⟩
          have f_q3 := W.and q2 x6
          rw [← h_q3] at f_q3
          have H_q3 := Lib.hid h_q3
          clear h_q3
          obtain ⟨p3, h_p3⟩ : ∃ z : UInt32, z = q1 ^^^ q3 := ⟨_, rfl⟩
          have f_p3 := W.xor q1 q3
          rw [← h_p3] at f_p3
          have H_p3 := Lib.hid h_p3
          clear h_p3
          obtain ⟨m2, h_m2⟩ : ∃ z : UInt32, z = m1 + p3 := ⟨_, rfl⟩
          have f_m2 := W.add m1 p3
          have e_m2 := W.addw m1 p3
          rw [← h_m2] at f_m2 e_m2
          have H_m2 := Lib.hid h_m2
          clear h_m2
          obtain ⟨m3, h_m3⟩ : ∃ z : UInt32, z = m2 + kk := ⟨_, rfl⟩
          have f_m3 := W.add m2 kk
          have e_m3 := W.addw m2 kk
          rw [← h_m3] at f_m3 e_m3
          have H_m3 := Lib.hid h_m3
          clear h_m3
          obtain ⟨m4, h_m4⟩ : ∃ z : UInt32, z = m3 + ww := ⟨_, rfl⟩
          have f_m4 := W.add m3 ww
          have e_m4 := W.addw m3 ww
          rw [← h_m4] at f_m4 e_m4
          have H_m4 := Lib.hid h_m4
          clear h_m4
          obtain ⟨s2, h_s2⟩ : ∃ z : UInt32, z = rr a 2 := ⟨_, rfl⟩
          have T_s2 : Hid (∀ wx, Calls Try.prog 58 #[.int .u32 (a.toNat : Int), .int .i64 2] wx fun e w' => e = .returned (.int .u32 (s2.toNat : Int)) ∧ wx = w') := fun wx => by rw [h_s2]; exact turn_2 a wx
          have H_s2 := Lib.hid h_s2
          clear h_s2
          obtain ⟨s13, h_s13⟩ : ∃ z : UInt32, z = rr a 13 := ⟨_, rfl⟩
          have T_s13 : Hid (∀ wx, Calls Try.prog 58 #[.int .u32 (a.toNat : Int), .int .i64 13] wx fun e w' => e = .returned (.int .u32 (s13.toNat : Int)) ∧ wx = w') := fun wx => by rw [h_s13]; exact turn_13 a wx
          have H_s13 := Lib.hid h_s13
          clear h_s13
          obtain ⟨s22, h_s22⟩ : ∃ z : UInt32, z = rr a 22 := ⟨_, rfl⟩
          have T_s22 : Hid (∀ wx, Calls Try.prog 58 #[.int .u32 (a.toNat : Int), .int .i64 22] wx fun e w' => e = .returned (.int .u32 (s22.toNat : Int)) ∧ wx = w') := fun wx => by rw [h_s22]; exact turn_22 a wx
          have H_s22 := Lib.hid h_s22
          clear h_s22
          obtain ⟨y1, h_y1⟩ : ∃ z : UInt32, z = s2 ^^^ s13 := ⟨_, rfl⟩
          have f_y1 := W.xor s2 s13
          rw [← h_y1] at f_y1
          have H_y1 := Lib.hid h_y1
          clear h_y1
          obtain ⟨y2, h_y2⟩ : ∃ z : UInt32, z = y1 ^^^ s22 := ⟨_, rfl⟩
          have f_y2 := W.xor y1 s22
          rw [← h_y2] at f_y2
          have H_y2 := Lib.hid h_y2
          clear h_y2
          obtain ⟨z1, h_z1⟩ : ∃ z : UInt32, z = a &&& x1 := ⟨_, rfl⟩
          have f_z1 := W.and a x1
          rw [← h_z1] at f_z1
          have H_z1 := Lib.hid h_z1
          clear h_z1
          obtain ⟨z2, h_z2⟩ : ∃ z : UInt32, z = a &&& x2 := ⟨_, rfl⟩
          have f_z2 := W.and a x2
          rw [← h_z2] at f_z2
          have H_z2 := Lib.hid h_z2
          clear h_z2
          obtain ⟨z3, h_z3⟩ : ∃ z : UInt32, z = z1 ^^^ z2 := ⟨_, rfl⟩
          have f_z3 := W.xor z1 z2
          rw [← h_z3] at f_z3
          have H_z3 := Lib.hid h_z3
          clear h_z3
          obtain ⟨z4, h_z4⟩ : ∃ z : UInt32, z = x1 &&& x2 := ⟨_, rfl⟩
          have f_z4 := W.and x1 x2
          rw [← h_z4] at f_z4
          have H_z4 := Lib.hid h_z4
          clear h_z4
          obtain ⟨z5, h_z5⟩ : ∃ z : UInt32, z = z3 ^^^ z4 := ⟨_, rfl⟩
          have f_z5 := W.xor z3 z4
          rw [← h_z5] at f_z5
          have H_z5 := Lib.hid h_z5
          clear h_z5
          obtain ⟨u1, h_u1⟩ : ∃ z : UInt32, z = y2 + z5 := ⟨_, rfl⟩
          have f_u1 := W.add y2 z5
          have e_u1 := W.addw y2 z5
          rw [← h_u1] at f_u1 e_u1
          have H_u1 := Lib.hid h_u1
          clear h_u1
          obtain ⟨n0, h_n0⟩ : ∃ z : UInt32, z = m4 + u1 := ⟨_, rfl⟩
          have f_n0 := W.add m4 u1
          have e_n0 := W.addw m4 u1
          rw [← h_n0] at f_n0 e_n0
          have H_n0 := Lib.hid h_n0
          clear h_n0
          obtain ⟨n4, h_n4⟩ : ∃ z : UInt32, z = x3 + m4 := ⟨_, rfl⟩
          have f_n4 := W.add x3 m4
          have e_n4 := W.addw x3 m4
          rw [← h_n4] at f_n4 e_n4
          have H_n4 := Lib.hid h_n4
          clear h_n4
          have HT1' : Hid (t1 kk ww V = m4) := by show _ = _; rw [HT1.out, H_m4.out, H_m3.out, H_m2.out, H_m1.out, H_p3.out, H_q3.out, H_q2.out, H_q1.out, H_p2.out, H_p1.out, H_s6.out, H_s11.out, H_s25.out]
          have HT2' : Hid (t2 V = u1) := by show _ = _; rw [HT2.out, H_u1.out, H_z5.out, H_z4.out, H_z3.out, H_z2.out, H_z1.out, H_y2.out, H_y1.out, H_s2.out, H_s13.out, H_s22.out]
          have HNEW : Hid (vS H m (i + 1) = [n0, a, x1, x2, n4, e, x5, x6]) := by show _ = _; rw [HNX.out, HT1'.out, HT2'.out, ← H_n0.out, ← H_n4.out]
          go_wp2_with fail
          go_quiet (fail)
          go_upto_region 15 with (fail)
          obtain ⟨w7, hw7⟩ : ∃ w7, w7 = wr.drewN nq := ⟨_, rfl⟩
          have c1 : w7.cell? ⟨gv, 1, none⟩ = some (.int .u32 (x1.toNat : Int)) := by rw [hw7]; exact c1
          have c2 : w7.cell? ⟨gv, 2, none⟩ = some (.int .u32 (x2.toNat : Int)) := by rw [hw7]; exact c2
          have c3 : w7.cell? ⟨gv, 3, none⟩ = some (.int .u32 (x3.toNat : Int)) := by rw [hw7]; exact c3
          have c5 : w7.cell? ⟨gv, 5, none⟩ = some (.int .u32 (x5.toNat : Int)) := by rw [hw7]; exact c5
          have c6 : w7.cell? ⟨gv, 6, none⟩ = some (.int .u32 (x6.toNat : Int)) := by rw [hw7]; exact c6
          have c7 : w7.cell? ⟨gv, 7, none⟩ = some (.int .u32 (x7.toNat : Int)) := by rw [hw7]; exact c7
          have ck : w7.cell? ⟨gc, 3 + i, none⟩ = some (.int .u32 (kk.toNat : Int)) := by rw [hw7]; exact ck
          have cw : w7.cell? ⟨gw, i, none⟩ = some (.int .u32 (ww.toNat : Int)) := by rw [hw7]; exact cw
          have HV7 : Hid (WB w7 gv 69 V) := by show WB _ _ _ _; rw [hw7]; exact HV.out.drewN nq
          have HW7 : Hid (WB w7 gw 40 (upW 64 64 F (fun _ => 0))) := by show WB _ _ _ _; rw [hw7]; exact HW.out.drewN nq
          have HD7 : Hid (CD w7 gc) := by show CT _ _ _ _ _; rw [hw7]; exact HD.out.drewN nq
          have HSB7 : Hid (SB w7 gs H v n gc) := by show SB _ _ _ _ _ _; rw [hw7]; exact HSB.out
          have HBUT7 : Hid (But gc w w7) := by show But _ _ _; rw [hw7]; exact HBUT.out.drewN nq
          rw [← hw7]
          clear hw7 HV HW HD HSB HBUT c0 c4
          refine wp_region_held_drew (S := (fun w' => w'.cell? ⟨gv, 7, none⟩ = some (.int .u32 (x7.toNat : Int)) ∧ w'.cell? ⟨gv, 5, none⟩ = some (.int .u32 (x5.toNat : Int)) ∧ w'.cell? ⟨gv, 6, none⟩ = some (.int .u32 (x6.toNat : Int)) ∧ w'.cell? ⟨gc, 3 + i, none⟩ = some (.int .u32 (kk.toNat : Int)) ∧ w'.cell? ⟨gw, i, none⟩ = some (.int .u32 (ww.toNat : Int)))) (by kernel_rfl) (⟨c7, c5, c6, ck, cw⟩) (fun hHeld => ?_)
          refine wpAnyH_takeAt (i := 0) (v := (.pointer (some ⟨gv, 7, none⟩))) rfl (by kernel_rfl) (by kernel_rfl) (by kernel_rfl) (fun _ _ _ h => h) rfl (Or.inl ⟨by rfl, fun w' hS => ?_⟩) hHeld ?_
          · go_simp
          simp only [List.set_cons_zero, List.set_cons_succ]
          refine wpAnyH_takeAt (i := 1) (v := (.int .u32 (x7.toNat : Int))) rfl (by kernel_rfl) (by kernel_rfl) (by kernel_rfl) (fun _ _ _ h => h) rfl (Or.inl ⟨by rfl, fun w' hS => ?_⟩) hHeld ?_
          · have hc := hS.1
            go_simp
          simp only [List.set_cons_zero, List.set_cons_succ]
          refine wpAnyH_takeAt (i := 2) (v := (.int .u32 (e.toNat : Int))) rfl (by kernel_rfl) (by kernel_rfl) (by kernel_rfl) (fun _ _ _ h => h) rfl (Or.inl ⟨by rfl, fun w' hS => ?_⟩) hHeld ?_
          · go_simp
          simp only [List.set_cons_zero, List.set_cons_succ]
          refine wpAnyH_takeAt (i := 4) (v := (.int .u32 (e.toNat : Int))) rfl (by kernel_rfl) (by kernel_rfl) (by kernel_rfl) (fun _ _ _ h => h) rfl (Or.inl ⟨by rfl, fun w' hS => ?_⟩) hHeld ?_
          · go_simp
          simp only [List.set_cons_zero, List.set_cons_succ]
          refine wpAnyH_takeAt (i := 7) (v := (.int .u32 (e.toNat : Int))) rfl (by kernel_rfl) (by kernel_rfl) (by kernel_rfl) (fun _ _ _ h => h) rfl (Or.inl ⟨by rfl, fun w' hS => ?_⟩) hHeld ?_
          · go_simp
          simp only [List.set_cons_zero, List.set_cons_succ]
          refine wpAnyH_takeAt (i := 11) (v := (.int .u32 (e.toNat : Int))) rfl (by kernel_rfl) (by kernel_rfl) (by kernel_rfl) (fun _ _ _ h => h) rfl (Or.inl ⟨by rfl, fun w' hS => ?_⟩) hHeld ?_
          · go_simp
          simp only [List.set_cons_zero, List.set_cons_succ]
          refine wpAnyH_takeAt (i := 12) (v := (.pointer (some ⟨gv, 5, none⟩))) rfl (by kernel_rfl) (by kernel_rfl) (by kernel_rfl) (fun _ _ _ h => h) rfl (Or.inl ⟨by rfl, fun w' hS => ?_⟩) hHeld ?_
          · go_simp
          simp only [List.set_cons_zero, List.set_cons_succ]
          refine wpAnyH_takeAt (i := 13) (v := (.int .u32 (x5.toNat : Int))) rfl (by kernel_rfl) (by kernel_rfl) (by kernel_rfl) (fun _ _ _ h => h) rfl (Or.inl ⟨by rfl, fun w' hS => ?_⟩) hHeld ?_
          · have hc := hS.2.1
            go_simp
          simp only [List.set_cons_zero, List.set_cons_succ]
          refine wpAnyH_takeAt (i := 14) (v := (.int .u32 (q1.toNat : Int))) rfl (by kernel_rfl) (by kernel_rfl) (by kernel_rfl) (fun _ _ _ h => h) rfl (Or.inl ⟨by rfl, fun w' hS => ?_⟩) hHeld ?_
          · go_simp
          simp only [List.set_cons_zero, List.set_cons_succ]
          refine wpAnyH_takeAt (i := 15) (v := (.int .u32 (e.toNat : Int))) rfl (by kernel_rfl) (by kernel_rfl) (by kernel_rfl) (fun _ _ _ h => h) rfl (Or.inl ⟨by rfl, fun w' hS => ?_⟩) hHeld ?_
          · go_simp
          simp only [List.set_cons_zero, List.set_cons_succ]
          refine wpAnyH_takeAt (i := 16) (v := (.int .u32 (q2.toNat : Int))) rfl (by kernel_rfl) (by kernel_rfl) (by kernel_rfl) (fun _ _ _ h => h) rfl (Or.inl ⟨by rfl, fun w' hS => ?_⟩) hHeld ?_
          · go_simp
          simp only [List.set_cons_zero, List.set_cons_succ]
          refine wpAnyH_takeAt (i := 17) (v := (.pointer (some ⟨gv, 6, none⟩))) rfl (by kernel_rfl) (by kernel_rfl) (by kernel_rfl) (fun _ _ _ h => h) rfl (Or.inl ⟨by rfl, fun w' hS => ?_⟩) hHeld ?_
          · go_simp
          simp only [List.set_cons_zero, List.set_cons_succ]
          refine wpAnyH_takeAt (i := 18) (v := (.int .u32 (x6.toNat : Int))) rfl (by kernel_rfl) (by kernel_rfl) (by kernel_rfl) (fun _ _ _ h => h) rfl (Or.inl ⟨by rfl, fun w' hS => ?_⟩) hHeld ?_
          · have hc := hS.2.2.1
            go_simp
          simp only [List.set_cons_zero, List.set_cons_succ]
          refine wpAnyH_takeAt (i := 19) (v := (.int .u32 (q3.toNat : Int))) rfl (by kernel_rfl) (by kernel_rfl) (by kernel_rfl) (fun _ _ _ h => h) rfl (Or.inl ⟨by rfl, fun w' hS => ?_⟩) hHeld ?_
          · go_simp
          simp only [List.set_cons_zero, List.set_cons_succ]
          refine wpAnyH_takeAt (i := 20) (v := (.int .u32 (p3.toNat : Int))) rfl (by kernel_rfl) (by kernel_rfl) (by kernel_rfl) (fun _ _ _ h => h) rfl (Or.inl ⟨by rfl, fun w' hS => ?_⟩) hHeld ?_
          · go_simp
          simp only [List.set_cons_zero, List.set_cons_succ]
          refine wpAnyH_takeAt (i := 22) (v := (.pointer (some ⟨gc, 3, none⟩))) rfl (by kernel_rfl) (by kernel_rfl) (by kernel_rfl) (fun _ _ _ h => h) rfl (Or.inl ⟨by rfl, fun w' hS => ?_⟩) hHeld ?_
          · go_simp
          simp only [List.set_cons_zero, List.set_cons_succ]
          refine wpAnyH_takeAt (i := 23) (v := (.int .i64 (i : Int))) rfl (by kernel_rfl) (by kernel_rfl) (by kernel_rfl) (fun _ _ _ h => h) rfl (Or.inl ⟨by rfl, fun w' hS => ?_⟩) hHeld ?_
          · go_simp
          simp only [List.set_cons_zero, List.set_cons_succ]
          refine wpAnyH_takeAt (i := 24) (v := (.pointer (some ⟨gc, 3, none⟩))) rfl (by kernel_rfl) (by kernel_rfl) (by kernel_rfl) (fun _ _ _ h => h) rfl (Or.inl ⟨by rfl, fun w' hS => ?_⟩) hHeld ?_
          · go_simp
          simp only [List.set_cons_zero, List.set_cons_succ]
          refine wpAnyH_takeAt (i := 25) (v := (.pointer (some ⟨gc, 3 + i, none⟩))) rfl (by kernel_rfl) (by kernel_rfl) (by kernel_rfl) (fun _ _ _ h => h) rfl (Or.inl ⟨by rfl, fun w' hS => ?_⟩) hHeld ?_
          · go_simp
          simp only [List.set_cons_zero, List.set_cons_succ]
          refine wpAnyH_takeAt (i := 26) (v := (.int .u32 (kk.toNat : Int))) rfl (by kernel_rfl) (by kernel_rfl) (by kernel_rfl) (fun _ _ _ h => h) rfl (Or.inl ⟨by rfl, fun w' hS => ?_⟩) hHeld ?_
          · have hc := hS.2.2.2.1
            go_simp
          simp only [List.set_cons_zero, List.set_cons_succ]
          refine wpAnyH_takeAt (i := 28) (v := (.int .i64 (i : Int))) rfl (by kernel_rfl) (by kernel_rfl) (by kernel_rfl) (fun _ _ _ h => h) rfl (Or.inl ⟨by rfl, fun w' hS => ?_⟩) hHeld ?_
          · go_simp
          simp only [List.set_cons_zero, List.set_cons_succ]
          refine wpAnyH_takeAt (i := 29) (v := (.pointer (some ⟨gw, i, none⟩))) rfl (by kernel_rfl) (by kernel_rfl) (by kernel_rfl) (fun _ _ _ h => h) rfl (Or.inl ⟨by rfl, fun w' hS => ?_⟩) hHeld ?_
          · go_simp
          simp only [List.set_cons_zero, List.set_cons_succ]
          refine wpAnyH_takeAt (i := 30) (v := (.int .u32 (ww.toNat : Int))) rfl (by kernel_rfl) (by kernel_rfl) (by kernel_rfl) (fun _ _ _ h => h) rfl (Or.inl ⟨by rfl, fun w' hS => ?_⟩) hHeld ?_
          · have hc := hS.2.2.2.2
            go_simp
          simp only [List.set_cons_zero, List.set_cons_succ]
          refine wpAnyH_ready (rs := [3]) (by kernel_rfl) (by simp) (AllReadyH.cons rfl (fun K' hK => ?_) AllReadyH.nil)
          go_simp
          go_at_call 58
          refine (T_s6.out _).mono ?_
          rintro e0 w' ⟨rfl, rfl⟩
          go_wp2_with fail
          refine hK.out _ _ hHeld (fun hHeld' => ?_)
          clear hK hHeld
          have hHeld := hHeld'
          clear hHeld'
          refine wpAnyH_ready (rs := [5]) (by kernel_rfl) (by simp) (AllReadyH.cons rfl (fun K' hK => ?_) AllReadyH.nil)
          go_simp
          go_at_call 58
          refine (T_s11.out _).mono ?_
          rintro e0 w' ⟨rfl, rfl⟩
          go_wp2_with fail
          refine hK.out _ _ hHeld (fun hHeld' => ?_)
          clear hK hHeld
          have hHeld := hHeld'
          clear hHeld'
          refine wpAnyH_takeAt (i := 6) (v := (.int .u32 (p1.toNat : Int))) rfl (by kernel_rfl) (by kernel_rfl) (by kernel_rfl) (fun _ _ _ h => h) rfl (Or.inl ⟨by rfl, fun w' hS => ?_⟩) hHeld ?_
          · go_simp
          simp only [List.set_cons_zero, List.set_cons_succ]
          refine wpAnyH_ready (rs := [8]) (by kernel_rfl) (by simp) (AllReadyH.cons rfl (fun K' hK => ?_) AllReadyH.nil)
          go_simp
          go_at_call 58
          refine (T_s25.out _).mono ?_
          rintro e0 w' ⟨rfl, rfl⟩
          go_wp2_with fail
          refine hK.out _ _ hHeld (fun hHeld' => ?_)
          clear hK hHeld
          have hHeld := hHeld'
          clear hHeld'
          refine wpAnyH_takeAt (i := 9) (v := (.int .u32 (p2.toNat : Int))) rfl (by kernel_rfl) (by kernel_rfl) (by kernel_rfl) (fun _ _ _ h => h) rfl (Or.inl ⟨by rfl, fun w' hS => ?_⟩) hHeld ?_
          · go_simp
          simp only [List.set_cons_zero, List.set_cons_succ]
          refine wpAnyH_takeAt (i := 10) (v := (.int .u32 (m1.toNat : Int))) rfl (by kernel_rfl) (by kernel_rfl) (by kernel_rfl) (fun _ _ _ h => h) rfl (Or.inl ⟨by rfl, fun w' hS => ?_⟩) hHeld ?_
          · go_simp
          simp only [List.set_cons_zero, List.set_cons_succ]
          refine wpAnyH_takeAt (i := 21) (v := (.int .u32 (m2.toNat : Int))) rfl (by kernel_rfl) (by kernel_rfl) (by kernel_rfl) (fun _ _ _ h => h) rfl (Or.inl ⟨by rfl, fun w' hS => ?_⟩) hHeld ?_
          · go_simp
          simp only [List.set_cons_zero, List.set_cons_succ]
          refine wpAnyH_takeAt (i := 27) (v := (.int .u32 (m3.toNat : Int))) rfl (by kernel_rfl) (by kernel_rfl) (by kernel_rfl) (fun _ _ _ h => h) rfl (Or.inl ⟨by rfl, fun w' hS => ?_⟩) hHeld ?_
          · go_simp
          simp only [List.set_cons_zero, List.set_cons_succ]
          refine wpAnyH_takeAt (i := 31) (v := (.int .u32 (m4.toNat : Int))) rfl (by kernel_rfl) (by kernel_rfl) (by kernel_rfl) (fun _ _ _ h => h) rfl (Or.inl ⟨by rfl, fun w' hS => ?_⟩) hHeld ?_
          · go_simp
          simp only [List.set_cons_zero, List.set_cons_succ]
          refine wpAnyH_ready (rs := [32]) (by kernel_rfl) (by simp) (AllReadyH.cons rfl (fun K' hK => ?_) AllReadyH.nil)
          go_simp
          refine hK.out _ _ hHeld (fun hHeld' => ?_)
          clear hK hHeld
          have hHeld := hHeld'
          clear hHeld'
          refine wpAnyH_done (by kernel_rfl) ?_ _
          clear hHeld
          go_upto_region 16 with (fail)
          refine wp_region_held_drew (S := (fun w' => w'.cell? ⟨gv, 1, none⟩ = some (.int .u32 (x1.toNat : Int)) ∧ w'.cell? ⟨gv, 2, none⟩ = some (.int .u32 (x2.toNat : Int)))) (by kernel_rfl) (⟨c1, c2⟩) (fun hHeld => ?_)
          refine wpAnyH_takeAt (i := 0) (v := (.int .u32 (a.toNat : Int))) rfl (by kernel_rfl) (by kernel_rfl) (by kernel_rfl) (fun _ _ _ h => h) rfl (Or.inl ⟨by rfl, fun w' hS => ?_⟩) hHeld ?_
          · go_simp
          simp only [List.set_cons_zero, List.set_cons_succ]
          refine wpAnyH_takeAt (i := 2) (v := (.int .u32 (a.toNat : Int))) rfl (by kernel_rfl) (by kernel_rfl) (by kernel_rfl) (fun _ _ _ h => h) rfl (Or.inl ⟨by rfl, fun w' hS => ?_⟩) hHeld ?_
          · go_simp
          simp only [List.set_cons_zero, List.set_cons_succ]
          refine wpAnyH_takeAt (i := 5) (v := (.int .u32 (a.toNat : Int))) rfl (by kernel_rfl) (by kernel_rfl) (by kernel_rfl) (fun _ _ _ h => h) rfl (Or.inl ⟨by rfl, fun w' hS => ?_⟩) hHeld ?_
          · go_simp
          simp only [List.set_cons_zero, List.set_cons_succ]
          refine wpAnyH_takeAt (i := 8) (v := (.int .u32 (a.toNat : Int))) rfl (by kernel_rfl) (by kernel_rfl) (by kernel_rfl) (fun _ _ _ h => h) rfl (Or.inl ⟨by rfl, fun w' hS => ?_⟩) hHeld ?_
          · go_simp
          simp only [List.set_cons_zero, List.set_cons_succ]
          refine wpAnyH_takeAt (i := 9) (v := (.pointer (some ⟨gv, 1, none⟩))) rfl (by kernel_rfl) (by kernel_rfl) (by kernel_rfl) (fun _ _ _ h => h) rfl (Or.inl ⟨by rfl, fun w' hS => ?_⟩) hHeld ?_
          · go_simp
          simp only [List.set_cons_zero, List.set_cons_succ]
          refine wpAnyH_takeAt (i := 10) (v := (.int .u32 (x1.toNat : Int))) rfl (by kernel_rfl) (by kernel_rfl) (by kernel_rfl) (fun _ _ _ h => h) rfl (Or.inl ⟨by rfl, fun w' hS => ?_⟩) hHeld ?_
          · have hc := hS.1
            go_simp
          simp only [List.set_cons_zero, List.set_cons_succ]
          refine wpAnyH_takeAt (i := 11) (v := (.int .u32 (z1.toNat : Int))) rfl (by kernel_rfl) (by kernel_rfl) (by kernel_rfl) (fun _ _ _ h => h) rfl (Or.inl ⟨by rfl, fun w' hS => ?_⟩) hHeld ?_
          · go_simp
          simp only [List.set_cons_zero, List.set_cons_succ]
          refine wpAnyH_takeAt (i := 12) (v := (.int .u32 (a.toNat : Int))) rfl (by kernel_rfl) (by kernel_rfl) (by kernel_rfl) (fun _ _ _ h => h) rfl (Or.inl ⟨by rfl, fun w' hS => ?_⟩) hHeld ?_
          · go_simp
          simp only [List.set_cons_zero, List.set_cons_succ]
          refine wpAnyH_takeAt (i := 13) (v := (.pointer (some ⟨gv, 2, none⟩))) rfl (by kernel_rfl) (by kernel_rfl) (by kernel_rfl) (fun _ _ _ h => h) rfl (Or.inl ⟨by rfl, fun w' hS => ?_⟩) hHeld ?_
          · go_simp
          simp only [List.set_cons_zero, List.set_cons_succ]
          refine wpAnyH_takeAt (i := 14) (v := (.int .u32 (x2.toNat : Int))) rfl (by kernel_rfl) (by kernel_rfl) (by kernel_rfl) (fun _ _ _ h => h) rfl (Or.inl ⟨by rfl, fun w' hS => ?_⟩) hHeld ?_
          · have hc := hS.2
            go_simp
          simp only [List.set_cons_zero, List.set_cons_succ]
          refine wpAnyH_takeAt (i := 15) (v := (.int .u32 (z2.toNat : Int))) rfl (by kernel_rfl) (by kernel_rfl) (by kernel_rfl) (fun _ _ _ h => h) rfl (Or.inl ⟨by rfl, fun w' hS => ?_⟩) hHeld ?_
          · go_simp
          simp only [List.set_cons_zero, List.set_cons_succ]
          refine wpAnyH_takeAt (i := 16) (v := (.int .u32 (z3.toNat : Int))) rfl (by kernel_rfl) (by kernel_rfl) (by kernel_rfl) (fun _ _ _ h => h) rfl (Or.inl ⟨by rfl, fun w' hS => ?_⟩) hHeld ?_
          · go_simp
          simp only [List.set_cons_zero, List.set_cons_succ]
          refine wpAnyH_takeAt (i := 17) (v := (.pointer (some ⟨gv, 1, none⟩))) rfl (by kernel_rfl) (by kernel_rfl) (by kernel_rfl) (fun _ _ _ h => h) rfl (Or.inl ⟨by rfl, fun w' hS => ?_⟩) hHeld ?_
          · go_simp
          simp only [List.set_cons_zero, List.set_cons_succ]
          refine wpAnyH_takeAt (i := 18) (v := (.int .u32 (x1.toNat : Int))) rfl (by kernel_rfl) (by kernel_rfl) (by kernel_rfl) (fun _ _ _ h => h) rfl (Or.inl ⟨by rfl, fun w' hS => ?_⟩) hHeld ?_
          · have hc := hS.1
            go_simp
          simp only [List.set_cons_zero, List.set_cons_succ]
          refine wpAnyH_takeAt (i := 19) (v := (.pointer (some ⟨gv, 2, none⟩))) rfl (by kernel_rfl) (by kernel_rfl) (by kernel_rfl) (fun _ _ _ h => h) rfl (Or.inl ⟨by rfl, fun w' hS => ?_⟩) hHeld ?_
          · go_simp
          simp only [List.set_cons_zero, List.set_cons_succ]
          refine wpAnyH_takeAt (i := 20) (v := (.int .u32 (x2.toNat : Int))) rfl (by kernel_rfl) (by kernel_rfl) (by kernel_rfl) (fun _ _ _ h => h) rfl (Or.inl ⟨by rfl, fun w' hS => ?_⟩) hHeld ?_
          · have hc := hS.2
            go_simp
          simp only [List.set_cons_zero, List.set_cons_succ]
          refine wpAnyH_takeAt (i := 21) (v := (.int .u32 (z4.toNat : Int))) rfl (by kernel_rfl) (by kernel_rfl) (by kernel_rfl) (fun _ _ _ h => h) rfl (Or.inl ⟨by rfl, fun w' hS => ?_⟩) hHeld ?_
          · go_simp
          simp only [List.set_cons_zero, List.set_cons_succ]
          refine wpAnyH_takeAt (i := 22) (v := (.int .u32 (z5.toNat : Int))) rfl (by kernel_rfl) (by kernel_rfl) (by kernel_rfl) (fun _ _ _ h => h) rfl (Or.inl ⟨by rfl, fun w' hS => ?_⟩) hHeld ?_
          · go_simp
          simp only [List.set_cons_zero, List.set_cons_succ]
          refine wpAnyH_ready (rs := [1]) (by kernel_rfl) (by simp) (AllReadyH.cons rfl (fun K' hK => ?_) AllReadyH.nil)
          go_simp
          go_at_call 58
          refine (T_s2.out _).mono ?_
          rintro e0 w' ⟨rfl, rfl⟩
          go_wp2_with fail
          refine hK.out _ _ hHeld (fun hHeld' => ?_)
          clear hK hHeld
          have hHeld := hHeld'
          clear hHeld'
          refine wpAnyH_ready (rs := [3]) (by kernel_rfl) (by simp) (AllReadyH.cons rfl (fun K' hK => ?_) AllReadyH.nil)
          go_simp
          go_at_call 58
          refine (T_s13.out _).mono ?_
          rintro e0 w' ⟨rfl, rfl⟩
          go_wp2_with fail
          refine hK.out _ _ hHeld (fun hHeld' => ?_)
          clear hK hHeld
          have hHeld := hHeld'
          clear hHeld'
          refine wpAnyH_takeAt (i := 4) (v := (.int .u32 (y1.toNat : Int))) rfl (by kernel_rfl) (by kernel_rfl) (by kernel_rfl) (fun _ _ _ h => h) rfl (Or.inl ⟨by rfl, fun w' hS => ?_⟩) hHeld ?_
          · go_simp
          simp only [List.set_cons_zero, List.set_cons_succ]
          refine wpAnyH_ready (rs := [6]) (by kernel_rfl) (by simp) (AllReadyH.cons rfl (fun K' hK => ?_) AllReadyH.nil)
          go_simp
          go_at_call 58
          refine (T_s22.out _).mono ?_
          rintro e0 w' ⟨rfl, rfl⟩
          go_wp2_with fail
          refine hK.out _ _ hHeld (fun hHeld' => ?_)
          clear hK hHeld
          have hHeld := hHeld'
          clear hHeld'
          refine wpAnyH_takeAt (i := 7) (v := (.int .u32 (y2.toNat : Int))) rfl (by kernel_rfl) (by kernel_rfl) (by kernel_rfl) (fun _ _ _ h => h) rfl (Or.inl ⟨by rfl, fun w' hS => ?_⟩) hHeld ?_
          · go_simp
          simp only [List.set_cons_zero, List.set_cons_succ]
          refine wpAnyH_takeAt (i := 23) (v := (.int .u32 (u1.toNat : Int))) rfl (by kernel_rfl) (by kernel_rfl) (by kernel_rfl) (fun _ _ _ h => h) rfl (Or.inl ⟨by rfl, fun w' hS => ?_⟩) hHeld ?_
          · go_simp
          simp only [List.set_cons_zero, List.set_cons_succ]
          refine wpAnyH_ready (rs := [24]) (by kernel_rfl) (by simp) (AllReadyH.cons rfl (fun K' hK => ?_) AllReadyH.nil)
          go_simp
          refine hK.out _ _ hHeld (fun hHeld' => ?_)
          clear hK hHeld
          have hHeld := hHeld'
          clear hHeld'
          refine wpAnyH_done (by kernel_rfl) ?_ _
          clear hHeld
          obtain ⟨NV, hNV⟩ : ∃ NV : List UInt32, NV = [n0, a, x1, x2, n4, e, x5, x6] := ⟨_, rfl⟩
          have HNV := Lib.hid hNV
          have hnv : (NV.map u32v).toArray = #[.int .u32 (n0.toNat : Int), .int .u32 (a.toNat : Int), .int .u32 (x1.toNat : Int), .int .u32 (x2.toNat : Int), .int .u32 (n4.toNat : Int), .int .u32 (e.toNat : Int), .int .u32 (x5.toNat : Int), .int .u32 (x6.toNat : Int)] := by rw [hNV]; rfl
          have HNVA := Lib.hid hnv
          have HTH7 : Hid (w7.there gv 0 (NV.map u32v).toArray.size) := by show World.there _ _ _ (NV.map u32v).toArray.size; rw [hnv]; exact wb_there HV7.out HVL.out
          have HJ7 : Hid ((Try.prog.info? 69).map (·.size) = some (NV.map u32v).toArray.size) := by show _ = _; rw [hnv]; exact info8
          clear hNV hnv
          go_wp2_with (first
            | ((with_reducible show wpList _ _ _ (⟨none, .store 69 (.tmp 9) (.tmp 155), _, _, _, _⟩ :: _) _ _); refine wpList_store_mid rfl 69 (.tmp 9) (.tmp 155) rfl gv 0 (NV.map u32v).toArray rfl (congrArg Value.agg HNVA.out.symm) (show World.there _ _ _ _ from HTH7.out) HJ7.out (all_oneCell_toArray (u32_one _)) ?_))
          go_roundg (64 - (i + 1))
          case measure => omega
          case rel =>
            refine ⟨i + 1, by omega, rfl, by go_num, ?_, ?_, ?_, ?_, ?_⟩
            · rw [HNEW.out, ← HNV.out]
              exact WB.setAll (show WB (World.drew (World.drew w7)) gv 69 V from HV7.out) (by rw [HVL.out, HNV.out]; rfl)
            · exact Blk.farAll (by omega) _ _ _ (show Blk (World.drew (World.drew w7)) _ _ _ from HW7.out)
            · exact Blk.farAll (by omega) _ _ _ (show Blk (World.drew (World.drew w7)) _ _ _ from HD7.out)
            · exact Blk.farAll (by omega) _ _ _ (show Blk (World.drew (World.drew w7)) _ _ _ from HSB7.out)
            · exact But.setAllNew (w' := World.drew (World.drew w7)) (by omega) _ _ _ (HBUT7.out.drew.drew)
        · have hi4 : i = 64 := by omega
          subst hi4
          obtain ⟨VV, hVV⟩ : ∃ VV, VV = vS H m 64 := ⟨_, rfl⟩
          obtain ⟨G, hG⟩ : ∃ G : Nat → UInt32, G = fun j => H.getD j 0 + VV.getD j 0 := ⟨_, rfl⟩
          have HCM : Hid (cmp H m = (List.range 8).map G) := by show _ = _; rw [cmp, ← hVV, hG]
          have HG := Lib.hid hG
          have HVV := Lib.hid (show WB wr gv 69 VV by rw [hVV, ← hV]; exact hv)
          have HVVL : Hid (VV.length = 8) := by show _ = _; rw [hVV, ← hV]; exact hVl
          have HD := Lib.hid hd
          have HS0 : Hid (SB wr gs (upW 8 0 G (fun j => H.getD j 0)) v n gc) := by show SB _ _ _ _ _ _; rw [upW_zero, ← HH.out, listW_range]; exact hsb
          have HB0 : Hid (Sv (fun k => k = gs ∨ k = gc) w wr) := hbut.sv.mono fun _ _ h => .inr h
          clear hv hw hd hsb hbut hV hVl hVV hG
          go_wp2_with fail
          go_loopg [157] 8 (fun gg v157 wx => ∃ j : Nat, j ≤ 8 ∧ gg = 8 - j ∧ v157 = .int .i64 (j : Int) ∧ WB wx gv 69 VV ∧ CD wx gc ∧ SB wx gs (upW 8 j G (fun j => H.getD j 0)) v n gc ∧ Sv (fun k => k = gs ∨ k = gc) w wx)
          case atStart => exact ⟨0, by omega, rfl, rfl, HVV.out, HD.out, HS0.out, HB0.out⟩
          case round =>
            obtain ⟨j, hj, rfl, rfl, hv, hd, hsb, hsv⟩ := hrel
            clear HVV HD HS0 HB0
            by_cases hj2 : j < 8
            · have hji : (j : Int) < 8 := by omega
              have cv := hv.cell j (by rw [HVVL.out]; exact hj2)
              have cs := hsb.word j (by rw [upW_len]; exact hj2)
              rw [upW_getD _ _ hj2, if_neg (by omega)] at cs
              have fs := hsb.free j
              obtain ⟨a, ha⟩ : ∃ z, z = H.getD j 0 := ⟨_, rfl⟩
              obtain ⟨b, hb'⟩ : ∃ z, z = VV.getD j 0 := ⟨_, rfl⟩
              obtain ⟨y, hy⟩ : ∃ z, z = a + b := ⟨_, rfl⟩
              rw [← ha] at cs
              rw [← hb'] at cv
              have hGj : G j = y := by rw [HG.out, hy, ha, hb']
              have f1 := W.add a b
              have f2 := W.addw a b
              rw [← hy] at f1 f2
              have HGJ := Lib.hid hGj
              have HV := Lib.hid hv
              have HD := Lib.hid hd
              have HSB := Lib.hid hsb
              have HSV := Lib.hid hsv
              clear hv hd hsb hsv ha hb' hy hGj
              go_upto_region 22 with (fail)
              go_still_tail 13, (by kernel_rfl)
              change wpList _ _ _ _ _ wr.drew
              go_wp2_with fail
              go_roundg (8 - (j + 1))
              case measure => omega
              case rel =>
                refine ⟨j + 1, by omega, rfl, by go_num, WB.far HV.out.drew (by show gv ≠ gs; omega) _, CT.far HD.out.drew (by show gc ≠ gs; omega) _, ?_, HSV.out.drew.set (p := ⟨gs, j, none⟩) (.inl (.inl rfl)) _⟩
                rw [← upW_set G _ hj2, HGJ.out]
                exact SB.setWord (show SB (World.drew wr) _ _ _ _ _ from HSB.out) (by rw [upW_len]; exact hj2) y
            · have hj3 : j = 8 := by omega
              subst hj3
              have HF : Hid (SB wr gs (cmp H m) v n gc) := by show SB _ _ _ _ _ _; rw [HCM.out, ← upW_full 8 G (fun j => H.getD j 0)]; exact hsb
              have HD := Lib.hid hd
              have HSV := Lib.hid hsv
              clear hv hd hsb hsv
              go_wp2
              go_end0
              exact ⟨rfl, HF.out, HD.out, HSV.out⟩
end Go.Proofs.Ytlapgccfgkokcaa
