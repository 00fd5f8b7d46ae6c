/- What the program's Bytes returns (contract). Conditions: the note's bytes read. -/
import Derived.Test.YtmaemfjepdicfaaGood
import Derived.Test.YtmaemfjepdicfaaUfn
set_option linter.unusedVariables false
namespace Go.Proofs.Ytmaemfjepdicfaa
open Go.RowKit
attribute [local go_sem ↓] Go.wp_at_zero Go.wp_at_succ

def vals (d : NoteD) : List Int := [d.epoch, d.n, d.m, (d.bs.length : Int)]
def preS (d : NoteD) (k : Nat) : List UInt8 := [UInt8.ofNat d.kind.toNat, UInt8.ofNat d.room.toNat, UInt8.ofNat d.slot.toNat] ++ ((vals d).take k).flatMap be16
theorem pre_len (d : NoteD) (k : Nat) (hk : k ≤ 4) : (preS d k).length = 3 + 2 * k := by
  match k, hk with
  | 0, _ => rfl
  | 1, _ => rfl
  | 2, _ => rfl
  | 3, _ => rfl
  | 4, _ => rfl
  | k + 5, h => exact absurd h (by omega)
theorem pre_next (d : NoteD) (k : Nat) (x : Int) (h : (vals d)[k]? = some x) : preS d (k + 1) = preS d k ++ be16 x := by
  rw [preS, preS, List.take_add_one, h, List.flatMap_append, List.append_assoc]
  simp
theorem pre_all (d : NoteD) : preS d 4 ++ d.bs = bytesS d := by
  simp [preS, vals, bytesS]
/-- What Bytes answers. -/
def BytesRet (d : NoteD) (w : World) (e : Ending) (w' : World) : Prop :=
  ∃ A c, e = .returned (.tuple #[.slice A (if good d then bytesS d else []).length c, .int .i64 (if good d then 0 else 1)]) ∧ ByteRow w' w.heap.size (.slice A (if good d then bytesS d else []).length c) (if good d then bytesS d else []) ∧ Below w.heap.size w w'
theorem BytesRet.no {d : NoteD} {w w' : World} (hg : good d = false) (hb : Below w.heap.size w w') : BytesRet d w (.returned (.tuple #[.slice none 0 0, .int .i64 1])) w' := by
  have e : (if good d then bytesS d else []) = [] := by simp [hg]
  have e2 : (if good d then (0 : Int) else 1) = 1 := by simp [hg]
  refine ⟨none, 0, ?_⟩
  rw [e, e2]
  exact ⟨rfl, World.ownsRow_nil _ _ _ _, hb⟩
theorem BytesRet.yes {d : NoteD} {w w' : World} {v : Value} (hg : good d = true) (hv : w'.ownsRow w.heap.size 5 1 v (bytesS d).length ((bytesS d).map u8v)) (hb : Below w.heap.size w w') : BytesRet d w (.returned (.tuple #[v, .int .i64 0])) w' := by
  obtain ⟨A, c, rfl⟩ := own_slice hv
  have e : (if good d then bytesS d else []) = bytesS d := by simp [hg]
  have e2 : (if good d then (0 : Int) else 1) = 0 := by simp [hg]
  refine ⟨A, c, ?_⟩
  rw [e, e2]
  exact ⟨rfl, hv, hb⟩

theorem own_two (w : World) (e : TypeId) (u v : Value) : (w.alloc (.cells #[u, v] e)).ownsRow w.heap.size e 1 (.slice (some ⟨w.heap.size, 0, none⟩) 2 2) 2 [u, v] :=
  ⟨by simp, .inr ⟨_, 2, #[u, v], rfl, Nat.le_refl _, by show (w.heap.push _)[w.heap.size]? = _; simp, by omega, by simp [maxLen], by simp, by simp⟩⟩
theorem be16_vals (x : Int) (h0 : 0 ≤ x) (h1 : x ≤ 65535) : [Value.int .u8 (x / 256), .int .u8 (x % 256)] = (be16 x).map u8v := by
  simp only [be16, List.map_cons, List.map_nil, u8v, UInt8.toNat_ofNat']
  rw [show ((x.toNat / 256 % 2 ^ 8 : Nat) : Int) = x / 256 by omega, show ((x.toNat % 2 ^ 8 : Nat) : Int) = x % 256 by omega]
theorem row3 (w : World) (a b c : Int) (ha : 0 ≤ a) (ha2 : a ≤ 255) (hb : 0 ≤ b) (hb2 : b ≤ 255) (hc : 0 ≤ c) (hc2 : c ≤ 255) :
    (w.alloc (.cells #[.int .u8 a, .int .u8 b, .int .u8 c] 5)).ownsRow w.heap.size 5 1 (.slice (some ⟨w.heap.size, 0, none⟩) 3 3) 3 ([UInt8.ofNat a.toNat, UInt8.ofNat b.toNat, UInt8.ofNat c.toNat].map u8v) := by
  have e : ∀ x : Int, 0 ≤ x → x ≤ 255 → u8v (UInt8.ofNat x.toNat) = .int .u8 x := by
    intro x h1 h2
    unfold u8v
    congr 1
    rw [UInt8.toNat_ofNat']
    omega
  refine ⟨by simp, .inr ⟨_, 3, #[.int .u8 a, .int .u8 b, .int .u8 c], rfl, Nat.le_refl _, by show (w.heap.push _)[w.heap.size]? = _; simp, by omega, by simp [maxLen], by simp, ?_⟩⟩
  simp [e a ha ha2, e b hb hb2, e c hc hc2]
set_option maxHeartbeats 1600000 in
theorem bytes_c (d : NoteD) (A : Option Addr) (c : Nat) (w : World) (hr : Reads w w.heap.size 1 A d.bs.length (d.bs.map u8v)) (hlen : d.bs.length ≤ 9223372036854775807) :
    Calls Try.prog 9 #[noteV d A c] w (BytesRet d w) := by
  obtain ⟨iB, hiB, hz0, hz1, hz2⟩ := info_parts infoByte
  have HR := Lib.hid hr
  obtain ⟨g, hgd⟩ : ∃ g, g = good d := ⟨_, rfl⟩
  have hgc := good_c d A c
  rw [← hgd] at hgc
  obtain ⟨Q, hQ⟩ : ∃ Q, Q = BytesRet d w := ⟨_, rfl⟩
  rw [← hQ]
  have HQ := Lib.hid hQ
  have HG := Lib.hid hgc
  have HGD := Lib.hid hgd
  clear hr hgc hQ hgd
  obtain ⟨kind, room, slot, epoch, n, m, bs⟩ := d
  simp only at hlen
  unfold noteV
  go_enter Try.func9, Try.ntmps9
  go_wp2_with fail
  refine ((HG.out _ (HR.out.to_ (balloc (Below.refl _ _) _)) hlen)).mono ?_
  rintro e0 w1 ⟨rfl, hb1⟩
  have k1 := bcall (balloc (Below.refl w.heap.size w) (.cells #[.int .i64 kind, .int .i64 room, .int .i64 slot, .int .i64 epoch, .int .i64 n, .int .i64 m, .slice A bs.length c] 24)) hb1
  have bx := (Blk.new w 24 #[.int .i64 kind, .int .i64 room, .int .i64 slot, .int .i64 epoch, .int .i64 n, .int .i64 m, .slice A bs.length c]).below hb1
  cases g with
  | false =>
    clear bx
    go_wp2
    rw [HQ.out]
    exact BytesRet.no HGD.out.symm k1
  | true =>
    have hfit := good_fit HGD.out.symm
    simp only at hfit
    obtain ⟨f1, f2, f3, f4, f5, f6, f7, f8, f9, f10, f11, f12, f13⟩ := hfit
    have x0 : w1.cell? ⟨w.heap.size, 0, none⟩ = some (.int .i64 kind) := bx.cell 0
    have x1 : w1.cell? ⟨w.heap.size, 1, none⟩ = some (.int .i64 room) := bx.cell 1
    have x2 : w1.cell? ⟨w.heap.size, 2, none⟩ = some (.int .i64 slot) := bx.cell 2
    have x3 : w1.cell? ⟨w.heap.size, 3, none⟩ = some (.int .i64 epoch) := bx.cell 3
    have x4 : w1.cell? ⟨w.heap.size, 4, none⟩ = some (.int .i64 n) := bx.cell 4
    have x5 : w1.cell? ⟨w.heap.size, 5, none⟩ = some (.int .i64 m) := bx.cell 5
    have x6 : w1.cell? ⟨w.heap.size, 6, none⟩ = some (.slice A bs.length c) := bx.cell 6
    have hlt := bx.lt
    have HK1 := Lib.hid k1
    have HBX := Lib.hid bx
    clear k1 bx hb1
    have H3 := Lib.hid (row3 w1 kind room slot f1 (by omega) f3 (by omega) f5 (by omega))
    go_wp2_with fail
    clear x0 x1 x2 x3 x4 x5 x6
    go_loopg [4, 31] 4 (fun gg v i wr => ∃ k, k ≤ 4 ∧ gg = 4 - k ∧ i = .int .i64 k ∧ wr.ownsRow w.heap.size 5 1 v (3 + 2 * k) ((preS ⟨kind, room, slot, epoch, n, m, bs⟩ k).map u8v) ∧ Below w.heap.size w wr ∧
      Blk wr (w1.heap.size + 1) 3 #[.int .i64 epoch, .int .i64 n, .int .i64 m, .int .i64 bs.length] ∧ Blk wr w.heap.size 24 #[.int .i64 kind, .int .i64 room, .int .i64 slot, .int .i64 epoch, .int .i64 n, .int .i64 m, .slice A bs.length c])
    case atStart =>
      refine ⟨0, by omega, rfl, rfl, (own_lower H3.out (by omega)).alloc _, balloc (balloc HK1.out _) _, ?_, (HBX.out.alloc _).alloc _⟩
      have := Blk.new (w1.alloc (.cells #[.int .u8 kind, .int .u8 room, .int .u8 slot] 5)) 3 #[.int .i64 epoch, .int .i64 n, .int .i64 m, .int .i64 bs.length]
      simpa using this
    case round =>
      obtain ⟨k, hk, rfl, rfl, hown, hbel, hbi, hbx⟩ := hrel
      have HOWN := Lib.hid hown
      have HBEL := Lib.hid hbel
      have HBI := Lib.hid hbi
      have HBX2 := Lib.hid hbx
      clear hown hbel
      by_cases hk4 : k < 4
      · obtain ⟨x, hx⟩ : ∃ x, (vals ⟨kind, room, slot, epoch, n, m, bs⟩)[k]? = some x := ⟨_, List.getElem?_eq_getElem (by exact hk4)⟩
        have hxb : 0 ≤ x ∧ x ≤ 65535 := by
          have := List.mem_of_getElem? hx
          simp only [vals, List.mem_cons, List.not_mem_nil, or_false] at this
          omega
        obtain ⟨hx0, hx1⟩ := hxb
        have cx : wr.cell? ⟨w1.heap.size + 1, k, none⟩ = some (.int .i64 x) := by
          rw [hbi.cell k]
          have : (#[.int .i64 epoch, .int .i64 n, .int .i64 m, .int .i64 (bs.length : Int)] : Array Value)[k]? = ((vals ⟨kind, room, slot, epoch, n, m, bs⟩)[k]?).map (Value.int .i64) := by
            match k, hk4 with
            | 0, _ => rfl
            | 1, _ => rfl
            | 2, _ => rfl
            | 3, _ => rfl
          rw [this, hx]; rfl
        have HPN := Lib.hid (pre_next _ k x hx)
        have hki : (k : Int) < 4 := by omega
        clear hbi hbx hx
        have HXV := Lib.hid (be16_vals x hx0 hx1)
        go_wp2_with (first
          | (at_builtin
             refine wpList_append_any _ rfl (.tmp 35) (.tmp 41) _ rfl w.heap.size 5 iB _ 1 1 Try.underlying22 hiB hz0 hz1 hz2 rfl (by omega) u4 (3 + 2 * k) ((preS ⟨kind, room, slot, epoch, n, m, bs⟩ k).map u8v) rfl (HOWN.out.alloc _)
               (wr.alloc (.cells #[.int .u8 (x / 256), .int .u8 (x % 256)] 5)).heap.size (some ⟨wr.heap.size, 0, none⟩) 2 2 [.int .u8 (x / 256), .int .u8 (x % 256)] rfl (Reads.of_own (own_two wr 5 _ _)) (by simp [Value.oneCell']) (by simp only [maxLen]; omega) (by omega) (by have := HBEL.out.size; simp; omega) ?_
             intro v2 w2 hown2 hg2 hat2
             have HB2 := Lib.hid (own_grow_below (balloc HBEL.out _) (HOWN.out.alloc _) hg2)
             have HBI2 := Lib.hid ((HBI.out.alloc (.cells #[.int .u8 (x / 256), .int .u8 (x % 256)] 5)).grown hg2 (Ne.symm (own_blk_ne HOWN.out HBI.out (by decide))))
             have HBX3 := Lib.hid ((HBX2.out.alloc (.cells #[.int .u8 (x / 256), .int .u8 (x % 256)] 5)).grown hg2 (Ne.symm (own_blk_ne HOWN.out HBX2.out (by decide))))
             rw [HXV.out, ← List.map_append, ← HPN.out] at hown2
             have HO2 := Lib.hid hown2
             clear hown2 hg2 hat2))
        go_roundg (4 - (k + 1))
        case measure => omega
        case rel => exact ⟨k + 1, by omega, rfl, by go_num, HO2.out, HB2.out, HBI2.out, HBX3.out⟩
      · have hk4' : k = 4 := by omega
        subst hk4'
        have x6 : wr.cell? ⟨w.heap.size, 6, none⟩ = some (.slice A bs.length c) := hbx.cell 6
        have hlt2 := hbx.lt
        clear hbi hbx
        go_wp2_with (first
          | (at_builtin
             refine wpList_append_any _ rfl (.tmp 44) (.tmp 46) _ rfl w.heap.size 5 iB _ 1 1 Try.underlying22 hiB hz0 hz1 hz2 rfl (by omega) u4 (3 + 2 * 4) ((preS ⟨kind, room, slot, epoch, n, m, bs⟩ 4).map u8v) rfl HOWN.out
               wr.heap.size A bs.length c (bs.map u8v) rfl (HR.out.to_ HBEL.out) (u8_one bs) (by simp only [maxLen]; omega) (by omega) (by omega) ?_
             intro v2 w2 hown2 hg2 hat2
             have HB2 := Lib.hid (own_grow_below HBEL.out HOWN.out hg2)
             rw [← List.map_append, pre_all] at hown2
             have HO2 := Lib.hid hown2
             clear hown2 hg2 hat2))
        rw [HQ.out]
        refine BytesRet.yes HGD.out.symm ?_ HB2.out
        rw [bytesS_len]
        exact HO2.out
end Go.Proofs.Ytmaemfjepdicfaa
