/- Texts of this claim, one behind the other: NUfn, NBytes, NRBytes, NSame, NTwo, NParse. Each says ahead of itself what it proves, and its conditions. -/
import Derived.Test.YtmkifedcanmjoaaGreatGa
import Derived.Test.YtmkifedcanmjoaaGreatGi
import Derived.Test.YtmkifedcanmjoaaGreatGl
import Derived.Laws.IdiomStrings
import Derived.Lib.EndianBits
import Derived.Deep.QuietTactic
import Derived.BigQuiet
/- What the reference's U returns: its bytes and a number's bytes behind, the highest first (contract). Conditions: the bytes read; they are no more than fit. -/
set_option linter.unusedVariables false
namespace Go.Proofs.YtmkifedcanmjoaaGreat.Nt
open Go.RowKit
attribute [local go_sem ↓] Go.wp_at_zero Go.wp_at_succ


/-- The first k of a number's n bytes, the highest first. -/
def beTake (x n : Nat) : Nat → List UInt8
  | 0 => []
  | k + 1 => beTake x n k ++ [UInt8.ofNat (x / 2 ^ (8 * (n - 1 - k)))]
def beS (x n : Nat) : List UInt8 := beTake x n n
theorem beTake_len (x n : Nat) : ∀ k, (beTake x n k).length = k
  | 0 => rfl
  | k + 1 => by rw [beTake, List.length_append, beTake_len x n k]; rfl
theorem beS_len (x n : Nat) : (beS x n).length = n := beTake_len x n n







theorem beTake_next (x : Nat) {n k j : Nat} (h : j + 1 + k = n) : beTake x n (k + 1) = beTake x n k ++ [UInt8.ofNat (x / 2 ^ (8 * j))] := by
  rw [beTake, show n - 1 - k = j by omega]

set_option maxHeartbeats 1600000 in
theorem U_c (A : Option Addr) (c x n : Nat) (bs : List UInt8) (w : World) (hr : Reads w w.heap.size 1 A bs.length (bs.map u8v)) (hl : bs.length ≤ 140737488355000) (hn : n ≤ 8) (hx : x < 18446744073709551616) :
    Calls Tryz.prog 50 #[.slice A bs.length c, .int .u64 (x : Int), .int .i64 (n : Int)] w fun e w' => ∃ v, e = .returned v ∧ ByteRow w' w.heap.size v (bs ++ beS x n) ∧ Below w.heap.size w w' := by
  obtain ⟨iB, hiB, hz0, hz1, hz2⟩ := info_parts infoByte
  have HR := Lib.hid hr
  clear hr
  have hni : (n : Int) ≤ 8 := by omega
  go_enter Tryz.func50, Tryz.ntmps50
  go_wp2_with (first
    | (at_builtin
       refine wpList_append_any _ rfl (.tmp 9) (.tmp 10) _ rfl w.heap.size 5 iB _ 1 1 Tryz.underlying28 hiB hz0 hz1 hz2 rfl (by omega) (.slice (some ⟨w.heap.size, 0, none⟩) 0 0) 0 [] rfl (own_empty w _ _)
         (w.alloc (.cells #[] 5)).heap.size A bs.length c (bs.map u8v) rfl (HR.out.to_ (balloc (Below.refl _ _) _)) (u8_one bs) (by simp only [maxLen]; omega) (by omega) (by simp) ?_
       intro v1 w1 hown1 hg1 hat1
       rw [Nat.zero_add, List.nil_append] at hown1
       have HO1 := Lib.hid hown1
       have HB1 := Lib.hid (fresh_below hg1)
       clear hown1 hg1 hat1))
  go_loopg [7, 8] n (fun gg v i wr => ∃ j k, j + k = n ∧ j = gg ∧ i = .int .i64 ((j : Int) - 1) ∧ wr.ownsRow w.heap.size 5 1 v (bs.length + k) ((bs ++ beTake x n k).map u8v) ∧ Below w.heap.size w wr)
  case atStart => exact ⟨n, 0, rfl, rfl, rfl, by rw [beTake, List.append_nil]; exact HO1.out, HB1.out⟩
  case round =>
    obtain ⟨j, k, hjk, rfl, rfl, hown, hbel⟩ := hrel
    have HOWN := Lib.hid hown
    have HBEL := Lib.hid hbel
    have HJK := Lib.hid hjk
    clear hown hbel
    cases j with
    | zero =>
      have hk : k = n := by omega
      subst hk
      clear hjk
      go_wp2
      go_ret
      exact ⟨_, rfl, by unfold ByteRow; rw [List.length_append, beS_len]; exact HOWN.out, HBEL.out⟩
    | succ j =>
      rw [show (((j + 1 : Nat) : Int) - 1) = (j : Int) by omega]
      have hj8 : j < 8 := by omega
      have hj9 : (j : Int) < 8 := by omega
      have HV := Lib.hid (byte_at x (8 * j))
      have HT := Lib.hid (beTake_next x hjk)
      clear hjk
      have hkl : k < 8 := by have := HJK.out; omega
      go_wp2_with (first
        | (at_builtin
           refine wpList_append_any _ rfl (.tmp 18) (.tmp 25) _ rfl w.heap.size 5 iB _ 1 1 Tryz.underlying28 hiB hz0 hz1 hz2 rfl (by omega) u7 (bs.length + k) ((bs ++ beTake x n k).map u8v) rfl (HOWN.out.alloc _)
             (wr.alloc (.cells #[.int .u8 ((x : Int) / 2 ^ (8 * j) % 256)] 5)).heap.size (some ⟨wr.heap.size, 0, none⟩) 1 1 [.int .u8 ((x : Int) / 2 ^ (8 * j) % 256)] rfl (Reads.of_own (own_one wr 5 _)) (by simp [Value.oneCell']) (by simp only [maxLen]; omega) (by omega) (by have := HBEL.out.size; simp; omega) ?_
           intro v2 w2 hown2 hg2 hat2
           have HB2 := Lib.hid (own_grow_below (balloc HBEL.out _) (HOWN.out.alloc _) hg2)
           rw [HV.out, show ∀ l : List Value, ∀ u, l ++ [u8v u] = l ++ [u].map u8v from fun _ _ => rfl, ← List.map_append, List.append_assoc, ← HT.out] at hown2
           have HO2 := Lib.hid hown2
           clear hown2 hg2 hat2))
      go_roundg j
      case measure => omega
      case rel => exact ⟨j, k + 1, by have := HJK.out; omega, rfl, rfl, HO2.out, HB2.out⟩
end Go.Proofs.YtmkifedcanmjoaaGreat.Nt
/- What the program's Bytes returns (contract). Conditions: the note's bytes read. -/
set_option linter.unusedVariables false
namespace Go.Proofs.YtmkifedcanmjoaaGreat.Nt
open Go.RowKit
attribute [local go_sem ↓] Go.wp_at_zero Go.wp_at_succ

def vals (d : NoteD) : List Int := [d.epoch, d.n, d.m, (d.bs.length : Int)]
def preS (d : NoteD) (k : Nat) : List UInt8 := [UInt8.ofNat d.kind.toNat, UInt8.ofNat d.room.toNat, UInt8.ofNat d.slot.toNat] ++ ((vals d).take k).flatMap be16
theorem pre_len (d : NoteD) (k : Nat) (hk : k ≤ 4) : (preS d k).length = 3 + 2 * k := by
  match k, hk with
  | 0, _ => rfl
  | 1, _ => rfl
  | 2, _ => rfl
  | 3, _ => rfl
  | 4, _ => rfl
  | k + 5, h => exact absurd h (by omega)
theorem pre_next (d : NoteD) (k : Nat) (x : Int) (h : (vals d)[k]? = some x) : preS d (k + 1) = preS d k ++ be16 x := by
  rw [preS, preS, List.take_add_one, h, List.flatMap_append, List.append_assoc]
  simp
theorem pre_all (d : NoteD) : preS d 4 ++ d.bs = bytesS d := by
  simp [preS, vals, bytesS]
/-- What Bytes answers. -/
def BytesRet (d : NoteD) (w : World) (e : Ending) (w' : World) : Prop :=
  ∃ A c, e = .returned (.tuple #[.slice A (if good d then bytesS d else []).length c, .int .i64 (if good d then 0 else 1)]) ∧ ByteRow w' w.heap.size (.slice A (if good d then bytesS d else []).length c) (if good d then bytesS d else []) ∧ Below w.heap.size w w'
theorem BytesRet.no {d : NoteD} {w w' : World} (hg : good d = false) (hb : Below w.heap.size w w') : BytesRet d w (.returned (.tuple #[.slice none 0 0, .int .i64 1])) w' := by
  have e : (if good d then bytesS d else []) = [] := by simp [hg]
  have e2 : (if good d then (0 : Int) else 1) = 1 := by simp [hg]
  refine ⟨none, 0, ?_⟩
  rw [e, e2]
  exact ⟨rfl, World.ownsRow_nil _ _ _ _, hb⟩
theorem BytesRet.yes {d : NoteD} {w w' : World} {v : Value} (hg : good d = true) (hv : w'.ownsRow w.heap.size 5 1 v (bytesS d).length ((bytesS d).map u8v)) (hb : Below w.heap.size w w') : BytesRet d w (.returned (.tuple #[v, .int .i64 0])) w' := by
  obtain ⟨A, c, rfl⟩ := own_slice hv
  have e : (if good d then bytesS d else []) = bytesS d := by simp [hg]
  have e2 : (if good d then (0 : Int) else 1) = 0 := by simp [hg]
  refine ⟨A, c, ?_⟩
  rw [e, e2]
  exact ⟨rfl, hv, hb⟩

theorem own_two (w : World) (e : TypeId) (u v : Value) : (w.alloc (.cells #[u, v] e)).ownsRow w.heap.size e 1 (.slice (some ⟨w.heap.size, 0, none⟩) 2 2) 2 [u, v] :=
  ⟨by simp, .inr ⟨_, 2, #[u, v], rfl, Nat.le_refl _, by show (w.heap.push _)[w.heap.size]? = _; simp, by omega, by simp [maxLen], by simp, by simp⟩⟩
theorem be16_vals (x : Int) (h0 : 0 ≤ x) (h1 : x ≤ 65535) : [Value.int .u8 (x / 256), .int .u8 (x % 256)] = (be16 x).map u8v := by
  simp only [be16, List.map_cons, List.map_nil, u8v, UInt8.toNat_ofNat']
  rw [show ((x.toNat / 256 % 2 ^ 8 : Nat) : Int) = x / 256 by omega, show ((x.toNat % 2 ^ 8 : Nat) : Int) = x % 256 by omega]
theorem row3 (w : World) (a b c : Int) (ha : 0 ≤ a) (ha2 : a ≤ 255) (hb : 0 ≤ b) (hb2 : b ≤ 255) (hc : 0 ≤ c) (hc2 : c ≤ 255) :
    (w.alloc (.cells #[.int .u8 a, .int .u8 b, .int .u8 c] 5)).ownsRow w.heap.size 5 1 (.slice (some ⟨w.heap.size, 0, none⟩) 3 3) 3 ([UInt8.ofNat a.toNat, UInt8.ofNat b.toNat, UInt8.ofNat c.toNat].map u8v) := by
  have e : ∀ x : Int, 0 ≤ x → x ≤ 255 → u8v (UInt8.ofNat x.toNat) = .int .u8 x := by
    intro x h1 h2
    unfold u8v
    congr 1
    rw [UInt8.toNat_ofNat']
    omega
  refine ⟨by simp, .inr ⟨_, 3, #[.int .u8 a, .int .u8 b, .int .u8 c], rfl, Nat.le_refl _, by show (w.heap.push _)[w.heap.size]? = _; simp, by omega, by simp [maxLen], by simp, ?_⟩⟩
  simp [e a ha ha2, e b hb hb2, e c hc hc2]
set_option maxHeartbeats 1600000 in
theorem bytes_c (d : NoteD) (A : Option Addr) (c : Nat) (w : World) (hr : Reads w w.heap.size 1 A d.bs.length (d.bs.map u8v)) (hlen : d.bs.length ≤ 9223372036854775807) :
    Calls Tryz.prog 157 #[noteV d A c] w (BytesRet d w) := by
  obtain ⟨iB, hiB, hz0, hz1, hz2⟩ := info_parts infoByte
  have HR := Lib.hid hr
  obtain ⟨g, hgd⟩ : ∃ g, g = good d := ⟨_, rfl⟩
  have hgc := good_c d A c
  rw [← hgd] at hgc
  obtain ⟨Q, hQ⟩ : ∃ Q, Q = BytesRet d w := ⟨_, rfl⟩
  rw [← hQ]
  have HQ := Lib.hid hQ
  have HG := Lib.hid hgc
  have HGD := Lib.hid hgd
  clear hr hgc hQ hgd
  obtain ⟨kind, room, slot, epoch, n, m, bs⟩ := d
  simp only at hlen
  unfold noteV
  go_enter Tryz.func157, Tryz.ntmps157
  go_wp2_with fail
  refine ((HG.out _ (HR.out.to_ (balloc (Below.refl _ _) _)) hlen)).mono ?_
  rintro e0 w1 ⟨rfl, hb1⟩
  have k1 := bcall (balloc (Below.refl w.heap.size w) (.cells #[.int .i64 kind, .int .i64 room, .int .i64 slot, .int .i64 epoch, .int .i64 n, .int .i64 m, .slice A bs.length c] 172)) hb1
  have bx := (Blk.new w 172 #[.int .i64 kind, .int .i64 room, .int .i64 slot, .int .i64 epoch, .int .i64 n, .int .i64 m, .slice A bs.length c]).below hb1
  cases g with
  | false =>
    clear bx
    go_wp2
    rw [HQ.out]
    exact BytesRet.no HGD.out.symm k1
  | true =>
    have hfit := good_fit HGD.out.symm
    simp only at hfit
    obtain ⟨f1, f2, f3, f4, f5, f6, f7, f8, f9, f10, f11, f12, f13⟩ := hfit
    have x0 : w1.cell? ⟨w.heap.size, 0, none⟩ = some (.int .i64 kind) := bx.cell 0
    have x1 : w1.cell? ⟨w.heap.size, 1, none⟩ = some (.int .i64 room) := bx.cell 1
    have x2 : w1.cell? ⟨w.heap.size, 2, none⟩ = some (.int .i64 slot) := bx.cell 2
    have x3 : w1.cell? ⟨w.heap.size, 3, none⟩ = some (.int .i64 epoch) := bx.cell 3
    have x4 : w1.cell? ⟨w.heap.size, 4, none⟩ = some (.int .i64 n) := bx.cell 4
    have x5 : w1.cell? ⟨w.heap.size, 5, none⟩ = some (.int .i64 m) := bx.cell 5
    have x6 : w1.cell? ⟨w.heap.size, 6, none⟩ = some (.slice A bs.length c) := bx.cell 6
    have hlt := bx.lt
    have HK1 := Lib.hid k1
    have HBX := Lib.hid bx
    clear k1 bx hb1
    have H3 := Lib.hid (row3 w1 kind room slot f1 (by omega) f3 (by omega) f5 (by omega))
    go_wp2_with fail
    clear x0 x1 x2 x3 x4 x5 x6
    go_loopg [4, 31] 4 (fun gg v i wr => ∃ k, k ≤ 4 ∧ gg = 4 - k ∧ i = .int .i64 k ∧ wr.ownsRow w.heap.size 5 1 v (3 + 2 * k) ((preS ⟨kind, room, slot, epoch, n, m, bs⟩ k).map u8v) ∧ Below w.heap.size w wr ∧
      Blk wr (w1.heap.size + 1) 3 #[.int .i64 epoch, .int .i64 n, .int .i64 m, .int .i64 bs.length] ∧ Blk wr w.heap.size 172 #[.int .i64 kind, .int .i64 room, .int .i64 slot, .int .i64 epoch, .int .i64 n, .int .i64 m, .slice A bs.length c])
    case atStart =>
      refine ⟨0, by omega, rfl, rfl, (own_lower H3.out (by omega)).alloc _, balloc (balloc HK1.out _) _, ?_, (HBX.out.alloc _).alloc _⟩
      have := Blk.new (w1.alloc (.cells #[.int .u8 kind, .int .u8 room, .int .u8 slot] 5)) 3 #[.int .i64 epoch, .int .i64 n, .int .i64 m, .int .i64 bs.length]
      simpa using this
    case round =>
      obtain ⟨k, hk, rfl, rfl, hown, hbel, hbi, hbx⟩ := hrel
      have HOWN := Lib.hid hown
      have HBEL := Lib.hid hbel
      have HBI := Lib.hid hbi
      have HBX2 := Lib.hid hbx
      clear hown hbel
      by_cases hk4 : k < 4
      · obtain ⟨x, hx⟩ : ∃ x, (vals ⟨kind, room, slot, epoch, n, m, bs⟩)[k]? = some x := ⟨_, List.getElem?_eq_getElem (by exact hk4)⟩
        have hxb : 0 ≤ x ∧ x ≤ 65535 := by
          have := List.mem_of_getElem? hx
          simp only [vals, List.mem_cons, List.not_mem_nil, or_false] at this
          omega
        obtain ⟨hx0, hx1⟩ := hxb
        have cx : wr.cell? ⟨w1.heap.size + 1, k, none⟩ = some (.int .i64 x) := by
          rw [hbi.cell k]
          have : (#[.int .i64 epoch, .int .i64 n, .int .i64 m, .int .i64 (bs.length : Int)] : Array Value)[k]? = ((vals ⟨kind, room, slot, epoch, n, m, bs⟩)[k]?).map (Value.int .i64) := by
            match k, hk4 with
            | 0, _ => rfl
            | 1, _ => rfl
            | 2, _ => rfl
            | 3, _ => rfl
          rw [this, hx]; rfl
        have HPN := Lib.hid (pre_next _ k x hx)
        have hki : (k : Int) < 4 := by omega
        clear hbi hbx hx
        have HXV := Lib.hid (be16_vals x hx0 hx1)
        go_wp2_with (first
          | (at_builtin
             refine wpList_append_any _ rfl (.tmp 35) (.tmp 41) _ rfl w.heap.size 5 iB _ 1 1 Tryz.underlying28 hiB hz0 hz1 hz2 rfl (by omega) u4 (3 + 2 * k) ((preS ⟨kind, room, slot, epoch, n, m, bs⟩ k).map u8v) rfl (HOWN.out.alloc _)
               (wr.alloc (.cells #[.int .u8 (x / 256), .int .u8 (x % 256)] 5)).heap.size (some ⟨wr.heap.size, 0, none⟩) 2 2 [.int .u8 (x / 256), .int .u8 (x % 256)] rfl (Reads.of_own (own_two wr 5 _ _)) (by simp [Value.oneCell']) (by simp only [maxLen]; omega) (by omega) (by have := HBEL.out.size; simp; omega) ?_
             intro v2 w2 hown2 hg2 hat2
             have HB2 := Lib.hid (own_grow_below (balloc HBEL.out _) (HOWN.out.alloc _) hg2)
             have HBI2 := Lib.hid ((HBI.out.alloc (.cells #[.int .u8 (x / 256), .int .u8 (x % 256)] 5)).grown hg2 (Ne.symm (own_blk_ne HOWN.out HBI.out (by decide))))
             have HBX3 := Lib.hid ((HBX2.out.alloc (.cells #[.int .u8 (x / 256), .int .u8 (x % 256)] 5)).grown hg2 (Ne.symm (own_blk_ne HOWN.out HBX2.out (by decide))))
             rw [HXV.out, ← List.map_append, ← HPN.out] at hown2
             have HO2 := Lib.hid hown2
             clear hown2 hg2 hat2))
        go_roundg (4 - (k + 1))
        case measure => omega
        case rel => exact ⟨k + 1, by omega, rfl, by go_num, HO2.out, HB2.out, HBI2.out, HBX3.out⟩
      · have hk4' : k = 4 := by omega
        subst hk4'
        have x6 : wr.cell? ⟨w.heap.size, 6, none⟩ = some (.slice A bs.length c) := hbx.cell 6
        have hlt2 := hbx.lt
        clear hbi hbx
        go_wp2_with (first
          | (at_builtin
             refine wpList_append_any _ rfl (.tmp 44) (.tmp 46) _ rfl w.heap.size 5 iB _ 1 1 Tryz.underlying28 hiB hz0 hz1 hz2 rfl (by omega) u4 (3 + 2 * 4) ((preS ⟨kind, room, slot, epoch, n, m, bs⟩ 4).map u8v) rfl HOWN.out
               wr.heap.size A bs.length c (bs.map u8v) rfl (HR.out.to_ HBEL.out) (u8_one bs) (by simp only [maxLen]; omega) (by omega) (by omega) ?_
             intro v2 w2 hown2 hg2 hat2
             have HB2 := Lib.hid (own_grow_below HBEL.out HOWN.out hg2)
             rw [← List.map_append, pre_all] at hown2
             have HO2 := Lib.hid hown2
             clear hown2 hg2 hat2))
        rw [HQ.out]
        refine BytesRet.yes HGD.out.symm ?_ HB2.out
        rw [bytesS_len]
        exact HO2.out
end Go.Proofs.YtmkifedcanmjoaaGreat.Nt
/- What the reference's Bytes returns (contract). Conditions: the note's bytes read. -/
set_option linter.unusedVariables false
namespace Go.Proofs.YtmkifedcanmjoaaGreat.Nt
open Go.RowKit
attribute [local go_sem ↓] Go.wp_at_zero Go.wp_at_succ

theorem beS_be16 (x : Nat) : beS x 2 = be16 (x : Int) := by
  simp [beS, beTake, be16]
theorem pre_nextN (d : NoteD) (k x : Nat) (h : (vals d)[k]? = some (x : Int)) : preS d k ++ beS x 2 = preS d (k + 1) := by
  rw [pre_next d k x h, beS_be16]
end Go.Proofs.YtmkifedcanmjoaaGreat.Nt
namespace Go.Proofs.YtmkifedcanmjoaaGreat
theorem ByteRow.reads {w : World} {B : Nat} {A : Option Addr} {c : Nat} {bs : List UInt8} (h : ByteRow w B (.slice A bs.length c) bs) : Reads w w.heap.size 1 A bs.length (bs.map u8v) := Reads.of_own h
theorem ByteRow.form {w : World} {B : Nat} {v : Value} {bs : List UInt8} (h : ByteRow w B v bs) : ∃ A c, v = .slice A bs.length c := by
  obtain ⟨A, c, hv⟩ := own_slice h
  rcases h.2 with ⟨e, h0⟩ | ⟨g, cap, cur, e, _⟩
  · exact ⟨none, 0, by rw [e, h0]⟩
  · exact ⟨_, _, e⟩

end Go.Proofs.YtmkifedcanmjoaaGreat
namespace Go.Proofs.YtmkifedcanmjoaaGreat.Nt
open Go.RowKit
attribute [local go_sem ↓] Go.wp_at_zero Go.wp_at_succ
set_option maxRecDepth 100000 in
set_option maxHeartbeats 1600000 in
theorem rbytes_c (d : NoteD) (A : Option Addr) (c : Nat) (w : World) (hr : Reads w w.heap.size 1 A d.bs.length (d.bs.map u8v)) (hlen : d.bs.length ≤ 9223372036854775807) :
    Calls Tryz.prog 25 #[noteV d A c] w (BytesRet d w) := by
  obtain ⟨iB, hiB, hz0, hz1, hz2⟩ := info_parts infoByte
  have HR := Lib.hid hr
  obtain ⟨g, hgd⟩ : ∃ g, g = good d := ⟨_, rfl⟩
  have hgc := goodr_c d A c
  rw [← hgd] at hgc
  obtain ⟨Q, hQ⟩ : ∃ Q, Q = BytesRet d w := ⟨_, rfl⟩
  rw [← hQ]
  have HQ := Lib.hid hQ
  have HG := Lib.hid hgc
  have HGD := Lib.hid hgd
  clear hr hgc hQ hgd
  obtain ⟨kind, room, slot, epoch, n, m, bs⟩ := d
  simp only at hlen
  unfold noteV
  go_enter Tryz.func25, Tryz.ntmps25
  go_wp2_with fail
  refine ((HG.out _ (HR.out.to_ (balloc (Below.refl _ _) _)) hlen)).mono ?_
  rintro e0 w1 ⟨rfl, hb1⟩
  have k1 := bcall (balloc (Below.refl w.heap.size w) (.cells #[.int .i64 kind, .int .i64 room, .int .i64 slot, .int .i64 epoch, .int .i64 n, .int .i64 m, .slice A bs.length c] 72)) hb1
  have bx := (Blk.new w 72 #[.int .i64 kind, .int .i64 room, .int .i64 slot, .int .i64 epoch, .int .i64 n, .int .i64 m, .slice A bs.length c]).below hb1
  cases g with
  | false =>
    clear bx
    go_wp2
    rw [HQ.out]
    exact BytesRet.no HGD.out.symm k1
  | true =>
    have hfit := good_fit HGD.out.symm
    simp only at hfit
    obtain ⟨f1, f2, f3, f4, f5, f6, f7, f8, f9, f10, f11, f12, f13⟩ := hfit
    obtain ⟨E, rfl⟩ := Int.eq_ofNat_of_zero_le f7
    obtain ⟨N, rfl⟩ := Int.eq_ofNat_of_zero_le f9
    obtain ⟨M, rfl⟩ := Int.eq_ofNat_of_zero_le f11
    have x0 : w1.cell? ⟨w.heap.size, 0, none⟩ = some (.int .i64 kind) := bx.cell 0
    have x1 : w1.cell? ⟨w.heap.size, 1, none⟩ = some (.int .i64 room) := bx.cell 1
    have x2 : w1.cell? ⟨w.heap.size, 2, none⟩ = some (.int .i64 slot) := bx.cell 2
    have x3 : w1.cell? ⟨w.heap.size, 3, none⟩ = some (.int .i64 (E : Int)) := bx.cell 3
    have hlt := bx.lt
    have HK1 := Lib.hid k1
    have HBX := Lib.hid (bx.alloc (.cells #[.int .u8 kind, .int .u8 room, .int .u8 slot] 5))
    have H3 := Lib.hid (row3 w1 kind room slot f1 (by omega) f3 (by omega) f5 (by omega))
    have HP1 : Hid (preS ⟨kind, room, slot, E, N, M, bs⟩ 0 ++ beS E 2 = preS ⟨kind, room, slot, E, N, M, bs⟩ 1) := pre_nextN ⟨kind, room, slot, E, N, M, bs⟩ 0 E rfl
    have HP2 : Hid (preS ⟨kind, room, slot, E, N, M, bs⟩ 1 ++ beS N 2 = preS ⟨kind, room, slot, E, N, M, bs⟩ 2) := pre_nextN ⟨kind, room, slot, E, N, M, bs⟩ 1 N rfl
    have HP3 : Hid (preS ⟨kind, room, slot, E, N, M, bs⟩ 2 ++ beS M 2 = preS ⟨kind, room, slot, E, N, M, bs⟩ 3) := pre_nextN ⟨kind, room, slot, E, N, M, bs⟩ 2 M rfl
    have HP4 : Hid (preS ⟨kind, room, slot, E, N, M, bs⟩ 3 ++ beS bs.length 2 = preS ⟨kind, room, slot, E, N, M, bs⟩ 4) := pre_nextN ⟨kind, room, slot, E, N, M, bs⟩ 3 bs.length rfl
    have HPA := Lib.hid (pre_all ⟨kind, room, slot, E, N, M, bs⟩)
    clear k1 bx hb1
    go_wp2_with fail
    refine (U_c (some ⟨w1.heap.size, 0, none⟩) 3 E 2 (preS ⟨kind, room, slot, E, N, M, bs⟩ 0) _ (Reads.of_own H3.out) (by simp [preS]) (by omega) (by omega)).mono ?_
    rintro e0 w2 ⟨v2, rfl, hv2, hb2⟩
    rw [HP1.out] at hv2
    have bx2 := HBX.out.below hb2
    have y4 : w2.cell? ⟨w.heap.size, 4, none⟩ = some (.int .i64 (N : Int)) := bx2.cell 4
    obtain ⟨A2, c2, rfl⟩ := hv2.form
    have HV2 := Lib.hid hv2
    have HB2 := Lib.hid (bcall (balloc HK1.out _) hb2)
    have HBX2 := Lib.hid bx2
    clear hv2 hb2 bx2 x0 x1 x2 x3
    go_wp2_with fail
    refine (U_c A2 c2 N 2 (preS ⟨kind, room, slot, E, N, M, bs⟩ 1) _ HV2.out.reads (by rw [pre_len _ _ (by omega)]; omega) (by omega) (by omega)).mono ?_
    rintro e0 w3 ⟨v3, rfl, hv3, hb3⟩
    rw [HP2.out] at hv3
    have bx3 := HBX2.out.below hb3
    have y5 : w3.cell? ⟨w.heap.size, 5, none⟩ = some (.int .i64 (M : Int)) := bx3.cell 5
    obtain ⟨A3, c3, rfl⟩ := hv3.form
    have HV3 := Lib.hid hv3
    have HB3 := Lib.hid (bcall HB2.out hb3)
    have HBX3 := Lib.hid bx3
    clear hv3 hb3 bx3 y4
    go_wp2_with fail
    refine (U_c A3 c3 M 2 (preS ⟨kind, room, slot, E, N, M, bs⟩ 2) _ HV3.out.reads (by rw [pre_len _ _ (by omega)]; omega) (by omega) (by omega)).mono ?_
    rintro e0 w4 ⟨v4, rfl, hv4, hb4⟩
    rw [HP3.out] at hv4
    have bx4 := HBX3.out.below hb4
    have y6 : w4.cell? ⟨w.heap.size, 6, none⟩ = some (.slice A bs.length c) := bx4.cell 6
    obtain ⟨A4, c4, rfl⟩ := hv4.form
    have HV4 := Lib.hid hv4
    have HB4 := Lib.hid (bcall HB3.out hb4)
    have hlt4 := bx4.lt
    have HBX4 := Lib.hid bx4
    clear hv4 hb4 bx4 y5
    have HC4 := Lib.hid (U_c A4 c4 bs.length 2 (preS ⟨kind, room, slot, E, N, M, bs⟩ 3) w4.drew (show Reads w4.drew w4.drew.heap.size 1 _ _ _ from HV4.out.reads) (by rw [pre_len _ _ (by omega)]; omega) (by omega) (by omega))
    have HW : Hid (IntKind.u64.wrap (bs.length : Int) = (bs.length : Int)) := by show IntKind.u64.wrap (bs.length : Int) = _; simp [IntKind.wrap, IntKind.bits, IntKind.signed]; omega
    have HL4 := Lib.hid (pre_len ⟨kind, room, slot, E, N, M, bs⟩ 4 (by omega))
    go_wp2_with fail
    have y6d : w4.drew.cell? ⟨w.heap.size, 6, none⟩ = some (.slice A bs.length c) := y6
    go_region_held3 (fun w' => w'.cell? ⟨w.heap.size, 6, none⟩ = some (.slice A bs.length c)) (first | exact y6d | exact y6b | exact y6c)
      (first
        | (refine step_append_any _ (by rfl) (.tmp 38) (.tmp 40) _ (by rfl) w.heap.size 5 iB _ 1 1 Tryz.underlying28 hiB hz0 hz1 hz2 rfl (by omega) (.slice A5 (preS ⟨kind, room, slot, E, N, M, bs⟩ 4).length c5) (preS ⟨kind, room, slot, E, N, M, bs⟩ 4).length ((preS ⟨kind, room, slot, E, N, M, bs⟩ 4).map u8v) (by rfl) (own_lower HV5.out HB4.out.size)
               w5.heap.size A bs.length c (bs.map u8v) (by rfl) (HR.out.to_ HB5.out) (u8_one bs) (by have := HL4.out; simp only [maxLen]; omega) (by have := HL4.out; omega) HB5.out.size ?_
           intro v6 w6 hown6 hg6 hat6
           have HB6 := Lib.hid (own_grow_below HB5.out (own_lower HV5.out HB4.out.size) hg6)
           rw [← List.map_append, HPA.out] at hown6
           have HO6 := Lib.hid hown6
           have y6c : w6.cell? ⟨w.heap.size, 6, none⟩ = some (.slice A bs.length c) := (Blk.grown HBX5.out hg6 (fun e => by have := (HO5.out.lt _ e.symm).1; have : w4.heap.size ≤ w.heap.size := this; omega)).cell 6
           clear hown6 hg6 hat6)
        | (go_at_call 50
           rw [HW.out]
           refine HC4.out.mono ?_
           rintro e0 w5 ⟨v5, rfl, hv5, hb5⟩
           rw [HP4.out] at hv5
           have y6b : w5.cell? ⟨w.heap.size, 6, none⟩ = some (.slice A bs.length c) := (hb5.cell (p := ⟨w.heap.size, 6, none⟩) hlt4).trans y6
           obtain ⟨A5, c5, rfl⟩ := hv5.form
           have HV5 := Lib.hid hv5
           have HB5 : Hid (Below w.heap.size w w5) := Lib.hid (bcall (bdrew HB4.out) hb5)
           have HBX5 : Hid (Blk w5 w.heap.size 72 #[.int .i64 kind, .int .i64 room, .int .i64 slot, .int .i64 (E : Int), .int .i64 (N : Int), .int .i64 (M : Int), .slice A bs.length c]) := Lib.hid (Blk.below (w := w4.drew) HBX4.out hb5)
           have HO5 := Lib.hid (own_lower HV5.out (Nat.le_refl _))
           clear hv5 hb5))
    go_wp2
    rw [HQ.out]
    refine BytesRet.yes HGD.out.symm ?_ HB6.out
    rw [bytesS_len]
    rw [← show (preS ⟨kind, room, slot, E, N, M, bs⟩ 4).length = 11 from HL4.out]
    exact HO6.out
end Go.Proofs.YtmkifedcanmjoaaGreat.Nt
/- What the reference's Same and the library's Clone return for bytes (contracts). Conditions: the bytes read. -/
set_option linter.unusedVariables false
namespace Go.Proofs.YtmkifedcanmjoaaGreat.Nt
open Go.RowKit
attribute [local go_sem ↓] Go.wp_at_zero Go.wp_at_succ




set_option maxHeartbeats 800000 in
theorem clone_c (A : Option Addr) (c : Nat) (bs : List UInt8) (w : World) (hr : Reads w w.heap.size 1 A bs.length (bs.map u8v)) (hl : bs.length ≤ 140737488355328) (h0 : A = none → bs = []) :
    Calls Tryz.prog 78 #[.slice A bs.length c] w fun e w' => ∃ A' c', e = .returned (.slice A' bs.length c') ∧ ByteRow w' w.heap.size (.slice A' bs.length c') bs ∧ Below w.heap.size w w' := by
  obtain ⟨iB, hiB, hz0, hz1, hz2⟩ := info_parts infoByte
  cases A with
  | none =>
    have hb := h0 rfl
    subst hb
    have hq := fun (wx : World) (n c : Nat) => Lib.run_eql_slice_nil (P := Tryz.prog) wx 28 5 none n c 0 0 Tryz.underlying28
    clear h0 hr
    go_enter Tryz.func78, Tryz.ntmps78
    go_wp2
    go_ret
    exact ⟨none, 0, rfl, World.ownsRow_nil _ _ _ _, Below.refl _ _⟩
  | some ad =>
    have hq := fun (wx : World) (n c : Nat) => Lib.run_eql_slice_nil (P := Tryz.prog) wx 28 5 (some ad) n c 0 0 Tryz.underlying28
    have HR := Lib.hid hr
    clear h0 hr
    go_enter Tryz.func78, Tryz.ntmps78
    go_wp2_with (first
      | (at_builtin
         refine wpList_append_any _ rfl (.tmp 5) (.tmp 6) _ rfl w.heap.size 5 iB _ 1 1 Tryz.underlying28 hiB hz0 hz1 hz2 rfl (by omega) (.slice (some ⟨w.heap.size, 0, none⟩) 0 0) 0 [] rfl (own_empty w _ _)
           (w.alloc (.cells #[] 5)).heap.size (some ad) bs.length c (bs.map u8v) rfl (HR.out.to_ (balloc (Below.refl _ _) _)) (u8_one bs) (by simp only [maxLen]; omega) (by omega) (by simp) ?_
         intro v1 w1 hown1 hg1 hat1
         rw [Nat.zero_add, List.nil_append] at hown1
         obtain ⟨A1, c1, rfl⟩ := own_slice hown1
         have HO1 := Lib.hid hown1
         have HB1 := Lib.hid (fresh_below hg1)
         clear hown1 hg1 hat1))
    go_ret
    exact ⟨A1, c1, rfl, HO1.out, HB1.out⟩
end Go.Proofs.YtmkifedcanmjoaaGreat.Nt
/- What two returns, on both sides (contracts). Conditions: the bytes read, the place lies inside. -/
set_option linter.unusedVariables false
namespace Go.Proofs.YtmkifedcanmjoaaGreat.Nt
open Go.RowKit
attribute [local go_sem ↓] Go.wp_at_zero Go.wp_at_succ

/-- The cells of two neighbours. -/
theorem two_cells {w : World} {B : Nat} {A : Option Addr} {bs : List UInt8} {i : Nat} (hr : Reads w B 1 A bs.length (bs.map u8v)) (hi : i + 1 < bs.length) :
    ∃ b off, A = some ⟨b, off, none⟩ ∧ b < B ∧ w.cell? ⟨b, off + i, none⟩ = some (.int .u8 ((bs.getD i 0).toNat : Int)) ∧ w.cell? ⟨b, off + (i + 1), none⟩ = some (.int .u8 ((bs.getD (i + 1) 0).toNat : Int)) := by
  obtain ⟨ad, rfl, hadl, hcell⟩ := hr.2 (by omega)
  have c00 := hcell 0 (u8v (bs[0]'(by omega))) (by rw [List.getElem?_map, List.getElem?_eq_getElem (by omega)]; rfl)
  obtain ⟨b, off, rfl⟩ := addr_plain c00
  refine ⟨b, off, rfl, hadl, ?_, ?_⟩
  · have := hcell i (u8v (bs.getD i 0)) (by rw [List.getElem?_map, List.getElem?_eq_getElem (by omega), List.getD_eq_getElem?_getD, List.getElem?_eq_getElem (by omega)]; rfl)
    rwa [Go.WideShapes.add_plain] at this
  · have := hcell (i + 1) (u8v (bs.getD (i + 1) 0)) (by rw [List.getElem?_map, List.getElem?_eq_getElem (by omega), List.getD_eq_getElem?_getD, List.getElem?_eq_getElem (by omega)]; rfl)
    rwa [Go.WideShapes.add_plain] at this

theorem or_join {x y : Nat} (hx : x < 256) (hy : y < 256) : bits .or .i64 ((x : Int) * 256) (y : Int) = ((x * 256 + y : Nat) : Int) := by
  have := bits_join .i64 63 (by decide) (fun n h0 h1 => by simp [IntKind.wrap, IntKind.bits, IntKind.signed]; omega) 8 ((x : Int) * 256) (y : Int) (by omega) (by omega) (by omega) (by omega) (by omega) (by omega)
  rw [this]
  omega

theorem ctwo_c (bs : List UInt8) (A : Option Addr) (c i : Nat) (w : World) (g : Nat) (hg : w.cell? ⟨g, 0, none⟩ = some (.slice A bs.length c)) (hr : Reads w w.heap.size 1 A bs.length (bs.map u8v)) (hi : i + 1 < bs.length) (hl : bs.length ≤ 9223372036854775807) :
    Calls Tryz.prog 105 #[.int .i64 i, .pointer (some ⟨g, 0, none⟩)] w fun e w' => e = .returned (.int .i64 (twoS bs i)) ∧ ∃ m, w' = w.drewN m := by
  obtain ⟨b, off, rfl, hb, c1, c2⟩ := two_cells hr hi
  have b1 : (bs.getD i 0).toNat < 256 := UInt8.toNat_lt _
  have b2 : (bs.getD (i + 1) 0).toNat < 256 := UInt8.toNat_lt _
  have hi0 : (0 : Int) ≤ (i : Int) := by omega
  have hi1 : (i : Int) < (bs.length : Int) := by omega
  have hi2 : (i : Int) + 1 < (bs.length : Int) := by omega
  unfold twoS
  generalize (bs.getD i 0).toNat = x at *
  generalize (bs.getD (i + 1) 0).toNat = y at *
  clear hr
  go_enter Tryz.func105, Tryz.ntmps105
  go_wp2
  go_quiet (fail)
  go_wp2
  go_ret
  exact ⟨congrArg (fun v => Ending.returned (Value.int .i64 v)) (or_join b1 b2), _, rfl⟩
end Go.Proofs.YtmkifedcanmjoaaGreat.Nt
/- What the program's Parse returns (contract). Conditions: the bytes read. -/
set_option linter.unusedVariables false
namespace Go.Proofs.YtmkifedcanmjoaaGreat.Nt
open Go.RowKit
attribute [local go_sem ↓] Go.wp_at_zero Go.wp_at_succ

def ParseRet (bs : List UInt8) (w : World) (e : Ending) (w' : World) : Prop :=
  ∃ A c, e = .returned (.tuple #[noteV (noteS bs) A c, .int .i64 (errS bs)]) ∧ ByteRow w' w.heap.size (.slice A (noteS bs).bs.length c) (noteS bs).bs ∧ Below w.heap.size w w'
theorem ParseRet.no {bs : List UInt8} {w w' : World} {k : Nat} (hk : errS bs = k) (h0 : k ≠ 0) (hb : Below w.heap.size w w') :
    ParseRet bs w (.returned (.tuple #[.agg #[.int .i64 0, .int .i64 0, .int .i64 0, .int .i64 0, .int .i64 0, .int .i64 0, .slice none 0 0], .int .i64 k])) w' := by
  have e : noteS bs = NoteD.zero := by unfold noteS; rw [if_neg (by omega)]
  refine ⟨none, 0, ?_⟩
  rw [e, hk]
  exact ⟨rfl, World.ownsRow_nil _ _ _ _, hb⟩

theorem ParseRet.yes {bs : List UInt8} {w w' : World} {A : Option Addr} {c : Nat} (he : errS bs = 0) (hv : w'.ownsRow w.heap.size 5 1 (.slice A (bs.drop 11).length c) (bs.drop 11).length ((bs.drop 11).map u8v)) (hb : Below w.heap.size w w') :
    ParseRet bs w (.returned (.tuple #[noteV (headS bs) A c, .int .i64 0])) w' := by
  have e : noteS bs = headS bs := by unfold noteS; rw [if_pos he]
  refine ⟨A, c, ?_⟩
  rw [e, he]
  exact ⟨rfl, hv, hb⟩

theorem own_set7 {w : World} {B e n g : Nat} {v x0 x1 x2 x3 x4 x5 x6 : Value} {xs : List Value} (h : w.ownsRow B e 1 v n xs) (hp : g < B) :
    (((((((w.setCell ⟨g, 0, none⟩ x0).setCell ⟨g, 1, none⟩ x1).setCell ⟨g, 2, none⟩ x2).setCell ⟨g, 3, none⟩ x3).setCell ⟨g, 4, none⟩ x4).setCell ⟨g, 5, none⟩ x5).setCell ⟨g, 6, none⟩ x6).ownsRow B e 1 v n xs :=
  own_set_below (own_set_below (own_set_below (own_set_below (own_set_below (own_set_below (own_set_below h hp x0) hp x1) hp x2) hp x3) hp x4) hp x5) hp x6

end Go.Proofs.YtmkifedcanmjoaaGreat.Nt
namespace Go.Proofs.YtmkifedcanmjoaaGreat
theorem Blk.set7 {w : World} {g : Nat} {t : TypeId} {z0 z1 z2 z3 z4 z5 z6 x0 x1 x2 x3 x4 x5 x6 : Value} (h : Blk w g t #[z0, z1, z2, z3, z4, z5, z6]) :
    Blk (((((((w.setCell ⟨g, 0, none⟩ x0).setCell ⟨g, 1, none⟩ x1).setCell ⟨g, 2, none⟩ x2).setCell ⟨g, 3, none⟩ x3).setCell ⟨g, 4, none⟩ x4).setCell ⟨g, 5, none⟩ x5).setCell ⟨g, 6, none⟩ x6) g t #[x0, x1, x2, x3, x4, x5, x6] :=
  by
  have := ((((((h.set_ 0 x0).set_ 1 x1).set_ 2 x2).set_ 3 x3).set_ 4 x4).set_ 5 x5).set_ 6 x6
  simp only [List.setIfInBounds_toArray, List.set_cons_zero, List.set_cons_succ] at this
  exact this
theorem Blk.cell7 {w : World} {g : Nat} {t : TypeId} {x0 x1 x2 x3 x4 x5 x6 : Value} (h : Blk w g t #[x0, x1, x2, x3, x4, x5, x6]) :
    w.cell? ⟨g, 0, none⟩ = some x0 ∧ w.cell? ⟨g, 1, none⟩ = some x1 ∧ w.cell? ⟨g, 2, none⟩ = some x2 ∧ w.cell? ⟨g, 3, none⟩ = some x3 ∧ w.cell? ⟨g, 4, none⟩ = some x4 ∧ w.cell? ⟨g, 5, none⟩ = some x5 ∧ w.cell? ⟨g, 6, none⟩ = some x6 :=
  ⟨h.cell 0, h.cell 1, h.cell 2, h.cell 3, h.cell 4, h.cell 5, h.cell 6⟩
theorem Blk.free7 {w : World} {g : Nat} {t : TypeId} {x0 x1 x2 x3 x4 x5 x6 : Value} (h : Blk w g t #[x0, x1, x2, x3, x4, x5, x6]) :
    w.frozen? ⟨g, 0, none⟩ = false ∧ w.frozen? ⟨g, 1, none⟩ = false ∧ w.frozen? ⟨g, 2, none⟩ = false ∧ w.frozen? ⟨g, 3, none⟩ = false ∧ w.frozen? ⟨g, 4, none⟩ = false ∧ w.frozen? ⟨g, 5, none⟩ = false ∧ w.frozen? ⟨g, 6, none⟩ = false :=
  ⟨h.frozen 0, h.frozen 1, h.frozen 2, h.frozen 3, h.frozen 4, h.frozen 5, h.frozen 6⟩
end Go.Proofs.YtmkifedcanmjoaaGreat
namespace Go.Proofs.YtmkifedcanmjoaaGreat.Nt
open Go.RowKit
attribute [local go_sem ↓] Go.wp_at_zero Go.wp_at_succ
theorem bset7 {w W : World} {g : Nat} {x0 x1 x2 x3 x4 x5 x6 : Value} (h : Below w.heap.size w W) (hg : w.heap.size ≤ g := by first | exact Nat.le_refl _ | exact Nat.le_succ _) :
    Below w.heap.size w (((((((W.setCell ⟨g, 0, none⟩ x0).setCell ⟨g, 1, none⟩ x1).setCell ⟨g, 2, none⟩ x2).setCell ⟨g, 3, none⟩ x3).setCell ⟨g, 4, none⟩ x4).setCell ⟨g, 5, none⟩ x5).setCell ⟨g, 6, none⟩ x6) :=
  bset (bset (bset (bset (bset (bset (bset h hg _) hg _) hg _) hg _) hg _) hg _) hg _
set_option maxHeartbeats 1600000 in
theorem parse_cn (bs : List UInt8) (A : Option Addr) (n c : Nat) (hn : bs.length = n) (w : World) (hr : Reads w w.heap.size 1 A n (bs.map u8v)) (hlen : n ≤ 9223372036854775807) (hcap : n ≤ c) :
    Calls Tryz.prog 57 #[.slice A n c] w (ParseRet bs w) := by
  have HN := Lib.hid hn
  obtain ⟨Q, hQ⟩ : ∃ Q, Q = ParseRet bs w := ⟨_, rfl⟩
  rw [← hQ]
  have HQ := Lib.hid hQ
  clear hQ
  have HR := Lib.hid hr
  have hb00 := balloc (balloc (Below.refl w.heap.size w) (.cells #[.slice A n c] 28)) (.cells #[.int .i64 0, .int .i64 0, .int .i64 0, .int .i64 0, .int .i64 0, .int .i64 0, .slice none 0 0] 172)
  by_cases h11 : n < 11
  · have hi : (n : Int) < 11 := by omega
    have HE : Hid (errS bs = 3) := by show _ = _; unfold errS; rw [if_pos (by omega)]
    have HB := Lib.hid hb00
    clear hb00 hr hn
    go_enter Tryz.func57, Tryz.ntmps57
    go_wp2
    have hc := (Blk.new (w.alloc (.cells #[.slice A n c] 28)) 172 #[.int .i64 0, .int .i64 0, .int .i64 0, .int .i64 0, .int .i64 0, .int .i64 0, .slice none 0 0])
    refine bodyPost_ret (v := .tuple #[.agg #[.int .i64 0, .int .i64 0, .int .i64 0, .int .i64 0, .int .i64 0, .int .i64 0, .slice none 0 0], .int .i64 3]) (by simp [results, Tryz.results57, go_sem]) rfl ?_
    rw [HQ.out]
    exact ParseRet.no HE.out (by decide) HB.out
  · have hi : ¬ (n : Int) < 11 := by omega
    obtain ⟨b, off, rfl, hbl, hcell⟩ := head_cells (by rw [hn]; exact hr) (by omega)
    clear hr
    go_enter Tryz.func57, Tryz.ntmps57
    go_wp2_with fail
    have hr2 := HR.out.to_ hb00
    have bb := (Blk.new w 28 #[.slice (some ⟨b, off, none⟩) n c]).alloc (.cells #[.int .i64 0, .int .i64 0, .int .i64 0, .int .i64 0, .int .i64 0, .int .i64 0, .slice none 0 0] 172)
    have br := Blk.new (w.alloc (.cells #[.slice (some ⟨b, off, none⟩) n c] 28)) 172 #[.int .i64 0, .int .i64 0, .int .i64 0, .int .i64 0, .int .i64 0, .int .i64 0, .slice none 0 0]
    rw [World.size_alloc] at br
    generalize ((w.alloc (Obj.cells #[.slice (some ⟨b, off, none⟩) n c] 28)).alloc (.cells #[.int .i64 0, .int .i64 0, .int .i64 0, .int .i64 0, .int .i64 0, .int .i64 0, .slice none 0 0] 172)) = W at *
    have c0 : w.cell? ⟨b, off, none⟩ = _ := hcell 0 (by omega)
    have c1 := hcell 1 (by omega)
    have c2 := hcell 2 (by omega)
    obtain ⟨x0, hx0⟩ : ∃ x, x = (bs.getD 0 0).toNat := ⟨_, rfl⟩
    obtain ⟨x1, hx1⟩ : ∃ x, x = (bs.getD 1 0).toNat := ⟨_, rfl⟩
    obtain ⟨x2, hx2⟩ : ∃ x, x = (bs.getD 2 0).toNat := ⟨_, rfl⟩
    rw [← hx0] at c0
    rw [← hx1] at c1
    rw [← hx2] at c2
    have kW := Below.refl W.heap.size W
    have b0 : x0 < 256 := by rw [hx0]; exact UInt8.toNat_lt _
    have b1 : x1 < 256 := by rw [hx1]; exact UInt8.toNat_lt _
    have b2 : x2 < 256 := by rw [hx2]; exact UInt8.toNat_lt _
    have HX0 := Lib.hid hx0
    have HX1 := Lib.hid hx1
    have HX2 := Lib.hid hx2
    have hAc : ∀ (k : Nat) (p : Addr), ((W.drewN k).alloc (.cells #[.int .i64 0, .int .i64 0, .int .i64 0, .int .i64 0, .int .i64 0, .int .i64 0, .slice none 0 0] 172)).cell? p = (W.alloc (.cells #[.int .i64 0, .int .i64 0, .int .i64 0, .int .i64 0, .int .i64 0, .int .i64 0, .slice none 0 0] 172)).cell? p := fun _ _ => rfl
    have hAf : ∀ (k : Nat) (p : Addr), ((W.drewN k).alloc (.cells #[.int .i64 0, .int .i64 0, .int .i64 0, .int .i64 0, .int .i64 0, .int .i64 0, .slice none 0 0] 172)).frozen? p = (W.alloc (.cells #[.int .i64 0, .int .i64 0, .int .i64 0, .int .i64 0, .int .i64 0, .int .i64 0, .slice none 0 0] 172)).frozen? p := fun _ _ => rfl
    have keep : ∀ w', Below W.heap.size W w' → w'.cell? ⟨w.heap.size, 0, none⟩ = some (.slice (some ⟨b, off, none⟩) n c) ∧ w'.cell? ⟨b, off, none⟩ = some (.int .u8 (x0 : Int)) ∧ w'.cell? ⟨b, off + 1, none⟩ = some (.int .u8 (x1 : Int)) ∧ w'.cell? ⟨b, off + 2, none⟩ = some (.int .u8 (x2 : Int)) ∧ Below W.heap.size W w' := by
      intro w' hb
      refine ⟨(bb.below hb).cell 0, ?_, ?_, ?_, hb⟩
      · exact (hb.cell (p := ⟨b, off, none⟩) (Nat.lt_of_lt_of_le hbl hb00.size)).trans ((hb00.cell (p := ⟨b, off, none⟩) hbl).trans c0)
      · exact (hb.cell (p := ⟨b, off + 1, none⟩) (Nat.lt_of_lt_of_le hbl hb00.size)).trans ((hb00.cell (p := ⟨b, off + 1, none⟩) hbl).trans c1)
      · exact (hb.cell (p := ⟨b, off + 2, none⟩) (Nat.lt_of_lt_of_le hbl hb00.size)).trans ((hb00.cell (p := ⟨b, off + 2, none⟩) hbl).trans c2)
    have two : ∀ i, i + 1 < n → ∀ w', Below W.heap.size W w' → Calls Tryz.prog 105 #[.int .i64 (i : Int), .pointer (some ⟨w.heap.size, 0, none⟩)] w' fun e w'' => e = .returned (.int .i64 (twoS bs i)) ∧ ∃ m, w'' = w'.drewN m := by
      intro i hi w' hb
      have := ctwo_c bs (some ⟨b, off, none⟩) c i w' w.heap.size (by rw [hn]; exact (bb.below hb).cell 0) (by rw [hn]; exact hr2.to_ hb) (by omega) (by omega)
      exact this
    have W0 : Hid (IntKind.i64.wrap (x0 : Int) = (x0 : Int)) := by show IntKind.i64.wrap (x0 : Int) = _; simp [IntKind.wrap, IntKind.bits, IntKind.signed]; omega
    have W1 : Hid (IntKind.i64.wrap (x1 : Int) = (x1 : Int)) := by show IntKind.i64.wrap (x1 : Int) = _; simp [IntKind.wrap, IntKind.bits, IntKind.signed]; omega
    have W2 : Hid (IntKind.i64.wrap (x2 : Int) = (x2 : Int)) := by show IntKind.i64.wrap (x2 : Int) = _; simp [IntKind.wrap, IntKind.bits, IntKind.signed]; omega
    have T3 := Lib.hid (two 3 (by omega))
    have T5 := Lib.hid (two 5 (by omega))
    have two9 := Lib.hid (two 9 (by omega))
    have T7 := Lib.hid (two 7 (by omega))
    have K := Lib.hid keep
    have HC := Lib.hid hcell
    have HBB := Lib.hid bb
    have HBR := Lib.hid br
    have HR2 := Lib.hid hr2
    have HB0 := Lib.hid hb00
    have l1 : (1 : Int) < (n : Int) := by omega
    have l2 : (2 : Int) < (n : Int) := by omega
    have l0 : 0 < n := by omega
    clear hx0 hx1 hx2 hn keep c0 c1 c2 hcell bb br hr2 hb00 two
    go_upto_region 4 with (fail)
    go_cut [5] (fun p5 wx => p5 = .pointer (some ⟨W.heap.size, 0, none⟩) ∧ Blk wx W.heap.size 172 #[.int .i64 (x0 : Int), .int .i64 (x1 : Int), .int .i64 (x2 : Int), .int .i64 (twoS bs 3), .int .i64 (twoS bs 5), .int .i64 (twoS bs 7), .slice none 0 0] ∧ Below W.heap.size W wx)
    case first =>
      go_region_held3 (fun w' => w'.cell? ⟨w.heap.size, 0, none⟩ = some (.slice (some ⟨b, off, none⟩) n c) ∧ w'.cell? ⟨b, off, none⟩ = some (.int .u8 (x0 : Int)) ∧ w'.cell? ⟨b, off + 1, none⟩ = some (.int .u8 (x1 : Int)) ∧ w'.cell? ⟨b, off + 2, none⟩ = some (.int .u8 (x2 : Int)) ∧ Below W.heap.size W w')
        (exact K.out _ (by repeat (first | with_reducible assumption | with_reducible refine bdrew ?_ | with_reducible refine below_drewN ?_ _ | with_reducible refine balloc ?_ _ | with_reducible refine bset ?_ (Nat.le_refl _) _)))
        (first
          | (go_at_call_of 105 (Value.int .i64 3); refine (T3.out _ (by repeat (first | with_reducible assumption | with_reducible refine bdrew ?_ | with_reducible refine below_drewN ?_ _ | with_reducible refine balloc ?_ _))).mono ?_; rintro e0 w' ⟨rfl, m, rfl⟩)
          | (go_at_call_of 105 (Value.int .i64 5); refine (T5.out _ (by repeat (first | with_reducible assumption | with_reducible refine bdrew ?_ | with_reducible refine below_drewN ?_ _ | with_reducible refine balloc ?_ _))).mono ?_; rintro e0 w' ⟨rfl, m, rfl⟩)
          | (go_at_call_of 105 (Value.int .i64 7); refine (T7.out _ (by repeat (first | with_reducible assumption | with_reducible refine bdrew ?_ | with_reducible refine below_drewN ?_ _ | with_reducible refine balloc ?_ _))).mono ?_; rintro e0 w' ⟨rfl, m, rfl⟩))
      all_goals
        go_wp2_with fail
        go_meet
        rw [W0.out, W1.out, W2.out]
        refine ⟨rfl, Blk.set7 (z0 := .int .i64 0) (z1 := .int .i64 0) (z2 := .int .i64 0) (z3 := .int .i64 0) (z4 := .int .i64 0) (z5 := .int .i64 0) (z6 := .slice none 0 0) ?_, ?_⟩
        · first | exact Blk.new W _ _ | exact Blk.new (W.drewN _) _ _
        · repeat (first | with_reducible assumption | with_reducible refine bdrew ?_ | with_reducible refine below_drewN ?_ _ | with_reducible refine balloc ?_ _ | with_reducible refine bset ?_ (Nat.le_refl _) _)
    case rest =>
      obtain ⟨rfl, bx, hbw⟩ := hcut
      have hb1 := bcall HB0.out hbw
      have cb := (HBB.out.below hbw).cell 0
      have T9 := Lib.hid (fun w' (h : Below wc.heap.size wc w') => two9.out w' (bcall hbw h))
      have l11 : (11 : Int) ≤ (n : Int) := by omega
      have lnc : (n : Int) ≤ (c : Int) := by omega
      have hbw0 := Lib.hid hbw
      have hsz0 := Lib.hid HBR.out.lt
      have HBX := Lib.hid bx
      have HB1 := Lib.hid hb1
      have HBR1 := Lib.hid (HBR.out.below hbw)
      have HRD := Lib.hid (HR2.out.to_ hbw)
      clear HBB HBR HB0 HR2 K T3 T5 T7 two9 bx hb1 hbw hAc hAf W0 W1 W2
      go_wp2_with fail
      go_cut [6, 7] (fun v6 v7 wx => v6 = .int .i64 (twoS bs 9) ∧ ∃ Ar cr, v7 = .slice Ar (n - 11) cr ∧ Reads wc wc.heap.size 1 Ar (n - 11) ((bs.map u8v).drop 11) ∧ (∃ k, wx = wc.drewN k) ∧ (Ar = none → n = 11))
      case first =>
        by_cases hc11 : c = 11
        · subst hc11
          obtain rfl : n = 11 := by omega
          go_quiet ((go_at_call 105; exact Calls.quiet_of (T9.out _ (below_drewN (Below.refl _ _) _))))
          go_wp2_with fail
          go_meet
          exact ⟨rfl, _, _, rfl, by have := HRD.out.cut (k := 11) (cap := 11) (by omega) hcap; rw [if_pos rfl] at this; simpa using this, ⟨_, rfl⟩, fun h => by cases h⟩
        · have hcc : ¬ ((c : Int) = 11) := by omega
          go_quiet ((go_at_call 105; exact Calls.quiet_of (T9.out _ (below_drewN (Below.refl _ _) _))))
          go_wp2_with fail
          go_meet
          exact ⟨rfl, _, _, rfl, by have := HRD.out.cut (k := 11) (cap := c) (by omega) hcap; rw [if_neg hc11] at this; simpa [Go.WideShapes.add_plain] using this, ⟨_, rfl⟩, fun h => by cases h⟩
      case rest =>
        obtain ⟨rfl, Ar, cr, rfl, hrr, ⟨kk, rfl⟩, har⟩ := hcut
        obtain ⟨t, ht⟩ : ∃ t, t = twoS bs 9 := ⟨_, rfl⟩
        have ht0 : 0 ≤ t := by rw [ht]; unfold twoS; omega
        have HT := Lib.hid ht
        rw [← ht]
        have hbr := HBR1.out.drewN kk
        have q := hbr.cell7
        have f := hbr.free7
        have HBR2 := Lib.hid hbr
        clear ht hbr cb T9
        have HRR := Lib.hid hrr
        have HAR := Lib.hid har
        have e11 : ((n - 11 : Nat) : Int) = (n : Int) - 11 := by omega
        clear hrr har HRD
        have HB3 := Lib.hid (below_drewN HB1.out kk)
        by_cases h1 : 200 < t
        · have HP : Hid (errS bs = 4) := by show _ = _; have e := HT.out; have e2 := HN.out; unfold errS; rw [← e, e2, if_neg h11, if_pos h1]
          clear HRR
          go_wp2
          refine bodyPost_ret (v := .tuple #[.agg #[.int .i64 0, .int .i64 0, .int .i64 0, .int .i64 0, .int .i64 0, .int .i64 0, .slice none 0 0], .int .i64 4]) (by simp [results, Tryz.results57, go_sem, q]) rfl ?_
          rw [HQ.out]
          exact ParseRet.no HP.out (by decide) (bset7 HB3.out)
        · by_cases h2 : (n : Int) - 11 < t
          · have HP : Hid (errS bs = 3) := by show _ = _; have e := HT.out; have e2 := HN.out; unfold errS; rw [← e, e2, if_neg h11, if_neg h1, if_pos h2]
            clear HRR
            go_wp2
            refine bodyPost_ret (v := .tuple #[.agg #[.int .i64 0, .int .i64 0, .int .i64 0, .int .i64 0, .int .i64 0, .int .i64 0, .slice none 0 0], .int .i64 3]) (by simp [results, Tryz.results57, go_sem, q]) rfl ?_
            rw [HQ.out]
            exact ParseRet.no HP.out (by decide) (bset7 HB3.out)
          · by_cases h3 : t < (n : Int) - 11
            · have HP : Hid (errS bs = 2) := by show _ = _; have e := HT.out; have e2 := HN.out; unfold errS; rw [← e, e2, if_neg h11, if_neg h1, if_neg h2, if_pos h3]
              clear HRR
              go_wp2
              refine bodyPost_ret (v := .tuple #[.agg #[.int .i64 0, .int .i64 0, .int .i64 0, .int .i64 0, .int .i64 0, .int .i64 0, .slice none 0 0], .int .i64 2]) (by simp [results, Tryz.results57, go_sem, q]) rfl ?_
              rw [HQ.out]
              exact ParseRet.no HP.out (by decide) (bset7 HB3.out)
            · have hlen' : (bs.drop 11).length = n - 11 := by rw [List.length_drop, HN.out]
              have hcl := clone_c Ar cr (bs.drop 11) (wc.drewN kk) (by rw [hlen', List.map_drop]; exact HRR.out) (by omega) (fun h => List.eq_nil_of_length_eq_zero (by have := HAR.out h; omega))
              rw [hlen'] at hcl
              have HP : ∀ k, Hid ((if good (headS bs) then 0 else 2) = k → errS bs = k) := by intro k e1; have e := HT.out; have e2 := HN.out; unfold errS; rw [← e, e2, if_neg h11, if_neg h1, if_neg h2, if_neg h3]; exact e1
              have HLEN := Lib.hid hlen'
              have HCL := Lib.hid hcl
              clear hlen' hcl HRR q f
              go_wp2_with fail
              refine HCL.out.mono ?_
              rintro e0 w5 ⟨A5, c5, rfl, hv5, hb5⟩
              have bx5 := (HBX.out.drewN kk).below hb5
              have br5 := HBR2.out.below hb5
              have qx := bx5.cell7
              have fx := bx5.free7
              have hb6 := bcall HB3.out hb5
              have hlt2 := hsz0.out
              have hlt3 := hbw0.out.size
              have hne : w.heap.size + 1 ≠ W.heap.size := by omega
              have bx6 := bx5.set_ 6 (.slice A5 (n - 11) c5)
              simp only [List.setIfInBounds_toArray, List.set_cons_zero, List.set_cons_succ] at bx6
              have br6 := br5.far (p := ⟨W.heap.size, 6, none⟩) hne (.slice A5 (n - 11) c5)
              have hb6 := bset (p := ⟨W.heap.size, 6, none⟩) (bcall HB3.out hb5) (show w.heap.size ≤ W.heap.size by omega) (.slice A5 (n - 11) c5)
              have hown5 : w5.ownsRow wc.heap.size 5 1 (.slice A5 (n - 11) c5) (n - 11) (((bs.drop 11)).map u8v) := by have := hv5; unfold ByteRow at this; rw [HLEN.out] at this; exact this
              have hown6 : (w5.setCell ⟨W.heap.size, 6, none⟩ (.slice A5 (n - 11) c5)).ownsRow wc.heap.size 5 1 (.slice A5 (n - 11) c5) (n - 11) (((bs.drop 11)).map u8v) := own_set_below hown5 (show W.heap.size < wc.heap.size from HBX.out.lt) _
              have hg := good_c (headS bs) A5 c5 (w5.setCell ⟨W.heap.size, 6, none⟩ (.slice A5 (n - 11) c5)) (by rw [show (headS bs).bs = bs.drop 11 from rfl, HLEN.out]; exact Reads.of_own hown6) (by rw [show (headS bs).bs = bs.drop 11 from rfl, HLEN.out]; omega)
              have HV : Hid (noteV (headS bs) A5 c5 = .agg #[.int .i64 (x0 : Int), .int .i64 (x1 : Int), .int .i64 (x2 : Int), .int .i64 (twoS bs 3), .int .i64 (twoS bs 5), .int .i64 (twoS bs 7), .slice A5 (n - 11) c5]) := by show _ = _; unfold noteV headS; simp only [HLEN.out, HX0.out, HX1.out, HX2.out]
              rw [HV.out] at hg
              obtain ⟨g, hgg⟩ : ∃ g, g = good (headS bs) := ⟨_, rfl⟩
              rw [← hgg] at hg HP
              have HG := Lib.hid hg
              have HGG := Lib.hid hgg
              have HO6 := Lib.hid hown6
              have HBX6 := Lib.hid bx6
              have HBR6 := Lib.hid br6
              have HB6 := Lib.hid hb6
              have HB5 := Lib.hid hb5
              have HP2 := Lib.hid HP
              clear hg hgg hown6 hown5 hv5 bx6 br6 hb6 bx5 br5 hb5 hlt2 hlt3 HP
              go_wp2_with fail
              refine HG.out.mono ?_
              rintro e0 w7 ⟨rfl, hb7⟩
              have bx7 := HBX6.out.below hb7
              have br7 := HBR6.out.below hb7
              have q7 := bx7.cell7
              have r7 := br7.cell7
              have z7 := br7.free7
              have HO7 := Lib.hid (own_below HO6.out hb7)
              have HB7 := Lib.hid (bcall HB6.out hb7)
              clear bx7 br7 hb7 qx fx
              cases g with
              | false =>
                clear q7
                go_wp2
                refine bodyPost_ret (v := .tuple #[.agg #[.int .i64 0, .int .i64 0, .int .i64 0, .int .i64 0, .int .i64 0, .int .i64 0, .slice none 0 0], .int .i64 2]) (by simp [results, Tryz.results57, go_sem, r7]) rfl ?_
                rw [HQ.out]
                exact ParseRet.no ((HP2.out 2).out rfl) (by decide) (bset7 HB7.out)
              | true =>
                go_wp2
                refine bodyPost_ret (v := .tuple #[.agg #[.int .i64 (x0 : Int), .int .i64 (x1 : Int), .int .i64 (x2 : Int), .int .i64 (twoS bs 3), .int .i64 (twoS bs 5), .int .i64 (twoS bs 7), .slice A5 (n - 11) c5], .int .i64 0]) (by simp [results, Tryz.results57, go_sem, r7]) rfl ?_
                rw [HQ.out, ← HV.out]
                exact ParseRet.yes ((HP2.out 0).out rfl) (own_lower (own_set7 (by rw [HLEN.out]; exact HO7.out) (by have := hsz0.out; have := hbw0.out.size; omega)) HB1.out.size) (bset7 HB7.out)
theorem parse_c (bs : List UInt8) (A : Option Addr) (c : Nat) (w : World) (hr : Reads w w.heap.size 1 A bs.length (bs.map u8v)) (hlen : bs.length ≤ 140737488355328) (hcap : bs.length ≤ c) :
    Calls Tryz.prog 57 #[.slice A bs.length c] w (ParseRet bs w) := parse_cn bs A bs.length c rfl w hr (by omega) hcap
end Go.Proofs.YtmkifedcanmjoaaGreat.Nt
