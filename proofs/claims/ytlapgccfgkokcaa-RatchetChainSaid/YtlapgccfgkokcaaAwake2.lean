/- The tag statements' awake returns true (contract). Conditions: none. -/
import Derived.Test.YtlapgccfgkokcaaTSame
set_option linter.unusedVariables false
set_option linter.unusedSimpArgs false
namespace Go.Proofs.Ytlapgccfgkokcaa
open Go.RowKit
attribute [local go_sem ↓] Go.wp_at_zero Go.wp_at_succ

/-- tag.Of, called with a block of slices. -/
theorem tag_blk {w : World} {g n c nk ck : Nat} {A : Option Addr} {key : List UInt8} {ps : List (List UInt8)} {O : List UInt8} (hO : O = hmacS key ps.flatten) (hk : SlV w (.slice A nk ck) key) (hp : Parts w (some ⟨g, 0, none⟩) ps) (hn : n = ps.length) (h : n < 9223372036854775808) :
    Calls Try.prog 32 #[.slice A nk ck, .slice (some ⟨g, 0, none⟩) n c] w fun e w' => e = .returned (.agg (O.map u8v).toArray) ∧ Below w.heap.size w w' := by
  subst hn hO
  exact tagof_c key ps A _ nk ck c w hk hp h
theorem tsame_t {a b : List UInt8} {r : Bool} (hr : (a == b) = r) {A D : Option Addr} {n m c d : Nat} {w : World} (ha : SlV w (.slice A n c) a) (hb : SlV w (.slice D m d) b) (hn : n < 9223372036854775808) (hm : m < 9223372036854775808) :
    Calls Try.prog 33 #[.slice A n c, .slice D m d] w fun e w' => e = .returned (.bool r) ∧ Below w.heap.size w w' := by
  subst hr
  exact tsame_c a b A D n m c d w ha hb hn hm
theorem SlV.litAt {g : Nat} (w : World) (hg : g = w.heap.size) (cs : Array Value) (fr : Nat × Nat) (n : Nat) (b : List UInt8) (hcs : cs.toList = b.map u8v) (hn : n = b.length) : SlV (w.alloc (.cells cs 5 fr)) (.slice (some ⟨g, 0, none⟩) n n) b := by
  subst hg
  exact SlV.lit w cs fr n b hcs hn
theorem UB.at32 {w : World} {g : Nat} {t : TypeId} {O : List UInt8} (h : UB w g t O) (hO : O.length = 32) (i : Nat) (hi : i < 32) {x : UInt8} {z : Int} (hx : O.getD i 0 = x) (hz : (x.toNat : Int) = z) : w.cell? ⟨g, i, none⟩ = some (.int .u8 z) := by
  rw [h.cell i (by omega), hx, hz]
/-- A literal turned, where one block lies ahead. -/
theorem conv2 (w : World) (o : Obj) (C : Array Value) (n c : Nat) : (convert 27 27 (.slice (some ⟨w.heap.size + 1, 0, none⟩) n c)).run Try.prog ((w.alloc o).alloc (.cells C 5)) = .ok (.slice (some ⟨w.heap.size + 1, 0, none⟩) n c) ((w.alloc o).alloc (.cells C 5 (C.size, C.size + 1))) := by
  have := Lib.run_convert_bytes_const (P := Try.prog) (w.alloc o) 27 5 C n c Try.underlying27 Try.underlying5
  rw [World.size_alloc] at this
  exact this
def jefe : List UInt8 := [74, 101, 102, 101]
def wants : List UInt8 := [119, 104, 97, 116, 32, 100, 111, 32, 121, 97, 32, 119, 97, 110, 116, 32, 102, 111, 114, 32, 110, 111, 116, 104, 105, 110, 103, 63]
theorem hmac_jefe : (hmacS jefe wants).getD 0 0 = 91 ∧ (hmacS jefe wants).getD 1 0 = 220 ∧ (hmacS jefe wants).getD 31 0 = 67 := by decide +kernel
set_option maxRecDepth 100000 in
set_option maxHeartbeats 3200000 in
theorem awake2_c (w : World) : Calls Try.prog 31 #[] w fun e w' => e = .returned (.bool true) ∧ Below w.heap.size w w' := by
  have kc := fun (w : World) (C : Array Value) (n c : Nat) => Lib.run_convert_bytes_const (P := Try.prog) w 27 5 C n c Try.underlying27 Try.underlying5
  have kc2 := conv2
  obtain ⟨O, hO⟩ : ∃ O, O = hmacS jefe wants := ⟨_, rfl⟩
  have hOl : O.length = 32 := by rw [hO]; exact hmacS_len _ _
  have HO : Hid (O = hmacS jefe ([wants] : List (List UInt8)).flatten) := by show _ = _; rw [hO]; simp
  have HX : Hid (O.getD 0 0 = 91 ∧ O.getD 1 0 = 220 ∧ O.getD 31 0 = 67) := by show _ ∧ _; rw [hO]; exact hmac_jefe
  have HOL := Lib.hid hOl
  have HJ := Lib.hid (infoO hOl)
  clear hO hOl
  go_enter Try.func31, Try.ntmps31
  go_upto_region 2 with
   (first
    | (go_at_call 32
       refine (tag_blk HO.out (((SlV.lit w _ _ 4 _ rfl rfl).below (balloc (Below.refl _ _) _)).below (balloc (Below.refl _ _) _)) (Parts.one (Blk.newAt (by simp) _ _) ((SlV.litAt _ (by simp) _ _ 28 _ rfl rfl).below (balloc (Below.refl _ _) _))) rfl (by simp)).mono ?_
       rintro e0 w1 ⟨rfl, hb1⟩
       have HB1 : Hid (Below w.heap.size w w1) := bcall (balloc (balloc (balloc (Below.refl _ _) _) _) _) hb1
       have HU1 : Hid (UB (w1.alloc (.cells (z32.map u8v).toArray 24)) w1.heap.size 24 z32) := Blk.new _ _ _
       have HTH : Hid ((w1.alloc (.cells (z32.map u8v).toArray 24)).there w1.heap.size 0 (O.map u8v).toArray.size) := there32 HU1.out rfl HOL.out
       clear hb1)
    | ((with_reducible show wpList _ _ _ (⟨none, .store 24 (.tmp 1) (.tmp 7), _, _, _, _⟩ :: _) _ _); refine wpList_store_mid rfl 24 (.tmp 1) (.tmp 7) rfl w1.heap.size 0 (O.map u8v).toArray rfl rfl HTH.out HJ.out (bytes_one _) ?_))
  obtain ⟨w2, hw2⟩ : ∃ w2, w2 = (w1.alloc (.cells (z32.map u8v).toArray 24)).setCells w1.heap.size 0 (O.map u8v) := ⟨_, rfl⟩
  change Code.wp _ _ _ _ ((w1.alloc (.cells (z32.map u8v).toArray 24)).setCells w1.heap.size 0 (O.map u8v))
  have hst : UB w2 w1.heap.size 24 O := by rw [hw2]; exact blk_setAll HU1.out (by rw [List.length_map, HOL.out]; rfl)
  have HB2 : Hid (Below w.heap.size w w2) := by show Below _ _ _; rw [hw2]; exact below_setCells (balloc HB1.out _) HB1.out.size _ _
  rw [← hw2]
  have c0 := hst.at32 HOL.out 0 (by decide) HX.out.1 (show _ = (91 : Int) from rfl)
  have c1 := hst.at32 HOL.out 1 (by decide) HX.out.2.1 (show _ = (220 : Int) from rfl)
  have c2 := hst.at32 HOL.out 31 (by decide) HX.out.2.2 (show _ = (67 : Int) from rfl)
  clear hw2 hst HU1 HTH HJ HO HOL HB1
  go_wp2_with
   (first
    | (go_at_call 33
       refine (tsame_t (a := [97]) (b := [97]) (r := true) rfl ((SlV.lit w2 _ _ 1 _ rfl rfl).below (balloc (Below.refl _ _) _)) (SlV.litAt _ (by simp) _ _ 1 _ rfl rfl) (by decide) (by decide)).mono ?_
       rintro e0 w3 ⟨rfl, hb3⟩
       have HB3 : Hid (Below w.heap.size w w3) := bcall (balloc (balloc HB2.out _) _) hb3
       clear hb3))
  go_ret
  exact ⟨rfl, HB3.out⟩
end Go.Proofs.Ytlapgccfgkokcaa
