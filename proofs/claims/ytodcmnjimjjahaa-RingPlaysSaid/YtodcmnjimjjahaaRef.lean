/- The reference's ring: what its Get and its Add leave (contracts). Conditions: the ring lies as RefIs says. -/
import Derived.Test.YtodcmnjimjjahaaOwn0
import Derived.Test.YtodcmnjimjjahaaLastLaw
set_option linter.unusedVariables false
namespace Go.Proofs.Ytodcmnjimjjahaa
open Go.RowKit
attribute [local go_sem ↓] Go.wp_at_zero Go.wp_at_succ

/-- v is a slice whose cells read xs; they lie below B, or in a block of element type t. -/
def RowV (t : TypeId) (B : Nat) (w : World) (v : Value) (n : Nat) (xs : List Value) : Prop :=
  ∃ A c, v = .slice A n c ∧ n ≤ c ∧ Reads w w.heap.size 1 A n xs ∧ (0 < n → ∀ ad, A = some ad → ad.block < B ∨ ∃ cs fr, w.heap[ad.block]? = some (.cells cs t fr))
section
variable {t : TypeId} {B n : Nat} {w w' : World} {v : Value} {xs : List Value}
theorem RowV.nil (t : TypeId) (B : Nat) (w : World) : RowV t B w (.slice none 0 0) 0 [] := ⟨none, 0, rfl, Nat.le_refl _, Reads.none_, fun h => absurd h (by simp)⟩
theorem RowV.fr {T : TypeId → Bool} (h : RowV t B w v n xs) (hf : Fr B T w w') (hT : T t = false) : RowV t B w' v n xs := by
  obtain ⟨A, c, rfl, hc, hr, hl⟩ := h
  refine ⟨A, c, rfl, hc, ⟨hr.1, fun hn => ?_⟩, fun hn ad e => ?_⟩
  · obtain ⟨ad, rfl, hb, hcell⟩ := hr.2 hn
    have hk := hf.block ad.block hb ((hl hn ad rfl).imp id fun ⟨cs, fr, e⟩ => ⟨cs, t, fr, e, hT⟩)
    exact ⟨ad, rfl, Nat.lt_of_lt_of_le hb hf.size, fun j u hu => (World.cell?_of_block (by rw [block_of_add]; exact hk)).trans (hcell j u hu)⟩
  · obtain ⟨ad', e', hb, _⟩ := hr.2 hn
    rw [e] at e'
    injection e' with e'
    subst e'
    rcases hl hn ad e with h1 | ⟨cs, fr, h1⟩
    · exact .inl h1
    · exact .inr ⟨cs, fr, (hf.block ad.block hb (.inr ⟨cs, t, fr, h1, hT⟩)).trans h1⟩
theorem RowV.below (h : RowV t B w v n xs) (hb : Below w.heap.size w w') : RowV t B w' v n xs := h.fr (T := fun _ => false) (Fr.of_below hb) rfl
theorem RowV.owned {base : Nat} (h : w.ownsRow base t 1 v n xs) : RowV t B w v n xs := by
  obtain ⟨A, c, rfl⟩ := own_slice h
  refine ⟨A, c, rfl, own_bound h, Reads.of_own h, fun hn ad e => ?_⟩
  subst e
  obtain ⟨g, cap, e, _, _⟩ := h.form hn
  injection e with e1
  injection e1 with e1
  subst e1
  obtain ⟨_, cs, h2⟩ := own_tag h g rfl
  exact .inr ⟨cs, _, h2⟩
end

/-- The reference's ring in memory. -/
def RefIs (w : World) (B r : Nat) (es : List Ent) : Prop :=
  ∃ VN VB, Blk w r 36 #[VN, VB] ∧ B ≤ r ∧ RowV 26 B w VN es.length (es.map fun e => .int .u16 (e.seq : Int)) ∧ RowV 27 B w VB es.length (es.map (·.v)) ∧ (∀ e ∈ es, BytesV 5 B w e.v e.bs)
theorem RefIs.fr {T : TypeId → Bool} {w w' : World} {B r : Nat} {es : List Ent} (h : RefIs w B r es) (hf : Fr B T w w') (h5 : T 5 = false) (h26 : T 26 = false) (h27 : T 27 = false) (h36 : T 36 = false) : RefIs w' B r es := by
  obtain ⟨VN, VB, hb, hB, hn, hv, hbv⟩ := h
  exact ⟨VN, VB, hb.fr hf (.inr h36), hB, hn.fr hf h26, hv.fr hf h27, fun e he => (hbv e he).fr hf h5⟩
theorem RefIs.below {w w' : World} {B r : Nat} {es : List Ent} (h : RefIs w B r es) (hb : Below w.heap.size w w') : RefIs w' B r es := h.fr (T := fun _ => false) (Fr.of_below hb) rfl rfl rfl rfl

def idxR (es : List Ent) (q : Nat) : Option Ent := es.find? fun e => e.seq == q
def RGot (o : Option Ent) (e : Ending) : Prop := match o with
  | some E => e = .returned (.tuple #[E.v, .bool true])
  | none => e = .returned (.tuple #[.slice none 0 0, .bool false])
set_option maxHeartbeats 1600000 in
theorem rget_c (r q B : Nat) (es : List Ent) (w : World) (h : RefIs w B r es) (hbig : es.length ≤ 4611686018427387904) :
    Calls Try.prog 13 #[.pointer (some ⟨r, 0, none⟩), .int .u16 q] w fun e w' => RGot (es[idxF es q]?) e ∧ w = w' := by
  obtain ⟨VN, VB, hb, hB, hn, hv, hbv⟩ := h
  obtain ⟨AN, cN, rfl, hcN, hrN, _⟩ := hn
  obtain ⟨AB, cB, rfl, hcB, hrB, _⟩ := hv
  have c2 := hb.cell2
  have HRN := Lib.hid hrN
  have HRB := Lib.hid hrB
  have HBV := Lib.hid hbv
  clear hrN hrB hbv hb
  go_enter Try.func13, Try.ntmps13
  go_wp2_with fail
  go_loopg [6] es.length (fun gg i wr => ∃ k, k ≤ es.length ∧ gg = es.length - k ∧ i = .int .i64 k ∧ (∀ j (h : j < es.length), j < k → es[j].seq ≠ q) ∧ w = wr)
  case atStart => exact ⟨0, by omega, rfl, rfl, fun j h hj => absurd hj (by omega), rfl⟩
  case round =>
    obtain ⟨k, hk, rfl, rfl, hno, rfl⟩ := hrel
    have HNO := Lib.hid hno
    clear hno
    by_cases hkn : k < es.length
    · obtain ⟨aN, rfl, _, hcellN⟩ := HRN.out.2 (by omega)
      obtain ⟨aB, rfl, _, hcellB⟩ := HRB.out.2 (by omega)
      obtain ⟨E, hE⟩ : ∃ E, es[k]? = some E := ⟨_, List.getElem?_eq_getElem hkn⟩
      have n0 := hcellN 0 _ (by rw [List.getElem?_map, List.getElem?_eq_getElem (by omega : 0 < es.length)]; rfl)
      have b0 := hcellB 0 _ (by rw [List.getElem?_map, List.getElem?_eq_getElem (by omega : 0 < es.length)]; rfl)
      have nk := hcellN k (.int .u16 (E.seq : Int)) (by rw [List.getElem?_map, hE]; rfl)
      have bk := hcellB k E.v (by rw [List.getElem?_map, hE]; rfl)
      obtain ⟨gN, oN, rfl⟩ := addr_plain n0
      obtain ⟨gB, oB, rfl⟩ := addr_plain b0
      rw [Go.WideShapes.add_plain] at nk bk
      have HE := Lib.hid hE
      clear hcellN hcellB n0 b0 hE
      by_cases he : E.seq = q
      · have he1 : ((E.seq : Int) == (q : Int)) = true := by simp only [beq_iff_eq]; omega
        have hi : idxF es q = k := idx_of es q k (by omega) HNO.out (fun h => by have := HE.out; rw [List.getElem?_eq_getElem h] at this; injection this with this; rw [this]; exact he)
        have hv2 := HBV.out E (List.mem_of_getElem? HE.out)
        obtain ⟨A2, cc2, hv2, _, _, _⟩ := hv2
        rw [hv2] at bk
        have HI : Hid (es[idxF es q]? = some E) := by show es[idxF es q]? = _; rw [hi]; exact HE.out
        have HV : Hid (E.v = .slice A2 E.bs.length cc2) := hv2
        clear hi hv2
        go_wp2
        go_ret2
        exact ⟨by rw [HI.out]; show _ = _; rw [HV.out]; rfl, rfl⟩
      · have he1 : ((E.seq : Int) == (q : Int)) = false := by simp only [beq_eq_false_iff_ne]; omega
        go_wp2
        go_roundg (es.length - (k + 1))
        case measure => omega
        case rel =>
          refine ⟨k + 1, by omega, rfl, by go_num, fun j hj hjk => ?_, rfl⟩
          rcases Nat.lt_or_ge j k with h | h
          · exact HNO.out j hj h
          · obtain rfl : j = k := by omega
            have := HE.out
            rw [List.getElem?_eq_getElem hj] at this
            injection this with this
            rw [this]; exact he
    · have hkn' : k = es.length := by omega
      subst hkn'
      go_wp2
      go_ret2
      have hi : idxF es q = es.length := idx_of es q es.length (Nat.le_refl _) (fun j h _ => HNO.out j h h) (fun h => absurd h (by omega))
      exact ⟨by rw [hi, List.getElem?_eq_none (Nat.le_refl _)]; rfl, rfl⟩
end Go.Proofs.Ytodcmnjimjjahaa
