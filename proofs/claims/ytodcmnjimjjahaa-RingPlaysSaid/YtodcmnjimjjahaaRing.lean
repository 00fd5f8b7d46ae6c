/- What the ring's at, Get and Len return (contracts), for every ring in memory. Conditions: the ring lies as RingIs says. -/
import Derived.Test.YtodcmnjimjjahaaMem
import Derived.Test.YtodcmnjimjjahaaShelf
set_option linter.unusedVariables false
namespace Go.Proofs.Ytodcmnjimjjahaa
open Go.RowKit
attribute [local go_sem ↓] Go.wp_at_zero Go.wp_at_succ

/-- An entry as it lies in memory: its number, the slice's value, the bytes. -/
structure Ent where
  seq : Nat
  v : Value
  bs : List UInt8
def ecells (es : List Ent) : List Value := es.flatMap fun e => [.int .u16 (e.seq : Int), e.v]
theorem ecells_len (es : List Ent) : (ecells es).length = es.length * 2 := by
  induction es with
  | nil => rfl
  | cons e es ih => simp only [ecells, List.flatMap_cons, List.length_append, List.length_cons, List.length_nil] at *; omega
theorem ecells_at (es : List Ent) (k : Nat) (h : k < es.length) : (ecells es)[k * 2]? = some (.int .u16 (es[k].seq : Int)) ∧ (ecells es)[k * 2 + 1]? = some es[k].v := by
  induction es generalizing k with
  | nil => simp at h
  | cons e es ih =>
    cases k with
    | zero => simp [ecells]
    | succ k =>
      have := ih k (by simpa using h)
      simp only [ecells, List.flatMap_cons] at *
      rw [show (k + 1) * 2 = k * 2 + 1 + 1 from by omega]
      simpa using this

def RingIs (w : World) (B r : Nat) (es : List Ent) : Prop :=
  ∃ V, Blk w r 45 #[V] ∧ B ≤ r ∧ w.ownsRow B 49 2 V es.length (ecells es) ∧ (∀ e ∈ es, BytesV 5 B w e.v e.bs) ∧ (∀ e ∈ es, e.seq < 65536)

/-- The place of a number; the length where it is not there. -/
def idxF : List Ent → Nat → Nat
  | [], _ => 0
  | e :: es, q => if e.seq = q then 0 else idxF es q + 1
theorem idx_le : ∀ (es : List Ent) (q : Nat), idxF es q ≤ es.length
  | [], q => Nat.le_refl _
  | e :: es, q => by
    have := idx_le es q
    simp only [idxF, List.length_cons]
    split <;> omega
theorem idx_hit : ∀ (es : List Ent) (q : Nat) (h : idxF es q < es.length), es[idxF es q].seq = q
  | [], q, h => by simp [idxF] at h
  | e :: es, q, h => by
    by_cases he : e.seq = q
    · simp [idxF, he]
    · simp only [idxF, he, if_false, List.length_cons] at h ⊢
      exact idx_hit es q (by omega)
theorem idx_of : ∀ (es : List Ent) (q k : Nat), k ≤ es.length → (∀ j (h : j < es.length), j < k → es[j].seq ≠ q) → (∀ h : k < es.length, es[k].seq = q) → idxF es q = k
  | [], q, k, hk, _, _ => by simp at hk; simp [idxF, hk]
  | e :: es, q, 0, _, _, h2 => by
    have := h2 (by simp)
    simp at this
    simp [idxF, this]
  | e :: es, q, k + 1, hk, h1, h2 => by
    have h0 := h1 0 (by simp) (by omega)
    simp at h0
    simp only [idxF, h0, if_false]
    rw [idx_of es q k (by simpa using hk) (fun j h hj => by have := h1 (j + 1) (by simp; omega) (by omega); simpa using this) (fun h => by have := h2 (by simp; omega); simpa using this)]

def idxI (es : List Ent) (q : Nat) : Int := if idxF es q < es.length then (idxF es q : Int) else -1
theorem clo_c (g s q : Nat) (v : Value) (w : World) (hc : w.cell? ⟨g, 0, none⟩ = some (.int .u16 q)) (hv : v.oneCell' = true) :
    Calls Try.prog 19 #[.agg #[.int .u16 s, v], .pointer (some ⟨g, 0, none⟩)] w fun e w' => e = .returned (.bool (decide (s = q))) ∧ Below w.heap.size w w' := by
  have hlt := World.block_lt_of_cell? _ _ hc
  have hb : ((s : Int) == (q : Int)) = decide (s = q) := by rw [Bool.eq_iff_iff]; simp only [beq_iff_eq, decide_eq_true_eq]; omega
  go_enter Try.func19, Try.ntmps19
  go_wp2
  go_ret
  exact ⟨rfl, (Below.refl _ _).alloc (Nat.le_refl _) _⟩

theorem index_c (A : Option Addr) (n c g q : Nat) (es : List Ent) (w : World) (hg : w.cell? ⟨g, 0, none⟩ = some (.int .u16 q)) (hr : Reads w w.heap.size 2 A n (ecells es)) (hn : es.length = n) (hbig : n ≤ 4611686018427387904) (hone : ∀ e ∈ es, e.v.oneCell' = true) :
    Calls Try.prog 18 #[.slice A n c, .func (.func 19) #[] #[.pointer (some ⟨g, 0, none⟩)]] w fun e w' => e = .returned (.int .i64 (idxI es q)) ∧ Below w.heap.size w w' := by
  have HR := Lib.hid hr
  have HN := Lib.hid hn
  have HO := Lib.hid hone
  have hlt := World.block_lt_of_cell? _ _ hg
  clear hr hn hone
  go_enter Try.func18, Try.ntmps18
  go_wp2_with fail
  go_loopg [8] n (fun gg i wr => ∃ k, k ≤ n ∧ gg = n - k ∧ i = .int .i64 k ∧ (∀ j (h : j < es.length), j < k → es[j].seq ≠ q) ∧ Below w.heap.size w wr)
  case atStart => exact ⟨0, by omega, rfl, rfl, fun j h hj => absurd hj (by omega), Below.refl _ _⟩
  case round =>
    obtain ⟨k, hk, rfl, rfl, hno, hbel⟩ := hrel
    have HNO := Lib.hid hno
    clear hno
    by_cases hkn : k < n
    · obtain ⟨ad, rfl, hadl, hcell⟩ := (HR.out.below hbel).2 (by omega)
      have hke : k < es.length := by rw [HN.out]; exact hkn
      obtain ⟨h1, h2⟩ := ecells_at es k hke
      obtain ⟨E, hE, hEm⟩ : ∃ E, E = es[k] ∧ E ∈ es := ⟨_, rfl, List.getElem_mem hke⟩
      rw [← hE] at h1 h2
      have c00 := hcell 0 _ (ecells_at es 0 (by omega)).1
      have c1 := hcell _ _ h1
      have c2 := hcell _ _ h2
      have hEo := HO.out E hEm
      have HEE := Lib.hid hE
      clear hE h1 h2 hcell
      have cg := (hbel.cell (p := ⟨g, 0, none⟩) hlt).trans hg
      obtain ⟨b, off, rfl⟩ := addr_plain c00
      rw [Go.WideShapes.add_plain] at c1 c2
      rw [← Nat.add_assoc] at c2
      go_wp2_with fail
      refine (clo_c g E.seq q E.v _ cg hEo).mono ?_
      rintro e0 w1 ⟨rfl, hb1⟩
      by_cases he : E.seq = q
      · have hd : decide (E.seq = q) = true := by simpa using he
        go_wp2
        go_ret
        have hi : idxF es q = k := idx_of es q k (by omega) HNO.out (fun h => by rw [← HEE.out]; exact he)
        exact ⟨ret_int (by rw [idxI, hi, if_pos hke]), bcall hbel hb1⟩
      · have hd : decide (E.seq = q) = false := by simpa using he
        go_wp2
        go_roundg (n - (k + 1))
        case measure => omega
        case rel =>
          refine ⟨k + 1, by omega, rfl, by go_num, fun j hj hjk => ?_, bcall hbel hb1⟩
          rcases Nat.lt_or_ge j k with h | h
          · exact HNO.out j hj h
          · obtain rfl : j = k := by omega
            rw [← HEE.out]; exact he
    · have hkn' : k = n := by omega
      subst hkn'
      go_wp2
      go_ret
      have hi : idxF es q = es.length := idx_of es q es.length (Nat.le_refl _) (fun j h _ => HNO.out j h (by rw [← HN.out]; exact h)) (fun h => absurd h (by omega))
      exact ⟨ret_int (by rw [idxI, hi, if_neg (by omega)]), hbel⟩

theorem RingIs.one {w : World} {B r : Nat} {es : List Ent} (h : RingIs w B r es) : ∀ e ∈ es, e.v.oneCell' = true := by
  obtain ⟨V, _, _, _, hb, _⟩ := h
  intro e he
  obtain ⟨A, c, hv, _⟩ := hb e he
  rw [hv]; rfl
theorem at_c (r q B : Nat) (es : List Ent) (w : World) (h : RingIs w B r es) (hbig : es.length ≤ 4611686018427387904) :
    Calls Try.prog 15 #[.pointer (some ⟨r, 0, none⟩), .int .u16 q] w fun e w' => e = .returned (.int .i64 (idxI es q)) ∧ Below w.heap.size w w' := by
  have hone := h.one
  obtain ⟨V, hb, hB, hown, hbv, _⟩ := h
  obtain ⟨A, c, rfl⟩ := own_slice hown
  have hr := Reads.of_own hown
  have cV := hb.cell1
  go_enter Try.func15, Try.ntmps15
  go_wp2_with fail
  refine (index_c A es.length c w.heap.size q es _ (by simp) ((hr.alloc (Nat.le_refl _) _).more (by simp)) rfl hbig hone).mono ?_
  rintro e0 w1 ⟨rfl, hb1⟩
  go_wp2
  go_ret
  exact ⟨rfl, bcall (balloc (Below.refl _ _) _) hb1⟩
theorem len_c (r B : Nat) (es : List Ent) (w : World) (h : RingIs w B r es) :
    Calls Try.prog 11 #[.pointer (some ⟨r, 0, none⟩)] w fun e w' => e = .returned (.int .i64 es.length) ∧ w = w' := by
  obtain ⟨V, hb, hB, hown, hbv, _⟩ := h
  obtain ⟨A, c, rfl⟩ := own_slice hown
  have cV := hb.cell1
  go_enter Try.func11, Try.ntmps11
  go_wp2
  go_ret
  exact ⟨rfl, rfl⟩
theorem new_c (w : World) :
    Calls Try.prog 7 #[] w fun e w' => e = .returned (.pointer (some ⟨w.heap.size, 0, none⟩)) ∧ w' = w.alloc (.cells #[.slice none 0 0] 45) := by
  go_enter Try.func7, Try.ntmps7
  go_wp2
  go_ret
  exact ⟨rfl, rfl⟩
theorem RingIs.new (w : World) (B : Nat) (hB : B ≤ w.heap.size) : RingIs (w.alloc (.cells #[.slice none 0 0] 45)) B w.heap.size [] :=
  ⟨.slice none 0 0, Blk.new _ _ _, hB, World.ownsRow_nil _ _ _ _, by simp, by simp⟩
theorem RingIs.fr {T : TypeId → Bool} {w w' : World} {B r : Nat} {es : List Ent} (h : RingIs w B r es) (hf : Fr B T w w') (h5 : T 5 = false) (h45 : T 45 = false) (h49 : T 49 = false) : RingIs w' B r es := by
  obtain ⟨V, hb, hB, hown, hbv, hs⟩ := h
  exact ⟨V, hb.fr hf (.inr h45), hB, own_fr hown hf h49, fun e he => (hbv e he).fr hf h5, hs⟩
theorem RingIs.below {w w' : World} {B r : Nat} {es : List Ent} (h : RingIs w B r es) (hb : Below w.heap.size w w') : RingIs w' B r es :=
  h.fr (T := fun _ => false) (Fr.of_below hb) rfl rfl rfl
/-- What Get answers where the number is there. -/
def Got (bs : List UInt8) (w : World) (e : Ending) (w' : World) : Prop := ∃ v, e = .returned (.tuple #[v, .bool true]) ∧ w'.ownsRow w.heap.size 5 1 v bs.length (bs.map u8v) ∧ Below w.heap.size w w'
theorem clone_c (bs : List UInt8) (B : Nat) (v : Value) (w : World) (hv : BytesV 5 B w v bs) (hbig : bs.length ≤ 140737488355328) :
    Calls Try.prog 17 #[v] w fun e w' => ∃ v', e = .returned v' ∧ w'.ownsRow w.heap.size 5 1 v' bs.length (bs.map u8v) ∧ Below w.heap.size w w' := by
  obtain ⟨A, c, rfl, hc, hr, _⟩ := hv
  rcases A with _ | ad
  · refine (Try.bytes_Clone_nil _ _ w).mono ?_
    rintro e w' ⟨rfl, rfl⟩
    have : bs = [] := by
      rcases Nat.eq_zero_or_pos bs.length with h | h
      · exact List.eq_nil_of_length_eq_zero h
      · obtain ⟨ad, e, _⟩ := hr.2 h; cases e
    subst this
    exact ⟨_, rfl, World.ownsRow_nil _ _ _ _, Below.refl _ _⟩
  · have hxs : bs.map u8v = (bs.map fun (b : UInt8) => (b.toNat : Int)).map (Value.int .u8) := by rw [List.map_map]; rfl
    refine (Try.bytes_Clone_at ad bs.length c (bs.map fun (b : UInt8) => (b.toNat : Int)) w (by simp) hbig ?_).mono ?_
    · intro i hi
      obtain ⟨ad', e, _, hcell⟩ := hr.2 (by omega)
      injection e with e
      subst e
      refine hcell i _ ?_
      simp [u8v, List.getD, hi]
    · rintro e w' ⟨v', rfl, hown, _, hb⟩
      rw [← hxs] at hown
      exact ⟨_, rfl, hown, hb⟩
theorem own_lower {w : World} {B B' e size n : Nat} {v : Value} {xs : List Value} (h : w.ownsRow B' e size v n xs) (hB : B ≤ B') : w.ownsRow B e size v n xs :=
  ⟨h.1, h.2.imp id (fun ⟨g, cap, cur, a, b, c⟩ => ⟨g, cap, cur, a, Nat.le_trans hB b, c⟩)⟩
theorem get_hit (r q B k : Nat) (es : List Ent) (E : Ent) (w : World) (h : RingIs w B r es) (hbig : es.length ≤ 4611686018427387904) (hbs : E.bs.length ≤ 140737488355328) (hk : idxF es q = k) (hkl : k < es.length) (hE : es[k]? = some E) :
    Calls Try.prog 10 #[.pointer (some ⟨r, 0, none⟩), .int .u16 q] w (Got E.bs w) := by
  have hring := h
  obtain ⟨V, hb, hB, hown, hbv, _⟩ := h
  obtain ⟨A, c, rfl⟩ := own_slice hown
  have HI : Hid (idxI es q = (k : Int)) := by show idxI es q = _; rw [idxI, hk, if_pos hkl]
  have HE := Lib.hid hE
  have HK := Lib.hid hk
  clear hE hk
  go_enter Try.func10, Try.ntmps10
  go_wp2_with fail
  refine (at_c r q B es _ hring hbig).mono ?_
  rintro e0 w1 ⟨rfl, hb1⟩
  rw [HI.out]
  have cV := (hb.below hb1).cell1
  have own1 := own_below hown hb1
  have hEk : es[k] = E := by
    have := HE.out
    rw [List.getElem?_eq_getElem hkl] at this
    exact Option.some.inj this
  have hEm : E ∈ es := by rw [← hEk]; exact List.getElem_mem hkl
  have hbE := (hbv _ hEm).below hb1
  obtain ⟨ad, rfl, hadl, hcell⟩ := (Reads.of_own own1).2 (by omega)
  obtain ⟨h1, h2⟩ := ecells_at es k hkl
  rw [hEk] at h2
  have c00 := hcell 0 _ (ecells_at es 0 (by omega)).1
  have c2 := hcell _ _ h2
  obtain ⟨b, off, rfl⟩ := addr_plain c00
  rw [Go.WideShapes.add_plain, ← Nat.add_assoc] at c2
  have hv2 := hbE
  obtain ⟨A2, cc2, hv2, _, _, _⟩ := hv2
  rw [hv2] at c2 hbE
  clear h1 h2 hEk hcell hv2 hown own1 hring hb hbv c00
  have HBE := Lib.hid hbE
  clear hbE
  go_wp2_with fail
  refine (clone_c E.bs _ _ _ HBE.out hbs).mono ?_
  rintro e0 w2 ⟨v', rfl, hv', hb2⟩
  go_wp2
  go_ret2
  exact ⟨v', rfl, own_lower hv' hb1.size, bcall hb1 hb2⟩
theorem get_miss (r q B : Nat) (es : List Ent) (w : World) (h : RingIs w B r es) (hbig : es.length ≤ 4611686018427387904) (hk : ¬ idxF es q < es.length) :
    Calls Try.prog 10 #[.pointer (some ⟨r, 0, none⟩), .int .u16 q] w fun e w' => e = .returned (.tuple #[.slice none 0 0, .bool false]) ∧ Below w.heap.size w w' := by
  have HI : Hid (idxI es q = -1) := by show idxI es q = _; rw [idxI, if_neg hk]
  clear hk
  go_enter Try.func10, Try.ntmps10
  go_wp2_with fail
  refine (at_c r q B es _ h hbig).mono ?_
  rintro e0 w1 ⟨rfl, hb1⟩
  rw [HI.out]
  go_wp2
  go_ret2
  exact ⟨rfl, hb1⟩
end Go.Proofs.Ytodcmnjimjjahaa
