/- The ring by its numbers and bytes alone: the contracts of New, Add, Get, Len and Same over a plain list. Conditions: as the contracts say. -/
import Derived.Test.YtodcmnjimjjahaaAdd
import Derived.Laws.IdiomStrings
set_option linter.unusedVariables false
namespace Go.Proofs.Ytodcmnjimjjahaa
open Go.RowKit
attribute [local go_sem ↓] Go.wp_at_zero Go.wp_at_succ

abbrev Key := Nat × List UInt8
def Ent.key (e : Ent) : Key := (e.seq, e.bs)
def idxK : List Key → Nat → Nat
  | [], _ => 0
  | e :: es, q => if e.1 = q then 0 else idxK es q + 1
def outK (es : List Key) (q : Nat) : List Key := if idxK es q < es.length then es.eraseIdx (idxK es q) else es
def cutK (es : List Key) : List Key := if 64 < es.length then es.eraseIdx 0 else es
def addK (es : List Key) (e : Key) : List Key := cutK (outK es e.1 ++ [e])
def getK (es : List Key) (q : Nat) : Option (List UInt8) := es[idxK es q]?.map (·.2)

theorem idx_key : ∀ (es : List Ent) (q : Nat), idxK (es.map Ent.key) q = idxF es q
  | [], q => rfl
  | e :: es, q => by simp only [List.map_cons, idxK, idxF, idx_key es q]; rfl
theorem map_erase (es : List Ent) (i : Nat) : (es.eraseIdx i).map Ent.key = (es.map Ent.key).eraseIdx i := by
  rw [List.eraseIdx_eq_take_drop_succ, List.eraseIdx_eq_take_drop_succ]; simp
theorem out_key (es : List Ent) (q : Nat) : (outF es q).map Ent.key = outK (es.map Ent.key) q := by
  simp only [outF, outK, idx_key, List.length_map]
  split
  · exact map_erase _ _
  · rfl
theorem cut_key (es : List Ent) : (cutF es).map Ent.key = cutK (es.map Ent.key) := by
  simp only [cutF, cutK, List.length_map]
  split
  · exact map_erase _ _
  · rfl
theorem add_key (es : List Ent) (E : Ent) : (addF es E).map Ent.key = addK (es.map Ent.key) E.key := by
  rw [addF, cut_key, List.map_append, out_key, addK]; rfl
theorem idxK_le : ∀ (es : List Key) (q : Nat), idxK es q ≤ es.length
  | [], q => Nat.le_refl _
  | e :: es, q => by
    have := idxK_le es q
    simp only [idxK, List.length_cons]
    split <;> omega

def RingK (w : World) (B r : Nat) (ks : List Key) : Prop := ∃ es, RingIs w B r es ∧ es.map Ent.key = ks
theorem RingK.fr {T : TypeId → Bool} {w w' : World} {B r : Nat} {ks : List Key} (h : RingK w B r ks) (hf : Fr B T w w') (h5 : T 5 = false) (h45 : T 45 = false) (h49 : T 49 = false) : RingK w' B r ks :=
  h.imp fun _ h => ⟨h.1.fr hf h5 h45 h49, h.2⟩
theorem RingK.below {w w' : World} {B r : Nat} {ks : List Key} (h : RingK w B r ks) (hb : Below w.heap.size w w') : RingK w' B r ks := h.imp fun _ h => ⟨h.1.below hb, h.2⟩
theorem RingK.alloc {w : World} {B r : Nat} {ks : List Key} (h : RingK w B r ks) (o : Obj) : RingK (w.alloc o) B r ks := h.below (balloc (Below.refl _ _) _)
theorem RingK.new (w : World) (B : Nat) (hB : B ≤ w.heap.size) : RingK (w.alloc (.cells #[.slice none 0 0] 45)) B w.heap.size [] := ⟨[], RingIs.new w B hB, rfl⟩

theorem addK_c {r s B : Nat} {ks : List Key} {bs : List UInt8} {v : Value} {w : World} (h : RingK w B r ks) (hv : BytesV 5 B w v bs) (hbs : bs.length ≤ 140737488355328) (hs : s < 65536) (hl : ks.length ≤ 64) :
    Calls Try.prog 9 #[.pointer (some ⟨r, 0, none⟩), .int .u16 s, v] w fun e w' => e = .returned (.tuple #[]) ∧ RingK w' B r (addK ks (s, bs)) ∧ Fr B rt w w' := by
  obtain ⟨es, h, rfl⟩ := h
  refine (add_c r s B es bs v w h hv hbs hs (by simpa using hl)).mono ?_
  rintro e w' ⟨rfl, v', h1, h2, _⟩
  exact ⟨rfl, ⟨_, h1, add_key _ _⟩, h2⟩
theorem lenK_c {r B : Nat} {ks : List Key} {w : World} (h : RingK w B r ks) : Calls Try.prog 11 #[.pointer (some ⟨r, 0, none⟩)] w fun e w' => e = .returned (.int .i64 ks.length) ∧ w = w' := by
  obtain ⟨es, h, rfl⟩ := h
  rw [List.length_map]
  exact len_c r B es w h
theorem addK_len (ks : List Key) (k : Key) (h : ks.length ≤ 64) : (addK ks k).length ≤ 64 := by
  have hlo : (outK ks k.1).length ≤ ks.length := by
    unfold outK; split
    · rw [List.length_eraseIdx_of_lt (by assumption)]; omega
    · omega
  unfold addK cutK
  split
  · rw [List.length_eraseIdx_of_lt (by omega)]; simp only [List.length_append, List.length_cons, List.length_nil] at *; omega
  · omega
/-- What Get gives where the number is there. -/
def GotB (bs : List UInt8) (B : Nat) (w : World) (e : Ending) (w' : World) : Prop := ∃ A c, e = .returned (.tuple #[.slice A bs.length c, .bool true]) ∧ w'.ownsRow w.heap.size 5 1 (.slice A bs.length c) bs.length (bs.map u8v) ∧ BytesV 5 B w' (.slice A bs.length c) bs ∧ Below w.heap.size w w'
theorem getK_hit {r q B : Nat} {ks : List Key} {bs : List UInt8} {w : World} (h : RingK w B r ks) (hl : ks.length ≤ 64) (hbs : bs.length ≤ 140737488355328) (hg : getK ks q = some bs) :
    Calls Try.prog 10 #[.pointer (some ⟨r, 0, none⟩), .int .u16 q] w (GotB bs B w) := by
  obtain ⟨es, h, rfl⟩ := h
  rw [getK, idx_key, List.getElem?_map] at hg
  cases hE : es[idxF es q]? with
  | none => rw [hE] at hg; cases hg
  | some E =>
    rw [hE] at hg
    have hg : E.bs = bs := by simpa [Ent.key] using hg
    subst hg
    rw [List.length_map] at hl
    refine (get_hit r q B _ es E w h (by omega) hbs rfl (List.getElem?_eq_some_iff.1 hE).1 hE).mono ?_
    rintro e w' ⟨v, rfl, ho, hb⟩
    obtain ⟨A, c, rfl⟩ := own_slice ho
    exact ⟨A, c, rfl, ho, BytesV.owned ho, hb⟩
theorem getK_miss {r q B : Nat} {ks : List Key} {w : World} (h : RingK w B r ks) (hl : ks.length ≤ 64) (hg : getK ks q = none) :
    Calls Try.prog 10 #[.pointer (some ⟨r, 0, none⟩), .int .u16 q] w fun e w' => e = .returned (.tuple #[.slice none 0 0, .bool false]) ∧ Below w.heap.size w w' := by
  obtain ⟨es, h, rfl⟩ := h
  rw [getK, idx_key, List.getElem?_map] at hg
  rw [List.length_map] at hl
  refine get_miss r q B es w h (by omega) ?_
  intro hlt
  rw [List.getElem?_eq_getElem hlt] at hg
  cases hg
/-- string(b). -/
theorem str_of {B : Nat} {w : World} {v : Value} {bs : List UInt8} (h : BytesV 5 B w v bs) : (convert 27 9 v).run Try.prog w = .ok (.string ⟨bs.toArray⟩) w := by
  obtain ⟨A, c, rfl, hc, hr, _⟩ := h
  rcases Nat.eq_zero_or_pos bs.length with h0 | h0
  · have := List.eq_nil_of_length_eq_zero h0
    subst this
    rw [run_convert_bytes_string w 27 9 5 A _ c Try.underlying27 Try.underlying5 Try.underlying9]
    cases A with
    | none => rfl
    | some ad =>
      rw [show ([] : List UInt8).length = 0 from rfl, run_bytesToString (P := Try.prog) w ad 0 c [] (Go.run_loadCells_list (P := Try.prog) w ad [] (by simp))]
      rfl
  · obtain ⟨ad, rfl, _, hcell⟩ := hr.2 h0
    refine run_convert_bytes_back w 27 9 5 ad c bs Try.underlying27 Try.underlying5 Try.underlying9 (fun j hj => ?_)
    exact hcell j _ (by simp [u8v, hj])
theorem BytesV.blk {g B : Nat} {w : World} {cs : Array Value} {bs : List UInt8} (h : Blk w g 5 cs) (hcs : cs.toList = bs.map u8v) : BytesV 5 B w (.slice (some ⟨g, 0, none⟩) bs.length bs.length) bs := by
  refine ⟨_, _, rfl, Nat.le_refl _, ⟨by simp, fun hn => ⟨_, rfl, h.lt, fun j u hu => ?_⟩⟩, fun _ ad e => ?_⟩
  · rw [Go.WideShapes.add_plain, Nat.zero_add, h.cell j, ← Array.getElem?_toList, hcs]; exact hu
  · injection e with e
    subst e
    exact .inr ⟨_, _, h⟩
theorem same_c {B : Nat} {w : World} {v1 v2 : Value} {b1 b2 : List UInt8} (h1 : BytesV 5 B w v1 b1) (h2 : BytesV 5 B w v2 b2) :
    Calls Try.prog 14 #[v1, v2] w fun e w' => e = .returned (.bool (b1 == b2)) ∧ w = w' := by
  have s1 := str_of h1
  have s2 := str_of h2
  obtain ⟨A1, c1, rfl, _⟩ := h1
  obtain ⟨A2, c2, rfl, _⟩ := h2
  go_enter Try.func14, Try.ntmps14
  go_wp2
  go_ret
  exact ⟨by simp, rfl⟩
end Go.Proofs.Ytodcmnjimjjahaa
