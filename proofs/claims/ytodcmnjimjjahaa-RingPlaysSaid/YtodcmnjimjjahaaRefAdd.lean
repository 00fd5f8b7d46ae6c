/- The reference's ring: what its Add leaves (a contract). Conditions: the ring lies as RefIs says. -/
import Derived.Test.YtodcmnjimjjahaaRef
set_option linter.unusedVariables false
namespace Go.Proofs.Ytodcmnjimjjahaa
open Go.RowKit
attribute [local go_sem ↓] Go.wp_at_zero Go.wp_at_succ

theorem info26 : (Try.prog.info? 26).map (fun i => (i.zero, i.size, i.bytes)) = some (some (.int .u16 0), 1, 2) := by kernel_rfl
theorem info27 : (Try.prog.info? 27).map (fun i => (i.zero, i.size, i.bytes)) = some (some (.slice none 0 0), 1, 24) := by kernel_rfl
def kept (es : List Ent) (s k : Nat) : List Ent := (es.take k).filter fun e => e.seq != s
def cutR (es : List Ent) : List Ent := if 64 < es.length then es.drop 1 else es
theorem kept_len (es : List Ent) (s k : Nat) : (kept es s k).length ≤ es.length := Nat.le_trans (List.length_filter_le _ _) (by simp; omega)
theorem kept_out (es : List Ent) (s k : Nat) (E : Ent) (h : es[k]? = some E) (he : E.seq = s) : kept es s (k + 1) = kept es s k := by
  rw [kept, List.take_add_one, h, List.filter_append]
  simp [kept, he]
theorem kept_in (es : List Ent) (s k : Nat) (E : Ent) (h : es[k]? = some E) (he : E.seq ≠ s) : kept es s (k + 1) = kept es s k ++ [E] := by
  rw [kept, List.take_add_one, h, List.filter_append]
  simp [kept, he]
theorem sz_alloc {n : Nat} {w : World} (h : n ≤ w.heap.size) (o : Obj) : n ≤ (w.alloc o).heap.size := by simp; omega
theorem sz_drew {n : Nat} {w : World} (h : n ≤ w.heap.size) : n ≤ w.drew.heap.size := h
theorem blk_here {w : World} {g : Nat} {t : TypeId} {cs : Array Value} (h : g = w.heap.size) : Blk (w.alloc (.cells cs t)) g t cs := by subst h; exact Blk.new _ _ _
theorem fresh_below2 {w w' : World} {o : Obj} (hg : (w.alloc o).grownBy w' (some w.heap.size)) : Below w.heap.size w w' :=
  ⟨hg.os, hg.tape, hg.output, Nat.le_trans (by simp) hg.size, fun k hk => (hg.block k (by simp; omega) (by simp; omega)).trans (Below.heap_alloc w o k hk)⟩
theorem bsize {w W : World} (h : Below w.heap.size w W) : w.heap.size ≤ W.heap.size := h.size
theorem own_drew {w : World} {base e size n : Nat} {v : Value} {xs : List Value} (h : w.ownsRow base e size v n xs) : w.drew.ownsRow base e size v n xs := h
theorem own_grow_below {b0 : Nat} {w wx w' : World} {e size n : Nat} {v : Value} {xs : List Value} (hb : Below b0 w wx) (ho : wx.ownsRow b0 e size v n xs) (hg : wx.grownBy w' v.ownBlock) (hle : b0 ≤ w.heap.size := by exact Nat.le_refl _) : Below b0 w w' :=
  ⟨hg.os.trans hb.os, hg.tape.trans hb.tape, hg.output.trans hb.output, Nat.le_trans hb.size hg.size, fun k hk => (hg.block k (by have := hb.size; omega) (fun e => by have := (ho.lt k e.symm).1; omega)).trans (hb.block k hk)⟩
theorem ne_of_at {V V7 : Value} {g H s m c : Nat} (hat : V.ownBlock = some g ∨ g = H) (hne : V.ownBlock = none ∨ V.ownBlock ≠ V7.ownBlock) (hlt : ∀ q, V7.ownBlock = some q → q < s) (hH : s ≤ H) :
    (Value.slice (some ⟨g, 0, none⟩) m c).ownBlock = none ∨ (Value.slice (some ⟨g, 0, none⟩) m c).ownBlock ≠ V7.ownBlock := by
  refine .inr fun e => ?_
  have e' : some g = V7.ownBlock := by simpa [Value.ownBlock] using e
  rcases hat with h | h
  · rcases hne with h0 | h0
    · rw [h0] at h; cases h
    · exact h0 (h.trans e')
  · have := hlt g e'.symm
    omega
theorem own_ne {w : World} {b1 b2 e1 e2 s1 s2 n1 n2 : Nat} {v1 v2 : Value} {x1 x2 : List Value} (h1 : w.ownsRow b1 e1 s1 v1 n1 x1) (h2 : w.ownsRow b2 e2 s2 v2 n2 x2) (hne : e1 ≠ e2) : v1.ownBlock = none ∨ v1.ownBlock ≠ v2.ownBlock := by
  cases hv : v1.ownBlock with
  | none => exact .inl rfl
  | some g =>
    refine .inr fun e => ?_
    obtain ⟨_, c1, t1⟩ := own_tag h1 g hv
    obtain ⟨_, c2, t2⟩ := own_tag h2 g e.symm
    rw [t1] at t2
    injection t2 with t2
    injection t2 with _ t2
    exact hne t2
theorem RefIs.put {w : World} {B r : Nat} {V0 V1 VN VB : Value} {es : List Ent} (hb : Blk w r 36 #[V0, V1]) (hB : B ≤ r) (hn : RowV 26 B w VN es.length (es.map fun e => .int .u16 (e.seq : Int))) (hv : RowV 27 B w VB es.length (es.map (·.v))) (hbv : ∀ e ∈ es, BytesV 5 B w e.v e.bs) :
    RefIs ((w.setCell ⟨r, 0, none⟩ VN).setCell ⟨r, 1, none⟩ VB) B r es ∧ Fr B (fun t => t == 36) w ((w.setCell ⟨r, 0, none⟩ VN).setCell ⟨r, 1, none⟩ VB) := by
  have f1 := (Fr.refl B (fun t => t == 36) w).set_ hb rfl hB 0 VN
  have f2 := f1.set_ (hb.set_ 0 VN) rfl hB 1 VB
  exact ⟨⟨VN, VB, (hb.set_ 0 VN).set_ 1 VB, hB, hn.fr f2 rfl, hv.fr f2 rfl, fun e he => (hbv e he).fr f2 rfl⟩, f2⟩
theorem RowV.drop1 {t : TypeId} {B n g c : Nat} {w : World} {xs : List Value} (h : RowV t B w (.slice (some ⟨g, 0, none⟩) (n + 1) c) (n + 1) xs) : RowV t B w (.slice (some ⟨g, 1, none⟩) n (c - 1)) n (xs.drop 1) := by
  obtain ⟨A, c', e, hc, hr, hl⟩ := h
  injection e with e1 e2 e3
  subst e1 e3
  obtain ⟨ad, e, hb, hcell⟩ := hr.2 (by omega)
  injection e with e
  subst e
  have h1 := hr.1
  refine ⟨_, _, rfl, by omega, ⟨by rw [List.length_drop]; omega, fun hn => ⟨_, rfl, hb, fun j u hu => ?_⟩⟩, fun hn ad e => ?_⟩
  · have := hcell (j + 1) u (by rw [List.getElem?_drop] at hu; rw [← hu]; congr 1; omega)
    rw [Go.WideShapes.add_plain] at this ⊢
    rw [← this]
    congr 2
    omega
  · injection e with e
    subst e
    exact hl (by omega) ⟨g, 0, none⟩ rfl
def RAdded (w : World) (B r : Nat) (es : List Ent) (s : Nat) (bs : List UInt8) (wx : World) : Prop := ∃ v', RefIs wx B r (cutR (kept es s es.length ++ [⟨s, v', bs⟩])) ∧ Fr B (fun t => t == 36) w wx
set_option maxHeartbeats 3200000 in
theorem radd_c (r s B : Nat) (es : List Ent) (bs : List UInt8) (v : Value) (w : World) (h : RefIs w B r es) (hv : BytesV 5 B w v bs) (hbs : bs.length ≤ 140737488355328) (hl : es.length ≤ 64) :
    Calls Try.prog 12 #[.pointer (some ⟨r, 0, none⟩), .int .u16 s, v] w fun e w' => e = .returned (.tuple #[]) ∧ RAdded w B r es s bs w' := by
  obtain ⟨i26, hi26, hz26, hs26, hy26⟩ := info_parts info26
  obtain ⟨i27, hi27, hz27, hs27, hy27⟩ := info_parts info27
  obtain ⟨i5, hi5, hz5, hs5, hy5⟩ := info_parts info5
  obtain ⟨VN, VB, hb, hB, hn, hvv, hbv⟩ := h
  obtain ⟨AN, cN, rfl, hcN, hrN, _⟩ := hn
  obtain ⟨AB, cB, rfl, hcB, hrB, _⟩ := hvv
  have HRN := Lib.hid hrN
  have HRB := Lib.hid hrB
  have HBV := Lib.hid hbv
  have HB := Lib.hid hb
  have HV := Lib.hid hv
  have hrlt : r < w.heap.size := hb.lt
  obtain ⟨A1, c1, rfl, _, _, _⟩ := hv
  clear hrN hrB hbv hb
  go_enter Try.func12, Try.ntmps12
  go_wp2_with fail
  go_loopg [6, 7, 8] es.length (fun gg v6 v7 i wr => ∃ k, k ≤ es.length ∧ gg = es.length - k ∧ i = .int .i64 k ∧
    wr.ownsRow w.heap.size 26 1 v6 (kept es s k).length ((kept es s k).map fun e => .int .u16 (e.seq : Int)) ∧ wr.ownsRow w.heap.size 27 1 v7 (kept es s k).length ((kept es s k).map (·.v)) ∧ Below w.heap.size w wr)
  case atStart => exact ⟨0, by omega, rfl, rfl, World.ownsRow_nil _ _ _ _, World.ownsRow_nil _ _ _ _, Below.refl _ _⟩
  case round =>
    obtain ⟨k, hk, rfl, rfl, ho6, ho7, hbel⟩ := hrel
    obtain ⟨A6, c6, rfl⟩ := own_slice ho6
    obtain ⟨A7, c7, rfl⟩ := own_slice ho7
    have hml := kept_len es s k
    obtain ⟨m, hm⟩ : ∃ m, m = (kept es s k).length := ⟨_, rfl⟩
    rw [← hm] at ho6 ho7 hml ⊢
    have HM := Lib.hid hm
    have NE6 := Lib.hid (own_ne ho6 ho7 (by decide))
    have NE7 := Lib.hid (own_ne ho7 ho6 (by decide))
    have LT6 := Lib.hid (fun q e => (ho6.lt q e).2)
    have LT7 := Lib.hid (fun q e => (ho7.lt q e).2)
    have OW6 := Lib.hid ho6
    have OW7 := Lib.hid ho7
    have BEL := Lib.hid hbel
    have c2 := (HB.out.below hbel).cell2
    clear ho6 ho7 hm
    by_cases hkn : k < es.length
    · obtain ⟨aN, rfl, hNlt, hcellN⟩ := HRN.out.2 (by omega)
      obtain ⟨aB, rfl, hBlt, hcellB⟩ := HRB.out.2 (by omega)
      obtain ⟨E, hE⟩ : ∃ E, es[k]? = some E := ⟨_, List.getElem?_eq_getElem hkn⟩
      have n0 := hcellN 0 _ (by rw [List.getElem?_map, List.getElem?_eq_getElem (by omega : 0 < es.length)]; rfl)
      have b0 := hcellB 0 _ (by rw [List.getElem?_map, List.getElem?_eq_getElem (by omega : 0 < es.length)]; rfl)
      have nk := hcellN k (.int .u16 (E.seq : Int)) (by rw [List.getElem?_map, hE]; rfl)
      have bk := hcellB k E.v (by rw [List.getElem?_map, hE]; rfl)
      obtain ⟨gN, oN, rfl⟩ := addr_plain n0
      obtain ⟨gB, oB, rfl⟩ := addr_plain b0
      rw [Go.WideShapes.add_plain] at nk bk
      have hv2 := HBV.out E (List.mem_of_getElem? hE)
      obtain ⟨A2, cc2, hv2, _, _, _⟩ := hv2
      rw [hv2] at bk
      have HE := Lib.hid hE
      have HV2 := Lib.hid hv2
      have NK := Lib.hid nk
      have BK := Lib.hid bk
      have nk := (hbel.cell (p := ⟨gN, oN + k, none⟩) hNlt).trans NK.out
      clear hcellN hcellB n0 b0 hE hv2 bk
      by_cases he : E.seq = s
      · have he1 : ((E.seq : Int) == (s : Int)) = true := by simp only [beq_iff_eq]; omega
        have hko := kept_out es s k E HE.out he
        have HKO := Lib.hid hko
        clear hko hbel
        go_wp2
        go_roundg (es.length - (k + 1))
        case measure => omega
        case rel => exact ⟨k + 1, by omega, rfl, by go_num, by rw [HKO.out, ← HM.out]; exact OW6.out, by rw [HKO.out, ← HM.out]; exact OW7.out, BEL.out⟩
      · have he1 : ((E.seq : Int) == (s : Int)) = false := by simp only [beq_eq_false_iff_ne]; omega
        have HKI := Lib.hid (kept_in es s k E HE.out he)
        have keep : ∀ w', Below w.heap.size w w' → (w'.cell? ⟨r, 0, none⟩ = some (.slice (some ⟨gN, oN, none⟩) es.length cN) ∧ w'.cell? ⟨r, 1, none⟩ = some (.slice (some ⟨gB, oB, none⟩) es.length cB) ∧ r < w'.heap.size) ∧ w'.cell? ⟨gN, oN + k, none⟩ = some (.int .u16 (E.seq : Int)) ∧ w'.cell? ⟨gB, oB + k, none⟩ = some (.slice A2 E.bs.length cc2) ∧ Below w.heap.size w w' :=
          fun w' hb => ⟨(HB.out.below hb).cell2, (hb.cell (p := ⟨gN, oN + k, none⟩) hNlt).trans NK.out, (hb.cell (p := ⟨gB, oB + k, none⟩) hBlt).trans BK.out, hb⟩
        have K := Lib.hid keep
        clear keep
        go_wp2_with fail
        go_region_held3 (fun w' => (w'.cell? ⟨r, 0, none⟩ = some (.slice (some ⟨gN, oN, none⟩) es.length cN) ∧ w'.cell? ⟨r, 1, none⟩ = some (.slice (some ⟨gB, oB, none⟩) es.length cB) ∧ r < w'.heap.size) ∧ w'.cell? ⟨gN, oN + k, none⟩ = some (.int .u16 (E.seq : Int)) ∧ w'.cell? ⟨gB, oB + k, none⟩ = some (.slice A2 E.bs.length cc2) ∧ Below w.heap.size w w')
          (exact K.out _ (by repeat (first | with_reducible refine balloc ?_ _ | with_reducible exact bw6 | with_reducible exact bw7 | with_reducible exact BEL.out | with_reducible refine bdrew ?_)))
          (first
          | (refine step_append_lies _ (by rfl) (.tmp 27) (.tmp 35) 32 (by rfl) w.heap.size 26 i26 _ 1 2 Try.underlying32 hi26 hz26 hs26 hy26 rfl (by omega) (.slice A6 m c6) m ((kept es s k).map fun e => .int .u16 (e.seq : Int)) (by rfl) ?_ _ 1 1 [.int .u16 (E.seq : Int)] rfl (by rfl) ?_ ?_ (by omega) (by unfold maxLen; omega) (by omega) ?_ _ rfl ?_
             · exact (by repeat (first | with_reducible refine World.ownsRow.alloc ?_ _ | with_reducible exact OW6.out | with_reducible refine World.ownsRow.kept ?_ gr7 NE6.out | with_reducible refine own_drew ?_))
             · exact (World.news_of_block (cs := #[.int .u16 (E.seq : Int)]) (t := 26) (fr := (0, 0)) (show Blk _ _ 26 #[.int .u16 (E.seq : Int)] from by repeat (first | with_reducible refine blk_here ?_ | with_reducible refine Blk.alloc ?_ _ | with_reducible refine Blk.grown ?_ gr7 (fun e => absurd (LT7.out _ e.symm) (Nat.not_lt.2 (by repeat (first | with_reducible refine sz_alloc ?_ _ | with_reducible exact sz6 | with_reducible exact sz7 | with_reducible exact Nat.le_refl _ | with_reducible refine sz_drew ?_ | with_reducible exact Nat.le_succ _ | with_reducible exact Nat.le_succ_of_le sz6 | with_reducible exact Nat.le_succ_of_le sz7)))) | with_reducible refine Blk.drew ?_ | with_reducible rfl | (simp; done))))
             · simp [Value.oneCell']
             · exact (bsize (by repeat (first | with_reducible refine balloc ?_ _ | with_reducible exact bw6 | with_reducible exact bw7 | with_reducible exact BEL.out | with_reducible refine bdrew ?_)))
             intro g6 cap6 w6 ow6 gr6 at6 lt6
             have sz6 : wr.heap.size ≤ w6.heap.size := by
               refine Nat.le_trans ?_ gr6.size
               exact (by repeat (first | with_reducible refine sz_alloc ?_ _ | with_reducible exact sz6 | with_reducible exact sz7 | with_reducible exact Nat.le_refl _ | with_reducible refine sz_drew ?_ | with_reducible exact Nat.le_succ _ | with_reducible exact Nat.le_succ_of_le sz6 | with_reducible exact Nat.le_succ_of_le sz7))
             have bw6 : Below w.heap.size w w6 := by
               refine own_grow_below (v := .slice A6 m c6) (e := 26) (size := 1) (n := m) (xs := ((kept es s k).map fun e => .int .u16 (e.seq : Int))) ?_ ?_ gr6
               · exact (by repeat (first | with_reducible refine balloc ?_ _ | with_reducible exact bw6 | with_reducible exact bw7 | with_reducible exact BEL.out | with_reducible refine bdrew ?_))
               · exact (by repeat (first | with_reducible refine World.ownsRow.alloc ?_ _ | with_reducible exact OW6.out | with_reducible refine World.ownsRow.kept ?_ gr7 NE6.out | with_reducible refine own_drew ?_))
             have nn6 : (Value.slice (some ⟨g6, 0, none⟩) (m + 1) cap6).ownBlock = none ∨ (Value.slice (some ⟨g6, 0, none⟩) (m + 1) cap6).ownBlock ≠ (Value.slice A7 m c7).ownBlock := by
               refine ne_of_at at6 NE6.out LT7.out ?_
               exact (by repeat (first | with_reducible refine sz_alloc ?_ _ | with_reducible exact sz6 | with_reducible exact sz7 | with_reducible exact Nat.le_refl _ | with_reducible refine sz_drew ?_ | with_reducible exact Nat.le_succ _ | with_reducible exact Nat.le_succ_of_le sz6 | with_reducible exact Nat.le_succ_of_le sz7)))
          | (refine step_append_lies _ (by rfl) (.tmp 37) (.tmp 45) 34 (by rfl) w.heap.size 27 i27 _ 1 24 Try.underlying34 hi27 hz27 hs27 hy27 rfl (by omega) (.slice A7 m c7) m ((kept es s k).map (·.v)) (by rfl) ?_ _ 1 1 [.slice A2 E.bs.length cc2] rfl (by rfl) ?_ ?_ (by omega) (by unfold maxLen; omega) (by omega) ?_ _ rfl ?_
             · exact (by repeat (first | with_reducible refine World.ownsRow.alloc ?_ _ | with_reducible exact OW7.out | with_reducible refine World.ownsRow.kept ?_ gr6 NE7.out | with_reducible refine own_drew ?_))
             · exact (World.news_of_block (cs := #[.slice A2 E.bs.length cc2]) (t := 27) (fr := (0, 0)) (show Blk _ _ 27 #[.slice A2 E.bs.length cc2] from by repeat (first | with_reducible refine blk_here ?_ | with_reducible refine Blk.alloc ?_ _ | with_reducible refine Blk.grown ?_ gr6 (fun e => absurd (LT6.out _ e.symm) (Nat.not_lt.2 (by repeat (first | with_reducible refine sz_alloc ?_ _ | with_reducible exact sz6 | with_reducible exact sz7 | with_reducible exact Nat.le_refl _ | with_reducible refine sz_drew ?_ | with_reducible exact Nat.le_succ _ | with_reducible exact Nat.le_succ_of_le sz6 | with_reducible exact Nat.le_succ_of_le sz7)))) | with_reducible refine Blk.drew ?_ | with_reducible rfl | (simp; done))))
             · simp [Value.oneCell']
             · exact (bsize (by repeat (first | with_reducible refine balloc ?_ _ | with_reducible exact bw6 | with_reducible exact bw7 | with_reducible exact BEL.out | with_reducible refine bdrew ?_)))
             intro g7 cap7 w7 ow7 gr7 at7 lt7
             have sz7 : wr.heap.size ≤ w7.heap.size := by
               refine Nat.le_trans ?_ gr7.size
               exact (by repeat (first | with_reducible refine sz_alloc ?_ _ | with_reducible exact sz6 | with_reducible exact sz7 | with_reducible exact Nat.le_refl _ | with_reducible refine sz_drew ?_ | with_reducible exact Nat.le_succ _ | with_reducible exact Nat.le_succ_of_le sz6 | with_reducible exact Nat.le_succ_of_le sz7))
             have bw7 : Below w.heap.size w w7 := by
               refine own_grow_below (v := .slice A7 m c7) (e := 27) (size := 1) (n := m) (xs := ((kept es s k).map (·.v))) ?_ ?_ gr7
               · exact (by repeat (first | with_reducible refine balloc ?_ _ | with_reducible exact bw6 | with_reducible exact bw7 | with_reducible exact BEL.out | with_reducible refine bdrew ?_))
               · exact (by repeat (first | with_reducible refine World.ownsRow.alloc ?_ _ | with_reducible exact OW7.out | with_reducible refine World.ownsRow.kept ?_ gr6 NE7.out | with_reducible refine own_drew ?_))
             have nn7 : (Value.slice (some ⟨g7, 0, none⟩) (m + 1) cap7).ownBlock = none ∨ (Value.slice (some ⟨g7, 0, none⟩) (m + 1) cap7).ownBlock ≠ (Value.slice A6 m c6).ownBlock := by
               refine ne_of_at at7 NE7.out LT6.out ?_
               exact (by repeat (first | with_reducible refine sz_alloc ?_ _ | with_reducible exact sz6 | with_reducible exact sz7 | with_reducible exact Nat.le_refl _ | with_reducible refine sz_drew ?_ | with_reducible exact Nat.le_succ _ | with_reducible exact Nat.le_succ_of_le sz6 | with_reducible exact Nat.le_succ_of_le sz7))))
        all_goals
          have e0 : (kept es s (k + 1)).length = m + 1 := by rw [HKI.out, List.length_append, ← HM.out]; rfl
          have e6 : (kept es s (k + 1)).map (fun e => Value.int .u16 (e.seq : Int)) = ((kept es s k).map fun e => .int .u16 (e.seq : Int)) ++ [.int .u16 (E.seq : Int)] := by rw [HKI.out, List.map_append]; rfl
          have e7 : (kept es s (k + 1)).map (·.v) = ((kept es s k).map (·.v)) ++ [.slice A2 E.bs.length cc2] := by rw [HKI.out, List.map_append, ← HV2.out]; rfl
          have H0 := Lib.hid e0
          have H6 := Lib.hid e6
          have H7 := Lib.hid e7
          clear e0 e6 e7
          go_wp2
          go_roundg (es.length - (k + 1))
          case measure => omega
          case rel =>
            refine ⟨k + 1, by omega, rfl, by go_num, ?_, ?_, ?_⟩
            · rw [H0.out, H6.out]
              exact (by repeat (first | with_reducible exact ow6 | with_reducible refine World.ownsRow.kept ?_ gr7 nn6 | with_reducible refine World.ownsRow.alloc ?_ _ | with_reducible refine own_drew ?_))
            · rw [H0.out, H7.out]
              exact (by repeat (first | with_reducible exact ow7 | with_reducible refine World.ownsRow.kept ?_ gr6 nn7 | with_reducible refine World.ownsRow.alloc ?_ _ | with_reducible refine own_drew ?_))
            · exact (by repeat (first | with_reducible refine balloc ?_ _ | with_reducible exact bw6 | with_reducible exact bw7 | with_reducible exact BEL.out | with_reducible refine bdrew ?_))
    · have hkn' : k = es.length := by omega
      subst hkn'
      have hszw := hbel.size
      clear hbel
      go_upto_region 8 with
       (first
        | (at_builtin
           refine wpList_append_lies _ rfl (.tmp 47) (.tmp 49) 32 rfl w.heap.size 26 i26 _ 1 2 Try.underlying32 hi26 hz26 hs26 hy26 rfl (by omega) (.slice A6 m c6) m ((kept es s es.length).map fun e => .int .u16 (e.seq : Int)) rfl (OW6.out.alloc _) ⟨wr.heap.size, 0, none⟩ 1 1 [.int .u16 (s : Int)] rfl rfl (World.news_of_block (cs := #[.int .u16 (s : Int)]) (t := 26) (fr := (0, 0)) (heap_alloc_new wr _)) (by simp [Value.oneCell']) (by omega) (by unfold maxLen; omega) (by omega) (by simp; omega) (wr.heap.size + 1) (by simp) ?_
           intro g6 cap6 w6 ow6 gr6 at6 lt6
           have bw6 : Below w.heap.size w w6 := own_grow_below (balloc BEL.out _) (OW6.out.alloc _) gr6
           have OW7b := Lib.hid ((OW7.out.alloc (.cells #[.int .u16 (s : Int)] 26)).kept gr6 NE7.out)
           have OW6b := Lib.hid ow6
           have BW6 := Lib.hid bw6
           clear ow6 gr6 at6 lt6 bw6)
        | (at_builtin
           refine wpList_append_any _ rfl (.tmp 52) (.tmp 53) 27 rfl w6.heap.size 5 i5 _ 1 1 Try.underlying27 hi5 hz5 hs5 hy5 rfl (by omega) (.slice (some ⟨w6.heap.size, 0, none⟩) 0 0) 0 [] rfl (own_empty w6 5 1) _ A1 bs.length c1 (bs.map u8v) rfl (HV.out.below (balloc BW6.out _)).reads.2 (u8_one bs) (by simp only [maxLen]; omega) (by omega) (by simp) ?_
           intro v2 w2 ow2 gr2 at2
           rw [Nat.zero_add, List.nil_append] at ow2
           obtain ⟨A5, c5, rfl⟩ := own_slice ow2
           have BW2 := Lib.hid (fresh_below2 gr2)
           have OW2 := Lib.hid ow2
           clear ow2 gr2 at2)
        | (at_builtin
           refine wpList_append_lies _ rfl (.tmp 51) (.tmp 55) 34 rfl w.heap.size 27 i27 _ 1 24 Try.underlying34 hi27 hz27 hs27 hy27 rfl (by omega) (.slice A7 m c7) m ((kept es s es.length).map (·.v)) rfl ?_ ⟨w2.heap.size, 0, none⟩ 1 1 [.slice A5 bs.length c5] rfl rfl ?_ ?_ (by omega) (by unfold maxLen; omega) (by omega) ?_ (w2.heap.size + 1) (by simp) ?_
           · (exact (own_below OW7b.out BW2.out).alloc _)
           · (exact World.news_of_block (cs := #[.slice A5 bs.length c5]) (t := 27) (fr := (0, 0)) (heap_alloc_new w2 _))
           · (simp [Value.oneCell'])
           · (exact Nat.le_trans (Nat.le_trans BW6.out.size BW2.out.size) (by simp))
           intro g7 cap7 w7 ow7 gr7 at7 lt7
           have BW7 : Hid (Below w.heap.size w w7) := by
             refine own_grow_below (v := .slice A7 m c7) (e := 27) (size := 1) (n := m) (xs := ((kept es s es.length).map (·.v))) (wx := w2.alloc (.cells #[.slice A5 bs.length c5] 27)) ?_ ?_ gr7
             · exact balloc (bcall BW6.out BW2.out) _
             · exact (own_below OW7b.out BW2.out).alloc _
           have OWa := (own_below OW6b.out BW2.out).alloc (.cells #[.slice A5 bs.length c5] 27)
           have OWb := (own_below OW7b.out BW2.out).alloc (.cells #[.slice A5 bs.length c5] 27)
           have OW6c := Lib.hid (OWa.kept gr7 (own_ne OWa OWb (by decide)))
           have OW7c := Lib.hid ow7
           have hf7 : Fr B (fun t => t == 27) (w2.alloc (.cells #[.slice A5 bs.length c5] 27)) w7 := (Fr.refl B _ _).grown_own OWb gr7 (by omega) rfl
           have NB := Lib.hid (((BytesV.owned (B := B) OW2.out).below (balloc (Below.refl _ _) (.cells #[.slice A5 bs.length c5] 27))).fr hf7 rfl)
           clear OWa OWb hf7
           clear ow7 gr7 at7 lt7))
      have b7 := HB.out.below BW7.out
      have c7 := b7.cell2
      have z0 := b7.frozen 0
      have z1 := b7.frozen 1
      have hc6 : m + 1 ≤ cap6 := own_bound OW6c.out
      have hc7 : m + 1 ≤ cap7 := own_bound OW7c.out
      have B7 := Lib.hid b7
      have HE0 : Hid ((kept es s es.length ++ [(⟨s, .slice A5 bs.length c5, bs⟩ : Ent)]).length = m + 1) := by show _ = _; rw [List.length_append, ← HM.out]; rfl
      have HE6 : Hid ((kept es s es.length ++ [(⟨s, .slice A5 bs.length c5, bs⟩ : Ent)]).map (fun e => Value.int .u16 (e.seq : Int)) = ((kept es s es.length).map fun e => .int .u16 (e.seq : Int)) ++ [.int .u16 (s : Int)]) := by show _ = _; rw [List.map_append]; rfl
      have HE7 : Hid ((kept es s es.length ++ [(⟨s, .slice A5 bs.length c5, bs⟩ : Ent)]).map (·.v) = ((kept es s es.length).map (·.v)) ++ [.slice A5 bs.length c5]) := by show _ = _; rw [List.map_append]; rfl
      have HEB : Hid (∀ e ∈ kept es s es.length ++ [(⟨s, .slice A5 bs.length c5, bs⟩ : Ent)], BytesV 5 B w7 e.v e.bs) := by
        intro e he
        rcases List.mem_append.1 he with h | h
        · exact (HBV.out e (List.mem_of_mem_take (List.mem_filter.1 h).1)).below BW7.out
        · rw [List.mem_singleton.1 h]; exact NB.out
      have R6 := Lib.hid (RowV.owned (B := B) OW6c.out)
      have R7 := Lib.hid (RowV.owned (B := B) OW7c.out)
      have F7 : Hid (Fr B (fun t => t == 36) w w7) := (Fr.of_below BW7.out).lower (Nat.le_refl _)
      clear b7
      by_cases h64 : 64 < m + 1
      · have hki : (64 : Int) < ((m + 1 : Nat) : Int) := by omega
        have hki2 : (64 : Int) < (m : Int) + 1 := by omega
        have n6 : ¬ cap6 = 1 := by omega
        have n7 : ¬ cap7 = 1 := by omega
        have HC : Hid (cutR (kept es s es.length ++ [(⟨s, .slice A5 bs.length c5, bs⟩ : Ent)]) = (kept es s es.length ++ [(⟨s, .slice A5 bs.length c5, bs⟩ : Ent)]).drop 1) := by show _ = _; rw [cutR, HE0.out, if_pos h64]
        go_wp2_with fail
        go_region
        go_wp2
        go_end0
        refine ⟨rfl, .slice A5 bs.length c5, ?_⟩
        rw [HC.out]
        have hd : ((kept es s es.length ++ [(⟨s, .slice A5 bs.length c5, bs⟩ : Ent)]).drop 1).length = m := by rw [List.length_drop, HE0.out]; omega
        obtain ⟨h1, h2⟩ := RefIs.put (es := (kept es s es.length ++ [(⟨s, .slice A5 bs.length c5, bs⟩ : Ent)]).drop 1) B7.out hB (by rw [hd, List.map_drop, HE6.out]; exact R6.out.drop1) (by rw [hd, List.map_drop, HE7.out]; exact R7.out.drop1) (fun e he => HEB.out e (List.mem_of_mem_drop he))
        exact ⟨h1, F7.out.trans h2.drew⟩
      · have hki : ¬ (64 : Int) < ((m + 1 : Nat) : Int) := by omega
        have hki2 : ¬ (64 : Int) < (m : Int) + 1 := by omega
        have hki3 : (m : Int) + 1 ≤ 64 := by omega
        have HC : Hid (cutR (kept es s es.length ++ [(⟨s, .slice A5 bs.length c5, bs⟩ : Ent)]) = kept es s es.length ++ [(⟨s, .slice A5 bs.length c5, bs⟩ : Ent)]) := by show _ = _; rw [cutR, HE0.out, if_neg h64]
        go_wp2
        go_end0
        refine ⟨rfl, .slice A5 bs.length c5, ?_⟩
        rw [HC.out]
        obtain ⟨h1, h2⟩ := RefIs.put (es := kept es s es.length ++ [(⟨s, .slice A5 bs.length c5, bs⟩ : Ent)]) B7.out hB (by rw [HE0.out, HE6.out]; exact R6.out) (by rw [HE0.out, HE7.out]; exact R7.out) HEB.out
        exact ⟨h1, F7.out.trans h2⟩
end Go.Proofs.Ytodcmnjimjjahaa
