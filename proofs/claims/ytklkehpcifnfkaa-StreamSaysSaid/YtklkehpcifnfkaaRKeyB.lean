/- What the reference's NewKey returns (contract). Conditions: the bytes read. -/
import Derived.Test.YtklkehpcifnfkaaRCols
import Derived.Test.YtklkehpcifnfkaaPartsL
import Derived.Test.YtklkehpcifnfkaaSKnown
import Derived.Test.YtklkehpcifnfkaaNewK
import Derived.Great.BuildSlice
import Derived.Laws.CopyOwn
import Derived.Deep.RegionHeld3
set_option linter.unusedVariables false
set_option linter.unusedSimpArgs false
namespace Go.Proofs.Ytklkehpcifnfkaa
open Go.RowKit
attribute [local go_sem ↓] Go.wp_at_zero Go.wp_at_succ

theorem wpAnyH_putAt {P : Program} {md : Region.Mode} {ops : Array Oper} {Q : Exit → Act → World → Prop} {S : World → Prop} {d : Nat} {x : Option Nat} {v : Value} {fuel : Nat} {listed : Array Bool} {tm : List Value} {df : List Deferred} {w : World} (hd : x = some d)
    (h : wpAnyH P md ops Q S fuel listed ⟨(tm.set d v).toArray, df⟩ w) : wpAnyH P md ops Q S fuel listed (Act.put ⟨tm.toArray, df⟩ x v) w := by
  rw [hd]
  simpa [Act.put] using h
/-- Append onto a row of the call's own: what lay in it lies there still. -/
theorem run_append_keep {P : Program} (w : World) (base : Nat) (t ty e : TypeId) (i : TypeInfo) (z : Value) (size bytes : Nat) (ht : P.underlying t = some (.slice e)) (hi : P.info? e = some i) (hz : i.zero = some z)
    (hsize : i.size = size) (hby : i.bytes = bytes) (hzs : z.cells.size = size) (hsz : 0 < size)
    (g n cap : Nat) (xs : List Value) (hown : w.ownsRow base e size (.slice (some ⟨g, 0, none⟩) n cap) n xs)
    (ad : Addr) (m c : Nat) (news : List Value) (hl : news.length = m * size) (hnews : ∀ j u, news[j]? = some u → w.cell? (ad.add j) = some u) (h1 : ∀ u ∈ news, u.oneCell' = true)
    (h63 : n + m ≤ maxLen) (hbytes : (n + m) * bytes ≤ 140737488355328) (hbase : base ≤ w.heap.size) :
    ∃ v' w', (Builtin.append_ #[t, t] ty #[.slice (some ⟨g, 0, none⟩) n cap, .slice (some ad) m c]).run P w = .ok v' w' ∧ w'.ownsRow base e size v' (n + m) (xs ++ news) ∧ w.grownBy w' (some g) ∧
      (∀ j, j < n * size → w'.cell? ⟨g, j, none⟩ = w.cell? ⟨g, j, none⟩) := by
  obtain ⟨v', w', hrun, h2, h3, _, h5⟩ := run_append_own_at (P := P) w base t ty e i z size bytes ht hi hz hsize hby hzs hsz _ n xs hown ad m c news hl hnews h1 h63 hbytes hbase
  refine ⟨v', w', hrun, h2, h3, fun j hj => ?_⟩
  have holds : ∀ j u, xs[j]? = some u → w.cell? ((⟨g, 0, none⟩ : Addr).add j) = some u := hown.cells (g := g) rfl
  have hj' : j < xs.length := by rw [hown.1]; exact hj
  have e1 := holds j _ (List.getElem?_eq_getElem hj')
  rw [Go.WideShapes.add_plain, Nat.zero_add] at e1
  have hg' : g < w.heap.size := by
    rcases hown.2 with ⟨h, _⟩ | ⟨g', _, _, h, _, hb, _⟩
    · cases h
    · injection h with h
      injection h with h
      injection h with h
      subst h
      rcases Nat.lt_or_ge g w.heap.size with hlt | hge
      · exact hlt
      · rw [Array.getElem?_eq_none hge] at hb; cases hb
  by_cases hroom : n + m ≤ cap
  · rcases hown.2 with ⟨h, _⟩ | ⟨g', cap', cur, h, hbg, hg, hnc, hcm, hcs, htake⟩
    · cases h
    · injection h with h h0 h4
      injection h with h
      injection h with h
      subst h h4
      have hfit : n * i.size + news.length ≤ cur.size := by rw [hl, hcs, hsize, ← Nat.add_mul]; exact Nat.mul_le_mul_right _ hroom
      have hr := run_append_room (P := P) w t ty e i ht hi g n cap cur hg ad m c news (by rw [hl, hsize]) hnews h1 hroom hfit
      rw [hr] at hrun
      injection hrun with ev ew
      subst ev ew
      have := h2.cells (g := g) rfl j _ (by rw [List.getElem?_append_left hj', List.getElem?_eq_getElem hj'])
      rw [Go.WideShapes.add_plain, Nat.zero_add] at this
      rw [this, e1]
  · have hr := run_append_grow (P := P) w t ty e i z ht hi hz ⟨g, 0, none⟩ n cap xs (by rw [hown.1, hsize]) holds ad m c news (by rw [hl, hsize]) hnews (by omega) (by simp only [maxLen] at h63; omega) (growslice_fits (by omega) (by rw [hby]; exact hbytes))
    rw [hr] at hrun
    injection hrun with ev ew
    subst ev ew
    exact World.cell?_alloc_lt w.drew _ _ hg'
theorem step_append_keep {P : Program} (w : World) {ops : Array Oper} {o : Oper} {a : Act} {K : Act → World → Prop} {Q : Exit → Act → World → Prop} {E : Prop} (hgd : o.guard = none) (s x : Operand) (t : TypeId)
    (ho : o.op = .call { callee := .builtin .append, args := #[s, x], argTypes := #[t, t] })
    (base : Nat) (e : TypeId) (i : TypeInfo) (z : Value) (size bytes : Nat) (ht : P.underlying t = some (.slice e)) (hi : P.info? e = some i) (hz : i.zero = some z)
    (hsize : i.size = size) (hby : i.bytes = bytes) (hzs : z.cells.size = size) (hsz : 0 < size)
    (g n cap : Nat) (xs : List Value) (hs : a.eval s = .slice (some ⟨g, 0, none⟩) n cap) (hown : w.ownsRow base e size (.slice (some ⟨g, 0, none⟩) n cap) n xs)
    (B : Nat) (ad : Addr) (m c : Nat) (news : List Value) (hx : a.eval x = .slice (some ad) m c) (hl : news.length = m * size) (hnews : ∀ j u, news[j]? = some u → w.cell? (ad.add j) = some u) (h1 : ∀ u ∈ news, u.oneCell' = true)
    (h63 : n + m ≤ maxLen) (hbytes : (n + m) * bytes ≤ 140737488355328) (hbase : base ≤ w.heap.size)
    (h : ∀ v' w', w'.ownsRow base e size v' (n + m) (xs ++ news) → w.grownBy w' (some g) → (∀ j, j < n * size → w'.cell? ⟨g, j, none⟩ = w.cell? ⟨g, j, none⟩) → K (a.put o.dst v') w') :
    if Region.wanted o (yielded ops a.tmps) = true then Oper.wp P o a w K Q else E := by
  have hw : Region.wanted o (yielded ops a.tmps) = true := by simp [Region.wanted, hgd]
  rw [if_pos hw]
  obtain ⟨v', w', hrun, h2, h3, h4⟩ := run_append_keep (P := P) w base t o.type e i z size bytes ht hi hz hsize hby hzs hsz g n cap xs hown ad m c news hl hnews h1 h63 hbytes hbase
  unfold Oper.wp execOp
  simp only [ho, resolve, invoke, builtin, Sem.run_bind, Sem.run_pure, Result.andThen_ok, List.map_toArray, List.map_cons, List.map_nil, hs, hx, hrun]
  exact h v' w' h2 h3 h4
/-- The reference's key by value: the box, and the round keys' slice. -/
def rkV (v : Value) : List Value := sbL.map u8v ++ [v]
theorem rkV_len (v : Value) : (rkV v).length = 257 := by simp [rkV, sbL_len]
def zkV : List Value := zero256.map u8v ++ [.slice none 0 0]
theorem zkV_len : zkV.length = 257 := by simp [zkV, zero256_len]
theorem zero31 : Try.zeroCells31 = zkV.toArray := by kernel_rfl
theorem built31 : Try.prog.built 31 [(0, .agg (sbL.map u8v).toArray)] = some (rkV (.slice none 0 0)).toArray := by kernel_rfl
theorem built31z : Try.prog.built 31 [] = some zkV.toArray := by kernel_rfl
theorem run_build31 (w : World) : (Instr.build 31 #[(0, .agg (sbL.map u8v).toArray)]).run Try.prog w = .ok (.agg (rkV (.slice none 0 0)).toArray) w := run_build w 31 _ _ built31
theorem run_build31z (w : World) : (Instr.build 31 #[]).run Try.prog w = .ok (.agg zkV.toArray) w := run_build w 31 _ _ built31z
theorem info31 : (Try.prog.info? 31).map (·.size) = some 257 := by kernel_rfl
def KT (w : World) (g : Nat) (v : Value) : Prop := Blk w g 31 (rkV v).toArray
theorem KT.cell {w : World} {g : Nat} {v : Value} (h : KT w g v) (i : Nat) (hi : i < 256) : w.cell? ⟨g, i, none⟩ = some (.int .u8 ((sbL.getD i 0).toNat : Int)) := by
  rw [Blk.cell h, List.getElem?_toArray, rkV, List.getElem?_append_left (by rw [List.length_map, sbL_len]; exact hi), List.getElem?_map, List.getElem?_eq_getElem (by rw [sbL_len]; exact hi), List.getD_eq_getElem?_getD, List.getElem?_eq_getElem (by rw [sbL_len]; exact hi)]
  rfl
theorem KT.suf {w : World} {g : Nat} {v : Value} (h : KT w g v) : w.cell? ⟨g, 256, none⟩ = some v := by
  rw [Blk.cell h, List.getElem?_toArray, rkV, List.getElem?_append_right (by rw [List.length_map, sbL_len]; exact Nat.le_refl _), List.length_map, sbL_len]
  rfl
theorem KT.set {w : World} {g : Nat} {v : Value} (h : KT w g v) (u : Value) : KT (w.setCell ⟨g, 256, none⟩ u) g u := by
  have := Blk.set_ h 256 u
  rw [List.setIfInBounds_toArray, rkV, List.set_append_right _ _ (by rw [List.length_map, sbL_len]; exact Nat.le_refl _), List.length_map, sbL_len] at this
  exact this
theorem blk_range {w : World} {g : Nat} {t : TypeId} {l : List Value} (h : Blk w g t l.toArray) : w.rangeAt g 0 l := fun j v hv => by
  rw [Nat.zero_add, Blk.cell h, List.getElem?_toArray]; exact hv
theorem blk_there {w : World} {g : Nat} {t : TypeId} {l : List Value} {n : Nat} (h : Blk w g t l.toArray) (hn : l.length = n) : w.there g 0 n := fun j hj => by
  rw [Nat.zero_add]
  exact ⟨by rw [Blk.cell h, List.getElem?_toArray, List.getElem?_eq_getElem (by omega)]; rfl, Blk.frozen h j⟩
theorem blk_setAllAux {g : Nat} {t : TypeId} : ∀ (l' pre l : List Value) (w : World), l.length = l'.length → Blk w g t (pre ++ l).toArray → Blk (w.setCells g pre.length l') g t (pre ++ l').toArray
  | [], pre, l, w, h, hb => by
    have : l = [] := List.eq_nil_of_length_eq_zero h
    subst this
    exact hb
  | y :: ys, pre, l, w, h, hb => by
    match l, h with
    | x :: xs, h =>
      have h1 := Blk.set_ hb pre.length y
      rw [List.setIfInBounds_toArray] at h1
      have e : (pre ++ x :: xs).set pre.length y = (pre ++ [y]) ++ xs := by simp
      rw [e] at h1
      have := blk_setAllAux ys (pre ++ [y]) xs _ (by simpa using h) h1
      rw [List.length_append] at this
      simp only [List.append_assoc, List.singleton_append] at this
      exact this
theorem blk_setAll {w : World} {g : Nat} {t : TypeId} {l l' : List Value} (h : Blk w g t l.toArray) (hl : l'.length = l.length) : Blk (w.setCells g 0 l') g t l'.toArray :=
  blk_setAllAux l' [] l w hl.symm h
theorem rkV_one (A : Option Addr) (n c : Nat) : (rkV (.slice A n c)).toArray.all (·.oneCell') = true := by
  refine all_oneCell_toArray fun u hu => ?_
  rw [rkV, List.mem_append] at hu
  rcases hu with hu | hu
  · exact u8_one _ u hu
  · rw [List.mem_singleton] at hu; subst hu; rfl
theorem zkV_one : zkV.toArray.all (·.oneCell') = true := by
  refine all_oneCell_toArray fun u hu => ?_
  rw [zkV, List.mem_append] at hu
  rcases hu with hu | hu
  · exact u8_one _ u hu
  · rw [List.mem_singleton] at hu; subst hu; rfl
/-- Two results, the first of which lives in a variable. -/
theorem results_ct {P : Program} {fn : Func} {t s : Tmp} {ty : TypeId} (h : fn.results = #[.cell t ty, .tmp s]) (tmps : Array Value) (w : World) (b : Nat) (v u : Value) (ht : tmps.getD t undef = .pointer (some ⟨b, 0, none⟩)) (hs : tmps.getD s undef = u)
    (hl : (loadVar ty ⟨b, 0, none⟩).run P w = .ok v w) : (results fn tmps).run P w = .ok (.tuple #[v, u]) w := by
  have ha : (asAddr (tmps.getD t undef)).run P w = .ok ⟨b, 0, none⟩ w := by rw [ht]; rfl
  simp [results, h]
  rw [Array.getD_eq_getD_getElem?] at ha hs
  rw [ha]
  simp only [Result.andThen_ok, hs]
  rw [hl]
  rfl
set_option maxRecDepth 100000 in
set_option maxHeartbeats 1600000 in
theorem newkey_bad (b : List UInt8) (A : Option Addr) (L c : Nat) (w : World) (hb : L ≠ 16 ∧ L ≠ 32) :
    Calls Try.prog 14 #[.slice A L c] w fun e w' => e = .returned (.tuple #[.agg zkV.toArray, .int .i64 1]) ∧ Below w.heap.size w w' := by
  have h1 : ((L : Int) != 16) = true := by rw [bne_iff_ne]; omega
  have h2 : ((L : Int) != 32) = true := by rw [bne_iff_ne]; omega
  have hbz := run_build31z
  have HZ0 : Hid (Blk (w.alloc (.cells Try.zeroCells31 31)) w.heap.size 31 zkV.toArray) := by show Blk _ _ _ _; rw [zero31]; exact Blk.new w 31 _
  have HJ : Hid ((Try.prog.info? 31).map (·.size) = some zkV.toArray.size) := by show _ = _; rw [List.size_toArray, zkV_len]; exact info31
  have HI : Hid ((Try.prog.info? 31).map (·.size) = some zkV.length) := by show _ = _; rw [zkV_len]; exact info31
  have HTH : Hid ((w.alloc (.cells Try.zeroCells31 31)).there w.heap.size 0 zkV.toArray.size) := by show World.there _ _ _ _; rw [List.size_toArray]; exact blk_there HZ0.out rfl
  have HB0 := Lib.hid (balloc (Below.refl w.heap.size w) (.cells Try.zeroCells31 31))
  clear hb
  go_enter Try.func14, Try.ntmps14
  go_wp2_with (first
    | (refine wpList_store_mid rfl 31 (.tmp 2) (.tmp 21) rfl w.heap.size 0 zkV.toArray rfl rfl HTH.out HJ.out zkV_one ?_))
  have hload := run_loadVar_mid (P := Try.prog) ((w.alloc (.cells Try.zeroCells31 31)).setCells w.heap.size 0 zkV) w.heap.size 0 31 zkV _ (blk_range (blk_setAll HZ0.out rfl)) Try.underlying31 rfl HI.out
  refine bodyPost_ret (results_ct rfl _ _ w.heap.size _ _ rfl rfl hload) rfl ⟨rfl, ?_⟩
  exact below_setCells HB0.out (Nat.le_refl _) _ _
end Go.Proofs.Ytklkehpcifnfkaa
