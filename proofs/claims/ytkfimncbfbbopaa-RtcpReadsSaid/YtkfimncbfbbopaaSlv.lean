/- Slices of bytes that lie in memory, also below a bound. Conditions: as each says. -/
import Derived.Test.YtkfimncbfbbopaaCut
set_option linter.unusedVariables false
namespace Go.Proofs.Ytkfimncbfbbopaa
open Go.RowKit

/-- v is a slice of bytes that reads b. -/
def SlV (w : World) (v : Value) (b : List UInt8) : Prop := ∃ A c, v = .slice A b.length c ∧ b.length ≤ c ∧ Reads w w.heap.size 1 A b.length (b.map u8v)
/-- v is a slice of bytes that reads b below block B. -/
def SlB (w : World) (B : Nat) (v : Value) (b : List UInt8) : Prop := ∃ A c, v = .slice A b.length c ∧ b.length ≤ c ∧ Reads w B 1 A b.length (b.map u8v)
section
variable {w w' : World} {g B : Nat} {v : Value} {b : List UInt8}
theorem SlV.below (h : SlV w v b) (hb : Below w.heap.size w w') : SlV w' v b := by
  obtain ⟨A, c, e, hc, hr⟩ := h
  exact ⟨A, c, e, hc, (hr.below hb).more hb.size⟩
theorem SlV.nil (w : World) : SlV w (.slice none 0 0) [] := ⟨none, 0, rfl, Nat.le_refl _, Reads.none_⟩
theorem SlV.of {A : Option Addr} {n c : Nat} (hn : n = b.length) (hc : b.length ≤ c) (hr : Reads w w.heap.size 1 A b.length (b.map u8v)) : SlV w (.slice A n c) b := ⟨A, c, by rw [hn], hc, hr⟩
theorem SlV.own {base : Nat} (h : ByteRow w base v b) : SlV w v b := by
  obtain ⟨A, c, rfl⟩ := own_slice h
  exact ⟨A, c, rfl, own_cap h, Reads.of_own h⟩
theorem SlV.lit (w : World) (cs : Array Value) (fr : Nat × Nat) (n : Nat) (b : List UInt8) (hcs : cs.toList = b.map u8v) (hn : n = b.length) : SlV (w.alloc (.cells cs 5 fr)) (.slice (some ⟨w.heap.size, 0, none⟩) n n) b := by
  subst hn
  refine ⟨_, _, rfl, Nat.le_refl _, ⟨by simp, fun hn => ⟨_, rfl, by simp, fun j u hu => ?_⟩⟩⟩
  rw [Go.WideShapes.add_plain, Nat.zero_add, World.cell?_alloc_mark, ← Array.getElem?_toList, hcs]
  exact hu
theorem SlV.num {A : Option Addr} {n c : Nat} (h : SlV w (.slice A n c) b) : n = b.length := by
  obtain ⟨_, _, e, _⟩ := h
  injection e
theorem SlV.rd {A : Option Addr} {n c : Nat} (h : SlV w (.slice A n c) b) : Reads w w.heap.size 1 A n (b.map u8v) := by
  obtain ⟨A', c', e, hc, hr⟩ := h
  injection e with e1 e2 e3
  subst e1 e2
  exact hr
theorem SlV.form (h : SlV w v b) : ∃ A c, v = .slice A b.length c ∧ b.length ≤ c := by
  obtain ⟨A, c, e, hc, hr⟩ := h
  exact ⟨A, c, e, hc⟩
theorem SlV.toB (h : SlV w v b) (hw : w.heap.size ≤ B) : SlB w B v b := by
  obtain ⟨A, c, e, hc, hr⟩ := h
  exact ⟨A, c, e, hc, hr.more hw⟩
theorem SlB.toV (h : SlB w B v b) (hw : B ≤ w.heap.size) : SlV w v b := by
  obtain ⟨A, c, e, hc, hr⟩ := h
  exact ⟨A, c, e, hc, hr.more hw⟩
theorem SlB.nil (w : World) (B : Nat) : SlB w B (.slice none 0 0) [] := ⟨none, 0, rfl, Nat.le_refl _, Reads.none_⟩
theorem SlB.keep (h : SlB w B v b) (hk : ∀ p : Addr, p.block < B → w'.cell? p = w.cell? p) : SlB w' B v b := by
  obtain ⟨A, c, e, hc, hr⟩ := h
  exact ⟨A, c, e, hc, hr.keep hk⟩
theorem SlB.belowB (h : SlB w B v b) (hb : Below B w w') : SlB w' B v b := h.keep fun _ hp => hb.cell hp
theorem SlB.sv {M : Nat → Prop} (h : SlB w B v b) (hs : Sv M w w') (hB : B ≤ w.heap.size) (hM : ∀ k, M k → B ≤ k) : SlB w' B v b :=
  h.keep fun p hp => hs.cell (by omega) (fun hm => by have := hM _ hm; omega)
theorem SlB.num {A : Option Addr} {n c : Nat} (h : SlB w B (.slice A n c) b) : n = b.length := by
  obtain ⟨_, _, e, _⟩ := h
  injection e
theorem SlB.cap {A : Option Addr} {n c : Nat} (h : SlB w B (.slice A n c) b) : n ≤ c := by
  obtain ⟨_, _, e, hc, _⟩ := h
  injection e with e1 e2 e3
  omega
theorem SlB.rd {A : Option Addr} {n c : Nat} (h : SlB w B (.slice A n c) b) : Reads w B 1 A n (b.map u8v) := by
  obtain ⟨A', c', e, hc, hr⟩ := h
  injection e with e1 e2 e3
  subst e1 e2
  exact hr
theorem SlB.drop {A : Option Addr} {n c k : Nat} (h : SlB w B (.slice A n c) b) (hk : k ≤ n) : SlB w B (.slice (cutA A c k) (n - k) (c - k)) (b.drop k) := by
  obtain ⟨A', c', e, hc, hr⟩ := h
  injection e with e1 e2 e3
  subst e1 e2 e3
  have h1 := hr.from_ hk hc
  refine ⟨_, _, by rw [List.length_drop], by rw [List.length_drop]; omega, ?_⟩
  rw [List.length_drop]
  exact h1
theorem SlB.to_ {A : Option Addr} {n c k : Nat} (h : SlB w B (.slice A n c) b) (hk : k ≤ n) : SlB w B (.slice (cutA A c 0) k c) (b.take k) := by
  obtain ⟨A', c', e, hc, hr⟩ := h
  injection e with e1 e2 e3
  subst e1 e2 e3
  have h1 := hr.to_k rfl hk hc
  have hl : (b.take k).length = k := by rw [List.length_take]; omega
  refine ⟨_, _, by rw [hl], by omega, ?_⟩
  rw [hl]
  exact h1
theorem SlB.mid {A : Option Addr} {n c k d : Nat} (h : SlB w B (.slice A n c) b) (hk : k + d ≤ n) : SlB w B (.slice (cutA A c k) d (c - k)) ((b.drop k).take d) := by
  obtain ⟨A', c', e, hc, hr⟩ := h
  injection e with e1 e2 e3
  subst e1 e2 e3
  have h1 := hr.from_ (show k ≤ b.length by omega) hc
  have h2 := reads_take h1 (by rw [List.length_drop]) (show d ≤ b.length - k by omega)
  have hl : ((b.drop k).take d).length = d := by rw [List.length_take, List.length_drop]; omega
  refine ⟨_, _, by rw [hl], by omega, ?_⟩
  exact h2
end
theorem Blk.newAt {w : World} {g : Nat} (h : g = w.heap.size) (t : TypeId) (cs : Array Value) : Blk (w.alloc (.cells cs t)) g t cs := by rw [h]; exact Blk.new w t cs
theorem cut_to0 (wx : World) (p : Addr) (n c k : Nat) (hk : k ≤ c) : (Instr.slice 22 (.slice (some p) n c) none (some (.int .i64 (k : Int))) none).run Try.prog wx = .ok (.slice (some p) k c) wx := by
  rw [cut_to wx (some p) n c k hk, cutA]
  have : (Option.map (fun x => Addr.add x 0) (some p)) = some p := by simp [Addr.add]
  split <;> simp [Addr.add]
theorem cut_mid (wx : World) (A : Option Addr) (n c k e d : Nat) (hk : k ≤ e) (he : e ≤ c) (hd : e - k = d) : (Instr.slice 22 (.slice A n c) (some (.int .i64 (k : Int))) (some (.int .i64 (e : Int))) none).run Try.prog wx = .ok (.slice (cutA A c k) d (c - k)) wx := by
  rw [run_slice_lh (P := Try.prog) wx 22 A n c slice22 .i64 .i64 (k : Int) (e : Int) (by omega) (by omega) (by omega)]
  rw [size22]
  simp [Result.andThen, sliced, cutA, hd]
end Go.Proofs.Ytkfimncbfbbopaa
