/- Slices of bytes cut at a place; append behind a guard. Conditions: as each says. -/
import Derived.Test.YtkfimncbfbbopaaStr
import Derived.Test.YtkfimncbfbbopaaSv
set_option linter.unusedVariables false
namespace Go.Proofs.Ytkfimncbfbbopaa
open Go.RowKit

theorem wpList_append_any_g {P : Program} (w : World) {ops : Array Oper} {rest : List Oper} {o : Oper} {a : Act} {Q : Exit → Act → World → Prop} (hgd : Region.wanted o (yielded ops a.tmps) = true) (s x : Operand) (t : TypeId)
    (ho : o.op = .call { callee := .builtin .append, args := #[s, x], argTypes := #[t, t] })
    (base : Nat) (e : TypeId) (i : TypeInfo) (z : Value) (size bytes : Nat) (ht : P.underlying t = some (.slice e)) (hi : P.info? e = some i) (hz : i.zero = some z)
    (hsize : i.size = size) (hby : i.bytes = bytes) (hzs : z.cells.size = size) (hsz : 0 < size)
    (v : Value) (n : Nat) (xs : List Value) (hs : a.eval s = v) (hown : w.ownsRow base e size v n xs)
    (B : Nat) (A : Option Addr) (m c : Nat) (news : List Value) (hx : a.eval x = .slice A m c) (hr : Reads w B size A m news) (h1 : ∀ u ∈ news, u.oneCell' = true)
    (h63 : n + m ≤ maxLen) (hbytes : (n + m) * bytes ≤ 140737488355328) (hbase : base ≤ w.heap.size)
    (h : ∀ v' w', w'.ownsRow base e size v' (n + m) (xs ++ news) → w.grownBy w' v.ownBlock → (v'.ownBlock = v.ownBlock ∨ v'.ownBlock = some w.heap.size) → wpList P ops Q rest (a.put o.dst v') w') : wpList P ops Q (o :: rest) a w := by
  simp only [wpList, hgd, if_true]
  exact .inl <| wp_append_any w s x t ho base e i z size bytes ht hi hz hsize hby hzs hsz v n xs hs hown B A m c news hx hr h1 h63 hbytes hbase h
/-- Where b[k:] begins. -/
def cutA (A : Option Addr) (c k : Nat) : Option Addr := if c = k then A else A.map (·.add k)
theorem slice22 : Try.prog.underlying 22 = some (.slice (Try.prog.elem 22)) := by rw [Try.underlying22, show Try.prog.elem 22 = 5 from by kernel_rfl]
theorem size22 (w : World) : (sizeOf (Try.prog.elem 22)).run Try.prog w = .ok 1 w := by rw [show Try.prog.elem 22 = 5 from by kernel_rfl]; exact size_byte w
theorem cut_to (wx : World) (A : Option Addr) (n c k : Nat) (hk : k ≤ c) : (Instr.slice 22 (.slice A n c) none (some (.int .i64 (k : Int))) none).run Try.prog wx = .ok (.slice (cutA A c 0) k c) wx := by
  rw [run_slice_h (P := Try.prog) wx 22 A n c slice22 .i64 (k : Int) (by omega) (by omega)]
  rw [size22]
  simp [Result.andThen, sliced, cutA]
theorem cut_from (wx : World) (A : Option Addr) (n c k : Nat) (hk : k ≤ n) : (Instr.slice 22 (.slice A n c) (some (.int .i64 (k : Int))) none none).run Try.prog wx = .ok (.slice (cutA A c k) (n - k) (c - k)) wx := by
  rw [run_slice_l (P := Try.prog) wx 22 A n c slice22 .i64 (k : Int) (by omega) (by omega)]
  rw [size22]
  simp [Result.andThen, sliced, cutA]
theorem cut_to' (wx : World) (A : Option Addr) (n c k : Nat) (hk : k ≤ c) : (Instr.sliceAt 22 (.slice A n c) none (some (.int .i64 (k : Int))) none).run Try.prog wx = .ok (.slice (cutA A c 0) k c) wx := by
  rw [run_sliceAt_slice (P := Try.prog) wx 22 _ _ _ _ slice22]; exact cut_to wx A n c k hk
theorem cut_from' (wx : World) (A : Option Addr) (n c k : Nat) (hk : k ≤ n) : (Instr.sliceAt 22 (.slice A n c) (some (.int .i64 (k : Int))) none none).run Try.prog wx = .ok (.slice (cutA A c k) (n - k) (c - k)) wx := by
  rw [run_sliceAt_slice (P := Try.prog) wx 22 _ _ _ _ slice22]; exact cut_from wx A n c k hk
theorem Reads.from_ {w : World} {B n c k : Nat} {A : Option Addr} {b : List UInt8} (h : Reads w B 1 A n (b.map u8v)) (hk : k ≤ n) (hc : n ≤ c) : Reads w B 1 (cutA A c k) (n - k) ((b.drop k).map u8v) := by
  have := h.cut hk hc
  rw [Nat.mul_one, ← List.map_drop] at this
  exact this
theorem Reads.to_k {w : World} {B n c k : Nat} {A : Option Addr} {b : List UInt8} (h : Reads w B 1 A n (b.map u8v)) (hn : b.length = n) (hk : k ≤ n) (hc : n ≤ c) : Reads w B 1 (cutA A c 0) k ((b.take k).map u8v) := by
  have h0 := h.from_ (Nat.zero_le _) hc
  rw [List.drop_zero, Nat.sub_zero] at h0
  have := reads_take h0 hn hk
  rwa [List.length_take, hn, Nat.min_eq_left hk] at this
end Go.Proofs.Ytkfimncbfbbopaa
