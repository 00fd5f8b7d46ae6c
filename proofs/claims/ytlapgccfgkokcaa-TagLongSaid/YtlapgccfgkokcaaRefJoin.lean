/- What the reference's Join does (contract). Conditions: the parts lie in memory; together they are no more than fit. -/
import Derived.Test.YtlapgccfgkokcaaTagOf
set_option linter.unusedVariables false
namespace Go.Proofs.Ytlapgccfgkokcaa
open Go.RowKit
attribute [local go_sem ↓] Go.wp_at_zero Go.wp_at_succ

theorem flat_take_le (ps : List (List UInt8)) (j : Nat) : (ps.take j).flatten.length ≤ ps.flatten.length := by
  conv => rhs; rw [← List.take_append_drop j ps, List.flatten_append, List.length_append]
  omega
set_option maxHeartbeats 1600000 in
theorem join_c (ps : List (List UInt8)) (A : Option Addr) (c : Nat) (w : World) (hp : Parts w A ps) (hn : ps.length < 9223372036854775808) (hl : ps.flatten.length ≤ 140737488355000) :
    Calls Try.prog 24 #[.slice A ps.length c] w fun e w' => ∃ v, e = .returned v ∧ ByteRow w' w.heap.size v ps.flatten ∧ Below w.heap.size w w' := by
  obtain ⟨i5, hi5, hz0, hz1, hz2⟩ := info_parts infoByte
  have HP := Lib.hid hp
  have HL := Lib.hid hl
  clear hp hl
  obtain ⟨n, hnn⟩ : ∃ n, n = ps.length := ⟨_, rfl⟩
  have HN := Lib.hid hnn
  rw [← hnn] at hn
  rw [← hnn]
  clear hnn
  go_enter Try.func24, Try.ntmps24
  go_upto_region 3 with fail
  go_loopg [3, 4] n (fun gg v3 v4 wx => ∃ (i : Nat) (Ao : Option Addr) (co : Nat), i ≤ n ∧ gg = n - i ∧ v4 = .int .i64 (i : Int) ∧ v3 = .slice Ao (ps.take i).flatten.length co ∧ wx.ownsRow w.heap.size 5 1 (.slice Ao (ps.take i).flatten.length co) (ps.take i).flatten.length ((ps.take i).flatten.map u8v) ∧ Below w.heap.size w wx)
  case atStart => exact ⟨0, some ⟨w.heap.size, 0, none⟩, 0, Nat.zero_le _, rfl, rfl, rfl, own_empty w _ _, balloc (Below.refl _ _) _⟩
  case round =>
    obtain ⟨i, Ao, co, hi, rfl, rfl, rfl, ho, hb⟩ := hrel
    obtain ⟨k, hk⟩ : ∃ k, k = (ps.take i).flatten.length := ⟨_, rfl⟩
    rw [← hk] at ho
    rw [← hk]
    obtain ⟨xs, hxs⟩ : ∃ xs, xs = (ps.take i).flatten := ⟨_, rfl⟩
    rw [← hxs] at ho
    by_cases hi2 : i < n
    · have hii : (i : Int) < (n : Int) := by omega
      obtain ⟨g, o, Ai, ci, hA, hg, hcell, hsl⟩ := HP.out.at_ (i := i) (by rw [← HN.out]; exact hi2)
      subst hA
      have htf := take_flat ps i (by rw [← HN.out]; exact hi2)
      have hle := flat_take_le ps (i + 1)
      rw [htf, List.length_append] at hle
      obtain ⟨b, hbb⟩ : ∃ b, b = ps.getD i [] := ⟨_, rfl⟩
      rw [← hbb] at hcell hsl hle
      rw [← hbb, ← hxs] at htf
      have hcell' : wr.cell? ⟨g, o + i, none⟩ = some (.slice Ai b.length ci) := (hb.cell (p := ⟨g, o + i, none⟩) hg).trans hcell
      have hrd : Reads wr wr.heap.size 1 Ai b.length (b.map u8v) := by
        obtain ⟨A', c', e, hc, hr⟩ := hsl
        injection e with e1 e2 e3
        subst e1
        exact (hr.below hb).more hb.size
      have hle2 : k + b.length ≤ 140737488355000 := by have := HL.out; omega
      have HO := Lib.hid ho
      have HB := Lib.hid hb
      have HK := Lib.hid hk
      have HTF := Lib.hid htf
      have HRD := Lib.hid hrd
      have HXS := Lib.hid hxs
      clear ho hb hk htf hrd hle hbb hsl hcell hxs
      go_wp2_with
       (at_builtin
        refine wpList_append_any _ rfl (.tmp 12) (.tmp 16) _ rfl w.heap.size 5 i5 _ 1 1 Try.underlying27 hi5 hz0 hz1 hz2 rfl (by omega) (.slice Ao k co) k (xs.map u8v) rfl HO.out
          _ Ai b.length ci (b.map u8v) rfl HRD.out (u8_one b) (by simp only [maxLen]; omega) (by omega) HB.out.size ?_
        intro v5 w5 hown5 hg5 hv5
        obtain ⟨A5, c5, rfl⟩ := own_slice hown5
        have HO5 := Lib.hid hown5
        have HB5 : Hid (Below w.heap.size w w5) := own_grow_below HB.out HO.out hg5
        clear hown5 hg5 hv5)
      go_roundg (n - (i + 1))
      case measure => omega
      case rel =>
        have hlen : k + b.length = (ps.take (i + 1)).flatten.length := by rw [HTF.out, List.length_append, HK.out, HXS.out]
        refine ⟨i + 1, A5, c5, by omega, rfl, by go_num, by rw [hlen], ?_, HB5.out⟩
        have := HO5.out
        rw [hlen, ← List.map_append, ← HTF.out] at this
        exact this
    · have hin : i = n := by omega
      subst hin
      have HO := Lib.hid ho
      have HB := Lib.hid hb
      have HXS : Hid (xs = ps.flatten) := by show _ = _; rw [hxs, HN.out, List.take_length]
      have HK : Hid (k = xs.length) := by show _ = _; rw [hk, hxs]
      clear ho hb hxs hk
      go_wp2
      go_ret
      refine ⟨_, rfl, ?_, HB.out⟩
      unfold ByteRow
      rw [← HXS.out, ← HK.out]
      exact HO.out
end Go.Proofs.Ytlapgccfgkokcaa
