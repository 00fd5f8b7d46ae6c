/- The law RingLast, walked. Conditions: the slice reads. -/
import Derived.Test.YtodcmnjimjjahaaOwn0
import Derived.Test.YtodcmnjimjjahaaLastLaw
set_option linter.unusedVariables false
namespace Go.Proofs.Ytodcmnjimjjahaa
open Go.RowKit
attribute [local go_sem ↓] Go.wp_at_zero Go.wp_at_succ

theorem own_one (w : World) (e : TypeId) (u : Value) : (w.alloc (.cells #[u] e)).ownsRow w.heap.size e 1 (.slice (some ⟨w.heap.size, 0, none⟩) 1 1) 1 [u] :=
  ⟨by simp, .inr ⟨_, 1, #[u], rfl, Nat.le_refl _, by show (w.heap.push _)[w.heap.size]? = _; simp, by omega, by simp [maxLen], by simp, by simp⟩⟩
theorem fresh_below {w w' : World} {o : Obj} (hg : (w.alloc o).grownBy w' (some w.heap.size)) : Below w.heap.size w w' :=
  ⟨hg.os, hg.tape, hg.output, Nat.le_trans (by simp) hg.size, fun k hk => (hg.block k (by simp; omega) (by simp; omega)).trans (Below.heap_alloc w o k hk)⟩
theorem k8 (k : Nat) (hk : k < 256) : Value.int .u8 (k : Int) = u8v (UInt8.ofNat k) := by
  simp [u8v]; omega
theorem wpList_append_any_g {P : Program} (w : World) {ops : Array Oper} {rest : List Oper} {o : Oper} {a : Act} {Q : Exit → Act → World → Prop} (hgd : Region.wanted o (yielded ops a.tmps) = true) (s x : Operand) (t : TypeId)
    (ho : o.op = .call { callee := .builtin .append, args := #[s, x], argTypes := #[t, t] })
    (base : Nat) (e : TypeId) (i : TypeInfo) (z : Value) (size bytes : Nat) (ht : P.underlying t = some (.slice e)) (hi : P.info? e = some i) (hz : i.zero = some z)
    (hsize : i.size = size) (hby : i.bytes = bytes) (hzs : z.cells.size = size) (hsz : 0 < size)
    (v : Value) (n : Nat) (xs : List Value) (hs : a.eval s = v) (hown : w.ownsRow base e size v n xs)
    (B : Nat) (A : Option Addr) (m c : Nat) (news : List Value) (hx : a.eval x = .slice A m c) (hr : Reads w B size A m news) (h1 : ∀ u ∈ news, u.oneCell' = true)
    (h63 : n + m ≤ maxLen) (hbytes : (n + m) * bytes ≤ 140737488355328) (hbase : base ≤ w.heap.size)
    (h : ∀ v' w', w'.ownsRow base e size v' (n + m) (xs ++ news) → w.grownBy w' v.ownBlock → (v'.ownBlock = v.ownBlock ∨ v'.ownBlock = some w.heap.size) → wpList P ops Q rest (a.put o.dst v') w') : wpList P ops Q (o :: rest) a w := by
  simp only [wpList, hgd, if_true]
  exact .inl <| wp_append_any w s x t ho base e i z size bytes ht hi hz hsize hby hzs hsz v n xs hs hown B A m c news hx hr h1 h63 hbytes hbase h
set_option maxHeartbeats 3200000 in
theorem last_walk (q m n c : Nat) (A : Option Addr) (bs : List UInt8) (w : World) (hq : q < 65536) (hm : m < 256) (hr : Reads w w.heap.size 1 A n (bs.map u8v)) (hl : bs.length = n) (hnc : n ≤ c) (hc : c ≤ 9223372036854775807) :
    Calls Try.prog 5 #[.int .u16 q, .int .u8 m, .slice A n c] w fun e w' => e = .returned (.bool true) ∧ Below w.heap.size w w' := by
  obtain ⟨i5, hi5, hz0, hz1, hz2⟩ := info_parts info5
  have HRD := Lib.hid hr
  have HL := Lib.hid hl
  clear hr hl
  go_enter Try.func5, Try.ntmps5
  go_wp2_with fail
  refine (new_c w).mono ?_
  rintro e0 w1 ⟨rfl, hw1⟩
  have hr1 : RingK w1 w.heap.size w.heap.size [] := by rw [hw1]; exact RingK.new w _ (Nat.le_refl _)
  have hf1 : Fr w.heap.size rt w w1 := by rw [hw1]; exact (Fr.refl _ _ _).alloc _
  clear hw1
  go_wp2_with fail
  refine (awake_c w1).mono ?_
  rintro e0 w2 ⟨rfl, hb2⟩
  have HR2 := Lib.hid (hr1.below hb2)
  have HF2 := Lib.hid (hf1.call hb2)
  clear hr1 hf1 hb2
  by_cases hn : 300 < n
  · have hni : (300 : Int) < (n : Int) := by omega
    go_wp2
    go_ret
    exact ⟨rfl, HF2.out.far⟩
  · have hni : ¬ (300 : Int) < (n : Int) := by omega
    have hni2 : (n : Int) ≤ 300 := by omega
    have hm64 : IntKind.i64.wrap (m : Int) = (m : Int) := by rw [IntKind.wrap_i64]; omega
    go_wp2_with fail
    clear hm64
    go_loopg [9] m (fun gg i wr => ∃ k, k ≤ m ∧ gg = m - k ∧ i = .int .i64 k ∧ RingK wr w.heap.size w.heap.size (lastK q bs k) ∧ Fr w.heap.size rt w wr)
    case atStart => exact ⟨0, by omega, rfl, rfl, by rw [lastK_0]; exact HR2.out, HF2.out⟩
    case round =>
      obtain ⟨k, hk, rfl, rfl, hrk, hfk⟩ := hrel
      have HRK := Lib.hid hrk
      have HFK := Lib.hid hfk
      clear hrk hfk
      by_cases hkn : k < m
      · have hw16 : IntKind.u16.wrap (k : Int) = (k : Int) := by rw [IntKind.wrap_u16]; omega
        have hw8 : IntKind.u8.wrap (k : Int) = (k : Int) := by rw [IntKind.wrap_u8]; omega
        have hws : IntKind.u16.wrap ((q : Int) + (k : Int)) = (((q + k) % 65536 : Nat) : Int) := by rw [IntKind.wrap_u16]; omega
        go_wp2_with (first
          | (at_builtin
             refine wpList_append_any _ rfl (.tmp 39) (.tmp 40) _ rfl wr.heap.size 5 i5 _ 1 1 Try.underlying27 hi5 hz0 hz1 hz2 rfl (by omega) (.slice (some ⟨wr.heap.size, 0, none⟩) 1 1) 1 [.int .u8 (k : Int)] rfl (own_one wr 5 _)
               w.heap.size A n c (bs.map u8v) rfl (HRD.out.below (HFK.out.alloc _).far) (u8_one bs) (by simp only [maxLen]; omega) (by omega) (by simp) ?_
             intro v1 w3 hown1 hg1 hat1
             rw [show [Value.int .u8 (k : Int)] ++ bs.map u8v = (UInt8.ofNat k :: bs).map u8v by rw [k8 k (by omega)]; rfl, Nat.add_comm] at hown1
             obtain ⟨A1, c1, rfl⟩ := own_slice hown1
             have HO1 := Lib.hid hown1
             have HB1 := Lib.hid (fresh_below hg1)
             clear hown1 hg1 hat1))
        have hb3 : BytesV 5 w.heap.size w3 (.slice A1 (n + 1) c1) (UInt8.ofNat k :: bs) := BytesV.of_own HO1.out (by simp [HL.out]) (by simp only [List.length_cons, HL.out]; exact own_bound HO1.out)
        refine (addK_c (s := (q + k) % 65536) (HRK.out.below HB1.out) hb3 (by simp only [List.length_cons, HL.out]; omega) (by omega) (by rw [lastK_len]; omega)).mono ?_
        rintro e0 w4 ⟨rfl, hr4, hf4⟩
        rw [lastK_succ q bs k (by omega)] at hr4
        have HR4 := Lib.hid hr4
        have HF4 := Lib.hid ((HFK.out.call HB1.out).trans hf4)
        clear hb3 hr4 hf4
        go_wp2
        go_roundg (m - (k + 1))
        case measure => omega
        case rel => exact ⟨k + 1, by omega, rfl, by go_num, HR4.out, HF4.out⟩
      · have hkn' : k = m := by omega
        subst hkn'
        obtain ⟨w5, rfl⟩ : ∃ w5, w5 = wr := ⟨_, rfl⟩
        go_wp2_with fail
        go_loopg [10] k (fun gg i wr => ∃ j, j ≤ k ∧ gg = k - j ∧ i = .int .i64 j ∧ RingK wr w.heap.size w.heap.size (lastK q bs k) ∧ Fr w.heap.size rt w wr)
        case atStart => exact ⟨0, by omega, rfl, rfl, HRK.out, HFK.out⟩
        case round =>
          obtain ⟨j, hj, rfl, rfl, hrj, hfj⟩ := hrel
          have HRJ := Lib.hid hrj
          have HFJ := Lib.hid hfj
          clear hrj hfj HRK HFK
          by_cases hjk : j < k
          · have hw16 : IntKind.u16.wrap (j : Int) = (j : Int) := by rw [IntKind.wrap_u16]; omega
            have hw8 : IntKind.u8.wrap (j : Int) = (j : Int) := by rw [IntKind.wrap_u8]; omega
            have hws : IntKind.u16.wrap ((q : Int) + (j : Int)) = (((q + j) % 65536 : Nat) : Int) := by rw [IntKind.wrap_u16]; omega
            have hw6 : IntKind.i64.wrap ((k : Int) - 64) = (k : Int) - 64 := by rw [IntKind.wrap_i64]; omega
            go_wp2_with fail
            by_cases hin : k ≤ j + 64
            · have hcmp : decide ((k : Int) - 64 ≤ (j : Int)) = true := by simp only [decide_eq_true_eq]; omega
              refine (getK_hit (q := (q + j) % 65536) HRJ.out (by rw [lastK_len]; omega) (by simp only [List.length_cons, HL.out]; omega) (lastK_in q bs k j (by omega) hin hjk)).mono ?_
              rintro e0 w6 ⟨A2, c2, rfl, ho6, hv6, hb6⟩
              have HR6 := Lib.hid (HRJ.out.below hb6)
              have HF6 := Lib.hid (HFJ.out.call hb6)
              have HV6 := Lib.hid hv6
              clear ho6 hv6 hb6
              go_wp2_with (first
                | (at_builtin
                   refine wpList_append_any_g _ (by rfl) (.tmp 69) (.tmp 70) _ rfl w6.heap.size 5 i5 _ 1 1 Try.underlying27 hi5 hz0 hz1 hz2 rfl (by omega) (.slice (some ⟨w6.heap.size, 0, none⟩) 1 1) 1 [.int .u8 (j : Int)] rfl (own_one w6 5 _)
                     w.heap.size A n c (bs.map u8v) rfl (HRD.out.below (HF6.out.alloc _).far) (u8_one bs) (by simp only [maxLen]; omega) (by omega) (by simp) ?_
                   intro v1 w3 hown1 hg1 hat1
                   rw [show [Value.int .u8 (j : Int)] ++ bs.map u8v = (UInt8.ofNat j :: bs).map u8v by rw [k8 j (by omega)]; rfl, Nat.add_comm] at hown1
                   obtain ⟨A1, c1, rfl⟩ := own_slice hown1
                   have HO1 := Lib.hid hown1
                   have HB1 := Lib.hid (fresh_below hg1)
                   clear hown1 hg1 hat1))
              have hy : BytesV 5 w.heap.size w3 (.slice A1 (n + 1) c1) (UInt8.ofNat j :: bs) := BytesV.of_own HO1.out (by simp [HL.out]) (by simp only [List.length_cons, HL.out]; exact own_bound HO1.out)
              refine (same_c (HV6.out.below HB1.out) hy).mono ?_
              rintro e0 w7 ⟨rfl, rfl⟩
              rw [beq_self_eq_true]
              clear hy
              go_wp2
              go_roundg (k - (j + 1))
              case measure => omega
              case rel => exact ⟨j + 1, by omega, rfl, by go_num, HR6.out.below HB1.out, HF6.out.call HB1.out⟩
            · have hcmp : decide ((k : Int) - 64 ≤ (j : Int)) = false := by simp only [decide_eq_false_iff_not]; omega
              refine (getK_miss (q := (q + j) % 65536) HRJ.out (by rw [lastK_len]; omega) (lastK_out q bs k j (by omega) (.inl (by omega)) (by omega))).mono ?_
              rintro e0 w6 ⟨rfl, hb6⟩
              have HR6 := Lib.hid (HRJ.out.below hb6)
              have HF6 := Lib.hid (HFJ.out.call hb6)
              clear hb6
              go_wp2
              go_roundg (k - (j + 1))
              case measure => omega
              case rel => exact ⟨j + 1, by omega, rfl, by go_num, HR6.out, HF6.out⟩
          · have hjk' : j = k := by omega
            subst hjk'
            have hw16 : IntKind.u16.wrap (j : Int) = (j : Int) := by rw [IntKind.wrap_u16]; omega
            have hws : IntKind.u16.wrap ((q : Int) + (j : Int)) = (((q + j) % 65536 : Nat) : Int) := by rw [IntKind.wrap_u16]; omega
            go_wp2_with fail
            refine (getK_miss (q := (q + j) % 65536) HRJ.out (by rw [lastK_len]; omega) (lastK_out q bs j j (by omega) (.inr (Nat.le_refl _)) (by omega))).mono ?_
            rintro e0 w6 ⟨rfl, hb6⟩
            have HR6 := Lib.hid (HRJ.out.below hb6)
            have HF6 := Lib.hid (HFJ.out.call hb6)
            clear hb6
            go_wp2_with fail
            refine (lenK_c HR6.out).mono ?_
            rintro e0 w7 ⟨rfl, rfl⟩
            rw [lastK_len]
            have hmin : ((j - (j - 64) : Nat) : Int) = min (j : Int) 64 := by omega
            go_wp2
            go_ret
            exact ⟨by simp, HF6.out.far⟩
end Go.Proofs.Ytodcmnjimjjahaa
