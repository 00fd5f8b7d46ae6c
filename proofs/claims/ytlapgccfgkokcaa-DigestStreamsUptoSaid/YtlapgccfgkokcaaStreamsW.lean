/- DigestStreams returns true (walk). Conditions: the parts lie in memory; together they are no more than fit. -/
import Derived.Test.YtlapgccfgkokcaaSaysW
set_option linter.unusedVariables false
set_option linter.unusedSimpArgs false
namespace Go.Proofs.Ytlapgccfgkokcaa
open Go.RowKit
attribute [local go_sem ↓] Go.wp_at_zero Go.wp_at_succ

/-- The row of what was added lies apart from the stream. -/
def Apart4 (gs gc : Nat) (v v4 : Value) : Prop := ∀ g, v4.ownBlock = some g → v.ownBlock ≠ some g ∧ g ≠ gs ∧ g ≠ gc
set_option maxRecDepth 100000 in
set_option maxHeartbeats 6400000 in
theorem streams_walk (ps : List (List UInt8)) (A : Option Addr) (c : Nat) (w : World) (hp : Parts w A ps) (hn : ps.length < 9223372036854775808) (hl : ps.flatten.length ≤ 140737488353000) :
    Calls Try.prog 4 #[.slice A ps.length c] w fun e w' => e = .returned (.bool true) ∧ Below w.heap.size w w' := by
  obtain ⟨i5, hi5, hz0, hz1, hz2⟩ := info_parts infoByte
  have HP := Lib.hid hp
  have HL := Lib.hid hl
  clear hp hl
  obtain ⟨n, hnn⟩ : ∃ n, n = ps.length := ⟨_, rfl⟩
  have HN := Lib.hid hnn
  have HNL : Hid (n < 9223372036854775808) := by show _ < _; rw [hnn]; exact hn
  rw [← hnn]
  clear hnn hn
  have hc := new_c w
  obtain ⟨gc, hgc⟩ : ∃ gc, gc = w.heap.size := ⟨_, rfl⟩
  obtain ⟨gs, hgs⟩ : ∃ gs, gs = w.heap.size + 1 := ⟨_, rfl⟩
  have HGC : Hid (w.heap.size ≤ gc) := by show _ ≤ _; omega
  have HGS : Hid (w.heap.size ≤ gs) := by show _ ≤ _; omega
  have hc' : Calls Try.prog 25 #[] w fun e w' => e = .returned (.pointer (some ⟨gs, 0, none⟩)) ∧ StrV w' w.heap.size gs gc (.slice none 0 0) [] ∧ Below w.heap.size w w' := by
    rw [hgs, hgc]; exact hc
  have HC := Lib.hid hc'
  clear hc hc' hgs hgc
  go_enter Try.func4, Try.ntmps4
  go_upto_region 6 with (first
    | (go_at_call 25
       refine HC.out.mono ?_
       rintro e0 w1 ⟨rfl, hs1, hb1⟩
       have HS1 := Lib.hid hs1
       have HB1 := Lib.hid hb1
       clear hs1 hb1)
    | (go_at_call 21
       refine (awake1_c w1).mono ?_
       rintro e0 w2 ⟨rfl, hb2⟩
       have HS2 := Lib.hid (HS1.out.below hb2)
       have HB2 : Hid (Below w.heap.size w w2) := bcall HB1.out hb2
       clear hb2))
  go_loopg [4, 5] n (fun gg v4 v5 wx => ∃ (i : Nat) (v : Value) (Ao : Option Addr) (co : Nat), i ≤ n ∧ gg = n - i ∧ v5 = .int .i64 (i : Int) ∧ v4 = .slice Ao (ps.take i).flatten.length co ∧ StrV wx w.heap.size gs gc v (ps.take i).flatten ∧
    wx.ownsRow w.heap.size 5 1 (.slice Ao (ps.take i).flatten.length co) (ps.take i).flatten.length ((ps.take i).flatten.map u8v) ∧ Apart4 gs gc v (.slice Ao (ps.take i).flatten.length co) ∧ Below w.heap.size w wx)
  case atStart => exact ⟨0, _, none, 0, Nat.zero_le _, rfl, rfl, rfl, HS2.out, World.ownsRow_nil _ _ _ _, fun g hg => by simp [Value.ownBlock] at hg, HB2.out⟩
  case round =>
    obtain ⟨i, v, Ao, co, hi, rfl, rfl, rfl, hs, ho, had, hb⟩ := hrel
    clear HS2 HB2
    obtain ⟨m, hm⟩ : ∃ m, m = (ps.take i).flatten := ⟨_, rfl⟩
    rw [← hm] at hs ho had
    rw [← hm]
    have hml : m.length ≤ 140737488353000 := by rw [hm]; exact Nat.le_trans (flat_take_le ps i) HL.out
    obtain ⟨k, hk⟩ : ∃ k, k = m.length := ⟨_, rfl⟩
    rw [← hk] at ho had hml
    rw [← hk]
    have HM := Lib.hid hm
    have HK := Lib.hid hk
    have HS := Lib.hid hs
    have HO := Lib.hid ho
    have HAD := Lib.hid had
    have HB := Lib.hid hb
    clear hs ho had hk
    by_cases hgo : i < n ∧ i < 12
    · obtain ⟨hi2, hi12⟩ := hgo
      have hii : (i : Int) < (n : Int) := by omega
      have hij : (i : Int) < 12 := by omega
      obtain ⟨g, o, Ai, ci, hA, hg, hcell, hsl⟩ := HP.out.at_ (i := i) (by rw [← HN.out]; exact hi2)
      subst hA
      have htf := take_flat ps i (by rw [← HN.out]; exact hi2)
      have hle := flat_take_le ps (i + 1)
      obtain ⟨b, hbb⟩ : ∃ b, b = ps.getD i [] := ⟨_, rfl⟩
      rw [← hbb] at hcell hsl
      rw [← hbb, ← hm] at htf
      rw [htf, List.length_append] at hle
      have hcell1 : wr.cell? ⟨g, o + i, none⟩ = some (.slice Ai b.length ci) := (hb.cell (p := ⟨g, o + i, none⟩) hg).trans hcell
      have hle2 : k + b.length ≤ 140737488353000 := by have := HL.out; have := HK.out; omega
      have HADD := Lib.hid (add_s HS.out hsl HB.out (Nat.le_refl _) HGS.out HGC.out HB.out.size)
      have HTF := Lib.hid htf
      have HSL := Lib.hid hsl
      have HCE := Lib.hid hcell
      have HG := Lib.hid hg
      clear htf hle hbb hsl hcell hm hb
      go_upto_region 9 with (first
        | (go_at_call 26
           refine HADD.out.mono ?_
           rintro e0 w3 ⟨rfl, ⟨v3, hs3, hv3⟩, hsv3, hb3⟩
           have HO3 : Hid (w3.ownsRow w.heap.size 5 1 (.slice Ao k co) k (m.map u8v)) := hsv3.own HO.out (fun g hg hM => by
             obtain ⟨a1, a2, a3⟩ := HAD.out g hg
             rcases hM with h | h | h
             · exact a2 h
             · exact a3 h
             · exact a1 h)
           have HAD3 : Hid (Apart4 gs gc v3 (.slice Ao k co)) := fun g hg => by
             obtain ⟨a1, a2, a3⟩ := HAD.out g hg
             refine ⟨fun e => ?_, a2, a3⟩
             rcases hv3 with h | h
             · exact a1 (by rw [← h]; exact e)
             · have h1 := h g e
               have h2 := (HO.out.lt g hg).2
               omega
           have HS3 := Lib.hid hs3
           have HB3 := Lib.hid hb3
           clear hs3 hv3 hsv3 hb3))
      clear hcell1 HADD
      have hcell3 : w3.cell? ⟨g, o + i, none⟩ = some (.slice Ai b.length ci) := (HB3.out.cell (p := ⟨g, o + i, none⟩) HG.out).trans HCE.out
      have HRD : Hid (Reads w3 w3.heap.size 1 Ai b.length (b.map u8v)) := (HSL.out.below HB3.out).rd
      go_upto_region 10 with
       (at_builtin
        refine wpList_append_any _ rfl (.tmp 29) (.tmp 33) _ rfl w.heap.size 5 i5 _ 1 1 Try.underlying27 hi5 hz0 hz1 hz2 rfl (by omega) (.slice Ao k co) k (m.map u8v) rfl HO3.out
          _ Ai b.length ci (b.map u8v) rfl HRD.out (u8_one b) (by simp only [maxLen]; omega) (by omega) HB3.out.size ?_
        intro v5 w5 hown5 hg5 hv5
        obtain ⟨A5, c5, rfl⟩ := own_slice hown5
        have hsv5 : Sv (fun k' => (Value.slice Ao k co).ownBlock = some k') w3 w5 := (Sv.refl _ _).grown hg5 (fun g e => .inl e)
        have hgs5 : ¬ (Value.slice Ao k co).ownBlock = some gs := fun e => (HAD3.out gs e).2.1 rfl
        have hgc5 : ¬ (Value.slice Ao k co).ownBlock = some gc := fun e => (HAD3.out gc e).2.2 rfl
        have HS5 : Hid (StrV w5 w.heap.size gs gc v3 (m ++ b)) := HS3.out.keep hsv5 hgs5 (fun g hg e => (HAD3.out g e).1 hg) (HS3.out.2.2.same (hg5.block gc HS3.out.2.2.lt (fun e => hgc5 e.symm)))
        have HAD5 : Hid (Apart4 gs gc v3 (.slice A5 (k + b.length) c5)) := fun g hg => by
          rcases hv5 with h | h
          · exact HAD3.out g (by rw [← h]; exact hg)
          · rw [h] at hg
            injection hg with hg
            subst hg
            refine ⟨fun e => ?_, fun e => ?_, fun e => ?_⟩
            · have := (HS3.out.2.1.lt _ e).2; omega
            · have := HS3.out.1.lt; omega
            · have := HS3.out.2.2.lt; omega
        have HO5 := Lib.hid hown5
        have HB5 : Hid (Below w.heap.size w w5) := own_grow_below HB3.out HO3.out hg5
        clear hown5 hg5 hv5 hsv5 hgs5 hgc5)
      clear hcell3
      obtain ⟨M, hM⟩ : ∃ M, M = m ++ b := ⟨_, rfl⟩
      obtain ⟨O, hO⟩ : ∃ O, O = shaS M := ⟨_, rfl⟩
      have hOl : O.length = 32 := by rw [hO]; exact shaS_len _
      obtain ⟨q, hq⟩ : ∃ q, q = k + b.length := ⟨_, rfl⟩
      have hqM : M.length = q := by rw [hM, List.length_append, hq, HK.out]
      have HSM : Hid (StrV w5 w.heap.size gs gc v3 M) := by show StrV _ _ _ _ _ _; rw [hM]; exact HS5.out
      have HO9 : Hid (w5.ownsRow w.heap.size 5 1 (.slice A5 q c5) q (M.map u8v)) := by
        show World.ownsRow _ _ _ _ _ _ _
        rw [hq, hM, List.map_append]
        exact HO5.out
      have HAD9 : Hid (Apart4 gs gc v3 (.slice A5 q c5)) := by show Apart4 _ _ _ _; rw [hq]; exact HAD5.out
      have hq2 : q ≤ 140737488353000 := by omega
      rw [← hq]
      have q1 := eq_arr hOl
      have HME : Hid (M = (ps.take (i + 1)).flatten) := by show _ = _; rw [hM, ← HTF.out]
      have HQM := Lib.hid hqM
      have HOE := Lib.hid hO
      clear hM hO hOl hq hqM HS5 HO5 HAD5 hle2
      go_upto_region 11 with (first
        | (go_at_call 27
           refine (sum_s HOE.out HSM.out HB5.out HGC.out).mono ?_
           rintro e0 w6 ⟨rfl, hs6, hsv6, hb6⟩
           have HS6 := Lib.hid hs6
           have HB6 := Lib.hid hb6
           have HO6 : Hid (w6.ownsRow w.heap.size 5 1 (.slice A5 q c5) q (M.map u8v)) := hsv6.own HO9.out (fun g hg e => (HAD9.out g hg).2.2 e)
           have HSH : Hid (Calls Try.prog 23 #[.slice A5 q c5] w6 fun e w' => e = .returned (.agg (O.map u8v).toArray) ∧ Below w6.heap.size w6 w') := by
             have := rsha_c M A5 q c5 w6 (SlV.own (base := w.heap.size) (by unfold ByteRow; rw [HQM.out]; exact HO6.out)) (by omega)
             rw [← HOE.out] at this
             exact this
           clear hs6 hsv6 hb6)
        | (go_at_call 23
           refine HSH.out.mono ?_
           rintro e0 w7 ⟨rfl, hb7⟩
           have HS7 := Lib.hid (HS6.out.below hb7)
           have HO7 := Lib.hid (own_below HO6.out hb7)
           have HB7 : Hid (Below w.heap.size w w7) := bcall HB6.out hb7
           clear hb7))
      go_wp2_with fail
      go_roundg (n - (i + 1))
      case measure => omega
      case rel =>
        refine ⟨i + 1, v3, A5, c5, by omega, rfl, by go_num, by rw [← HME.out, HQM.out], ?_, ?_, ?_, HB7.out⟩
        · rw [← HME.out]; exact HS7.out
        · rw [← HME.out, HQM.out]; exact HO7.out
        · rw [← HME.out, HQM.out]; exact HAD9.out
    · obtain ⟨O, hO⟩ : ∃ O, O = shaS m := ⟨_, rfl⟩
      have hOl : O.length = 32 := by rw [hO]; exact shaS_len _
      have q1 := eq_arr hOl
      have HOE := Lib.hid hO
      clear hO hOl hm hb
      by_cases hi2 : i < n
      · have hii : (i : Int) < (n : Int) := by omega
        have hij : ¬ (i : Int) < 12 := by omega
        clear hgo
        go_wp2_with (first
          | (go_at_call 27
             first
               | ((with_reducible show Calls _ _ _ wr _)
                  refine (sum_s HOE.out HS.out HB.out HGC.out).mono ?_
                  rintro e0 w6 ⟨rfl, hs6, hsv6, hb6⟩
                  have HS6 := Lib.hid hs6
                  have HB6 := Lib.hid hb6
                  clear hs6 hsv6 hb6)
               | ((with_reducible show Calls _ _ _ w6 _)
                  refine (sum_s HOE.out HS6.out HB6.out HGC.out).mono ?_
                  rintro e0 w7 ⟨rfl, hs7, hsv7, hb7⟩
                  have HB7 := Lib.hid hb7
                  clear hs7 hsv7 hb7)))
        go_ret
        exact ⟨rfl, HB7.out⟩
      · have hii : ¬ (i : Int) < (n : Int) := by omega
        clear hgo
        go_wp2_with (first
          | (go_at_call 27
             first
               | ((with_reducible show Calls _ _ _ wr _)
                  refine (sum_s HOE.out HS.out HB.out HGC.out).mono ?_
                  rintro e0 w6 ⟨rfl, hs6, hsv6, hb6⟩
                  have HS6 := Lib.hid hs6
                  have HB6 := Lib.hid hb6
                  clear hs6 hsv6 hb6)
               | ((with_reducible show Calls _ _ _ w6 _)
                  refine (sum_s HOE.out HS6.out HB6.out HGC.out).mono ?_
                  rintro e0 w7 ⟨rfl, hs7, hsv7, hb7⟩
                  have HB7 := Lib.hid hb7
                  clear hs7 hsv7 hb7)))
        go_ret
        exact ⟨rfl, HB7.out⟩
end Go.Proofs.Ytlapgccfgkokcaa
