/- The law WindowKeeps walked: what did not come and is near the greatest may come. Conditions: none. -/
import Derived.Test.YtahdkdbcdopgjaaOrder
set_option linter.unusedVariables false
namespace Go.Proofs.Ytahdkdbcdopgjaa
open Go.RowKit
attribute [local go_sem ↓] Go.wp_at_zero Go.wp_at_succ

def KRel (B g5 n k : Nat) (v hv : Value) (wr : World) : Prop :=
  ∃ (a : Bool) (h s : Nat) (had : List Nat) (A : Option Addr) (c : Nat), k ≤ n ∧ v = .slice A had.length c ∧ hv = .int .u64 h ∧ wr.ownsRow B 23 1 v had.length (vals had) ∧ Blk wr g5 25 #[.bool a, .int .u64 h, .int .u64 s] ∧ Inv a h s had ∧ had.length ≤ k
set_option maxHeartbeats 3200000 in
theorem keeps_walk (A : Option Addr) (n c x : Nat) (l : List Nat) (w : World) (hx : x < 18446744073709551616) (hr : Reads w w.heap.size 1 A n (vals l)) (hn : l.length = n) (hlb : ∀ y ∈ l, y < 18446744073709551616) (hbig : n ≤ 140737488351232) :
    Calls Try.prog 6 #[.slice A n c, .int .u64 x] w fun e0 w' => e0 = .returned (.bool true) ∧ Below w.heap.size w w' := by
  obtain ⟨i0, hi, hz0, hz1, hz2⟩ := info_parts info23
  have k0 := Below.refl w.heap.size w
  have HR := Lib.hid hr
  have HN := Lib.hid hn
  have HLB := Lib.hid hlb
  clear hr hn hlb
  go_enter Try.func6, Try.ntmps6
  go_wp2_with fail
  refine (awake_c _).mono ?_
  rintro e0 w1 ⟨rfl, hb1⟩
  have k1 := bcall k0 hb1
  have hz1' := hb1.size
  have b5 := Blk.new w1 25 #[.bool false, .int .u64 0, .int .u64 0]
  have k2 := balloc k1 (Obj.cells #[.bool false, .int .u64 0, .int .u64 0] 25)
  go_wp2_with fail
  go_loopg [6, 7, 8] n (fun g v hv i wr => ∃ k, g = n - k ∧ i = .int .i64 k ∧ KRel w.heap.size w1.heap.size n k v hv wr ∧ Below w.heap.size w wr)
  case atStart => exact ⟨0, by omega, rfl, ⟨false, 0, 0, [], none, 0, Nat.zero_le _, rfl, rfl, World.ownsRow_nil _ _ _ _, b5, Inv.nil, Nat.le_refl _⟩, k2⟩
  case round =>
    obtain ⟨k, rfl, rfl, ⟨a, h, s, had, A', c', hk, rfl, rfl, hown, hb5, hinv, hlen⟩, hbel⟩ := hrel
    have HO := Lib.hid hown
    have HB := Lib.hid hb5
    have HI := Lib.hid hinv
    have hinvb : h < 18446744073709551616 ∧ s < 18446744073709551616 := ⟨hinv.1, hinv.2.1⟩
    have hg5 := hb5.lt
    clear hown hb5 hinv b5 k2 k1 k0 hb1
    by_cases hc1 : k < n ∧ k < 100
    · obtain ⟨hlt, h100⟩ := hc1
      obtain ⟨ad, u, rfl, hadlt, hu, hc⟩ := (HR.out.below hbel).at_ hlt
      have hkl : k < l.length := by rw [HN.out]; exact hlt
      obtain ⟨y, hy, hyb⟩ : ∃ y, y = l[k] ∧ y < 18446744073709551616 := ⟨_, rfl, HLB.out _ (List.getElem_mem hkl)⟩
      rw [vals_get hkl, ← hy] at hu
      simp only [Option.some.injEq] at hu
      subst hu
      clear hy
      have hki : (k : Int) < (n : Int) := by omega
      have hk0 : (0 : Int) ≤ (k : Int) := by omega
      obtain ⟨a', h', s', e, hmk⟩ : ∃ a' h' s' e, markF a h s y = (a', h', s', e) := ⟨_, _, _, _, rfl⟩
      have HM := Lib.hid hmk
      clear hmk
      have hwr := hbel.size
      have keep : ∀ w', Below wr.heap.size wr w' → (w'.cell? ⟨w1.heap.size, 0, none⟩ = some (.bool a) ∧ w'.cell? ⟨w1.heap.size, 1, none⟩ = some (.int .u64 h) ∧ w'.cell? ⟨w1.heap.size, 2, none⟩ = some (.int .u64 s) ∧ w1.heap.size < w'.heap.size) ∧ w'.cell? (ad.add k) = some (.int .u64 y) ∧ Below wr.heap.size wr w' := by
        intro w' hb
        exact ⟨(HB.out.below hb).cell3, (hb.cell (by rw [block_of_add]; omega)).trans hc, hb⟩
      have K := Lib.hid keep
      have kwr := Below.refl wr.heap.size wr
      clear keep
      go_wp2_with fail
      go_cut [9, 10] (fun p9 ev wx => ∃ g9 : Nat, p9 = .pointer (some ⟨g9, 0, none⟩) ∧ ev = .int .i64 e ∧ Blk wx g9 25 #[.bool a', .int .u64 h', .int .u64 s'] ∧ Below wr.heap.size wr wx ∧ wr.heap.size ≤ g9)
      case first =>
        go_region_held3 (fun w' => (w'.cell? ⟨w1.heap.size, 0, none⟩ = some (.bool a) ∧ w'.cell? ⟨w1.heap.size, 1, none⟩ = some (.int .u64 h) ∧ w'.cell? ⟨w1.heap.size, 2, none⟩ = some (.int .u64 s) ∧ w1.heap.size < w'.heap.size) ∧ w'.cell? (ad.add k) = some (.int .u64 y) ∧ Below wr.heap.size wr w')
          (exact K.out _ (by repeat (first | assumption | exact Below.refl _ _ | refine bdrew ?_ | refine balloc ?_ _ | refine bset ?_ (by first | (simp; done) | (simp; omega)) _ | refine bcallr (by assumption) ?_)))
          (first | (go_at_call 9; refine (mark_v HM.out _ hinvb.1 hinvb.2 hyb).mono ?_; rintro e0 wm ⟨rfl, hbm⟩; try (have d9 := (((Blk.new wr 25 #[.bool false, .int .u64 0, .int .u64 0]).drew).below hbm).cell3f)))
        all_goals
          go_wp2_with fail
          go_meet
          first
            | exact ⟨_, rfl, rfl, Blk.new _ _ _, (by repeat (first | assumption | exact Below.refl _ _ | refine bdrew ?_ | refine balloc ?_ _ | refine bset ?_ (by first | (simp; done) | (simp; omega)) _ | refine bcallr (by assumption) ?_)), hbm.size⟩
            | exact ⟨_, rfl, rfl, Blk.set3 ((((Blk.new wr 25 #[.bool false, .int .u64 0, .int .u64 0]).drew).below hbm)), (by repeat (first | assumption | exact Below.refl _ _ | refine bdrew ?_ | refine balloc ?_ _ | refine bset ?_ (by first | (simp; done) | (simp; omega)) _ | refine bcallr (by assumption) ?_)), Nat.le_refl _⟩
      case rest =>
        obtain ⟨g9, rfl, rfl, b9, hbc, hg9⟩ := hcut
        have b5 := HB.out.below hbc
        have own := own_below HO.out hbc
        have hbcw := hbel.trans (hbc.mono hwr)
        have hcc := (hbc.cell (p := ad.add k) (by rw [block_of_add]; omega)).trans hc
        clear K kwr hc
        by_cases hm0 : may a h s y = 0
        · obtain ⟨h2, s2, hmk2, hinv', hmax, _⟩ := inv_mark HI.out y hyb hm0
          have e4 := HM.out.symm.trans hmk2
          simp only [Prod.mk.injEq] at e4
          obtain ⟨rfl, rfl, rfl, rfl⟩ := e4
          have HI' := Lib.hid hinv'
          have HX := Lib.hid hmax
          clear hinv' hmk2 hm0 hmax
          have nc5 := own_blk_ne own b5 (by decide)
          have nc9 := own_blk_ne own b9 (by decide)
          have c9 := b9.cell3
          have hg59 : w1.heap.size < g9 := by omega
          have hg9c := b9.lt
          have hwc := hbcw.size
          have OW := Lib.hid own
          have NC := Lib.hid nc5
          have NC9 := Lib.hid nc9
          have B5 := Lib.hid b5
          have hbcw' := Lib.hid hbcw
          have HBC := Lib.hid hbc
          clear own nc5 nc9 b5 hbcw hbc
          have NCA : Hid ((Value.slice A' had.length c').ownBlock ≠ some ad.block) := by
            intro e
            have := (OW.out.lt _ e).1
            omega
          have hadc : ad.block < wc.heap.size := by omega
          go_wp2_with fail
          have keep2 : ∀ w', Far wc w1.heap.size (Value.slice A' had.length c').ownBlock w' → (w'.cell? ⟨g9, 0, none⟩ = some (.bool true) ∧ w'.cell? ⟨g9, 1, none⟩ = some (.int .u64 h') ∧ w'.cell? ⟨g9, 2, none⟩ = some (.int .u64 s')) ∧ w'.cell? (ad.add k) = some (.int .u64 y) ∧ Far wc w1.heap.size (Value.slice A' had.length c').ownBlock w' :=
            fun w' hf => ⟨⟨(hf.cell _ hg9c (by simp; omega) (Ne.symm NC9.out)).trans c9.1, (hf.cell _ hg9c (by simp; omega) (Ne.symm NC9.out)).trans c9.2.1, (hf.cell _ hg9c (by simp; omega) (Ne.symm NC9.out)).trans c9.2.2.1⟩, (hf.cell _ (by rw [block_of_add]; omega) (by rw [block_of_add]; omega) (by rw [block_of_add]; exact Ne.symm NCA.out)).trans hcc, hf⟩
          have K2 := Lib.hid keep2
          have kf := Far.refl wc w1.heap.size (Value.slice A' had.length c').ownBlock
          clear keep2 NCA
          go_region_held3 (fun w' => (w'.cell? ⟨g9, 0, none⟩ = some (.bool true) ∧ w'.cell? ⟨g9, 1, none⟩ = some (.int .u64 h') ∧ w'.cell? ⟨g9, 2, none⟩ = some (.int .u64 s')) ∧ w'.cell? (ad.add k) = some (.int .u64 y) ∧ Far wc w1.heap.size (Value.slice A' had.length c').ownBlock w')
            (exact K2.out _ (by repeat (first | assumption | refine Far.drew ?_ | refine Far.alloc ?_ _ | refine Far.set_ ?_ _ _ | refine Far.grown (by assumption) ?_)))
            ((refine step_append_lies _ (by rfl) _ _ _ (by rfl) w.heap.size 23 i0 _ 1 8 Try.underlying37 hi hz0 hz1 hz2 rfl (by omega) (.slice A' had.length c') had.length (vals had) (by rfl) ((OW.out.alloc _).drew)
                ⟨wc.heap.size, 0, none⟩ 1 1 [.int .u64 y] (by rfl) (by rfl) (World.news_of_block (cs := #[.int .u64 y]) (t := 23) (fr := (0, 0)) (heap_alloc_new wc _)) (by simp [Value.oneCell'])
                (by omega) (by unfold maxLen; omega) (by omega) (by simp; omega) (wc.heap.size + 1) (by simp) ?_; intro gg cap w3 hown1 hgrow hat hlt3; have d6 := ((((B5.out.alloc (.cells #[.int .u64 y] 23)).drew).grown hgrow (fun e => NC.out e.symm)).cell3f)))
          all_goals
            go_wp2
            go_roundg (n - (k + 1))
            case measure => omega
            case rel =>
              have e1 : had.length + 1 = (had ++ [y]).length := by simp
              have e2 : vals had ++ [.int .u64 (y : Int)] = vals (had ++ [y]) := by simp [vals]
              rw [e2] at hown1
              have b53 := ((B5.out.alloc (.cells #[.int .u64 y] 23)).drew).grown hgrow (fun e => NC.out e.symm)
              have hg5 : gg ≠ w1.heap.size := by
                rcases hat with h0 | h0
                · intro e; rw [e] at h0; exact NC.out h0
                · omega
              have hne : (Value.slice (some ⟨gg, 0, none⟩) (had.length + 1) cap).ownBlock ≠ some w1.heap.size := by simpa [Value.ownBlock] using hg5
              have hrow : ∀ r, (Value.slice A' had.length c').ownBlock = some r → w.heap.size ≤ r := fun r hr => (OW.out.lt r hr).1
              have bw3 : Below w.heap.size w w3 := ((hbcw'.out.alloc hwc _).drew).grown hgrow (by simp; omega) hrow
              refine ⟨k + 1, rfl, by go_num, ⟨true, h', s', had ++ [y], some ⟨gg, 0, none⟩, cap, by omega, by rw [← e1], congrArg (Value.int .u64) (by have := HX.out; omega), ?_, b53.set3, HI'.out, by simp; omega⟩, ?_⟩
              · rw [← e1]
                exact own_set (own_set (own_set hown1 hne _ _) hne _ _) hne _ _
              · exact ((bw3.setCell (by exact hz1') _).setCell (by exact hz1') _).setCell (by exact hz1') _
        · obtain ⟨hmk9, _⟩ := mark_old9 HI.out y hm0
          have e4 := HM.out.symm.trans hmk9
          simp only [Prod.mk.injEq] at e4
          obtain ⟨rfl, rfl, rfl, rfl⟩ := e4
          clear hmk9 hm0
          go_wp2
          go_roundg (n - (k + 1))
          case measure => omega
          case rel => exact ⟨k + 1, rfl, by go_num, ⟨a, h, s, had, A', c', by omega, rfl, rfl, own, b5, HI.out, by omega⟩, hbcw⟩
    · have hend : ¬ (k < n) ∨ ¬ (k < 100) := by omega
      have b5 := HB.out
      have c5 := b5.cell3
      clear HR hc1
      have hm := inv_may HI.out x
      by_cases hemp : had = []
      · subst hemp
        have hI := HI.out.2.2
        rcases hI with ⟨rfl, rfl, rfl, _⟩ | ⟨_, h5, _⟩
        · have HMX := Lib.hid (show may false 0 0 x = 0 by rw [hm]; simp)
          clear hm
          by_cases hlt : k < n
          · have h100 : ¬ k < 100 := by omega
            clear hend
            go_wp2_with fail
            refine (may_v HMX.out _ (by omega) (by omega) hx).mono ?_
            rintro e0 w4 ⟨rfl, hb4⟩
            go_wp2
            go_ret
            exact ⟨rfl, bcall hbel hb4⟩
          · clear hend
            go_wp2_with fail
            refine (may_v HMX.out _ (by omega) (by omega) hx).mono ?_
            rintro e0 w4 ⟨rfl, hb4⟩
            go_wp2
            go_ret
            exact ⟨rfl, bcall hbel hb4⟩
        · simp at h5
      · have hI := HI.out.2.2
        rcases hI with ⟨_, _, _, h4⟩ | ⟨rfl, hin, hle, _⟩
        · exact absurd h4 hemp
        · have hpos : 0 < had.length := List.length_pos_iff.2 hemp
          obtain ⟨m, hmv, hm01⟩ : ∃ m : Int, may true h s x = m ∧ (m = 0 ∨ m = 9) := ⟨_, rfl, by rw [hm]; split <;> simp⟩
          have HMX := Lib.hid hmv
          have hne0 : ((had.length : Int) == 0) = false := by simp only [beq_eq_false_iff_ne]; omega
          have key : (m == 0) = (decide (h < x) || (decide (x ≤ h) && decide (h - x < 64)) && !decide (x ∈ had)) := by
            rw [← hmv, hm]
            by_cases h1 : h < x
            · simp [h1, Nat.not_le.2 h1]
            · by_cases h2 : h - x < 64
              · by_cases h3 : x ∈ had <;> simp [h1, h2, h3, Nat.le_of_not_lt h1]
              · simp [h1, h2, Nat.le_of_not_lt h1]
          have KEY := Lib.hid key
          clear key hmv hm hin hle hemp HI
          have R5 := Reads.of_own HO.out
          have hz5 := b5.lt
          by_cases h1 : h < x
          · have hm' : m = 0 := by
              have := KEY.out
              simp only [h1, decide_true, Bool.true_or, beq_iff_eq] at this
              exact this
            subst hm'
            have hxi : (h : Int) < (x : Int) := by omega
            by_cases hlt : k < n
            all_goals
              first | (have h100 : ¬ k < 100 := by omega) | skip
              clear hend
              go_wp2_with fail
              refine (may_v HMX.out _ hinvb.1 hinvb.2 hx).mono ?_
              rintro e0 w4 ⟨rfl, hb4⟩
              have c54 := (b5.below hb4).cell3
              go_wp2
              go_ret
              exact ⟨rfl, bcall hbel hb4⟩
          · by_cases h2 : h - x < 64
            · have h2i : (h : Int) - (x : Int) < 64 := by omega
              by_cases h3 : x ∈ had
              · have hm' : m = 9 := by
                  have := KEY.out
                  simp only [h1, h2, h3, decide_true, decide_false, Bool.not_true, Bool.and_false, Bool.or_false, beq_eq_false_iff_ne] at this
                  rcases hm01 with h | h
                  · exact absurd h this
                  · exact h
                subst hm'
                have hdt : decide (x ∈ had) = true := by simpa using h3
                by_cases hlt : k < n
                all_goals
                  first | (have h100 : ¬ k < 100 := by omega) | skip
                  clear hend
                  go_wp2_with fail
                  refine (may_v HMX.out _ hinvb.1 hinvb.2 hx).mono ?_
                  rintro e0 w4 ⟨rfl, hb4⟩
                  have c54 := (b5.below hb4).cell3
                  go_wp2_with fail
                  refine (has_c A' had.length c' had x _ ((R5.below hb4).more hb4.size) rfl (by omega)).mono ?_
                  rintro e0 w5 ⟨rfl, rfl⟩
                  go_wp2
                  go_ret
                  exact ⟨rfl, bcall hbel hb4⟩
              · have hm' : m = 0 := by
                  have := KEY.out
                  have hle : x ≤ h := by omega
                  simp only [h1, h2, h3, hle, decide_true, decide_false, Bool.not_false, Bool.and_true, Bool.false_or, beq_iff_eq] at this
                  exact this
                subst hm'
                have hdt : decide (x ∈ had) = false := by simpa using h3
                by_cases hlt : k < n
                all_goals
                  first | (have h100 : ¬ k < 100 := by omega) | skip
                  clear hend
                  go_wp2_with fail
                  refine (may_v HMX.out _ hinvb.1 hinvb.2 hx).mono ?_
                  rintro e0 w4 ⟨rfl, hb4⟩
                  have c54 := (b5.below hb4).cell3
                  go_wp2_with fail
                  refine (has_c A' had.length c' had x _ ((R5.below hb4).more hb4.size) rfl (by omega)).mono ?_
                  rintro e0 w5 ⟨rfl, rfl⟩
                  go_wp2
                  go_ret
                  exact ⟨rfl, bcall hbel hb4⟩
            · have h2i : (64 : Int) ≤ (h : Int) - (x : Int) := by omega
              have hm' : m = 9 := by
                have := KEY.out
                simp only [h1, h2, decide_false, Bool.and_false, Bool.false_and, Bool.or_false, beq_eq_false_iff_ne] at this
                rcases hm01 with h | h
                · exact absurd h this
                · exact h
              subst hm'
              by_cases hlt : k < n
              all_goals
                first | (have h100 : ¬ k < 100 := by omega) | skip
                clear hend
                go_wp2_with fail
                refine (may_v HMX.out _ hinvb.1 hinvb.2 hx).mono ?_
                rintro e0 w4 ⟨rfl, hb4⟩
                have c54 := (b5.below hb4).cell3
                go_wp2
                go_ret
                exact ⟨rfl, bcall hbel hb4⟩
end Go.Proofs.Ytahdkdbcdopgjaa
