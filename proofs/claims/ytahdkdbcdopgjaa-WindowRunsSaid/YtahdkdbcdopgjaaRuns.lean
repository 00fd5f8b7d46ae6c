/- The law WindowRuns walked: each number is marked at most once. Conditions: none. -/
import Derived.Test.YtahdkdbcdopgjaaOrder
set_option linter.unusedVariables false
namespace Go.Proofs.Ytahdkdbcdopgjaa
open Go.RowKit
attribute [local go_sem ↓] Go.wp_at_zero Go.wp_at_succ

def RRel (B g5 n k : Nat) (v : Value) (wr : World) : Prop :=
  ∃ (a : Bool) (h s : Nat) (had : List Nat) (A : Option Addr) (c : Nat), k ≤ n ∧ v = .slice A had.length c ∧ wr.ownsRow B 23 1 v had.length (vals had) ∧ Blk wr g5 25 #[.bool a, .int .u64 h, .int .u64 s] ∧ Inv a h s had ∧ had.length ≤ k ∧ (∀ y ∈ had, y < 18446744073709551616)
set_option maxRecDepth 100000 in
set_option maxHeartbeats 6400000 in
theorem runs_walk (A : Option Addr) (n c : Nat) (l : List Nat) (w : World) (hr : Reads w w.heap.size 1 A n (vals l)) (hn : l.length = n) (hlb : ∀ y ∈ l, y < 18446744073709551616) (hbig : n ≤ 140737488351232) :
    Calls Try.prog 5 #[.slice A n c] w fun e0 w' => e0 = .returned (.bool true) ∧ Below w.heap.size w w' := by
  obtain ⟨i0, hi, hz0, hz1, hz2⟩ := info_parts info23
  have k0 := Below.refl w.heap.size w
  have HR := Lib.hid hr
  have HN := Lib.hid hn
  have HLB := Lib.hid hlb
  clear hr hn hlb
  go_enter Try.func5, Try.ntmps5
  go_wp2_with fail
  refine (awake_c _).mono ?_
  rintro e0 w1 ⟨rfl, hb1⟩
  have k1 := bcall k0 hb1
  have hz1' := hb1.size
  have b3 := Blk.new w1 25 #[.bool false, .int .u64 0, .int .u64 0]
  have k2 := balloc k1 (Obj.cells #[.bool false, .int .u64 0, .int .u64 0] 25)
  go_wp2_with fail
  go_loopg [4, 5] n (fun g v i wr => ∃ k, g = n - k ∧ i = .int .i64 k ∧ RRel w.heap.size w1.heap.size n k v wr ∧ Below w.heap.size w wr)
  case atStart => exact ⟨0, by omega, rfl, ⟨false, 0, 0, [], none, 0, Nat.zero_le _, rfl, World.ownsRow_nil _ _ _ _, b3, Inv.nil, Nat.le_refl _, by simp⟩, k2⟩
  case round =>
    obtain ⟨k, rfl, rfl, ⟨a, h, s, had, A', c', hk, rfl, hown, hb3, hinv, hlen, hall⟩, hbel⟩ := hrel
    have HO := Lib.hid hown
    have HB := Lib.hid hb3
    have HI := Lib.hid hinv
    have HALL := Lib.hid hall
    have hinvb : h < 18446744073709551616 ∧ s < 18446744073709551616 := ⟨hinv.1, hinv.2.1⟩
    have hg3 := hb3.lt
    clear hown hb3 hinv b3 k2 k1 k0 hb1 hall
    by_cases hc1 : k < n ∧ k < 200
    · obtain ⟨hlt, h100⟩ := hc1
      obtain ⟨ad, u, rfl, hadlt, hu, hc⟩ := (HR.out.below hbel).at_ hlt
      have hkl : k < l.length := by rw [HN.out]; exact hlt
      obtain ⟨y, hy, hyb⟩ : ∃ y, y = l[k] ∧ y < 18446744073709551616 := ⟨_, rfl, HLB.out _ (List.getElem_mem hkl)⟩
      rw [vals_get hkl, ← hy] at hu
      simp only [Option.some.injEq] at hu
      subst hu
      clear hy
      have hki : (k : Int) < (n : Int) := by omega
      have hk0 : (0 : Int) ≤ (k : Int) := by omega
      obtain ⟨a', h', s', e, hmk⟩ : ∃ a' h' s' e, markF a h s y = (a', h', s', e) := ⟨_, _, _, _, rfl⟩
      have HM := Lib.hid hmk
      clear hmk
      have hwr := hbel.size
      have keep : ∀ w', Below wr.heap.size wr w' → (w'.cell? ⟨w1.heap.size, 0, none⟩ = some (.bool a) ∧ w'.cell? ⟨w1.heap.size, 1, none⟩ = some (.int .u64 h) ∧ w'.cell? ⟨w1.heap.size, 2, none⟩ = some (.int .u64 s) ∧ w1.heap.size < w'.heap.size) ∧ w'.cell? (ad.add k) = some (.int .u64 y) ∧ Below wr.heap.size wr w' := by
        intro w' hb
        exact ⟨(HB.out.below hb).cell3, (hb.cell (by rw [block_of_add]; omega)).trans hc, hb⟩
      have K := Lib.hid keep
      have kwr := Below.refl wr.heap.size wr
      clear keep
      go_wp2_with fail
      go_cut [6, 7] (fun p9 ev wx => ∃ g9 : Nat, p9 = .pointer (some ⟨g9, 0, none⟩) ∧ ev = .int .i64 e ∧ Blk wx g9 25 #[.bool a', .int .u64 h', .int .u64 s'] ∧ Below wr.heap.size wr wx ∧ wr.heap.size ≤ g9)
      case first =>
        go_region_held3 (fun w' => (w'.cell? ⟨w1.heap.size, 0, none⟩ = some (.bool a) ∧ w'.cell? ⟨w1.heap.size, 1, none⟩ = some (.int .u64 h) ∧ w'.cell? ⟨w1.heap.size, 2, none⟩ = some (.int .u64 s) ∧ w1.heap.size < w'.heap.size) ∧ w'.cell? (ad.add k) = some (.int .u64 y) ∧ Below wr.heap.size wr w')
          (exact K.out _ (by repeat (first | assumption | exact Below.refl _ _ | refine bdrew ?_ | refine balloc ?_ _ | refine bset ?_ (by first | (simp; done) | (simp; omega)) _ | refine bcallr (by assumption) ?_)))
          (first | (go_at_call 9; refine (mark_v HM.out _ hinvb.1 hinvb.2 hyb).mono ?_; rintro e0 wm ⟨rfl, hbm⟩; try (have d9 := (((Blk.new wr 25 #[.bool false, .int .u64 0, .int .u64 0]).drew).below hbm).cell3f)))
        all_goals
          go_wp2_with fail
          go_meet
          first
            | exact ⟨_, rfl, rfl, Blk.new _ _ _, (by repeat (first | assumption | exact Below.refl _ _ | refine bdrew ?_ | refine balloc ?_ _ | refine bset ?_ (by first | (simp; done) | (simp; omega)) _ | refine bcallr (by assumption) ?_)), hbm.size⟩
            | exact ⟨_, rfl, rfl, Blk.set3 ((((Blk.new wr 25 #[.bool false, .int .u64 0, .int .u64 0]).drew).below hbm)), (by repeat (first | assumption | exact Below.refl _ _ | refine bdrew ?_ | refine balloc ?_ _ | refine bset ?_ (by first | (simp; done) | (simp; omega)) _ | refine bcallr (by assumption) ?_)), Nat.le_refl _⟩
      case rest =>
        obtain ⟨g9, rfl, rfl, b9, hbc, hg9⟩ := hcut
        have b3 := HB.out.below hbc
        have own := own_below HO.out hbc
        have hbcw := hbel.trans (hbc.mono hwr)
        have hcc := (hbc.cell (p := ad.add k) (by rw [block_of_add]; omega)).trans hc
        clear K kwr hc
        by_cases hm0 : may a h s y = 0
        · obtain ⟨h2, s2, hmk2, hinv', hmax, hnot⟩ := inv_mark HI.out y hyb hm0
          have e4 := HM.out.symm.trans hmk2
          simp only [Prod.mk.injEq] at e4
          obtain ⟨rfl, rfl, rfl, rfl⟩ := e4
          have hnin : y ∉ had := by
            intro hin
            have hI := HI.out.2.2
            rcases hI with ⟨_, _, _, h4⟩ | ⟨h1, _, _, _⟩
            · rw [h4] at hin; simp at hin
            · exact hnot h1 hin
          have hdt : decide (y ∈ had) = false := by simpa using hnin
          have hg' := inv_good hinv'
          have hm' : may true h' s' y = 9 := by
            rw [inv_may hinv' y]
            exact if_pos ⟨rfl, by omega, .inr (by simp)⟩
          have hb' : h' < 18446744073709551616 ∧ s' < 18446744073709551616 := ⟨hinv'.1, hinv'.2.1⟩
          have HI' := Lib.hid hinv'
          have HG' := Lib.hid hg'
          have HM' := Lib.hid hm'
          clear hinv' hmk2 hm0 hmax hnot hnin hg' hm'
          have kwc := Below.refl wc.heap.size wc
          have hadc : ad.block < wc.heap.size := by have := hbc.size; omega
          have keep1 : ∀ w', Below wc.heap.size wc w' → (w'.cell? ⟨g9, 0, none⟩ = some (.bool true) ∧ w'.cell? ⟨g9, 1, none⟩ = some (.int .u64 h') ∧ w'.cell? ⟨g9, 2, none⟩ = some (.int .u64 s') ∧ g9 < w'.heap.size) ∧ w'.cell? (ad.add k) = some (.int .u64 y) ∧ Below wc.heap.size wc w' :=
            fun w' hb => ⟨(b9.below hb).cell3, (hb.cell (by rw [block_of_add]; omega)).trans hcc, hb⟩
          have K1 := Lib.hid keep1
          have RO := Reads.of_own own
          clear keep1
          go_wp2_with fail
          go_region_held3 (fun w' => (w'.cell? ⟨g9, 0, none⟩ = some (.bool true) ∧ w'.cell? ⟨g9, 1, none⟩ = some (.int .u64 h') ∧ w'.cell? ⟨g9, 2, none⟩ = some (.int .u64 s') ∧ g9 < w'.heap.size) ∧ w'.cell? (ad.add k) = some (.int .u64 y) ∧ Below wc.heap.size wc w')
            (exact K1.out _ (by repeat (first | assumption | exact Below.refl _ _ | refine bdrew ?_ | refine balloc ?_ _ | refine bset ?_ (by first | (simp; done) | (simp; omega)) _ | refine bcallr (by assumption) ?_)))
            (first
              | (go_at_call 11; refine (good_v HG'.out _ hb'.1 hb'.2).mono ?_; rintro e0 w' ⟨rfl, hb⟩)
              | (go_at_call 10; refine (may_v HM'.out _ hb'.1 hb'.2 hyb).mono ?_; rintro e0 w' ⟨rfl, hb⟩)
              | (go_at_call 15; refine (has_c A' had.length c' had y _ ((RO.below (by repeat (first | assumption | exact Below.refl _ _ | refine bdrew ?_ | refine balloc ?_ _ | refine bset ?_ (by first | (simp; done) | (simp; omega)) _ | refine bcallr (by assumption) ?_))).more (Below.size (by repeat (first | assumption | exact Below.refl _ _ | refine bdrew ?_ | refine balloc ?_ _ | refine bset ?_ (by first | (simp; done) | (simp; omega)) _ | refine bcallr (by assumption) ?_)))) rfl (by omega)).mono ?_; rintro e0 w' ⟨rfl, rfl⟩))
          have kd : Below wc.heap.size wc w' := (by repeat (first | assumption | exact Below.refl _ _ | refine bdrew ?_ | refine balloc ?_ _ | refine bset ?_ (by first | (simp; done) | (simp; omega)) _ | refine bcallr (by assumption) ?_))
          replace b9 := b9.below kd
          replace b3 := b3.below kd
          replace own := own_below own kd
          replace hbcw := hbcw.trans (kd.mono hbcw.size)
          replace hcc := (kd.cell (p := ad.add k) (by rw [block_of_add]; omega)).trans hcc
          replace hadc := Nat.lt_of_lt_of_le hadc kd.size
          generalize w' = wd at *
          clear K1 RO kwc kd HB HO hbc hbel
          have nc3 := own_blk_ne own b3 (by decide)
          have nc9 := own_blk_ne own b9 (by decide)
          have c9 := b9.cell3
          have hg39 : w1.heap.size < g9 := by omega
          have hg9c := b9.lt
          have hwc := hbcw.size
          have OW := Lib.hid own
          have NC := Lib.hid nc3
          have NC9 := Lib.hid nc9
          have B3 := Lib.hid b3
          have hbcw' := Lib.hid hbcw
          have NCA : Hid ((Value.slice A' had.length c').ownBlock ≠ some ad.block) := by
            intro e
            have := (OW.out.lt _ e).1
            omega
          clear own nc3 nc9 b3 hbcw
          have keep2 : ∀ w'', Far wd w1.heap.size (Value.slice A' had.length c').ownBlock w'' → (w''.cell? ⟨g9, 0, none⟩ = some (.bool true) ∧ w''.cell? ⟨g9, 1, none⟩ = some (.int .u64 h') ∧ w''.cell? ⟨g9, 2, none⟩ = some (.int .u64 s')) ∧ w''.cell? (ad.add k) = some (.int .u64 y) ∧ Far wd w1.heap.size (Value.slice A' had.length c').ownBlock w'' :=
            fun w'' hf => ⟨⟨(hf.cell _ hg9c (by simp; omega) (Ne.symm NC9.out)).trans c9.1, (hf.cell _ hg9c (by simp; omega) (Ne.symm NC9.out)).trans c9.2.1, (hf.cell _ hg9c (by simp; omega) (Ne.symm NC9.out)).trans c9.2.2.1⟩, (hf.cell _ (by rw [block_of_add]; omega) (by rw [block_of_add]; omega) (by rw [block_of_add]; exact Ne.symm NCA.out)).trans hcc, hf⟩
          have K2 := Lib.hid keep2
          have kf := Far.refl wd w1.heap.size (Value.slice A' had.length c').ownBlock
          clear keep2 NCA
          go_wp2_with fail
          go_region_held3 (fun w'' => (w''.cell? ⟨g9, 0, none⟩ = some (.bool true) ∧ w''.cell? ⟨g9, 1, none⟩ = some (.int .u64 h') ∧ w''.cell? ⟨g9, 2, none⟩ = some (.int .u64 s')) ∧ w''.cell? (ad.add k) = some (.int .u64 y) ∧ Far wd w1.heap.size (Value.slice A' had.length c').ownBlock w'')
            (exact K2.out _ (by repeat (first | assumption | refine Far.drew ?_ | refine Far.alloc ?_ _ | refine Far.set_ ?_ _ _ | refine Far.grown (by assumption) ?_)))
            ((refine step_append_lies _ (by rfl) _ _ _ (by rfl) w.heap.size 23 i0 _ 1 8 Try.underlying37 hi hz0 hz1 hz2 rfl (by omega) (.slice A' had.length c') had.length (vals had) (by rfl) ((OW.out.alloc _).drew)
                ⟨wd.heap.size, 0, none⟩ 1 1 [.int .u64 y] (by rfl) (by rfl) (World.news_of_block (cs := #[.int .u64 y]) (t := 23) (fr := (0, 0)) (heap_alloc_new wd _)) (by simp [Value.oneCell'])
                (by omega) (by unfold maxLen; omega) (by omega) (by simp; omega) (wd.heap.size + 1) (by simp) ?_; intro gg cap w3 hown1 hgrow hat hlt3; have d6 := ((((B3.out.alloc (.cells #[.int .u64 y] 23)).drew).grown hgrow (fun e => NC.out e.symm)).cell3f)))
          all_goals
            go_wp2
            go_roundg (n - (k + 1))
            case measure => omega
            case rel =>
              have e1 : had.length + 1 = (had ++ [y]).length := by simp
              have e2 : vals had ++ [.int .u64 (y : Int)] = vals (had ++ [y]) := by simp [vals]
              rw [e2] at hown1
              have b33 := ((B3.out.alloc (.cells #[.int .u64 y] 23)).drew).grown hgrow (fun e => NC.out e.symm)
              have hg3' : gg ≠ w1.heap.size := by
                rcases hat with h0 | h0
                · intro e; rw [e] at h0; exact NC.out h0
                · omega
              have hne : (Value.slice (some ⟨gg, 0, none⟩) (had.length + 1) cap).ownBlock ≠ some w1.heap.size := by simpa [Value.ownBlock] using hg3'
              have hrow : ∀ r, (Value.slice A' had.length c').ownBlock = some r → w.heap.size ≤ r := fun r hr => (OW.out.lt r hr).1
              have bw3 : Below w.heap.size w w3 := ((hbcw'.out.alloc hwc _).drew).grown hgrow (by simp; omega) hrow
              refine ⟨k + 1, rfl, by go_num, ⟨true, h', s', had ++ [y], some ⟨gg, 0, none⟩, cap, by omega, by rw [← e1], ?_, b33.set3, HI'.out, by simp; omega, ?_⟩, ?_⟩
              · rw [← e1]
                exact own_set (own_set (own_set hown1 hne _ _) hne _ _) hne _ _
              · intro z hz
                rcases List.mem_append.1 hz with hz | hz
                · exact HALL.out z hz
                · simp only [List.mem_singleton] at hz; subst hz; exact hyb
              · exact ((bw3.setCell (by exact hz1') _).setCell (by exact hz1') _).setCell (by exact hz1') _
        · obtain ⟨hmk9, _⟩ := mark_old9 HI.out y hm0
          have e4 := HM.out.symm.trans hmk9
          simp only [Prod.mk.injEq] at e4
          obtain ⟨rfl, rfl, rfl, rfl⟩ := e4
          clear hmk9 hm0
          have c9 := b9.cell3
          go_wp2
          go_roundg (n - (k + 1))
          case measure => omega
          case rel => exact ⟨k + 1, rfl, by go_num, ⟨a, h, s, had, A', c', by omega, rfl, own, b3, HI.out, by omega, HALL.out⟩, hbcw⟩
    · have hend : ¬ (k < n) ∨ ¬ (k < 200) := by omega
      obtain ⟨wo, rfl⟩ : ∃ wo : World, wo = wr := ⟨_, rfl⟩
      have b3 := HB.out
      have own := HO.out
      clear HR hc1
      by_cases hlt : k < n
      all_goals
        first | (have h100 : ¬ k < 200 := by omega) | skip
        clear hend
        go_wp2_with fail
        go_loopg [8] had.length (fun g i wr2 => ∃ j : Nat, j ≤ had.length ∧ g = had.length - j ∧ i = .int .i64 j ∧ Below wo.heap.size wo wr2)
        case atStart => exact ⟨0, by omega, by omega, rfl, Below.refl _ _⟩
        case round =>
          obtain ⟨j, hj, rfl, rfl, hb2⟩ := hrel
          have b32 := b3.below hb2
          have c32 := b32.cell3
          by_cases hjl : j < had.length
          · obtain ⟨ad2, u, rfl, had2lt, hu, hc2⟩ := (Reads.of_own own).at_ hjl
            obtain ⟨z, hz, hzm⟩ : ∃ z, z = had[j] ∧ z ∈ had := ⟨_, rfl, List.getElem_mem hjl⟩
            rw [vals_get hjl, ← hz] at hu
            simp only [Option.some.injEq] at hu
            subst hu
            clear hz
            have hzb := HALL.out z hzm
            have hI := HI.out.2.2
            rcases hI with ⟨_, _, _, h4⟩ | ⟨rfl, _, hle, _⟩
            · rw [h4] at hzm; simp at hzm
            · have hzh := hle z hzm
              have hm9 : may true h s z = 9 := by
                rw [inv_may HI.out z]
                exact if_pos ⟨rfl, hzh, .inr hzm⟩
              have HM9 := Lib.hid hm9
              have hji : (j : Int) < (had.length : Int) := by omega
              have hj0 : (0 : Int) ≤ (j : Int) := by omega
              have hzi : decide ((h : Int) < (z : Int)) = false := by simp; omega
              have c2' := (hb2.cell (p := ad2.add j) (by rw [block_of_add]; exact had2lt)).trans hc2
              have keep3 : ∀ w'', Below wo.heap.size wo w'' → (w''.cell? ⟨w1.heap.size, 0, none⟩ = some (.bool true) ∧ w''.cell? ⟨w1.heap.size, 1, none⟩ = some (.int .u64 h) ∧ w''.cell? ⟨w1.heap.size, 2, none⟩ = some (.int .u64 s) ∧ w1.heap.size < w''.heap.size) ∧ w''.cell? (ad2.add j) = some (.int .u64 z) ∧ Below wo.heap.size wo w'' :=
                fun w'' hb => ⟨(b3.below hb).cell3, (hb.cell (p := ad2.add j) (by rw [block_of_add]; exact had2lt)).trans hc2, hb⟩
              have K3 := Lib.hid keep3
              clear keep3 hm9 hle hzm c32
              go_wp2_with fail
              go_region_held3 (fun w'' => (w''.cell? ⟨w1.heap.size, 0, none⟩ = some (.bool true) ∧ w''.cell? ⟨w1.heap.size, 1, none⟩ = some (.int .u64 h) ∧ w''.cell? ⟨w1.heap.size, 2, none⟩ = some (.int .u64 s) ∧ w1.heap.size < w''.heap.size) ∧ w''.cell? (ad2.add j) = some (.int .u64 z) ∧ Below wo.heap.size wo w'')
                (exact K3.out _ (by repeat (first | assumption | exact Below.refl _ _ | refine bdrew ?_ | refine balloc ?_ _ | refine bset ?_ (by first | (simp; done) | (simp; omega)) _ | refine bcallr (by assumption) ?_)))
                (first | (go_at_call 10; refine (may_v HM9.out _ hinvb.1 hinvb.2 hzb).mono ?_; rintro e0 w'' ⟨rfl, hb⟩))
              all_goals
                go_wp2
                go_roundg (had.length - (j + 1))
                case measure => omega
                case rel => exact ⟨j + 1, by omega, rfl, by go_num, (by repeat (first | assumption | exact Below.refl _ _ | refine bdrew ?_ | refine balloc ?_ _ | refine bset ?_ (by first | (simp; done) | (simp; omega)) _ | refine bcallr (by assumption) ?_))⟩
          · have hjn : j = had.length := by omega
            subst hjn
            have hI := HI.out.2.2
            have hab : Hid (a = decide (0 < had.length)) := by
              show a = decide (0 < had.length)
              rcases hI with ⟨rfl, _, _, h4⟩ | ⟨rfl, h5, _⟩
              · rw [h4]; rfl
              · have := List.length_pos_iff.2 (List.ne_nil_of_mem h5)
                simp only [this, decide_true]
            clear hI
            go_wp2
            go_ret
            exact ⟨by simp; exact hab.out, hbel.trans (hb2.mono hbel.size)⟩
end Go.Proofs.Ytahdkdbcdopgjaa
