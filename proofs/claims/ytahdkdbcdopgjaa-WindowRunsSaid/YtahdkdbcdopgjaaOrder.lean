/- The law WindowOrder walked: numbers less than sixty-four apart are all taken. Conditions: none. -/
import Derived.Test.YtahdkdbcdopgjaaPlain
import Derived.Test.YtahdkdbcdopgjaaLaw
set_option linter.unusedVariables false
namespace Go.Proofs.Ytahdkdbcdopgjaa
open Go.RowKit
attribute [local go_sem ↓] Go.wp_at_zero Go.wp_at_succ

def vals (l : List Nat) : List Value := l.map fun (y : Nat) => Value.int .u64 (y : Int)
theorem vals_get {l : List Nat} {k : Nat} (h : k < l.length) : (vals l)[k]? = some (.int .u64 (l[k] : Nat)) := by simp [vals, h]
theorem has_c (A : Option Addr) (n c : Nat) (l : List Nat) (x : Nat) (w : World) (hr : Reads w w.heap.size 1 A n (vals l)) (hn : l.length = n) (hbig : n ≤ 4611686018427387904) :
    Calls Try.prog 15 #[.slice A n c, .int .u64 x] w fun e w' => e = .returned (.bool (decide (x ∈ l))) ∧ w = w' := by
  go_enter Try.func15, Try.ntmps15
  go_wp2
  go_loop [5] (fun i => ∃ k : Nat, k ≤ n ∧ i = .int .i64 k ∧ ∀ j y, j < k → l[j]? = some y → y ≠ x) (fun i => n - (intOf i).toNat)
  case atStart => exact ⟨0, Nat.zero_le _, rfl, fun j y h => absurd h (by omega)⟩
  case round =>
    obtain ⟨k, hk, rfl, hno⟩ := hrel
    by_cases hlt : k < n
    · obtain ⟨ad, u, rfl, _, hu, hc⟩ := hr.at_ hlt
      rw [vals_get (by omega)] at hu
      simp only [Option.some.injEq] at hu
      subst hu
      have hkl : k < l.length := by omega
      obtain ⟨y, hy⟩ : ∃ y, y = l[k] := ⟨_, rfl⟩
      rw [← hy] at hc
      have HY := Lib.hid hy
      have HN := Lib.hid hno
      have HR := Lib.hid hr
      have HL := Lib.hid hn
      clear hy hno hr hn
      by_cases he : y = x
      · subst he
        go_wp2
        go_ret
        exact ⟨ret_bool (by symm; rw [decide_eq_true_eq, HY.out]; exact List.getElem_mem hkl), rfl⟩
      · have hb : ((y : Int) == (x : Int)) = false := by simp only [beq_eq_false_iff_ne]; omega
        go_wp2
        go_round
        case rel =>
          refine ⟨k + 1, by omega, by go_num, fun j z hj hz => ?_⟩
          rcases Nat.lt_or_ge j k with h | h
          · exact HN.out j z h hz
          · obtain rfl : j = k := by omega
            rw [List.getElem?_eq_getElem hkl] at hz
            simp only [Option.some.injEq] at hz
            rw [← hz, ← HY.out]
            exact he
        case measure => simp [intOf]; omega
    · have hkn : k = n := by omega
      subst hkn
      go_wp2
      go_ret
      refine ⟨ret_bool ?_, rfl⟩
      symm
      rw [decide_eq_false_iff_not]
      intro hm
      obtain ⟨j, hj, he⟩ := List.getElem_of_mem hm
      exact hno j x (by omega) (by rw [List.getElem?_eq_getElem hj, he]) rfl

theorem own_blk_ne {w : World} {g : Nat} {t : TypeId} {cs : Array Value} {base : Nat} {e : TypeId} {size n : Nat} {v : Value} {xs : List Value} (h : w.ownsRow base e size v n xs) (hg : Blk w g t cs) (hne : e ≠ t) : v.ownBlock ≠ some g := by
  rcases h.2 with ⟨rfl, _⟩ | ⟨g', cap, cur, rfl, _, hh, _⟩
  · simp [Value.ownBlock]
  · intro he
    have : g' = g := by simpa [Value.ownBlock] using he
    subst this
    unfold Blk at hg
    rw [hg] at hh
    injection hh with hh
    injection hh with _ ht
    exact hne ht.symm
theorem own_below {w w' : World} {base e size n : Nat} {v : Value} {xs : List Value} (h : w.ownsRow base e size v n xs) (hb : Below w.heap.size w w') : w'.ownsRow base e size v n xs :=
  h.kept (row := none) ⟨hb.os, hb.tape, hb.output, hb.size, fun i hi _ => hb.block i hi⟩ (by cases h : v.ownBlock <;> simp)
theorem cell_set_far {w : World} {g b i o : Nat} {u v : Value} (hne : b ≠ g) (h : w.cell? ⟨b, o, none⟩ = some v) : (w.setCell ⟨g, i, none⟩ u).cell? ⟨b, o, none⟩ = some v := by
  rw [World.cell?_setCell_other w _ _ u (by intro e; injection e with e1; omega)]; exact h
theorem own_set {w : World} {base e size n : Nat} {v : Value} {xs : List Value} (h : w.ownsRow base e size v n xs) {g : Nat} (hne : v.ownBlock ≠ some g) (i : Nat) (u : Value) : (w.setCell ⟨g, i, none⟩ u).ownsRow base e size v n xs :=
  h.kept (row := some g) ⟨rfl, rfl, rfl, by simp [World.setCell], fun k hk hk2 => Below.heap_setCell _ _ _ _ (fun e => hk2 (by rw [e]))⟩ (.inr hne)
theorem Blk.set3 {w : World} {g : Nat} {t : TypeId} {x y z x' y' z' : Value} (h : Blk w g t #[x, y, z]) : Blk (((w.setCell ⟨g, 0, none⟩ x').setCell ⟨g, 1, none⟩ y').setCell ⟨g, 2, none⟩ z') g t #[x', y', z'] :=
  ((h.set_ 0 x').set_ 1 y').set_ 2 z'
theorem info23 : (Try.prog.info? 23).map (fun i => (i.zero, i.size, i.bytes)) = some (some (.int .u64 0), 1, 8) := by kernel_rfl
def ORel (B : Nat) (w : World) (g6 n : Nat) (lo : Nat) (k : Nat) (v : Value) (wr : World) : Prop :=
  ∃ (a : Bool) (h s : Nat) (had : List Nat) (A : Option Addr) (c : Nat), k ≤ n ∧ v = .slice A had.length c ∧ wr.ownsRow B 23 1 v had.length (vals had) ∧ Blk wr g6 25 #[.bool a, .int .u64 h, .int .u64 s] ∧ Inv a h s had ∧ Below B w wr ∧ had.length ≤ k ∧ (∀ y ∈ had, lo ≤ y ∧ y ≤ lo + 63)
set_option maxHeartbeats 800000 in
theorem order_walk (f : Nat) (A : Option Addr) (n c : Nat) (bs : List UInt8) (w : World) (hf : f < 18446744073709551616) (hr : Reads w w.heap.size 1 A n (bs.map fun (b : UInt8) => Value.int .u8 (b.toNat : Int))) (hn : bs.length = n) (hbig : n ≤ 140737488351232) :
    Calls Try.prog 7 #[.int .u64 f, .slice A n c] w fun e0 w' => e0 = .returned (.bool true) ∧ Below w.heap.size w w' := by
  obtain ⟨i0, hi, hz0, hz1, hz2⟩ := info_parts info23
  have k0 := Below.refl w.heap.size w
  have HR := Lib.hid hr
  have HN := Lib.hid hn
  clear hr hn
  go_enter Try.func7, Try.ntmps7
  go_wp2_with fail
  refine (awake_c _).mono ?_
  rintro e0 w1 ⟨rfl, hb1⟩
  have k1 := bcall k0 hb1
  have hz1' := hb1.size
  have b6 := Blk.new w1 25 #[.bool false, .int .u64 0, .int .u64 0]
  have k2 := balloc k1 (Obj.cells #[.bool false, .int .u64 0, .int .u64 0] 25)
  go_wp2_with fail
  go_loopg [7, 8] n (fun g v i wr => ∃ k, g = n - k ∧ i = .int .i64 k ∧ ORel w.heap.size w w1.heap.size n (f / 2) k v wr)
  case atStart => exact ⟨0, by omega, rfl, false, 0, 0, [], none, 0, Nat.zero_le _, rfl, World.ownsRow_nil _ _ _ _, b6, Inv.nil, k2, Nat.le_refl _, by simp⟩
  case round =>
    obtain ⟨k, rfl, rfl, a, h, s, had, A', c', hk, rfl, hown, hb6, hinv, hbel, hlen, hlo⟩ := hrel
    have HO := Lib.hid hown
    have HB := Lib.hid hb6
    have HI := Lib.hid hinv
    have HLO := Lib.hid hlo
    have c6 := hb6.cell3
    clear hown hb6 hinv hlo b6 k2 k1 k0 hb1
    by_cases hlt : k < n
    · by_cases h100 : k < 100
      · obtain ⟨ad, u, rfl, had_lt, hu, hc⟩ := (HR.out.below (hbel.mono (Nat.le_refl _))).at_ hlt
        have hkl : k < bs.length := by rw [HN.out]; exact hlt
        obtain ⟨x, hx, hx256⟩ : ∃ x : Nat, u = .int .u8 (x : Int) ∧ x < 256 := by
          rw [List.getElem?_map, List.getElem?_eq_getElem hkl] at hu
          simp only [Option.map_some, Option.some.injEq] at hu
          exact ⟨_, hu.symm, UInt8.toNat_lt _⟩
        subst hx
        clear hu
        obtain ⟨nn, hnn⟩ : ∃ nn : Nat, nn = f / 2 + x % 64 := ⟨_, rfl⟩
        have hni : (f : Int) / 2 + (x : Int) % 64 = (nn : Int) := by omega
        have hnlo : f / 2 ≤ nn ∧ nn ≤ f / 2 + 63 := by omega
        have hnb : nn < 18446744073709551616 := by omega
        clear hnn
        have hinvb : h < 18446744073709551616 ∧ s < 18446744073709551616 := ⟨HI.out.1, HI.out.2.1⟩
        by_cases hin : nn ∈ had
        · have hm9 : markF a h s nn = (false, 0, 0, 9) := by
            refine (mark_old9 HI.out nn ?_).1
            rw [inv_may HI.out nn]
            have hI := HI.out.2.2
            rcases hI with ⟨_, _, _, h4⟩ | ⟨h1, _, h3, _⟩
            · rw [h4] at hin; simp at hin
            · rw [if_pos ⟨h1, h3 _ hin, .inr hin⟩]; omega
          have HM := Lib.hid hm9
          clear hm9
          go_wp2_with fail
          refine (mark_v HM.out _ hinvb.1 hinvb.2 hnb).mono ?_
          rintro e0 wm ⟨rfl, hbm⟩
          go_wp2_with fail
          refine (has_c A' had.length c' had nn _ ?_ rfl (by omega)).mono ?_
          · exact Reads.of_own (own_below HO.out (balloc hbm _))
          rintro e0 W ⟨rfl, rfl⟩
          have hdt : decide (nn ∈ had) = true := by simpa using hin
          go_wp2
          go_roundg (n - (k + 1))
          case measure => omega
          case rel =>
            have bb := bcall (Below.refl _ _) hbm
            exact ⟨k + 1, rfl, by go_num, a, h, s, had, A', c', by omega, rfl, own_below HO.out (balloc hbm _), (HB.out.below hbm).alloc _, HI.out, hbel.trans ((balloc hbm _).mono hbel.size), by omega, HLO.out⟩
        · have hm0 : may a h s nn = 0 := by
            rw [inv_may HI.out nn]
            refine if_neg ?_
            rintro ⟨h1, h2, h3⟩
            have hI := HI.out.2.2
            rcases hI with ⟨h4, _⟩ | ⟨_, h5, _⟩
            · rw [h4] at h1; simp at h1
            · have := HLO.out h h5
              rcases h3 with h3 | h3
              · omega
              · exact hin h3
          obtain ⟨h', s', hmk, hinv', hx1, hx2⟩ := inv_mark HI.out nn hnb hm0
          clear hx1 hx2
          have HM := Lib.hid hmk
          have HI' := Lib.hid hinv'
          clear hm0 hmk hinv'
          go_wp2_with fail
          refine (mark_v HM.out _ hinvb.1 hinvb.2 hnb).mono ?_
          rintro e0 wm ⟨rfl, hbm⟩
          go_wp2_with fail
          refine (has_c A' had.length c' had nn _ ?_ rfl (by omega)).mono ?_
          · exact Reads.of_own (own_below HO.out (balloc hbm _))
          rintro e0 W ⟨rfl, hW⟩
          have hdt : decide (nn ∈ had) = false := by simpa using hin
          have kW : Below wr.heap.size wr W := by rw [← hW]; exact balloc hbm _
          have b10 : Blk W wm.heap.size 25 #[.bool true, .int .u64 h', .int .u64 s'] := by rw [← hW]; exact Blk.new _ _ _
          have b6 := HB.out.below kW
          have own := own_below HO.out kW
          have hlt61 : w1.heap.size < wm.heap.size := (HB.out.below hbm).lt
          have hbW := hbel.trans (kW.mono hbel.size)
          have hwW : w.heap.size ≤ W.heap.size := hbW.size
          have hg6 := b6.lt
          have hg10 := b10.lt
          have nc6 := own_blk_ne own b6 (by decide)
          have nc10 := own_blk_ne own b10 (by decide)
          have c10 := b10.cell3
          have cc6 := b6.cell3
          have B6 := Lib.hid b6
          clear cc6
          have OW := Lib.hid own
          have NC := Lib.hid nc6
          have NC10 := Lib.hid nc10
          clear own nc6 nc10 hbm kW hW hbel c6 b6
          go_wp2_with fail
          go_region_held3 (fun w' => w'.cell? ⟨wm.heap.size, 0, none⟩ = some (.bool true) ∧ w'.cell? ⟨wm.heap.size, 1, none⟩ = some (.int .u64 h') ∧ w'.cell? ⟨wm.heap.size, 2, none⟩ = some (.int .u64 s'))
            (first
              | go_keep
              | (go_split_ands; refine ⟨?_, ?_, ?_⟩ <;> exact cell_set_far (by omega) (cell_set_far (by omega) (cell_set_far (by omega) (by assumption))))
              | (go_split_ands
                 refine ⟨?_, ?_, ?_⟩
                 · (rw [hgrow.cell_far _ (by simp; omega) (Ne.symm NC10.out)]; assumption)
                 · (rw [hgrow.cell_far _ (by simp; omega) (Ne.symm NC10.out)]; assumption)
                 · (rw [hgrow.cell_far _ (by simp; omega) (Ne.symm NC10.out)]; assumption)))
            ((refine step_append_lies _ (by rfl) _ _ _ (by rfl) w.heap.size 23 i0 _ 1 8 Try.underlying37 hi hz0 hz1 hz2 rfl (by omega) (.slice A' had.length c') had.length (vals had) (by rfl) ((OW.out.alloc _).drew)
                ⟨W.heap.size, 0, none⟩ 1 1 [.int .u64 nn] (by rfl) (by rfl) (World.news_of_block (cs := #[.int .u64 nn]) (t := 23) (fr := (0, 0)) (heap_alloc_new W _)) (by simp [Value.oneCell'])
                (by omega) (by unfold maxLen; omega) (by omega) (by simp; omega) (W.heap.size + 1) (by simp) ?_; intro gg cap w3 hown1 hgrow hat hlt3; have d6 := ((((B6.out.alloc (.cells #[.int .u64 nn] 23)).drew).grown hgrow (fun e => NC.out e.symm)).cell3f)))
          go_wp2
          go_roundg (n - (k + 1))
          case measure => omega
          case rel =>
            have e1 : had.length + 1 = (had ++ [nn]).length := by simp
            have e2 : vals had ++ [.int .u64 (nn : Int)] = vals (had ++ [nn]) := by simp [vals]
            rw [e2] at hown1
            have b63 := ((B6.out.alloc (.cells #[.int .u64 nn] 23)).drew).grown hgrow (fun e => NC.out e.symm)
            have hg63 : gg ≠ w1.heap.size := by
              rcases hat with h0 | h0
              · intro e; rw [e] at h0; exact NC.out h0
              · omega
            have hne : (Value.slice (some ⟨gg, 0, none⟩) (had.length + 1) cap).ownBlock ≠ some w1.heap.size := by simpa [Value.ownBlock] using hg63
            have hrow : ∀ r, (Value.slice A' had.length c').ownBlock = some r → w.heap.size ≤ r := fun r hr => (OW.out.lt r hr).1
            have bw3 : Below w.heap.size w w3 := ((hbW.alloc hwW _).drew).grown hgrow (by simp; omega) hrow
            refine ⟨k + 1, rfl, by go_num, true, h', s', had ++ [nn], some ⟨gg, 0, none⟩, cap, by omega, by rw [← e1], ?_, b63.set3, HI'.out, ?_, by simp; omega, ?_⟩
            · rw [← e1]
              exact own_set (own_set (own_set hown1 hne _ _) hne _ _) hne _ _
            · exact ((bw3.setCell (by exact hz1') _).setCell (by exact hz1') _).setCell (by exact hz1') _
            · intro y hy
              rcases List.mem_append.1 hy with hy | hy
              · exact HLO.out y hy
              · simp only [List.mem_singleton] at hy; subst hy; exact hnlo
      · go_wp2
        go_ret
        exact ⟨rfl, hbel⟩
    · go_wp2
      go_ret
      exact ⟨rfl, hbel⟩
end Go.Proofs.Ytahdkdbcdopgjaa
