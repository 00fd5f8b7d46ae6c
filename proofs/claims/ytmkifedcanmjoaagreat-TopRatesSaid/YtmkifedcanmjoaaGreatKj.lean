/- Texts of this claim, one behind the other: PostT, Taken. Each says ahead of itself what it proves, and its conditions. -/
import Derived.Test.YtmkifedcanmjoaaGreatJr
import Derived.Test.YtmkifedcanmjoaaGreatJx
/- post.Post.Take (contract). Conditions: none. -/
set_option linter.unusedVariables false
set_option linter.unusedSimpArgs false
namespace Go.Proofs.YtmkifedcanmjoaaGreat
open Go.RowKit
attribute [local go_sem ↓] Go.wp_at_zero Go.wp_at_succ
theorem infoO3 : (Tryz.prog.info? 44).map (·.size) = some 3 := by kernel_rfl
theorem fit0O : FitL 44 [.int .i64 0, .int .i64 0, .slice none 0 0] := ⟨infoO3, by kernel_rfl⟩
theorem sliceO : Tryz.prog.underlying 40 = some (.slice (Tryz.prog.elem 40)) := by rw [Tryz.underlying40, show Tryz.prog.elem 40 = 44 from by kernel_rfl]
theorem cut1_out (wx : World) (A : Option Addr) (n c : Nat) (hn : 1 ≤ n) : (Instr.slice 40 (.slice A n c) (some (.int .i64 1)) none none).run Tryz.prog wx = .ok (.slice (if c = 1 then A else A.map (·.add (1 * 3))) (n - 1) (c - 1)) wx := by
  rw [run_slice_l (P := Tryz.prog) wx 40 A n c sliceO .i64 1 (by omega) (by omega)]
  have hs : (sizeOf (Tryz.prog.elem 40)).run Tryz.prog wx = .ok 3 wx := by
    rw [show Tryz.prog.elem 40 = 44 from by kernel_rfl]
    have h := infoO3
    cases hi : Tryz.prog.info? 44 with
    | none => rw [hi] at h; cases h
    | some i =>
      rw [hi] at h
      simp only [Option.map_some, Option.some.injEq] at h
      simp [sizeOf, typeInfo, hi, h]
  rw [hs]
  simp [Result.andThen, sliced]
set_option maxRecDepth 100000 in
set_option maxHeartbeats 3200000 in
theorem postTake_nil (L : Lab) (w : World) (a p : Nat) (hm : PostM L w a p []) :
    Calls Tryz.prog 62 #[.pointer (some ⟨p, 0, none⟩)] w fun e w' => e = .returned (.tuple #[.agg #[.int .i64 0, .int .i64 0, .slice none 0 0], .bool false]) ∧ Below w.heap.size w w' := by
  obtain ⟨hlab, v, xs, hp, hr, hown, ho⟩ := hm
  obtain ⟨Av, cv, rfl, hcv⟩ := hr.form
  have HP := Lib.hid hp
  obtain ⟨Z, hZ⟩ : ∃ Z : List Value, Z = [.int .i64 0, .int .i64 0, .slice none 0 0] := ⟨_, rfl⟩
  have HZF : Hid (FitL 44 Z) := by show FitL _ _; rw [hZ]; exact fit0O
  have HZE := Lib.hid hZ
  obtain ⟨g2, hg2⟩ : ∃ g2, g2 = w.heap.size := ⟨_, rfl⟩
  obtain ⟨g4, hg4⟩ : ∃ g4, g4 = w.heap.size + 1 := ⟨_, rfl⟩
  obtain ⟨w1, hw1⟩ : ∃ w1, w1 = (w.alloc (.cells #[.int .i64 0, .int .i64 0, .slice none 0 0] 44)).alloc (.cells #[.int .i64 0, .int .i64 0, .slice none 0 0] 44) := ⟨_, rfl⟩
  have HM1 : Hid (MW w w1 [(g4, 44, Z), (g2, 44, Z)]) := by
    show MW _ _ _
    have h := ((MW.start w).alloc 44 Z).alloc 44 Z
    simp only [World.size_alloc] at h
    rw [hw1, hg2, hg4]
    rw [hZ] at h ⊢
    exact h
  have ckp : w1.cell? ⟨p, 1, none⟩ = some (.slice Av 0 cv) := (HP.out.below HM1.out.bel).cell 1
  clear hp hr hown ho hcv hlab hZ
  go_enter Tryz.func62, Tryz.ntmps62
  go_upto_region 2 with fail
  rw [← hw1, ← hg4, ← hg2]
  clear hw1 hg2 hg4
  have HRr : Hid (w1.rangeAt g4 0 Z) := HM1.out.range (.head _)
  have HTr : Hid (w1.there g2 0 Z.toArray.size) := HM1.out.there (.tail _ (.head _)) 0 _ (by show 0 + Z.length ≤ Z.length; rw [HZF.out.len HZF.out]; omega)
  go_wp2_with (first
    | ((with_reducible show wpList _ _ _ (⟨some 12, .load _ (.tmp 4), _, _, _, _⟩ :: _) _ _); refine wpList_load_mid rfl 44 (.tmp 4) rfl g4 0 rfl Z _ HRr.out Tryz.underlying44 rfl HZF.out.info ?_)
    | ((with_reducible show wpList _ _ _ (⟨none, .store _ (.tmp 2) _, _, _, _, _⟩ :: _) _ _); refine wpList_store_mid rfl 44 (.tmp 2) (.tmp 12) rfl g2 0 Z.toArray rfl rfl HTr.out HZF.out.infos HZF.out.one ?_))
  have HMr : Hid (MW w (w1.setCells g2 0 Z) [(g4, 44, Z), (g2, 44, Z)]) := MW.set (pre := [(g4, 44, Z)]) (post := []) HM1.out (HZF.out.len HZF.out)
  (try simp only [Exit.inBlock, Exit.then])
  refine bodyPost_ret (results_c2 rfl rfl (HMr.out.range (.tail _ (.head _))) Tryz.underlying44 rfl HZF.out.info) rfl ?_
  refine ⟨?_, HMr.out.bel⟩
  rw [HZE.out]
  rfl
set_option maxRecDepth 100000 in
set_option maxHeartbeats 6400000 in
theorem postTake_cons (L : Lab) (w : World) (a p : Nat) (o : OutD) (l : List OutD) (hm : PostM L w a p (o :: l)) (htop : ∀ k, w.heap.size ≤ k → L k = .other) :
    Calls Tryz.prog 62 #[.pointer (some ⟨p, 0, none⟩)] w fun e w' => ∃ vb, e = .returned (.tuple #[.agg #[.int .i64 o.adr, .int .i64 o.kind, vb], .bool true]) ∧ ByV L w' vb o.b ∧ PostM L w' a p l ∧ Stp (postX a) L L w w' := by
  obtain ⟨hlab, v, xs, hp, hr, hown, ho⟩ := hm
  obtain ⟨Av, cv, rfl, hcv⟩ := hr.form
  obtain ⟨vb, xr, rfl, hvb, hor⟩ := ho
  obtain ⟨gr, off, rfl, hgl, hcell⟩ := hr.cells_ (by simp)
  have hcut := hr.cut (k := 1) (by simp)
  obtain ⟨n, hn⟩ : ∃ n, n = (o :: l).length := ⟨_, rfl⟩
  have hn1 : 1 ≤ n := by rw [hn]; simp
  rw [← hn] at hcut hp hr hown hcv
  have hci := cut1_out
  obtain ⟨A2, hA2⟩ : ∃ A2, A2 = (if cv = 1 then some (⟨gr, off, none⟩ : Addr) else (some (⟨gr, off, none⟩ : Addr)).map (·.add (1 * 3))) := ⟨_, rfl⟩
  have HCI : Hid (∀ wx, (Instr.slice 40 (.slice (some ⟨gr, off, none⟩) n cv) (some (.int .i64 1)) none none).run Tryz.prog wx = .ok (.slice A2 (n - 1) (cv - 1)) wx) := fun wx => by rw [hA2]; exact cut1_out wx _ n cv hn1
  have HCUT : Hid (Row w 44 3 (.slice A2 (n - 1) (cv - 1)) l.length xr) := by
    show Row _ _ _ _ _ _
    rw [hA2]
    have e : n - 1 = l.length := by rw [hn]; simp
    rw [e] at hcut ⊢
    exact hcut
  have HOWN2 : Hid (∀ g, (Value.slice A2 (n - 1) (cv - 1)).ownBlock = some g → L g = .post a) := fun g hg => by
    rw [hA2] at hg
    refine hown g ?_
    rw [← hg]
    split
    · rfl
    · simp [Value.ownBlock, block_of_add]
  obtain ⟨n2, hn2⟩ : ∃ n2, n2 = n - 1 := ⟨_, rfl⟩
  obtain ⟨c2, hc2⟩ : ∃ c2, c2 = cv - 1 := ⟨_, rfl⟩
  rw [← hn2, ← hc2] at HCI HCUT HOWN2
  have HP := Lib.hid hp
  have HR := Lib.hid hr
  have HLAB := Lib.hid hlab
  have HTOP := Lib.hid htop
  have HVB := Lib.hid hvb
  have HOR := Lib.hid hor
  have HGL := Lib.hid hgl
  obtain ⟨Ab, cb, ebb, _, _⟩ := hvb.1
  subst ebb
  obtain ⟨nb, hnb⟩ : ∃ nb, nb = o.b.length := ⟨_, rfl⟩
  obtain ⟨ad, had⟩ : ∃ ad, ad = o.adr := ⟨_, rfl⟩
  obtain ⟨kd, hkd⟩ : ∃ kd, kd = o.kind := ⟨_, rfl⟩
  have hc0 : w.cell? ⟨gr, off, none⟩ = some (.int .i64 ad) := by rw [had]; exact hcell 0 (by simp)
  have hc1 : w.cell? ⟨gr, off + 1, none⟩ = some (.int .i64 kd) := by rw [hkd]; exact hcell 1 (by simp)
  have hc2' : w.cell? ⟨gr, off + 2, none⟩ = some (.slice Ab nb cb) := by rw [hnb]; exact hcell 2 (by simp)
  rw [← hnb] at HVB
  rw [← had, ← hkd]
  have hni : ¬ ((n : Int) = 0) := by omega
  have hni0 : (0 : Int) < (n : Int) := by omega
  obtain ⟨Z, hZ⟩ : ∃ Z : List Value, Z = [.int .i64 0, .int .i64 0, .slice none 0 0] := ⟨_, rfl⟩
  have HZF : Hid (FitL 44 Z) := by show FitL _ _; rw [hZ]; exact fit0O
  have HZE := Lib.hid hZ
  obtain ⟨g2, hg2⟩ : ∃ g2, g2 = w.heap.size := ⟨_, rfl⟩
  obtain ⟨g4, hg4⟩ : ∃ g4, g4 = w.heap.size + 1 := ⟨_, rfl⟩
  obtain ⟨w1, hw1⟩ : ∃ w1, w1 = (w.alloc (.cells #[.int .i64 0, .int .i64 0, .slice none 0 0] 44)).alloc (.cells #[.int .i64 0, .int .i64 0, .slice none 0 0] 44) := ⟨_, rfl⟩
  have HM1 : Hid (MW w w1 [(g4, 44, Z), (g2, 44, Z)]) := by
    show MW _ _ _
    have h := ((MW.start w).alloc 44 Z).alloc 44 Z
    simp only [World.size_alloc] at h
    rw [hw1, hg2, hg4]
    rw [hZ] at h ⊢
    exact h
  obtain ⟨X, hX⟩ : ∃ X : List Value, X = [.int .i64 ad, .int .i64 kd, .slice Ab nb cb] := ⟨_, rfl⟩
  have HXF : Hid (FitL 44 X) := by show FitL _ _; rw [hX]; exact ⟨infoO3, by simp [Value.oneCell']⟩
  have HXE := Lib.hid hX
  have HXA : Hid (X.toArray = #[.int .i64 ad, .int .i64 kd, .slice Ab nb cb]) := by show _ = _; rw [hX]
  have ckp : w1.cell? ⟨p, 1, none⟩ = some (.slice (some ⟨gr, off, none⟩) n cv) := (HP.out.below HM1.out.bel).cell 1
  have ck0 : w1.cell? ⟨gr, off, none⟩ = some (.int .i64 ad) := (HM1.out.bel.cell (p := ⟨gr, off, none⟩) hgl).trans hc0
  have ck1 : w1.cell? ⟨gr, off + 1, none⟩ = some (.int .i64 kd) := (HM1.out.bel.cell (p := ⟨gr, off + 1, none⟩) hgl).trans hc1
  have ck2 : w1.cell? ⟨gr, off + 2, none⟩ = some (.slice Ab nb cb) := (HM1.out.bel.cell (p := ⟨gr, off + 2, none⟩) hgl).trans hc2'
  clear hp hr hown hvb hor hcv hlab hZ hX hcell hcut hn hA2 hn2 hc2 hc0 hc1 hc2' hgl htop hnb had hkd hci
  go_enter Tryz.func62, Tryz.ntmps62
  go_upto_region 2 with fail
  rw [← hw1, ← hg4, ← hg2]
  clear hw1 hg2 hg4
  go_upto_region 5 with (first
    | ((with_reducible show wpList _ _ _ (⟨none, .store _ (.tmp 5) _, _, _, _, _⟩ :: _) _ _); refine wpList_store_mid rfl 44 (.tmp 5) (.tmp 18) rfl w1.heap.size 0 X.toArray rfl (congrArg Value.agg HXA.out.symm) (there_new w1 44 #[.int .i64 0, .int .i64 0, .slice none 0 0] _ (by show X.length ≤ 3; have h := HXF.out.info; rw [infoO3] at h; injection h with h; omega)) HXF.out.infos HXF.out.one ?_))
  obtain ⟨g5, hg5⟩ : ∃ g5, g5 = w1.heap.size := ⟨_, rfl⟩
  have HMn : Hid (MW w ((w1.alloc (.cells #[.int .i64 0, .int .i64 0, .slice none 0 0] 44)).setCells w1.heap.size 0 X) ((w1.heap.size, 44, X) :: [(g4, 44, Z), (g2, 44, Z)])) := HM1.out.newset 44 #[.int .i64 0, .int .i64 0, .slice none 0 0] X (by show X.length = 3; have h := HXF.out.info; rw [infoO3] at h; injection h with h; omega)
  rw [← hg5] at HMn ⊢
  obtain ⟨w2, hw2⟩ : ∃ w2, w2 = (w1.alloc (.cells #[.int .i64 0, .int .i64 0, .slice none 0 0] 44)).setCells g5 0 X := ⟨_, rfl⟩
  have HM2 : Hid (MW w w2 [(g5, 44, X), (g4, 44, Z), (g2, 44, Z)]) := by show MW _ _ _; rw [hw2]; exact HMn.out
  rw [← hw2]
  clear hw2 HM1
  clear hg5 HMn ckp ck0 ck1 ck2
  have ckp : w2.cell? ⟨p, 1, none⟩ = some (.slice (some ⟨gr, off, none⟩) n cv) := (HP.out.below HM2.out.bel).cell 1
  have fkp : w2.frozen? ⟨p, 1, none⟩ = false := (HP.out.below HM2.out.bel).frozen 1
  have hcs := HCI.out
  go_upto_region 6 with fail
  obtain ⟨w3, hw3⟩ : ∃ w3, w3 = w2.setCell ⟨p, 1, none⟩ (.slice A2 n2 c2) := ⟨_, rfl⟩
  have HPL : Hid (p < w.heap.size) := HP.out.lt
  have HB5 : Hid (Blk w3 g5 44 X.toArray) := by show Blk _ _ _ _; rw [hw3]; exact (HM2.out.blk (.head _)).far (by have := HM2.out.le (.head _); have := HPL.out; show g5 ≠ p; omega) _
  have HB2 : Hid (Blk w3 g2 44 Z.toArray) := by show Blk _ _ _ _; rw [hw3]; exact (HM2.out.blk (.tail _ (.tail _ (.head _)))).far (by have := HM2.out.le (.tail _ (.tail _ (.head _))); have := HPL.out; show g2 ≠ p; omega) _
  have HG2 : Hid (w.heap.size ≤ g2) := HM2.out.le (.tail _ (.tail _ (.head _)))
  have HB3 : Hid (Blk w3 p 153 #[.int .i64 32, .slice A2 n2 c2]) := by show Blk _ _ _ _; rw [hw3]; exact Blk.set_ (HP.out.below HM2.out.bel) 1 _
  have HK3 : Hid (∀ k, k < w.heap.size → k ≠ p → w3.heap[k]? = w.heap[k]?) := fun k hk hkp => by
    rw [hw3, Below.heap_setCell w2 _ _ k (by exact hkp)]
    exact HM2.out.bel.block k hk
  have HOS3 : Hid (w3.os = w.os ∧ w3.tape = w.tape ∧ w3.output = w.output ∧ w.heap.size ≤ w3.heap.size) := by
    show _ ∧ _
    rw [hw3]
    exact ⟨HM2.out.bel.os, HM2.out.bel.tape, HM2.out.bel.output, by rw [World.size_setCell]; exact HM2.out.bel.size⟩
  rw [← hw3]
  clear hw3 ckp fkp hcs HM2
  have HRr : Hid (w3.rangeAt g5 0 X) := blk_range HB5.out
  have HTr : Hid (w3.there g2 0 X.toArray.size) := blk_there HB2.out 0 _ (by show 0 + X.length ≤ Z.length; rw [HXF.out.len HZF.out]; omega)
  go_wp2_with (first
    | ((with_reducible show wpList _ _ _ (⟨some 27, .load _ (.tmp 5), _, _, _, _⟩ :: _) _ _); refine wpList_load_mid rfl 44 (.tmp 5) rfl g5 0 rfl X _ HRr.out Tryz.underlying44 rfl HXF.out.info ?_)
    | ((with_reducible show wpList _ _ _ (⟨none, .store _ (.tmp 2) _, _, _, _, _⟩ :: _) _ _); refine wpList_store_mid rfl 44 (.tmp 2) (.tmp 27) rfl g2 0 X.toArray rfl rfl HTr.out HXF.out.infos HXF.out.one ?_))
  have HB4 : Hid (Blk (w3.setCells g2 0 X) g2 44 X.toArray) := blk_setAll HB2.out (HXF.out.len HZF.out)
  obtain ⟨w4, hw4⟩ : ∃ w4, w4 = w3.setCells g2 0 X := ⟨_, rfl⟩
  have HK4 : Hid (∀ k, k < w.heap.size → k ≠ p → w4.heap[k]? = w.heap[k]?) := fun k hk hkp => by
    rw [hw4, heap_setCells w3 g2 X 0 k (by have := HG2.out; omega)]
    exact HK3.out k hk hkp
  have HST : Hid (Stp (postX a) L L w w4) := by
    show Stp _ _ _ _ _
    refine ⟨⟨?_, ?_, ?_, ?_, fun k hk hx => HK4.out k hk fun e => hx (by rw [e]; exact HLAB.out)⟩, fun _ _ => rfl, fun k hk => HTOP.out k (Nat.le_trans ?_ hk)⟩
    all_goals
      rw [hw4]
      have hb := below_setCells' g2 X w3 0
      have hq := HOS3.out
      have hsz := size_setCells g2 X w3 0
      first
        | exact hb.os.trans hq.1
        | exact hb.tape.trans hq.2.1
        | exact hb.output.trans hq.2.2.1
        | (rw [hsz]; exact hq.2.2.2)
  have HB3' : Hid (Blk w4 p 153 #[.int .i64 32, .slice A2 n2 c2]) := by show Blk _ _ _ _; rw [hw4]; exact blk_farS HB3.out (by have := HPL.out; have := HG2.out; omega) _ _
  rw [← hw4] at HB4
  (try simp only [Exit.inBlock, Exit.then])
  refine bodyPost_ret (results_c2 rfl rfl (by rw [← hw4]; exact blk_range HB4.out) Tryz.underlying44 rfl HXF.out.info) rfl ?_
  rw [← hw4]
  clear hw4
  have hx : ¬ postX a .other := by unfold postX; simp
  have hkeep : ∀ (u : Value) (n : Nat) (ys : List Value), Row w 44 3 u n ys → Row w4 44 3 u n ys := fun u n ys h => h.keep fun g hg => by
    refine HK4.out g (h.lt hg) fun e => ?_
    subst e
    obtain ⟨cs, hbk⟩ := h.blk hg
    exact HP.out.ne_ hbk (by decide) rfl
  refine ⟨.slice Ab nb cb, by rw [HXA.out]; rfl, HVB.out.stp HST.out hx, ⟨HLAB.out, _, xr, HB3'.out, hkeep _ _ _ HCUT.out, HOWN2.out, OutsC.stp HST.out hx _ _ HOR.out⟩, HST.out⟩
end Go.Proofs.YtmkifedcanmjoaaGreat
/- desk.taken (contract). Conditions: none. -/
set_option linter.unusedVariables false
set_option linter.unusedSimpArgs false
namespace Go.Proofs.YtmkifedcanmjoaaGreat
open Go.RowKit
attribute [local go_sem ↓] Go.wp_at_zero Go.wp_at_succ
/-- v is a slice of what was told; its row is a call's own. -/
def OutsV (L : Lab) (w : World) (v : Value) (l : List OutD) : Prop := ∃ xs, Row w 44 3 v l.length xs ∧ OutsC L w l xs ∧ ∀ g, v.ownBlock = some g → L g = .temp
theorem postX_temp (a : Nat) : ¬ postX a .temp := by unfold postX; simp
theorem postX_other (a : Nat) : ¬ postX a .other := by unfold postX; simp
theorem OutsV.stp {X : Comp → Prop} {L L' : Lab} {w w' : World} {v : Value} {l : List OutD} (h : OutsV L w v l) (hs : Stp X L L' w w') (hx : ¬ X .other) (ht : ¬ X .temp) : OutsV L' w' v l := by
  obtain ⟨xs, h1, h2, h3⟩ := h
  exact ⟨xs, h1.sv hs.sv (fun g hg => by rw [h3 g hg]; exact ht), OutsC.stp hs hx _ _ h2, fun g hg => (hs.old g (h1.lt hg)).trans (h3 g hg)⟩
/-- One more behind a call's own row. -/
theorem outs_grown {X : Comp → Prop} {L0 Lx : Lab} {w w1 W W2 : World} {g : Nat} {P : Ptrs} {D : DeskD} {v v2 vb : Value} {l : List OutD} {o : OutD} {xs : List Value}
    (hm : DW X w L0 w1 Lx g P D []) (hr : Row w1 44 3 v l.length xs) (hown : ∀ g, v.ownBlock = some g → Lx g = .temp ∧ w.heap.size ≤ g) (ho : OutsC Lx w1 l xs) (hb : ByV Lx w1 vb o.b) (hbel : Below w1.heap.size w1 W)
    (hrow : Row W2 44 3 v2 (l.length + 1) (xs ++ [.int .i64 o.adr, .int .i64 o.kind, vb])) (hg : W.grownBy W2 v.ownBlock) (hat : v2.ownBlock = v.ownBlock ∨ v2.ownBlock = some W.heap.size) :
    ∃ L2, DW X w L0 W2 L2 g P D [] ∧ Row W2 44 3 v2 (l ++ [o]).length (xs ++ [.int .i64 o.adr, .int .i64 o.kind, vb]) ∧ (∀ g, v2.ownBlock = some g → L2 g = .temp ∧ w.heap.size ≤ g) ∧ OutsC L2 W2 (l ++ [o]) (xs ++ [.int .i64 o.adr, .int .i64 o.kind, vb]) := by
  have hs : Stp tmpX Lx (labTo Lx v2 .temp) w1 W2 := by
    refine ⟨⟨hg.os.trans hbel.os, hg.tape.trans hbel.tape, hg.output.trans hbel.output, Nat.le_trans hbel.size hg.size, fun k hk hx => ?_⟩, fun k hk => ?_, fun k hk => ?_⟩
    · have h2 : some k ≠ v.ownBlock := fun e => hx (hown k e.symm).1
      rw [hg.block k (Nat.lt_of_lt_of_le hk hbel.size) h2]
      exact hbel.block k hk
    · unfold labTo
      split
      · rename_i e
        rcases hat with hat | hat
        · rw [hat] at e
          exact (hown k e.symm).1.symm
        · rw [hat] at e
          injection e with e
          have := hbel.size
          omega
      · rfl
    · unfold labTo
      rw [if_neg (fun e => by have := hrow.lt e.symm; omega)]
      exact hm.top k (by have := hbel.size; have := hg.size; omega)
  refine ⟨labTo Lx v2 .temp, ⟨?_, hm.dm.stp hs (fun c hc hx => hc hx), trivial, fun _ h => by cases h⟩, by rw [List.length_append]; exact hrow, fun q hq => ⟨by unfold labTo; rw [if_pos hq.symm], ?_⟩, OutsC.append _ _ (OutsC.stp hs (by unfold tmpX; simp) _ _ ho) _ _ ⟨vb, [], rfl, hb.stp hs (by unfold tmpX; simp), rfl⟩⟩
  · refine ⟨⟨hs.sv.os.trans hm.stp.sv.os, hs.sv.tape.trans hm.stp.sv.tape, hs.sv.output.trans hm.stp.sv.output, Nat.le_trans hm.size hs.size, fun k hk hx => ?_⟩, fun k hk => (hs.old k (Nat.lt_of_lt_of_le hk hm.size)).trans (hm.stp.old k hk), hs.top⟩
    have h1 := hm.stp.sv.block k hk hx
    have h2 : some k ≠ v.ownBlock := fun e => by have := (hown k e.symm).2; omega
    rw [hg.block k (Nat.lt_of_lt_of_le hk (Nat.le_trans hm.size hbel.size)) h2, hbel.block k (Nat.lt_of_lt_of_le hk hm.size)]
    exact h1
  · rcases hat with hat | hat
    · rw [hat] at hq; exact (hown q hq).2
    · rw [hat] at hq
      injection hq with hq
      have := hbel.size
      have := hm.size
      omega
theorem DeskD.setPost_set (D : DeskD) (a : Nat) (l l' : List OutD) : (D.setPost a l).setPost a l' = D.setPost a l' := by unfold DeskD.setPost; simp
theorem DeskM.postLen {L : Lab} {w : World} {g : Nat} {P : Ptrs} {D : DeskD} (h : DeskM L w g P D) : D.posts.length = 64 := by
  obtain ⟨_, _, C, _, hC⟩ := h
  exact hC.posts
set_option maxRecDepth 100000 in
set_option maxHeartbeats 12800000 in
theorem taken_c {L : Lab} {w : World} {g : Nat} {P : Ptrs} {D : DeskD} (hd : DeskM L w g P D) {a : Nat} (ha : a < 64) {n : Nat} (hn : n ≤ 32) :
    Calls Tryz.prog 32 #[.pointer (some ⟨g, 0, none⟩), .int .i64 (a : Int), .int .i64 (n : Int)] w fun e w' => ∃ v, e = .returned v ∧ ∃ L', OutsV L' w' v (takenD D a n).2 ∧ DeskM L' w' g P (takenD D a n).1 ∧ Stp (postX a) L L' w w' := by
  obtain ⟨iO, hiO, hz0, hz1, hz2⟩ := info_parts infoOut
  have HA := Lib.hid ha
  have HN := Lib.hid hn
  have ha0 : (0 : Int) ≤ (a : Int) := by omega
  have ha1 : (a : Int) < 64 := by omega
  obtain ⟨p, hp⟩ : ∃ p, p = P.post a := ⟨_, rfl⟩
  have HPE := Lib.hid hp
  obtain ⟨l, hl⟩ : ∃ l, l = D.post a := ⟨_, rfl⟩
  have HLE := Lib.hid hl
  have HPL := Lib.hid hd.postLen
  have HM0 : Hid (DW (postX a) w L w L g P (D.setPost a (l.drop 0)) []) := by show DW _ _ _ _ _ _ _ _ _; rw [List.drop_zero, hl, DeskD.setPost_self]; exact DW.start _ hd
  obtain ⟨fin, hfin⟩ : ∃ fin, fin = takenD D a n := ⟨_, rfl⟩
  have HFE : Hid (fin = (D.setPost a (l.drop n), l.take n)) := by show _ = _; rw [hfin, hl]; rfl
  rw [← hfin]
  clear hd ha hn hp hl hfin
  go_enter Tryz.func32, Tryz.ntmps32
  go_upto_region 3 with fail
  go_loopg [7, 11] n (fun gg v7 v wx => ∃ (i : Nat) (Lx : Lab) (xs : List Value), gg = n - i ∧ i ≤ n ∧ v = .int .i64 (i : Int) ∧ i ≤ l.length ∧ DW (postX a) w L wx Lx g P (D.setPost a (l.drop i)) [] ∧ Row wx 44 3 v7 (l.take i).length xs ∧ (∀ g, v7.ownBlock = some g → Lx g = .temp ∧ w.heap.size ≤ g) ∧ OutsC Lx wx (l.take i) xs)
  case atStart => exact ⟨0, L, [], rfl, by omega, rfl, by omega, HM0.out, Row.nil _ _ _, (fun g hg => by cases hg), rfl⟩
  case round =>
    obtain ⟨i, Lx, xs, hgg, hi, rfl, hil, hmw, hrow, hown, hos⟩ := hrel
    have HGG := Lib.hid hgg
    have HM6 := Lib.hid hmw
    have HRO := Lib.hid hrow
    have HOW := Lib.hid hown
    have HOS := Lib.hid hos
    have HIL := Lib.hid hil
    obtain ⟨Av, cv, rfl, hcv⟩ := hrow.form
    obtain ⟨nt, hnt⟩ : ∃ nt, nt = (l.take i).length := ⟨_, rfl⟩
    have HNT : Hid (nt = i) := by show nt = i; rw [hnt, List.length_take]; omega
    have HNTE := Lib.hid hnt
    rw [← hnt] at HRO HOW ⊢
    clear hgg hmw hrow hown hos hil hnt hcv
    by_cases hin : i < n
    · have hini : (i : Int) < (n : Int) := by omega
      have hin0 : (0 : Int) ≤ (i : Int) := by omega
      have hw1 : IntKind.i64.wrap ((i : Int) + 1) = ((i + 1 : Nat) : Int) := by rw [IntKind.wrap_i64]; have := HN.out; omega
      have ckp : wr.cell? ⟨g, 1470 + a, none⟩ = some (.pointer (some ⟨p, 0, none⟩)) := by rw [HPE.out]; exact (HM6.out.dm.postAt HA.out).1
      have HPM : Hid (PostM Lx wr a p (l.drop i)) := by
        show PostM _ _ _ _ _
        have h := (HM6.out.dm.postAt HA.out).2
        rw [DeskD.post_set _ _ _ _ (by rw [HPL.out]; exact HA.out), if_pos rfl, ← HPE.out] at h
        exact h
      have HLT := Lib.hid hin
      obtain ⟨lr, hlr⟩ : ∃ lr, lr = l.drop i := ⟨_, rfl⟩
      rw [← hlr] at HPM
      have HLR := Lib.hid hlr
      clear hlr hin hi
      cases lr with
      | nil =>
        have HLL : Hid (l.length = i) := by
          show l.length = i
          have h := congrArg List.length HLR.out
          rw [List.length_drop] at h
          have := HIL.out
          simp only [List.length_nil] at h
          omega
        have HV : Hid (fin = (D.setPost a (l.drop i), l.take i)) := by
          show _ = _
          rw [HFE.out, List.drop_of_length_le (by have := HLT.out; have := HLL.out; omega), List.drop_of_length_le (by have := HLL.out; omega), List.take_of_length_le (by have := HLT.out; have := HLL.out; omega), List.take_of_length_le (by have := HLL.out; omega)]
        go_wp2_with fail
        refine (postTake_nil Lx wr a p HPM.out).mono ?_
        rintro e0 w1 ⟨rfl, hbq⟩
        have HM7 := Lib.hid (HM6.out.call hbq)
        have HRO7 := Lib.hid (HRO.out.below hbq)
        have HOS7 := Lib.hid (OutsC.stp (Stp.below (X := noX) hbq HM6.out.top) (fun h => h) _ _ HOS.out)
        clear hbq ckp
        go_wp2_with (first
          | ((with_reducible show wpList _ _ _ (⟨none, .store _ (.tmp 8) _, _, _, _, _⟩ :: _) _ _); refine wpList_store_mid rfl 44 (.tmp 8) (.tmp 21) rfl w1.heap.size 0 #[.int .i64 0, .int .i64 0, .slice none 0 0] rfl rfl (there_new w1 44 #[.int .i64 0, .int .i64 0, .slice none 0 0] 3 (by decide)) infoO3 (by kernel_rfl) ?_))
        have HB9 : Hid (Below w1.heap.size w1 ((w1.alloc (.cells #[.int .i64 0, .int .i64 0, .slice none 0 0] 44)).setCells w1.heap.size 0 [.int .i64 0, .int .i64 0, .slice none 0 0])) := ((MW.start w1).newset 44 #[.int .i64 0, .int .i64 0, .slice none 0 0] [.int .i64 0, .int .i64 0, .slice none 0 0] rfl).bel
        have HM9 := Lib.hid (HM7.out.call HB9.out)
        have HRO9 := Lib.hid (HRO7.out.below HB9.out)
        have HOS9 := Lib.hid (OutsC.stp (Stp.below (X := noX) HB9.out HM7.out.top) (fun h => h) _ _ HOS7.out)
        go_ret
        exact ⟨_, rfl, Lx, by rw [HV.out]; exact ⟨xs, by rw [← HNTE.out]; exact HRO9.out, HOS9.out, fun g hg => (HOW.out g hg).1⟩, by rw [HV.out]; exact HM9.out.dm, HM9.out.stp⟩
      | cons o lr =>
        have HLR2 : Hid (l.drop (i + 1) = lr ∧ l.take (i + 1) = l.take i ++ [o] ∧ i + 1 ≤ l.length) := by
          have h1 : i < l.length := by
            have h := congrArg List.length HLR.out
            rw [List.length_drop] at h
            simp only [List.length_cons] at h
            omega
          have h2 : l.drop i = l[i] :: l.drop (i + 1) := List.drop_eq_getElem_cons h1
          have h3 := HLR.out.trans h2
          injection h3 with h4 h5
          refine ⟨h5.symm, ?_, h1⟩
          rw [List.take_add_one, List.getElem?_eq_getElem h1, h4]
          rfl
        obtain ⟨ad, had⟩ : ∃ ad, ad = o.adr := ⟨_, rfl⟩
        obtain ⟨kd, hkd⟩ : ∃ kd, kd = o.kind := ⟨_, rfl⟩
        have HTK := Lib.hid (postTake_cons Lx wr a p o lr HPM.out HM6.out.top)
        rw [← had, ← hkd] at HTK
        have HAE := Lib.hid had
        have HKE := Lib.hid hkd
        clear had hkd
        go_wp2_with fail
        refine HTK.out.mono ?_
        rintro e0 w1 ⟨vb, rfl, hby, hpm, hst⟩
        have HM7 : Hid (DW (postX a) w L w1 Lx g P (D.setPost a lr) []) := by
          show DW _ _ _ _ _ _ _ _ _
          have h := HM6.out.dm.putPost HA.out hst (l := lr) (by rw [← HPE.out]; exact hpm) (by
            have h := HM6.out.dm.few HA.out
            rw [DeskD.post_set _ _ _ _ (by rw [HPL.out]; exact HA.out), if_pos rfl, ← HLR.out] at h
            simp only [List.length_cons] at h
            omega)
          rw [DeskD.setPost_set] at h
          exact HM6.out.step hst h (postX_temp a)
        have HRO7 : Hid (Row w1 44 3 (.slice Av nt cv) nt xs) := HRO.out.sv hst.sv (fun q hq => by rw [(HOW.out q hq).1]; exact postX_temp a)
        have HOS7 : Hid (OutsC Lx w1 (l.take i) xs) := OutsC.stp hst (postX_other a) _ _ HOS.out
        have HBY7 := Lib.hid hby
        obtain ⟨Ab, cb, rfl, _, _⟩ := hby.1
        obtain ⟨nb, hnb⟩ : ∃ nb, nb = o.b.length := ⟨_, rfl⟩
        rw [← hnb] at HBY7 ⊢
        clear hby hpm hst ckp HTK hnb
        obtain ⟨X, hX⟩ : ∃ X : List Value, X = [.int .i64 ad, .int .i64 kd, .slice Ab nb cb] := ⟨_, rfl⟩
        have HXF : Hid (FitL 44 X) := by show FitL _ _; rw [hX]; exact ⟨infoO3, by simp [Value.oneCell']⟩
        have HXA : Hid (X.toArray = #[.int .i64 ad, .int .i64 kd, .slice Ab nb cb]) := by show _ = _; rw [hX]
        have HXE : Hid (X = [.int .i64 o.adr, .int .i64 o.kind, .slice Ab nb cb]) := by show _ = _; rw [hX, HAE.out, HKE.out]
        have HXL : Hid (X.length = 3) := by show _ = _; rw [hX]; rfl
        have HXC : Hid (X[0]? = some (.int .i64 ad) ∧ X[1]? = some (.int .i64 kd) ∧ X[2]? = some (.slice Ab nb cb)) := by show _ ∧ _; rw [hX]; exact ⟨rfl, rfl, rfl⟩
        clear hX
        go_upto_region 5 with (first
          | ((with_reducible show wpList _ _ _ (⟨none, .store _ (.tmp 8) _, _, _, _, _⟩ :: _) _ _); refine wpList_store_mid rfl 44 (.tmp 8) (.tmp 21) rfl w1.heap.size 0 X.toArray rfl (congrArg Value.agg HXA.out.symm) (there_new w1 44 #[.int .i64 0, .int .i64 0, .slice none 0 0] _ (by show X.length ≤ 3; rw [HXL.out]; exact Nat.le_refl _)) HXF.out.infos HXF.out.one ?_))
        obtain ⟨g8, hg8⟩ : ∃ g8, g8 = w1.heap.size := ⟨_, rfl⟩
        obtain ⟨w2, hw2⟩ : ∃ w2, w2 = (w1.alloc (.cells #[.int .i64 0, .int .i64 0, .slice none 0 0] 44)).setCells w1.heap.size 0 X := ⟨_, rfl⟩
        have HMN : Hid (MW w1 w2 [(g8, 44, X)]) := by show MW _ _ _; rw [hw2, hg8]; exact (MW.start w1).newset 44 #[.int .i64 0, .int .i64 0, .slice none 0 0] X (by rw [HXL.out]; rfl)
        rw [← hw2, ← hg8]
        clear hw2 hg8
        have ck0 : w2.cell? ⟨g8, 0, none⟩ = some (.int .i64 ad) := by rw [HMN.out.cell (.head _) 0]; exact HXC.out.1
        have ck1 : w2.cell? ⟨g8, 1, none⟩ = some (.int .i64 kd) := by rw [HMN.out.cell (.head _) 1]; exact HXC.out.2.1
        have ck2 : w2.cell? ⟨g8, 2, none⟩ = some (.slice Ab nb cb) := by rw [HMN.out.cell (.head _) 2]; exact HXC.out.2.2
        have HW3 : Hid (MW w1 (w2.alloc (.cells #[.int .i64 ad, .int .i64 kd, .slice Ab nb cb] 44)) [(w2.heap.size, 44, X), (g8, 44, X)]) := by show MW _ _ _; rw [← HXA.out]; exact HMN.out.alloc _ X
        go_wp2_with (first
          | ((with_reducible show wpList _ _ _ (⟨some 28, .call _, _, _, _, _⟩ :: _) _ _)
             at_builtin
             refine wpList_append_row _ rfl (.tmp 25) (.tmp 27) _ rfl 44 iO _ 3 40 Tryz.underlying40 hiO hz0 hz1 hz2 rfl (.slice Av nt cv) nt xs rfl (HRO7.out.below HW3.out.bel) (.slice (some ⟨w2.heap.size, 0, none⟩) 1 1) 1 X rfl
               (Src.ofReads _ Tryz.underlying40 (B := (w2.alloc (.cells #[.int .i64 ad, .int .i64 kd, .slice Ab nb cb] 44)).heap.size) ⟨by rw [HXL.out], fun _ => ⟨_, rfl, (HW3.out.blk (.head _)).lt, fun j u hu => by
                 rw [Go.WideShapes.add_plain, Nat.zero_add, HW3.out.cell (.head _) j]
                 exact hu⟩⟩ (Array.all_eq_true_iff_forall_mem.1 HXF.out.one |> fun h u hu => h u (by simpa using hu))) (by have := HN.out; have := HNT.out; have := HLT.out; simp only [maxLen]; omega) (by have := HN.out; have := HNT.out; have := HLT.out; omega) ?_
             intro v2 w9 hrow2 hg2 hat2
             have HGR := Lib.hid (outs_grown (o := o) HM7.out (by rw [← HNTE.out]; exact HRO7.out) HOW.out HOS7.out HBY7.out HW3.out.bel (by rw [← HNTE.out, ← HXE.out]; exact hrow2) hg2 hat2)
             clear hrow2 hg2 hat2))
        obtain ⟨L9, hm9, hr9, ho9, hs9⟩ := HGR.out
        go_roundg (n - (i + 1))
        case measure => have := HLT.out; have := HGG.out; omega
        case rel =>
          have hlt := HLT.out
          refine ⟨i + 1, L9, xs ++ [.int .i64 o.adr, .int .i64 o.kind, .slice Ab nb cb], rfl, by omega, by first | rfl | go_num, HLR2.out.2.2, ?_, ?_, ho9, ?_⟩
          · rw [HLR2.out.1]; exact hm9
          · rw [HLR2.out.2.1]; exact hr9
          · rw [HLR2.out.2.1]; exact hs9
    · have hini : ¬ (i : Int) < (n : Int) := by omega
      have hie : i = n := by omega
      subst hie
      clear hin hi
      go_wp2_with fail
      go_ret
      exact ⟨_, rfl, Lx, by rw [HFE.out]; exact ⟨xs, by rw [← HNTE.out]; exact HRO.out, HOS.out, fun g hg => (HOW.out g hg).1⟩, by rw [HFE.out]; exact HM6.out.dm, HM6.out.stp⟩
end Go.Proofs.YtmkifedcanmjoaaGreat
