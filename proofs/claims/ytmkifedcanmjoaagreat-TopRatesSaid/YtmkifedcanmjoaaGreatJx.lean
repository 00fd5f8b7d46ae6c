/- Texts of this claim, one behind the other: Say, Where, RoomP, Hall, Dset. Each says ahead of itself what it proves, and its conditions. -/
import Derived.Test.YtmkifedcanmjoaaGreatJr
import Derived.Test.YtmkifedcanmjoaaGreatJw
import Derived.Test.YtmkifedcanmjoaaGreatJm
/- desk.say, desk.no (contracts). Conditions: the note's bytes read. -/
set_option linter.unusedVariables false
set_option linter.unusedSimpArgs false
namespace Go.Proofs.YtmkifedcanmjoaaGreat
open Go.RowKit
attribute [local go_sem ↓] Go.wp_at_zero Go.wp_at_succ
theorem ByV.rd {L : Lab} {w : World} {A : Option Addr} {n c : Nat} {b : List UInt8} (h : ByV L w (.slice A n c) b) : Reads w w.heap.size 1 A n (b.map u8v) := h.1.rd
theorem ByV.below {L : Lab} {w w' : World} {v : Value} {b : List UInt8} (h : ByV L w v b) (hb : Below w.heap.size w w') : ByV L w' v b :=
  ⟨h.1.below hb, fun g hg => ⟨(h.2 g hg).1, Nat.lt_of_lt_of_le (h.2 g hg).2 hb.size⟩⟩
theorem DW.cell7 {X : Comp → Prop} {w0 w : World} {L0 L : Lab} {g : Nat} {P : Ptrs} {D : DeskD} {bs : List Bk} {q : Nat} {t : TypeId} {x0 x1 x2 x3 x4 x5 x6 : Value} (h : DW X w0 L0 w L g P D bs) (hb : (q, t, [x0, x1, x2, x3, x4, x5, x6]) ∈ bs) :
    w.cell? ⟨q, 0, none⟩ = some x0 ∧ w.cell? ⟨q, 1, none⟩ = some x1 ∧ w.cell? ⟨q, 2, none⟩ = some x2 ∧ w.cell? ⟨q, 3, none⟩ = some x3 ∧ w.cell? ⟨q, 4, none⟩ = some x4 ∧ w.cell? ⟨q, 5, none⟩ = some x5 ∧ w.cell? ⟨q, 6, none⟩ = some x6 :=
  ⟨h.cell hb 0, h.cell hb 1, h.cell hb 2, h.cell hb 3, h.cell hb 4, h.cell hb 5, h.cell hb 6⟩
set_option maxRecDepth 100000 in
set_option maxHeartbeats 6400000 in
theorem say_c {L : Lab} {w : World} {g : Nat} {P : Ptrs} {D : DeskD} (hd : DeskM L w g P D) {a : Nat} (ha : a < 64) (d : Nt.NoteD) {A : Option Addr} {c : Nat} (hv : ByV L w (.slice A d.bs.length c) d.bs) (hlen : d.bs.length ≤ 9223372036854775807) :
    Calls Tryz.prog 107 #[.pointer (some ⟨g, 0, none⟩), .int .i64 (a : Int), Nt.noteV d A c] w fun e w' => e = .returned (.tuple #[]) ∧ ∃ L', DeskM L' w' g P (sayD D a d) ∧ Stp (tellX a) L L' w w' := by
  obtain ⟨gd, hgd⟩ : ∃ gd, gd = Nt.good d := ⟨_, rfl⟩
  have HGD := Lib.hid hgd
  obtain ⟨res, hres⟩ : ∃ res, res = sayD D a d := ⟨_, rfl⟩
  have HRE : Hid (res = if gd then tellD D a 2 (Nt.bytesS d) else D) := by show _ = _; rw [hres, hgd]; rfl
  have HA := Lib.hid ha
  rw [← hres]
  have HBC := Lib.hid (fun (wx : World) (hr : Reads wx wx.heap.size 1 A d.bs.length (d.bs.map u8v)) => Nt.bytes_c d A c wx hr hlen)
  have HV := Lib.hid hv
  have HFIT : Hid (gd = true → (Nt.bytesS d).length ≤ 140737488355328) := by
    show _ → _
    intro h
    rw [hgd] at h
    have := Nt.good_fit h
    rw [Nt.bytesS_len]
    omega
  obtain ⟨kind, room, slot, epoch, n, m, bs⟩ := d
  simp only at HV HBC
  have HM0 : Hid (DW (tellX a) w L w L g P D []) := DW.start (tellX a) hd
  obtain ⟨nb, hnb⟩ : ∃ nb, nb = bs.length := ⟨_, rfl⟩
  rw [← hnb] at HV HBC
  have HNV : Hid (Nt.noteV ⟨kind, room, slot, epoch, n, m, bs⟩ A c = .agg #[.int .i64 kind, .int .i64 room, .int .i64 slot, .int .i64 epoch, .int .i64 n, .int .i64 m, .slice A nb c]) := by show _ = _; rw [hnb]; rfl
  rw [HNV.out] at HBC ⊢
  obtain ⟨q, hq⟩ : ∃ q, q = w.heap.size := ⟨_, rfl⟩
  obtain ⟨w1, hw1⟩ : ∃ w1, w1 = w.alloc (.cells #[.int .i64 kind, .int .i64 room, .int .i64 slot, .int .i64 epoch, .int .i64 n, .int .i64 m, .slice A nb c] 172) := ⟨_, rfl⟩
  obtain ⟨L1, hL1⟩ : ∃ L1, L1 = tempAt L w.heap.size := ⟨_, rfl⟩
  have HM1 : Hid (DW (tellX a) w L w1 L1 g P D [(q, 172, [.int .i64 kind, .int .i64 room, .int .i64 slot, .int .i64 epoch, .int .i64 n, .int .i64 m, .slice A nb c])]) := by
    show DW _ _ _ _ _ _ _ _ _
    rw [hw1, hq, hL1]
    exact HM0.out.alloc _ [_, _, _, _, _, _, _]
  have HB1 : Hid (Below w.heap.size w w1) := by show Below _ _ _; rw [hw1]; exact balloc (Below.refl _ _) _
  clear hd hv hgd hres ha hnb hlen hL1 HM0
  go_enter Tryz.func107, Tryz.ntmps107
  go_upto_region 1 with fail
  rw [← hw1, ← hq]
  clear hw1 hq
  obtain ⟨q0, q1, q2, q3, q4, q5, q6⟩ := HM1.out.cell7 (.head _)
  go_wp2_with fail
  refine (HBC.out w1 (HV.out.below HB1.out).rd).mono ?_
  rintro e0 w2 ⟨A2, c2, rfl, hrow, hbq⟩
  have HM2 : Hid (DW (tellX a) w L w2 L1 g P D _) := HM1.out.call hbq
  have HBY : Hid (ByV L1 w2 (.slice A2 (if Nt.good ⟨kind, room, slot, epoch, n, m, bs⟩ then Nt.bytesS ⟨kind, room, slot, epoch, n, m, bs⟩ else []).length c2) (if Nt.good ⟨kind, room, slot, epoch, n, m, bs⟩ then Nt.bytesS ⟨kind, room, slot, epoch, n, m, bs⟩ else [])) := ByV.ofRow hrow HM1.out.top
  clear hrow hbq HM1 q0 q1 q2 q3 q4 q5 q6 HB1 HV HBC HNV
  rw [← HGD.out] at HBY ⊢
  cases gd
  · have HVV : Hid (res = D) := by show _ = _; rw [HRE.out]; rfl
    go_wp2_with fail
    go_end0
    exact ⟨rfl, L1, by rw [HVV.out]; exact HM2.out.dm, HM2.out.stp⟩
  · obtain ⟨b, hb⟩ : ∃ b, b = Nt.bytesS ⟨kind, room, slot, epoch, n, m, bs⟩ := ⟨_, rfl⟩
    simp only [if_true] at HBY ⊢
    rw [← hb] at HBY HRE HFIT ⊢
    have HVV : Hid (res = tellD D a 2 b) := by show _ = _; rw [HRE.out]; rfl
    clear hb
    obtain ⟨nb2, hnb2⟩ : ∃ nb2, nb2 = b.length := ⟨_, rfl⟩
    have HL2 : Hid (b.length ≤ 140737488355328) := HFIT.out rfl
    rw [← hnb2] at HBY ⊢
    clear hnb2
    go_wp2_with fail
    refine (tell_c HM2.out.dm HA.out 2 HBY.out HL2.out).mono ?_
    rintro e0 w3 ⟨rfl, L3, hd3, hs3⟩
    have HM3 := Lib.hid (HM2.out.step hs3 hd3 (by unfold tellX; simp))
    clear hd3 hs3
    go_wp2_with fail
    go_end0
    exact ⟨rfl, L3, by rw [HVV.out]; exact HM3.out.dm, HM3.out.stp⟩
theorem no_c {L : Lab} {w : World} {g : Nat} {P : Ptrs} {D : DeskD} (hd : DeskM L w g P D) {a : Nat} (ha : a < 64) (e k : Int) :
    Calls Tryz.prog 58 #[.pointer (some ⟨g, 0, none⟩), .int .i64 (a : Int), .int .i64 e, .int .i64 k] w fun e0 w' => e0 = .returned (.tuple #[]) ∧ ∃ L', DeskM L' w' g P (noD D a e k) ∧ Stp (tellX a) L L' w w' := by
  have HS := Lib.hid (say_c hd ha ⟨18, 0, 0, 0, e, k, []⟩ (A := none) (c := 0) ⟨SlV.nil w, fun g hg => by cases hg⟩ (by show (0 : Nat) ≤ 9223372036854775807; decide))
  obtain ⟨res, hres⟩ : ∃ res, res = sayD D a ⟨18, 0, 0, 0, e, k, []⟩ := ⟨_, rfl⟩
  have e1 : noD D a e k = res := hres.symm
  rw [e1]
  rw [← hres] at HS
  clear hres e1 hd
  unfold Nt.noteV at HS
  go_enter Tryz.func58, Tryz.ntmps58
  go_wp2_with fail
  refine HS.out.mono ?_
  rintro e0 w2 ⟨rfl, L2, h1, h2⟩
  have H1 := Lib.hid h1
  have H2 := Lib.hid h2
  clear h1 h2
  go_wp2_with fail
  go_end0
  exact ⟨rfl, L2, H1.out, H2.out⟩
end Go.Proofs.YtmkifedcanmjoaaGreat
/- desk.where (contract). Conditions: none. -/
set_option linter.unusedVariables false
set_option linter.unusedSimpArgs false
namespace Go.Proofs.YtmkifedcanmjoaaGreat
open Go.RowKit
attribute [local go_sem ↓] Go.wp_at_zero Go.wp_at_succ
/-- Where a hall lies. -/
def hallV (g i : Nat) : Value := .pointer (some ⟨g, i * 367, none⟩)
def whereV (g : Nat) : Option (Nat × Nat) → Value
  | none => .tuple #[.pointer none, .int .i64 0, .bool false]
  | some (i, s) => .tuple #[hallV g i, .int .i64 (s : Int), .bool true]
theorem DeskC.tpart {L : Lab} {w : World} {P : Ptrs} {C : List Value} {D : DeskD} (h : DeskC L w P C D) {i : Nat} (hi : i < 4) : ∀ j v, (tbL (D.hall i).r.t)[j]? = some v → C[367 * i + j]? = some v := fun j v hv => by
  have hr := h.wr i hi
  have hj := get_len hv
  rw [tbL_len hr.1] at hj
  rw [h.room i hi j (by omega), rL_t hr hj]
  exact hv
theorem DeskC.kpart {L : Lab} {w : World} {P : Ptrs} {C : List Value} {D : DeskD} (h : DeskC L w P C D) {i : Nat} (hi : i < 4) : ∀ j v, (kL (D.hall i).r.k)[j]? = some v → C[367 * i + 16 + j]? = some v := fun j v hv => by
  have hr := h.wr i hi
  have hj := get_len hv
  rw [kL_len] at hj
  rw [Nat.add_assoc, h.room i hi (16 + j) (by omega), rL_k hr hj]
  exact hv
theorem DeskC.rpart {L : Lab} {w : World} {P : Ptrs} {C : List Value} {D : DeskD} (h : DeskC L w P C D) {i : Nat} (hi : i < 4) : ∀ j v, (rL (D.hall i).r)[j]? = some v → C[367 * i + j]? = some v := fun j v hv => by
  have hj := get_len hv
  rw [rL_len (h.wr i hi)] at hj
  rw [h.room i hi j hj]
  exact hv
theorem DeskM.part {L : Lab} {w : World} {g : Nat} {P : Ptrs} {D : DeskD} (h : DeskM L w g P D) (o : Nat) (m : List Value) (hm : ∀ C, DeskC L w P C D → ∀ j v, m[j]? = some v → C[o + j]? = some v) : w.rangeAt g o m := by
  obtain ⟨h1, h2, C, h3, h4⟩ := h
  exact blk_mid h3 o m (hm C h4)
theorem DeskM.wr {L : Lab} {w : World} {g : Nat} {P : Ptrs} {D : DeskD} (h : DeskM L w g P D) {i : Nat} (hi : i < 4) : WR (D.hall i).r := by
  obtain ⟨h1, h2, C, h3, h4⟩ := h
  exact h4.wr i hi
set_option maxRecDepth 100000 in
set_option maxHeartbeats 6400000 in
theorem where_c {L : Lab} {w : World} {g : Nat} {P : Ptrs} {D : DeskD} (hd : DeskM L w g P D) (a : Int) :
    Calls Tryz.prog 52 #[.pointer (some ⟨g, 0, none⟩), .int .i64 a] w fun e w' => e = .returned (whereV g (whereD D a)) ∧ Below w.heap.size w w' := by
  obtain ⟨res, hres⟩ : ∃ res, res = whereD D a := ⟨_, rfl⟩
  have HRE := Lib.hid hres
  have HD := Lib.hid hd
  rw [← hres]
  clear hd hres
  go_enter Tryz.func52, Tryz.ntmps52
  go_upto_region 2 with fail
  go_loopg [10] 4 (fun gg v wx => ∃ i : Nat, gg = 4 - i ∧ i ≤ 4 ∧ v = .int .i64 (i : Int) ∧ whereFrom D a (4 - i) i = res ∧ Below w.heap.size w wx)
  case atStart => exact ⟨0, rfl, by omega, rfl, HRE.out.symm, Below.refl _ _⟩
  case round =>
    obtain ⟨i, hgg, hi, rfl, hf, hb⟩ := hrel
    have HF := Lib.hid hf
    have HGG := Lib.hid hgg
    have HB := Lib.hid hb
    clear hf hgg hb
    by_cases hin : i < 4
    · have hini : (i : Int) < 4 := by omega
      have hin0 : (0 : Int) ≤ (i : Int) := by omega
      have hw1 : IntKind.i64.wrap ((i : Int) + 1) = ((i + 1 : Nat) : Int) := by rw [IntKind.wrap_i64]; omega
      obtain ⟨T, hT⟩ : ∃ T, T = (D.hall i).r.t := ⟨_, rfl⟩
      obtain ⟨E, hE⟩ : ∃ E, E = tbL T := ⟨_, rfl⟩
      have HWT : Hid (WT T) := by show WT _; rw [hT]; exact (HD.out.wr hin).1
      have HEF : Hid (FitL 53 E) := by show FitL _ _; rw [hE]; exact fitT HWT.out
      have HRG : Hid (wr.rangeAt g (i * 367) E) := by show World.rangeAt _ _ _ _; rw [hE, hT, Nat.mul_comm]; exact (HD.out.below HB.out).part _ _ fun C hC => hC.tpart hin
      have HS : Hid (res = match FindB T a with | some s => some (i, s) | none => whereFrom D a (4 - (i + 1)) (i + 1)) := by
        show _ = _
        rw [← HF.out, show 4 - i = (4 - (i + 1)) + 1 by omega, hT]
        rfl
      have FND : Hid (∀ (wx : World), Calls Tryz.prog 69 #[.agg E.toArray, .int .i64 a] wx fun e w' => e = .returned (.tuple #[.int .i64 (FindN T a), .bool (FindT T a).isSome]) ∧ Below wx.heap.size wx w') := fun wx => by rw [hE]; exact Find_c T a wx HWT.out
      have HLT := Lib.hid hin
      clear hT hE hin hi HF
      go_wp2_with (first
        | ((with_reducible show wpList _ _ _ (⟨some 21, .load _ (.tmp 20), _, _, _, _⟩ :: _) _ _); refine wpList_load_mid rfl 53 (.tmp 20) rfl g (i * 367) rfl E _ HRG.out Tryz.underlying53 rfl HEF.out.info ?_))
      refine (FND.out wr).mono ?_
      rintro e0 w2 ⟨rfl, hbq⟩
      have HB2 := Lib.hid (bcall HB.out hbq)
      clear hbq
      have hf1 : FindN T a = optN (FindB T a) := by unfold FindN FindB; split <;> rfl
      have hf2 : FindT T a = FindB T a := rfl
      rw [hf1, hf2]
      obtain ⟨fo, hfo⟩ : ∃ fo, fo = FindB T a := ⟨_, rfl⟩
      rw [← hfo] at HS ⊢
      clear hfo hf1 hf2
      cases fo with
      | none =>
        have HS2 : Hid (whereFrom D a (4 - (i + 1)) (i + 1) = res) := by show _ = _; rw [HS.out]
        clear HS
        go_wp2_with fail
        go_roundg (4 - (i + 1))
        case measure => have := HLT.out; have := HGG.out; omega
        case rel => have hlt := HLT.out; exact ⟨i + 1, rfl, by omega, by first | rfl | go_num, HS2.out, HB2.out⟩
      | some s =>
        have HS2 : Hid (res = some (i, s)) := by show _ = _; rw [HS.out]
        clear HS
        go_wp2_with fail
        exact bodyPost_ret (v := whereV g (some (i, s))) (by simp [results, Tryz.results52, go_sem, whereV, hallV, optN]) rfl ⟨by rw [HS2.out], HB2.out⟩
    · have hini : ¬ (i : Int) < 4 := by omega
      have hie : i = 4 := by omega
      subst hie
      clear hin hi
      have HS2 : Hid (res = none) := by show _ = _; rw [← HF.out]; rfl
      go_wp2_with fail
      exact bodyPost_ret (v := whereV g none) (by simp [results, Tryz.results52, go_sem, whereV]) rfl ⟨by rw [HS2.out], HB.out⟩
end Go.Proofs.YtmkifedcanmjoaaGreat
/- Tables stay good: plain laws. No program in sight. -/
set_option linter.unusedVariables false
set_option linter.unusedSimpArgs false
namespace Go.Proofs.YtmkifedcanmjoaaGreat
theorem goodFrom_iff (t : Tb) : ∀ f i, goodFrom t f i = true ↔ ∀ j, i ≤ j → j < i + f → okAt t j = true
  | 0, i => by simp only [goodFrom, true_iff]; intro j h1 h2; omega
  | f + 1, i => by
    rw [goodFrom, Bool.and_eq_true, goodFrom_iff t f (i + 1)]
    constructor
    · rintro ⟨h1, h2⟩ j h3 h4
      by_cases e : j = i
      · rw [e]; exact h1
      · exact h2 j (by omega) (by omega)
    · intro h
      exact ⟨h i (by omega) (by omega), fun j h1 h2 => h j (by omega) (by omega)⟩
theorem findFrom_none (t : Tb) (a : Int) : ∀ f i, findFrom t a f i = none ↔ ∀ j, i ≤ j → j < i + f → ¬ (usedAt t j = true ∧ a = addrAt t j)
  | 0, i => by simp only [findFrom, true_iff]; intro j h1 h2; omega
  | f + 1, i => by
    unfold findFrom
    by_cases h : (usedAt t i && (a == addrAt t i)) = true
    · rw [if_pos h]
      simp only [Bool.and_eq_true, beq_iff_eq] at h
      constructor
      · intro e; cases e
      · intro h2; exact absurd h (h2 i (by omega) (by omega))
    · rw [if_neg h, findFrom_none t a f (i + 1)]
      simp only [Bool.and_eq_true, beq_iff_eq] at h
      constructor
      · intro h2 j h3 h4
        by_cases e : j = i
        · rw [e]; exact h
        · exact h2 j (by omega) (by omega)
      · intro h2 j h3 h4; exact h2 j (by omega) (by omega)
theorem findFrom_some (t : Tb) (a : Int) : ∀ f i k, findFrom t a f i = some k ↔ (i ≤ k ∧ k < i + f ∧ usedAt t k = true ∧ a = addrAt t k ∧ ∀ j, i ≤ j → j < k → ¬ (usedAt t j = true ∧ a = addrAt t j))
  | 0, i, k => by
    simp only [findFrom]
    constructor
    · intro h; cases h
    · rintro ⟨h1, h2, _⟩; omega
  | f + 1, i, k => by
    unfold findFrom
    by_cases h : (usedAt t i && (a == addrAt t i)) = true
    · rw [if_pos h]
      simp only [Bool.and_eq_true, beq_iff_eq] at h
      constructor
      · intro e
        injection e with e
        subst e
        exact ⟨by omega, by omega, h.1, h.2, fun j h1 h2 => by omega⟩
      · rintro ⟨h1, h2, h3, h4, h5⟩
        by_cases e : i = k
        · rw [e]
        · exact absurd h (h5 i (by omega) (by omega))
    · rw [if_neg h, findFrom_some t a f (i + 1) k]
      simp only [Bool.and_eq_true, beq_iff_eq] at h
      constructor
      · rintro ⟨h1, h2, h3, h4, h5⟩
        refine ⟨by omega, by omega, h3, h4, fun j h6 h7 => ?_⟩
        by_cases e : j = i
        · rw [e]; exact h
        · exact h5 j (by omega) h7
      · rintro ⟨h1, h2, h3, h4, h5⟩
        have : i ≠ k := fun e => by subst e; exact h ⟨h3, h4⟩
        exact ⟨by omega, by omega, h3, h4, fun j h6 h7 => h5 j (by omega) h7⟩
/-- A good table, slot by slot. -/
theorem goodT_iff (t : Tb) : goodT t = true ↔ ∀ i, i < 8 → (usedAt t i = true → 0 ≤ addrAt t i ∧ addrAt t i ≤ 63 ∧ ∀ j, j < i → ¬ (usedAt t j = true ∧ addrAt t i = addrAt t j)) ∧ (usedAt t i = false → addrAt t i = 0) := by
  unfold goodT
  rw [goodFrom_iff]
  constructor
  · intro h i hi
    have h1 := h i (by omega) (by omega)
    unfold okAt at h1
    constructor
    · intro hu
      rw [if_pos hu, Bool.and_eq_true, beq_iff_eq] at h1
      unfold adrB at h1
      simp only [Bool.and_eq_true, decide_eq_true_eq] at h1
      refine ⟨h1.2.1, h1.2.2, fun j hj hc => ?_⟩
      have hf := h1.1
      unfold findN at hf
      cases hq : findT t (addrAt t i) with
      | none => exact (findFrom_none t _ 8 0).1 hq j (by omega) (by omega) ⟨hc.1, hc.2⟩
      | some k =>
        rw [hq] at hf
        have hk := (findFrom_some t _ 8 0 k).1 hq
        have : k = i := by
          have hf2 : (k : Int) = (i : Int) := by simpa using hf
          omega
        subst this
        exact hk.2.2.2.2 j (by omega) hj ⟨hc.1, hc.2⟩
    · intro hu
      rw [if_neg (by rw [hu]; decide)] at h1
      simpa using h1
  · intro h i _ hi
    have h1 := h i (by omega)
    unfold okAt
    by_cases hu : usedAt t i = true
    · rw [if_pos hu]
      obtain ⟨h2, h3, h4⟩ := h1.1 hu
      have hq : findT t (addrAt t i) = some i := (findFrom_some t _ 8 0 i).2 ⟨by omega, by omega, hu, rfl, fun j _ hj hc => h4 j hj ⟨hc.1, hc.2⟩⟩
      unfold findN adrB
      rw [hq]
      simp [h2, h3]
    · rw [if_neg hu]
      have := h1.2 (by simpa using hu)
      simpa using this
theorem usedAt_put (t : Tb) (i j : Nat) (u : Bool) (a : Int) (hl : t.used.length = 8) (hi : i < 8) : usedAt (putT t i u a) j = if i = j then u else usedAt t j := by
  unfold usedAt putT
  simp only [List.getD_eq_getElem?_getD, List.getElem?_set]
  by_cases h : i = j
  · subst h; simp [hl, hi]
  · simp [h]
theorem addrAt_put (t : Tb) (i j : Nat) (u : Bool) (a : Int) (hl : t.addr.length = 8) (hi : i < 8) : addrAt (putT t i u a) j = if i = j then a else addrAt t j := by
  unfold addrAt putT
  simp only [List.getD_eq_getElem?_getD, List.getElem?_set]
  by_cases h : i = j
  · subst h; simp [hl, hi]
  · simp [h]
theorem goodT_put {t : Tb} (h : goodT t = true) (hl : t.used.length = 8 ∧ t.addr.length = 8) {i : Nat} (hi : i < 8) {a : Int} (ha : adrB a = true) (hf : findT t a = none) (hu : usedAt t i = false) : goodT (putT t i true a) = true := by
  have h0 := (goodT_iff t).1 h
  have hn := (findFrom_none t a 8 0).1 hf
  unfold adrB at ha
  simp only [Bool.and_eq_true, decide_eq_true_eq] at ha
  rw [goodT_iff]
  intro j hj
  rw [usedAt_put t i j true a hl.1 hi, addrAt_put t i j true a hl.2 hi]
  by_cases e : i = j
  · subst e
    simp only [if_true]
    refine ⟨fun _ => ⟨ha.1, ha.2, fun k hk hc => ?_⟩, fun h => by cases h⟩
    rw [usedAt_put t i k true a hl.1 hi, addrAt_put t i k true a hl.2 hi, if_neg (by omega), if_neg (by omega)] at hc
    exact hn k (by omega) (by omega) hc
  · rw [if_neg e, if_neg e]
    refine ⟨fun h1 => ?_, (h0 j hj).2⟩
    obtain ⟨h2, h3, h4⟩ := (h0 j hj).1 h1
    refine ⟨h2, h3, fun k hk hc => ?_⟩
    rw [usedAt_put t i k true a hl.1 hi, addrAt_put t i k true a hl.2 hi] at hc
    by_cases e2 : i = k
    · rw [if_pos e2, if_pos e2] at hc
      exact hn j (by omega) (by omega) ⟨h1, hc.2.symm⟩
    · rw [if_neg e2, if_neg e2] at hc
      exact h4 k hk hc
theorem goodT_clear {t : Tb} (h : goodT t = true) (hl : t.used.length = 8 ∧ t.addr.length = 8) {i : Nat} (hi : i < 8) : goodT (putT t i false 0) = true := by
  have h0 := (goodT_iff t).1 h
  rw [goodT_iff]
  intro j hj
  rw [usedAt_put t i j false 0 hl.1 hi, addrAt_put t i j false 0 hl.2 hi]
  by_cases e : i = j
  · subst e
    simp
  · rw [if_neg e, if_neg e]
    refine ⟨fun h1 => ?_, (h0 j hj).2⟩
    obtain ⟨h2, h3, h4⟩ := (h0 j hj).1 h1
    refine ⟨h2, h3, fun k hk hc => ?_⟩
    rw [usedAt_put t i k false 0 hl.1 hi, addrAt_put t i k false 0 hl.2 hi] at hc
    by_cases e2 : i = k
    · rw [if_pos e2] at hc; exact absurd hc.1 (by decide)
    · rw [if_neg e2, if_neg e2] at hc
      exact h4 k hk hc
theorem idxFrom_some (l : List Bool) (b : Bool) : ∀ f i k, idxFrom l b f i = some k → i ≤ k ∧ k < i + f ∧ l.getD k false = b
  | 0, i, k, h => by cases h
  | f + 1, i, k, h => by
    unfold idxFrom at h
    split at h
    · rename_i e
      injection h with h
      subst h
      exact ⟨by omega, by omega, by simpa using e⟩
    · have := idxFrom_some l b f (i + 1) k h
      exact ⟨by omega, by omega, this.2.2⟩
theorem goodT_take {t : Tb} (h : goodT t = true) (hl : t.used.length = 8 ∧ t.addr.length = 8) (a : Int) : goodT (takeT t a).1 = true := by
  unfold takeT
  split
  · exact h
  · rename_i h1
    split
    · exact h
    · rename_i h2
      split
      · exact h
      · rename_i x i hi
        have h3 := idxFrom_some _ _ _ _ _ hi
        simp only [h, Bool.not_true, Bool.false_or, Bool.not_eq_true', Bool.not_eq_false] at h1
        refine goodT_put h hl (by omega) h1 ?_ h3.2.2
        cases hq : findT t a with
        | none => rfl
        | some k => rw [hq] at h2; simp at h2
theorem goodT_free {t : Tb} (h : goodT t = true) (hl : t.used.length = 8 ∧ t.addr.length = 8) (i : Int) : goodT (freeT t i).1 = true := by
  unfold freeT
  split
  · exact h
  · rename_i h1
    split
    · exact h
    · simp only [h, Bool.not_true, Bool.false_or, Bool.not_eq_true', Bool.not_eq_false] at h1
      unfold sltB at h1
      simp only [Bool.and_eq_true, decide_eq_true_eq] at h1
      exact goodT_clear h hl (by omega)
theorem goodT_tb0 : goodT tb0 = true := by decide +kernel
theorem goodT_gone {r : Rm} (h : goodT r.t = true) (hl : r.t.used.length = 8 ∧ r.t.addr.length = 8) (i : Nat) (now : Int) : goodT (goneR r i now).t = true := by
  unfold goneR
  simp only
  split
  · exact goodT_free h hl _
  · exact goodT_tb0
theorem goodT_join {r : Rm} (h : goodT r.t = true) (hl : r.t.used.length = 8 ∧ r.t.addr.length = 8) (a now : Int) : goodT (joinR r a now).1.t = true := by
  unfold joinR
  split
  · exact h
  · split
    · exact h
    · split
      · exact h
      · split
        · exact h
        · exact goodT_take h hl a
theorem addr_fits {t : Tb} (h : goodT t = true) {i : Nat} (hi : i < 8) : 0 ≤ addrAt t i ∧ addrAt t i ≤ 63 := by
  have h1 := (goodT_iff t).1 h i hi
  by_cases hu : usedAt t i = true
  · exact ⟨(h1.1 hu).1, (h1.1 hu).2.1⟩
  · rw [h1.2 (by simpa using hu)]; omega
end Go.Proofs.YtmkifedcanmjoaaGreat
/- A desk of which one room has turned. Conditions: none. -/
set_option linter.unusedVariables false
set_option linter.unusedSimpArgs false
namespace Go.Proofs.YtmkifedcanmjoaaGreat
open Go.RowKit
/-- A list of which a part is another one. -/
def putL (C : List Value) (o : Nat) (l : List Value) : List Value := C.take o ++ l ++ C.drop (o + l.length)
theorem putL_len (C : List Value) (o : Nat) (l : List Value) (h : o + l.length ≤ C.length) : (putL C o l).length = C.length := by
  unfold putL
  simp only [List.length_append, List.length_take, List.length_drop]
  omega
theorem putL_in (C : List Value) (o : Nat) (l : List Value) (h : o + l.length ≤ C.length) {k : Nat} (hk : k < l.length) : (putL C o l)[o + k]? = l[k]? := by
  unfold putL
  have hl : (C.take o).length = o := by rw [List.length_take]; omega
  rw [List.append_assoc, List.getElem?_append_right (by rw [hl]; omega), hl, show o + k - o = k by omega, List.getElem?_append_left hk]
theorem putL_out (C : List Value) (o : Nat) (l : List Value) (h : o + l.length ≤ C.length) {k : Nat} (hk : k < o ∨ o + l.length ≤ k) : (putL C o l)[k]? = C[k]? := by
  unfold putL
  have hl : (C.take o).length = o := by rw [List.length_take]; omega
  rcases hk with hk | hk
  · rw [List.append_assoc, List.getElem?_append_left (by rw [hl]; exact hk), List.getElem?_take, if_pos hk]
  · rw [List.getElem?_append_right (by rw [List.length_append, hl]; exact hk), List.length_append, hl, List.getElem?_drop]
    congr 1
    omega
theorem blk_putL {w : World} {g : Nat} {t : TypeId} {C : List Value} (h : Blk w g t C.toArray) (o : Nat) (l : List Value) (hl : o + l.length ≤ C.length) : Blk (w.setCells g o l) g t (putL C o l).toArray := by
  have e : C = C.take o ++ (C.drop o).take l.length ++ C.drop (o + l.length) := by
    rw [List.append_assoc, ← List.drop_drop, List.take_append_drop, List.take_append_drop]
  rw [e] at h
  exact blk_setPart h (by rw [List.length_take, List.length_drop]; omega) (by rw [List.length_take]; omega)
theorem far_hall {i j x : Nat} (h1 : 39 ≤ x) (h2 : x < 367) : 367 * j + x < 367 * i ∨ 367 * i + 39 ≤ 367 * j + x := by
  rcases Nat.lt_or_ge j i with h | h
  · left
    have := Nat.mul_le_mul_left 367 (show j + 1 ≤ i from h)
    omega
  · right
    have := Nat.mul_le_mul_left 367 h
    omega
theorem far_hall2 {i j x : Nat} (hn : i ≠ j) (h2 : x < 367) : 367 * j + x < 367 * i ∨ 367 * i + 39 ≤ 367 * j + x := by
  rcases Nat.lt_or_ge j i with h | h
  · left
    have := Nat.mul_le_mul_left 367 (show j + 1 ≤ i from h)
    omega
  · right
    have := Nat.mul_le_mul_left 367 (show i + 1 ≤ j by omega)
    omega
def dskX : Comp → Prop := fun c => c = .desk
theorem DeskD.hall_set (D : DeskD) (i j : Nat) (h : HallD) (hi : i < D.halls.length) : (D.setHall i h).hall j = if i = j then h else D.hall j := by
  unfold DeskD.setHall DeskD.hall
  rw [getD_set_]
  by_cases e : i = j
  · rw [if_pos ⟨e, hi⟩, if_pos e]
  · rw [if_neg (fun x => e x.1), if_neg e]
section
variable {L L' : Lab} {w w' : World} {g : Nat} {P : Ptrs} {C : List Value} {D : DeskD}
/-- A hall of which the room alone has turned. -/
theorem DeskC.putRoom {i : Nat} (h : DeskC L w P C D) (hi : i < 4) (hs : Stp dskX L L' w w') {r : Rm} (hr : WR r) (hg : goodT r.t = true) : DeskC L' w' P (putL C (367 * i) (rL r)) (D.setRoom i r) := by
  have hl := rL_len hr
  have hc := h.len
  have hle : 367 * i + (rL r).length ≤ C.length := by omega
  have hh : ∀ j, j < 4 → (D.setRoom i r).hall j = if i = j then { D.hall i with r := r } else D.hall j := fun j hj => DeskD.hall_set D i j _ (by rw [h.halls]; exact hi)
  have hst : ∀ j, j < 4 → ∀ s k, ((D.setRoom i r).hall j).str s k = (D.hall j).str s k := fun j hj s k => by
    rw [hh j hj]
    split
    · rename_i e; subst e; rfl
    · rfl
  have hsl : ∀ j, j < 4 → ((D.setRoom i r).hall j).strm = (D.hall j).strm := fun j hj => by
    rw [hh j hj]
    split
    · rename_i e; subst e; rfl
    · rfl
  have hla : ∀ j, j < 4 → ((D.setRoom i r).hall j).lanes = (D.hall j).lanes := fun j hj => by
    rw [hh j hj]
    split
    · rename_i e; subst e; rfl
    · rfl
  have hx : ∀ c, c ≠ .desk → ¬ dskX c := fun c hc hx => hc hx
  have out : ∀ k, (k < 367 * i ∨ 367 * i + 39 ≤ k) → (putL C (367 * i) (rL r))[k]? = C[k]? := fun k hk => putL_out C _ _ hle (by rw [hl]; exact hk)
  refine ⟨by rw [putL_len _ _ _ hle]; exact hc, by show (D.halls.set i _).length = 4; rw [List.length_set]; exact h.halls, h.posts, fun j hj => ?_, fun j hj k hk => ?_, fun j hj => ?_, fun j hj s hs' k hk => ?_, fun j hj => ?_, fun j hj t2 ht fr hf => ?_, ?_, h.nowB, ?_, fun a ha => ?_, ?_, h.few, fun j hj => ?_⟩
  · rw [hh j hj]
    split
    · exact hr
    · exact h.wr j hj
  · rw [hh j hj]
    by_cases e : i = j
    · subst e
      rw [if_pos rfl]
      exact putL_in C _ _ hle (by rw [hl]; exact hk)
    · rw [if_neg e, out _ (far_hall2 e (by omega))]
      exact h.room j hj k hk
  · rw [hsl j hj]; exact h.strms j hj
  · rw [hst j hj]
    have e : ∀ q, q < 11 → (putL C (367 * i) (rL r))[367 * j + 39 + 33 * s + 11 * k + q]? = C[367 * j + 39 + 33 * s + 11 * k + q]? := fun q hq => out _ (by have := far_hall (i := i) (j := j) (x := 39 + 33 * s + 11 * k + q) (by omega) (by omega); omega)
    obtain ⟨e1, e2, e3, ⟨f1, f2, ⟨v1, f3, f4⟩, f5, ⟨v2, f6, f7⟩, ⟨v3, f8, f9⟩⟩, e5, ⟨v4, e6, e7⟩⟩ := (h.strm j hj s hs' k hk).stp hs (hx _ (by simp))
    exact ⟨(e 0 (by omega)).trans e1, (e 1 (by omega)).trans e2, (e 2 (by omega)).trans e3, ⟨(e 3 (by omega)).trans f1, (e 4 (by omega)).trans f2, ⟨v1, (e 5 (by omega)).trans f3, f4⟩, (e 6 (by omega)).trans f5, ⟨v2, (e 7 (by omega)).trans f6, f7⟩, ⟨v3, (e 8 (by omega)).trans f8, f9⟩⟩, (e 9 (by omega)).trans e5, ⟨v4, (e 10 (by omega)).trans e6, e7⟩⟩
  · rw [hla j hj]; exact h.laness j hj
  · have e : ((D.setRoom i r).hall j).lane t2 fr = (D.hall j).lane t2 fr := by unfold HallD.lane; rw [hla j hj]
    rw [e, out _ (by have := far_hall (i := i) (j := j) (x := 303 + 8 * t2 + fr) (by omega) (by omega); omega)]
    have h1 := h.lane j hj t2 ht fr hf
    cases hl : (D.hall j).lane t2 fr with
    | none => rw [hl] at h1; exact h1
    | some l => rw [hl] at h1; exact ⟨h1.1, h1.2.stp hs (hx _ (by simp)) (hx _ (by simp))⟩
  · rw [out _ (by omega)]; exact h.now
  · obtain ⟨v, h1, h2, h3⟩ := h.draws
    exact ⟨v, by rw [out _ (by omega)]; exact h1, h2.sv hs.sv (fun g hg => by rw [h3 g hg]; exact hx _ (by simp)), fun g hg => (hs.old g (h2.lt hg)).trans (h3 g hg)⟩
  · exact ⟨by rw [out _ (by omega)]; exact (h.post a ha).1, (h.post a ha).2.stp hs (hx _ (by simp)) (hx _ (by simp))⟩
  · exact ⟨by rw [out _ (by omega)]; exact h.counts.1, h.counts.2.stp hs (hx _ (by simp))⟩
  · rw [hh j hj]
    split
    · exact hg
    · exact h.tg j hj
theorem stp_desk (h : DeskM L w g P D) (vs : List Value) (o : Nat) : Stp dskX L L w (w.setCells g o vs) :=
  ⟨Sv.setCells (M := fun k => dskX (L k)) (Sv.refl _ _) (.inl h.lab) vs o, fun _ _ => rfl, fun k hk => h.top k (by rw [size_setCells] at hk; exact hk)⟩
theorem DeskM.putRoom {i : Nat} (h : DeskM L w g P D) (hi : i < 4) {r : Rm} (hr : WR r) (hg : goodT r.t = true) : DeskM L (w.setCells g (i * 367) (rL r)) g P (D.setRoom i r) ∧ Stp dskX L L w (w.setCells g (i * 367) (rL r)) := by
  have hs := stp_desk h (rL r) (i * 367)
  obtain ⟨h1, h2, C, h3, h4⟩ := h
  refine ⟨⟨h1, hs.top, putL C (367 * i) (rL r), ?_, h4.putRoom hi hs hr hg⟩, hs⟩
  rw [Nat.mul_comm i 367]
  exact blk_putL h3 _ _ (by rw [rL_len hr, h4.len]; omega)
theorem DeskM.roomAt (h : DeskM L w g P D) {i : Nat} (hi : i < 4) : w.rangeAt g (i * 367) (rL (D.hall i).r) := by
  rw [Nat.mul_comm]
  exact h.part _ _ fun C hC => hC.rpart hi
theorem DeskM.thereRoom (h : DeskM L w g P D) {i : Nat} (hi : i < 4) {n : Nat} (hn : n ≤ 39) : w.there g (i * 367) n := by
  obtain ⟨h1, h2, C, h3, h4⟩ := h
  exact blk_there h3 _ _ (by rw [h4.len]; omega)
theorem DeskM.nowAt (h : DeskM L w g P D) : w.cell? ⟨g, 1468, none⟩ = some (.int .i64 D.now) ∧ NowB D.now := by
  obtain ⟨C, h1, _, h2⟩ := h.cell
  refine ⟨by rw [h1]; exact h2.now, ?_⟩
  have := h2.nowB
  unfold NowB
  omega
theorem DeskM.tg (h : DeskM L w g P D) {i : Nat} (hi : i < 4) : goodT (D.hall i).r.t = true := by
  obtain ⟨C, _, _, h2⟩ := h.cell
  exact h2.tg i hi
end
end Go.Proofs.YtmkifedcanmjoaaGreat
/- A desk of which one hall, or the draws, have turned. Conditions: none. -/
set_option linter.unusedVariables false
set_option linter.unusedSimpArgs false
namespace Go.Proofs.YtmkifedcanmjoaaGreat
open Go.RowKit
/-- A hall's cells. -/
structure HallC (L : Lab) (w : World) (P : Ptrs) (C : List Value) (i : Nat) (h : HallD) : Prop where
  wr : WR h.r
  tg : goodT h.r.t = true
  room : ∀ j, j < 39 → C[367 * i + j]? = (rL h.r)[j]?
  strms : h.strm.length = 24
  strm : ∀ s, s < 8 → ∀ j, j < 3 → StrmC L w (fun k => C[367 * i + 39 + 33 * s + 11 * j + k]?) (h.str s j)
  laness : h.lanes.length = 64
  lane : ∀ t2, t2 < 8 → ∀ fr, fr < 8 → match h.lane t2 fr with
    | none => C[367 * i + 303 + 8 * t2 + fr]? = some (.pointer none)
    | some l => C[367 * i + 303 + 8 * t2 + fr]? = some (.pointer (some ⟨P.lane i t2 fr, 0, none⟩)) ∧ LaneM L w i t2 fr (P.lane i t2 fr) l
section
variable {L L' : Lab} {w w' : World} {g : Nat} {P P' : Ptrs} {C C' : List Value} {D : DeskD}
theorem DeskC.hallC (h : DeskC L w P C D) {i : Nat} (hi : i < 4) : HallC L w P C i (D.hall i) :=
  ⟨h.wr i hi, h.tg i hi, h.room i hi, h.strms i hi, h.strm i hi, h.laness i hi, h.lane i hi⟩
theorem StrmC.stp_ {X : Comp → Prop} {f f' : Nat → Option Value} {s : StrmD} (h : StrmC L w f s) (hs : Stp X L L' w w') (hx : ¬ X .other) (he : ∀ k, k < 11 → f' k = f k) : StrmC L' w' f' s := by
  obtain ⟨e1, e2, e3, ⟨f1, f2, ⟨v1, f3, f4⟩, f5, ⟨v2, f6, f7⟩, ⟨v3, f8, f9⟩⟩, e5, ⟨v4, e6, e7⟩⟩ := h.stp hs hx
  exact ⟨(he 0 (by omega)).trans e1, (he 1 (by omega)).trans e2, (he 2 (by omega)).trans e3, ⟨(he 3 (by omega)).trans f1, (he 4 (by omega)).trans f2, ⟨v1, (he 5 (by omega)).trans f3, f4⟩, (he 6 (by omega)).trans f5, ⟨v2, (he 7 (by omega)).trans f6, f7⟩, ⟨v3, (he 8 (by omega)).trans f8, f9⟩⟩, (he 9 (by omega)).trans e5, ⟨v4, (he 10 (by omega)).trans e6, e7⟩⟩
theorem HallC.stp {X : Comp → Prop} {i : Nat} {h : HallD} (hh : HallC L w P C i h) (hs : Stp X L L' w w') (hx : ¬ X .other) (hl : ∀ t2 fr, ¬ X (.lane i t2 fr)) (hc : ∀ k, k < 367 → C'[367 * i + k]? = C[367 * i + k]?) (hp : ∀ t2 fr, P'.lane i t2 fr = P.lane i t2 fr) : HallC L' w' P' C' i h where
  wr := hh.wr
  tg := hh.tg
  room := fun j hj => by rw [hc j (by omega)]; exact hh.room j hj
  strms := hh.strms
  strm := fun s hs' j hj => (hh.strm s hs' j hj).stp_ hs hx fun k hk => by
    have := hc (39 + 33 * s + 11 * j + k) (by omega)
    rw [show 367 * i + (39 + 33 * s + 11 * j + k) = 367 * i + 39 + 33 * s + 11 * j + k by omega] at this
    exact this
  laness := hh.laness
  lane := fun t2 ht fr hf => by
    have h1 := hh.lane t2 ht fr hf
    have h2 := hc (303 + 8 * t2 + fr) (by omega)
    rw [show 367 * i + (303 + 8 * t2 + fr) = 367 * i + 303 + 8 * t2 + fr by omega] at h2
    rw [h2, hp]
    cases hl2 : h.lane t2 fr with
    | none => rw [hl2] at h1; exact h1
    | some l => rw [hl2] at h1; exact ⟨h1.1, h1.2.stp hs hx (hl _ _)⟩
def hallX (i : Nat) : Comp → Prop := fun c => c = .desk ∨ ∃ t2 fr, c = .lane i t2 fr
theorem hallX_other {i : Nat} : ¬ hallX i .other := by unfold hallX; simp
theorem hallX_temp {i : Nat} : ¬ hallX i .temp := by unfold hallX; simp
theorem hallX_mut {i : Nat} : ∀ c, hallX i c → mutX c := fun c h => by
  rcases h with rfl | ⟨t2, fr, rfl⟩ <;> exact ⟨by simp, by simp⟩
/-- A hall turns. -/
theorem DeskC.setHall {i : Nat} {h' : HallD} (h : DeskC L w P C D) (hi : i < 4) (hs : Stp (hallX i) L L' w w') (hlen : C'.length = 1535) (hc : ∀ k, (k < 367 * i ∨ 367 * i + 367 ≤ k) → C'[k]? = C[k]?)
    (hp1 : P'.post = P.post) (hp2 : P'.counts = P.counts) (hp3 : ∀ j, j ≠ i → ∀ t2 fr, P'.lane j t2 fr = P.lane j t2 fr) (hn : HallC L' w' P' C' i h') : DeskC L' w' P' C' (D.setHall i h') := by
  have hh : ∀ j, j < 4 → (D.setHall i h').hall j = if i = j then h' else D.hall j := fun j hj => DeskD.hall_set D i j _ (by rw [h.halls]; exact hi)
  have hH : ∀ j, j < 4 → HallC L' w' P' C' j ((D.setHall i h').hall j) := fun j hj => by
    rw [hh j hj]
    by_cases e : i = j
    · subst e; rw [if_pos rfl]; exact hn
    · rw [if_neg e]
      refine (h.hallC hj).stp hs hallX_other (fun t2 fr => ?_) (fun k hk => hc _ ?_) (hp3 j (fun x => e x.symm))
      · rintro (h1 | ⟨a, b, h1⟩)
        · simp at h1
        · injection h1 with h1; exact e h1.symm
      · rcases Nat.lt_or_ge j i with h1 | h1
        · left
          have := Nat.mul_le_mul_left 367 (show j + 1 ≤ i from h1)
          omega
        · right
          have := Nat.mul_le_mul_left 367 (show i + 1 ≤ j by omega)
          omega
  have hx : ∀ c, ¬ hallX i c → ¬ hallX i c := fun c h => h
  have hin : 367 * i + 367 ≤ 1468 := by omega
  refine ⟨hlen, by show (D.halls.set i _).length = 4; rw [List.length_set]; exact h.halls, h.posts, fun j hj => (hH j hj).wr, fun j hj => (hH j hj).room, fun j hj => (hH j hj).strms, fun j hj => (hH j hj).strm, fun j hj => (hH j hj).laness, fun j hj => (hH j hj).lane, ?_, h.nowB, ?_, fun a ha => ?_, ?_, h.few, fun j hj => (hH j hj).tg⟩
  · rw [hc _ (by omega)]; exact h.now
  · obtain ⟨v, h1, h2, h3⟩ := h.draws
    exact ⟨v, by rw [hc _ (by omega)]; exact h1, h2.sv hs.sv (fun g hg => by rw [h3 g hg]; unfold hallX; simp), fun g hg => (hs.old g (h2.lt hg)).trans (h3 g hg)⟩
  · rw [hp1]; exact ⟨by rw [hc _ (by omega)]; exact (h.post a ha).1, (h.post a ha).2.stp hs hallX_other (by unfold hallX; simp)⟩
  · rw [hp2]; exact ⟨by rw [hc _ (by omega)]; exact h.counts.1, h.counts.2.stp hs (by unfold hallX; simp)⟩
def DeskD.setLane (D : DeskD) (i t2 fr : Nat) (o : Option LaneD) : DeskD := D.setHall i { D.hall i with lanes := (D.hall i).lanes.set (8 * t2 + fr) o }
def Ptrs.setLane (P : Ptrs) (i t2 fr p : Nat) : Ptrs := { P with lane := fun a b c => if a = i ∧ b = t2 ∧ c = fr then p else P.lane a b c }
theorem HallD.lane_set {h : HallD} (hl : h.lanes.length = 64) {t2 fr a b : Nat} (ht : t2 < 8) (hf : fr < 8) (ha : a < 8) (hb : b < 8) (o : Option LaneD) : ({ h with lanes := h.lanes.set (8 * t2 + fr) o } : HallD).lane a b = if a = t2 ∧ b = fr then o else h.lane a b := by
  unfold HallD.lane
  rw [getD_set_]
  by_cases e : a = t2 ∧ b = fr
  · rw [if_pos ⟨by omega, by omega⟩, if_pos e]
  · rw [if_neg (by omega), if_neg e]
/-- A lane turns, comes or goes. -/
theorem DeskC.putLane {i t2 fr : Nat} (h : DeskC L w P C D) (hi : i < 4) (ht : t2 < 8) (hf : fr < 8) (hs : Stp (fun c => c = .desk ∨ c = .lane i t2 fr) L L' w w') (o : Option LaneD) (p : Nat) (v : Value)
    (ho : match o with | none => v = .pointer none | some l => v = .pointer (some ⟨p, 0, none⟩) ∧ LaneM L' w' i t2 fr p l) : DeskC L' w' (P.setLane i t2 fr p) (C.set (367 * i + 303 + 8 * t2 + fr) v) (D.setLane i t2 fr o) := by
  have hc := h.len
  have hH := h.hallC hi
  have hp3 : ∀ a b c, (a = i → b = t2 → c ≠ fr) → (P.setLane i t2 fr p).lane a b c = P.lane a b c := fun a b c hne => if_neg fun e => hne e.1 e.2.1 e.2.2
  have hX : ∀ c, (c = .desk ∨ c = .lane i t2 fr) → hallX i c := fun c h => h.elim .inl fun h => .inr ⟨t2, fr, h⟩
  have hout : ∀ k, k ≠ 367 * i + 303 + 8 * t2 + fr → (C.set (367 * i + 303 + 8 * t2 + fr) v)[k]? = C[k]? := fun k hk => List.getElem?_set_ne (Ne.symm hk)
  refine h.setHall hi (hs.mono hX) (by rw [List.length_set]; exact hc) (fun k hk => hout k (by omega)) rfl rfl (fun j hj a b => hp3 j a b fun e => absurd e hj) ?_
  refine ⟨hH.wr, hH.tg, fun j hj => by rw [hout _ (by omega)]; exact hH.room j hj, hH.strms, fun s hs' j hj => ?_, by show (List.set _ _ _).length = 64; rw [List.length_set]; exact hH.laness, fun a ha b hb => ?_⟩
  · exact (hH.strm s hs' j hj).stp_ hs (by simp) fun k hk => hout _ (by omega)
  · rw [HallD.lane_set hH.laness ht hf ha hb]
    by_cases e : a = t2 ∧ b = fr
    · obtain ⟨rfl, rfl⟩ := e
      rw [if_pos ⟨rfl, rfl⟩]
      have e1 : (P.setLane i a b p).lane i a b = p := if_pos ⟨rfl, rfl, rfl⟩
      rw [List.getElem?_set_self (by rw [hc]; omega)]
      cases o with
      | none => rw [show v = .pointer none from ho]
      | some l => rw [e1, ho.1]; exact ⟨rfl, ho.2⟩
    · rw [if_neg e, hout _ (by omega), hp3 i a b (fun _ h1 h2 => e ⟨h1, h2⟩)]
      have h1 := hH.lane a ha b hb
      cases hl2 : (D.hall i).lane a b with
      | none => rw [hl2] at h1; exact h1
      | some l => rw [hl2] at h1; exact ⟨h1.1, h1.2.stp hs (by simp) (by simp; intro h3 h4; exact e ⟨h3, h4⟩)⟩
def DeskD.setStrm (D : DeskD) (i s j : Nat) (x : StrmD) : DeskD := D.setHall i { D.hall i with strm := (D.hall i).strm.set (3 * s + j) x }
theorem HallD.str_set {h : HallD} (hl : h.strm.length = 24) {s j a b : Nat} (hs : s < 8) (hj : j < 3) (ha : a < 8) (hb : b < 3) (x : StrmD) : ({ h with strm := h.strm.set (3 * s + j) x } : HallD).str a b = if a = s ∧ b = j then x else h.str a b := by
  unfold HallD.str
  rw [getD_set_]
  by_cases e : a = s ∧ b = j
  · rw [if_pos ⟨by omega, by omega⟩, if_pos e]
  · rw [if_neg (by omega), if_neg e]
/-- A stream turns: its eleven cells. -/
theorem DeskC.putStrm {i s j : Nat} (h : DeskC L w P C D) (hi : i < 4) (hs8 : s < 8) (hj3 : j < 3) (hs : Stp dskX L L' w w') (x : StrmD) (hlen : C'.length = 1535) (hout : ∀ k, (k < 367 * i + 39 + 33 * s + 11 * j ∨ 367 * i + 39 + 33 * s + 11 * j + 11 ≤ k) → C'[k]? = C[k]?)
    (hx : StrmC L' w' (fun k => C'[367 * i + 39 + 33 * s + 11 * j + k]?) x) : DeskC L' w' P C' (D.setStrm i s j x) := by
  have hH := h.hallC hi
  refine h.setHall hi (hs.mono fun c h => .inl h) hlen (fun k hk => hout k (by omega)) rfl rfl (fun j hj a b => rfl) ?_
  refine ⟨hH.wr, hH.tg, fun j hj => by rw [hout _ (by omega)]; exact hH.room j hj, by show (List.set _ _ _).length = 24; rw [List.length_set]; exact hH.strms, fun a ha b hb => ?_, hH.laness, fun a ha b hb => ?_⟩
  · rw [HallD.str_set hH.strms hs8 hj3 ha hb]
    by_cases e : a = s ∧ b = j
    · obtain ⟨rfl, rfl⟩ := e
      rw [if_pos ⟨rfl, rfl⟩]
      exact hx
    · rw [if_neg e]
      exact (hH.strm a ha b hb).stp_ hs (by unfold dskX; simp) fun k hk => hout _ (by omega)
  · have e1 : ({ D.hall i with strm := (D.hall i).strm.set (3 * s + j) x } : HallD).lane a b = (D.hall i).lane a b := rfl
    rw [e1, hout _ (by omega)]
    have h1 := hH.lane a ha b hb
    cases hl2 : (D.hall i).lane a b with
    | none => rw [hl2] at h1; exact h1
    | some l => rw [hl2] at h1; exact ⟨h1.1, h1.2.stp hs (by unfold dskX; simp) (by unfold dskX; simp)⟩
def drawX : Comp → Prop := fun c => c = .desk ∨ c = .draws
/-- The draws turn. -/
theorem DeskC.putDraws (h : DeskC L w P C D) (hs : Stp drawX L L' w w') (v : Value) (l : List Int) (hr : Row w' 32 1 v l.length (l.map (Value.int .u32))) (hl : ∀ g, v.ownBlock = some g → L' g = .draws) : DeskC L' w' P (C.set 1469 v) { D with draws := l } := by
  have hout : ∀ k, k ≠ 1469 → (C.set 1469 v)[k]? = C[k]? := fun k hk => List.getElem?_set_ne (Ne.symm hk)
  have hx : ∀ {c}, c ≠ .desk → c ≠ .draws → ¬ drawX c := fun h1 h2 h => h.elim h1 h2
  have hH : ∀ j, j < 4 → HallC L' w' P (C.set 1469 v) j (D.hall j) := fun j hj => (h.hallC hj).stp hs (hx (by simp) (by simp)) (fun _ _ => hx (by simp) (by simp)) (fun k hk => hout _ (by omega)) fun _ _ => rfl
  refine ⟨by rw [List.length_set]; exact h.len, h.halls, h.posts, fun j hj => (hH j hj).wr, fun j hj => (hH j hj).room, fun j hj => (hH j hj).strms, fun j hj => (hH j hj).strm, fun j hj => (hH j hj).laness, fun j hj => (hH j hj).lane, ?_, h.nowB, ?_, fun a ha => ?_, ?_, h.few, fun j hj => (hH j hj).tg⟩
  · rw [hout _ (by omega)]; exact h.now
  · exact ⟨v, List.getElem?_set_self (by rw [h.len]; omega), hr, hl⟩
  · exact ⟨by rw [hout _ (by omega)]; exact (h.post a ha).1, (h.post a ha).2.stp hs (hx (by simp) (by simp)) (hx (by simp) (by simp))⟩
  · exact ⟨by rw [hout _ (by omega)]; exact h.counts.1, h.counts.2.stp hs (hx (by simp) (by simp))⟩
end
end Go.Proofs.YtmkifedcanmjoaaGreat
