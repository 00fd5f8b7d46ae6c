/- Texts of this claim, one behind the other: RatesQ, Shl. Each says ahead of itself what it proves, and its conditions. -/
import Derived.Test.YtmkifedcanmjoaaGreatKm
import Derived.Test.YtmkifedcanmjoaaGreatKh
/- The end of TopRates (plain). No program in sight. -/
set_option linter.unusedVariables false
set_option linter.unusedSimpArgs false
namespace Go.Proofs.YtmkifedcanmjoaaGreat
open Go.RowKit
/-- The stream that the law wants. -/
def rAt (r0 r1 r2 k : Nat) : Nat := if k = 0 then r0 else if k = 1 then r1 else r2
def wantK (r0 r1 r2 R : Nat) : Nat → Nat
  | 0 => 0
  | k + 1 => if rAt r0 r1 r2 k * 10000 ≤ R then k else wantK r0 r1 r2 R k
theorem wantK_lt (r0 r1 r2 R : Nat) : wantK r0 r1 r2 R 3 < 3 := by
  unfold wantK wantK wantK wantK
  split
  · decide
  split
  · decide
  split <;> decide
theorem pick_want (r0 r1 r2 R : Nat) : pickS R [(r0 : Int), (r1 : Int), (r2 : Int)] = ((wantK r0 r1 r2 R 3 : Nat) : Int) := by
  have e : ∀ r : Nat, (r : Int) ≤ ((R / 10000 : Nat) : Int) ↔ r * 10000 ≤ R := fun r => by omega
  have n : ∀ r : Nat, ¬ (r : Int) < 0 := fun r => by omega
  unfold pickS pickFrom pickFrom pickFrom pickFrom wantK wantK wantK wantK rAt
  simp only [n, e, if_false]
  by_cases h0 : r0 * 10000 ≤ R <;> by_cases h1 : r1 * 10000 ≤ R <;> by_cases h2 : r2 * 10000 ≤ R <;> simp [h0, h1, h2] <;> decide
theorem rateS_eq {m e : Nat} (he : e ≤ 63) (h : m * 2 ^ e < 4294967296) : rateS m (e : Int) = m * 2 ^ e := by
  unfold rateS
  by_cases h0 : m = 0
  · subst h0
    rw [if_pos (.inl rfl)]
    simp
  · rw [if_neg (by omega), if_neg, Int.toNat_natCast]
    rintro (h1 | h1)
    · omega
    · rw [Int.toNat_natCast] at h1
      have := (Nat.div_lt_iff_lt_mul (Nat.pow_pos (n := e) (by decide : 0 < 2))).1 h1
      unfold topU at this
      omega
def l1 : LaneD := limL (lane0 9) 3 7
theorem rate_ok {D : DeskD} {st : List StrmD} {dr : List Int} (h : Way D st (some l1) dr) (hs : ∀ j, j < 3 → WS (st.getD j strm0)) : RateOk D 2 1 0 l1 9 := by
  have hl : (D.hall 2).lane 1 0 = some l1 := by rw [h.lane 1 (by decide) 0 (by decide)]; rfl
  refine ⟨?_, hl, ⟨by decide, by decide, by decide⟩, h.key hs⟩
  unfold laneS laneFrom
  rw [if_pos]
  unfold laneIs
  rw [hl]
  rfl
theorem take_post {D : DeskD} (hl : D.posts.length = 64) (h : (D.post 60).length ≤ 32) : (takenD (takenD D 60 32).1 61 32).1.post 60 = [] := by
  show ((D.posts.set 60 _).set 61 _).getD 60 [] = []
  rw [List.getD_eq_getElem?_getD, List.getElem?_set_ne (by decide), List.getElem?_set_self (by rw [hl]; decide)]
  exact List.drop_eq_nil_of_le h
theorem askC_new {k : Nat} (hk : k < 3) : askC ⟨false, 0, 0⟩ (k : Int) = (⟨false, 0, (k : Int)⟩, 0) := by
  rcases k with _ | _ | _ | k <;> first | rfl | omega
theorem lacksC_new {k : Nat} (hk : k < 3) : lacksC ⟨false, 0, (k : Int)⟩ = ((k : Int), true) := by
  rcases k with _ | _ | _ | k <;> first | rfl | omega
/-- What the one is told at last. -/
theorem rates_end {D : DeskD} {r0 r1 r2 R : Nat} {dr : List Int} (h : Way D [strS 0 r0, strS 1 r1, strS 2 r2] (some l1) dr) (hp : D.post 60 = []) (hl : D.posts.length = 64) :
    (takenD (roomD D 2 1 ((9 : Nat) : Int) R) 60 32).2 = [⟨60, 1, pliB 9 (256 + wantK r0 r1 r2 R 3)⟩] := by
  have hln : (D.hall 2).lane 1 0 = some l1 := by rw [h.lane 1 (by decide) 0 (by decide)]; rfl
  have hla : laneS (D.hall 2) 1 ((9 : Nat) : Int) = some 0 := by
    unfold laneS laneFrom
    rw [if_pos]
    unfold laneIs
    rw [hln]
    rfl
  have hra : ratesS (D.hall 2) 0 = [(r0 : Int), (r1 : Int), (r2 : Int)] := by
    unfold ratesS rateOf
    rw [h.str 0 (by decide), h.str 1 (by decide), h.str 2 (by decide)]
    rfl
  obtain ⟨k, hk⟩ : ∃ k, k = wantK r0 r1 r2 R 3 := ⟨_, rfl⟩
  have hk3 : k < 3 := by rw [hk]; exact wantK_lt _ _ _ _
  have hpk : pickS R (ratesS (D.hall 2) 0) = (k : Int) := by rw [hra, pick_want, hk]
  obtain ⟨l2, hl2⟩ : ∃ l2 : LaneD, l2 = { l1 with cast := ⟨false, 0, (k : Int)⟩ } := ⟨_, rfl⟩
  have hE := h.setLane (some l2)
  obtain ⟨E, hEe⟩ : ∃ E, E = D.setLane 2 1 0 (some l2) := ⟨_, rfl⟩
  rw [← hEe] at hE
  have hEl : (E.hall 2).lane 1 0 = some l2 := by rw [hE.lane 1 (by decide) 0 (by decide)]; rfl
  have hstr : (E.hall 2).str 0 k = strS k (rAt r0 r1 r2 k) := by
    rw [hE.str k hk3]
    rcases k with _ | _ | _ | k <;> first | rfl | omega
  have hroom : roomD D 2 1 ((9 : Nat) : Int) R = tellD E 60 1 (pliB 9 (256 + k)) := by
    unfold roomD
    rw [hla]
    simp only
    rw [hln]
    simp only
    rw [hpk]
    have e1 : (askC l1.cast (k : Int)).1 = ⟨false, 0, (k : Int)⟩ := by
      show (askC ⟨false, 0, 0⟩ (k : Int)).1 = _
      rw [askC_new hk3]
    rw [e1, ← hl2, ← hEe]
    unfold lacksD askedD
    rw [hEl]
    have e2 : lacksC l2.cast = ((k : Int), true) := by rw [hl2]; exact lacksC_new hk3
    simp only [e2, if_true]
    unfold keyFrameD
    rw [Int.toNat_natCast, hstr, hE.room.1]
    have e3 : l2.ssrc = 9 := by rw [hl2]; rfl
    rw [e3]
    show tellD E 60 1 (pliB 9 (((256 + k : Nat) : Int)).toNat) = _
    rw [Int.toNat_natCast]
  have hEp : E.post 60 = [] := by rw [hEe]; exact hp
  have hEl64 : E.posts.length = 64 := by rw [hEe]; exact hl
  rw [hroom, ← hk]
  show ((tellD E 60 1 (pliB 9 (256 + k))).post 60).take 32 = _
  unfold tellD
  rw [if_pos (by rw [hEp]; decide), hEp]
  show (((E.posts.set 60 _).getD 60 [])).take 32 = _
  rw [List.getD_eq_getElem?_getD, List.getElem?_set_self (by rw [hEl64]; decide)]
  rfl
end Go.Proofs.YtmkifedcanmjoaaGreat
/- A shift to the left by a number that is no literal, a guarded load: single steps of a walk. Conditions: no bit is lost. -/
set_option linter.unusedVariables false
set_option linter.unusedSimpArgs false
namespace Go.Proofs.YtmkifedcanmjoaaGreat
open Go.RowKit
theorem wpList_shl {P : Program} {ops : Array Oper} {rest : List Oper} {o : Oper} {a : Act} {w : World} {Q : Exit → Act → World → Prop} (hgd : o.guard = none) (t t2 : TypeId) (x y : Operand) (ho : o.op = .binOp .shl t x y t2) (m e R : Nat) (hx : a.eval x = .int .u64 (m : Int)) (hy : a.eval y = .int .u64 (e : Int)) (he : e < 64) (hR : R = m * 2 ^ e) (hlt : R < 18446744073709551616)
    (h : wpList P ops Q rest (a.put o.dst (.int .u64 (R : Int))) w) : wpList P ops Q (o :: rest) a w := by
  refine wpList_plain hgd fun K hK => ?_
  have hs : (Op.shift .shl .u64 (m : Int) .u64 (e : Int)).run P w = .ok (.int .u64 (R : Int)) w := by
    have h1 : min ((e : Int).toNat) 64 = e := by rw [Int.toNat_natCast]; omega
    have h2 : ((m : Int) * 2 ^ e) = (R : Int) := by rw [hR]; norm_cast
    have h3 : IntKind.u64.wrap (R : Int) = (R : Int) := by simp [IntKind.wrap, IntKind.bits, IntKind.signed]; omega
    unfold Op.shift
    rw [if_neg (by omega)]
    simp only [IntKind.bits, h1, h2, h3]
    rfl
  unfold Oper.wp execOp
  simp only [ho, hx, hy]
  have hb : (binOp .shl t (.int .u64 (m : Int)) (.int .u64 (e : Int))).run P w = .ok (.int .u64 (R : Int)) w := hs
  have hg : (eqGuard .shl t x y (.int .u64 (m : Int)) (.int .u64 (e : Int))).run P w = .ok () w := rfl
  simp only [Sem.run_bind, hg, hb, Result.andThen_ok, Sem.run_pure]
  exact hK _ _ h
theorem wpList_load_mid_g {P : Program} {ops : Array Oper} {rest : List Oper} {op : Oper} {a : Act} {w : World} {Q : Exit → Act → World → Prop} (hgd : Region.wanted op (yielded ops a.tmps) = true) (ty : TypeId) (x : Operand) (ho : op.op = .load ty x)
    (b o : Nat) (hx : a.eval x = .pointer (some ⟨b, o, none⟩)) (cs : List Value) (d : TypeDesc) (hc : w.rangeAt b o cs)
    (hu : P.underlying ty = some d) (hd : d.isRow = true) (hi : (P.info? ty).map (·.size) = some cs.length)
    (h : wpList P ops Q rest (a.put op.dst (.agg cs.toArray)) w) : wpList P ops Q (op :: rest) a w := by
  simp only [wpList, hgd, if_true]
  exact .inl <| wp_load_mid ty x ho b o hx cs d hc hu hd hi h
end Go.Proofs.YtmkifedcanmjoaaGreat
