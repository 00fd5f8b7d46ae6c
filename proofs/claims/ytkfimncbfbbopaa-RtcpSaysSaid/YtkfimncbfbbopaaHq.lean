/- Texts of this claim, one behind the other: BytesOf, Reports, SaysW. Each says ahead of itself what it proves, and its conditions. -/
import Derived.Test.YtkfimncbfbbopaaHp2
import Derived.Test.YtkfimncbfbbopaaHo3
import Derived.Test.YtkfimncbfbbopaaHn
import Derived.Test.YtkfimncbfbbopaaHg
import Derived.Test.YtkfimncbfbbopaaGd
import Derived.BigQuiet
/- What the reference's BytesOf returns (contract). Conditions: the reports lie in memory, and their numbers fit their places. -/
set_option linter.unusedVariables false
set_option linter.unusedSimpArgs false
namespace Go.Proofs.Ytkfimncbfbbopaa
open Go.RowKit
attribute [local go_sem ↓] Go.wp_at_zero Go.wp_at_succ

/-- What body returned lies there still where what is written grows. -/
theorem body_src {B : Nat} {wL wr w10 w13 : World} {vout v9 : Value} {b L : List UInt8} (ho : ByteRow wr B vout L) (hB : B = wL.heap.size) (h : ByteRow w10 wr.heap.size v9 b ∨ SlV wL v9 b) (hbw : Below B wL wr) (hb : Below wr.heap.size wr w10) (hx : Sv (fun j => vout.ownBlock = some j) w10 w13) : SlV w13 v9 b := by
  subst hB
  rcases h with h | h
  · refine SlV.own (base := wr.heap.size) (hx.own h fun g e hm => ?_)
    have h1 := (World.ownsRow.lt h g e).1
    have h2 := (World.ownsRow.lt ho g hm).2
    omega
  · have h1 := bcall hbw hb
    refine h.below (h1.trans (hx.toBelow (fun k hk => ?_) h1.size))
    exact (World.ownsRow.lt ho k hk).1
theorem bytesOf0_c (A : Option Addr) (cap : Nat) (w : World) : Calls Try.prog 30 #[.slice A 0 cap] w fun e w' => e = .returned (.tuple #[.slice none 0 0, .int .i64 1]) ∧ w = w' := by
  go_enter Try.func30, Try.ntmps30
  go_wp2_with fail
  go_ret2
  exact ⟨rfl, rfl⟩
set_option maxRecDepth 100000 in
set_option maxHeartbeats 12800000 in
theorem bytesOf1_c (rs : List Rep) (A : Option Addr) (n cap : Nat) (w : World) (h : RepsAt w A n rs) (hl : rs.length = n) (h0 : 0 < n) (hn : n ≤ 100000) (hf : ∀ r ∈ rs, FitM r) :
    Calls Try.prog 30 #[.slice A n cap] w (BytesR rs w) := by
  obtain ⟨iB, hiB, hz0, hz1, hz2⟩ := info_parts infoByte
  have q0 : ((n : Int) == 0) = false := by rw [beq_eq_false_iff_ne]; omega
  have q1 : (n == 0) = false := by rw [beq_eq_false_iff_ne]; omega
  have HF := Lib.hid hf
  have HLEN := Lib.hid hl
  have H := Lib.hid h
  have HN0 := Lib.hid h0
  have HNN := Lib.hid hn
  have HNE0 : Hid (rs ≠ []) := by intro e; rw [e] at hl; simp at hl; omega
  clear h hl h0 hf hn
  go_enter Try.func30, Try.ntmps30
  go_upto_region 4 with fail
  clear q0 q1
  go_loopg [4] n (fun gg v4 wx => ∃ i : Nat, gg = n - i ∧ i ≤ n ∧ v4 = .int .i64 (i : Int) ∧ (∀ (j : Nat) (r : Rep), j < i → rs[j]? = some r → goodS r) ∧ Below w.heap.size w wx)
  case atStart => exact ⟨0, rfl, by omega, rfl, fun j r hj => absurd hj (by omega), Below.refl _ _⟩
  case round =>
    obtain ⟨i, hgg, hi, rfl, hall, hb⟩ := hrel
    have HGG := Lib.hid hgg
    have HALL := Lib.hid hall
    have HB := Lib.hid hb
    clear hgg hall hb
    by_cases hin : i < n
    · have hini : (i : Int) < (n : Int) := by omega
      have hw1 : IntKind.i64.wrap ((i : Int) + 1) = ((i + 1 : Nat) : Int) := by have := HNN.out; rw [IntKind.wrap_i64]; omega
      obtain ⟨r, hr⟩ : ∃ r, rs[i]? = some r := ⟨_, List.getElem?_eq_getElem (by have := HLEN.out; omega)⟩
      obtain ⟨g3, o3, hA3, hg3, h3⟩ := H.out.at_ (by omega)
      obtain ⟨L3, hv3, hl3, hrg3⟩ := h3 i r hr
      subst hA3
      have HV : Hid (RepV wr L3.toArray r) := hv3.below HB.out
      have HRG : Hid (wr.rangeAt g3 (o3 + i * 16) L3) := below_range hrg3 HB.out hg3
      have HI : Hid ((Try.prog.info? 40).map (·.size) = some L3.length) := by show _ = _; rw [hl3]; exact infoRef40
      have HFR := Lib.hid (HF.out r (List.mem_of_getElem? hr))
      have HE := Lib.hid hr
      have HLT := Lib.hid hin
      clear hg3 h3 hv3 hl3 hrg3 hr hin hi
      go_upto_if 24 with (first
        | ((with_reducible show wpList _ _ _ (⟨some 22, .load 40 (.tmp 21), _, _, _, _⟩ :: _) _ _); refine wpList_load_mid rfl 40 (.tmp 21) rfl g3 (o3 + i * 16) rfl L3 _ HRG.out Try.underlying40 rfl HI.out ?_)
        | (go_at_call 27
           refine (rgood_c L3.toArray r wr HV.out (by have := HFR.out.blocks; omega) (by have := HFR.out.pairs; omega) (by have := HFR.out.firs; omega) (by have := HFR.out.ssrcs; omega) (by have := HFR.out.body; omega) HFR.out.exlo HFR.out.exhi).mono ?_
           rintro e9 w9 ⟨q, rfl, hq, hb9⟩
           have HQ := Lib.hid hq
           have HB9 : Hid (Below w.heap.size w w9) := bcall HB.out hb9
           clear hq hb9))
      cases q with
      | false =>
        have HP : Hid (∃ e ∈ rs, ¬ goodS e) := ⟨r, List.mem_of_getElem? HE.out, fun hg => by have := HQ.out.2 hg; cases this⟩
        go_wp2_with fail
        go_ret2
        exact ⟨_, 1, rfl, .inl ⟨rfl, .inr HP.out⟩, by rw [if_neg (by decide)]; exact SlV.nil _, HB9.out⟩
      | true =>
        have HG : Hid (goodS r) := HQ.out.1 rfl
        go_wp2_with fail
        go_roundg (n - (i + 1))
        case measure => have := HLT.out; have := HGG.out; omega
        case rel =>
          have hlt := HLT.out
          refine ⟨i + 1, rfl, by omega, by first | rfl | go_num, fun j e' hj he' => ?_, HB9.out⟩
          by_cases hji : j < i
          · exact HALL.out j e' hji he'
          · have hje : j = i := by omega
            subst hje
            rw [HE.out] at he'
            injection he' with he'
            subst he'
            exact HG.out
    · have hini : ¬ (i : Int) < (n : Int) := by omega
      have HGD : Hid (∀ r ∈ rs, goodS r) := by
        intro r hr
        obtain ⟨j, hj⟩ := List.getElem?_of_mem hr
        have hjl : j < rs.length := by
          rcases Nat.lt_or_ge j rs.length with h | h
          · exact h
          · rw [List.getElem?_eq_none h] at hj; cases hj
        exact HALL.out j r (by have := HLEN.out; omega) hj
      clear hin hi
      go_upto_region 10 with fail
      obtain ⟨wL, hwL⟩ : ∃ wL, wL = wr := ⟨_, rfl⟩
      obtain ⟨B, hB⟩ : ∃ B, B = wL.heap.size := ⟨_, rfl⟩
      have HBE := Lib.hid hB
      have HBL : Hid (Below w.heap.size w wL) := by show Below _ _ _; rw [hwL]; exact HB.out
      have HL9 : Hid (RepsAt wL A n rs) := by show RepsAt _ _ _ _; rw [hwL]; exact H.out.below HB.out
      rw [← hwL, ← hB]
      obtain ⟨wM, hwM⟩ : ∃ wM, wM = wL.alloc (.cells #[] 5) := ⟨_, rfl⟩
      have HO0 : Hid (ByteRow wM B (.slice (some ⟨B, 0, none⟩) 0 0) (bytesS (rs.take 0))) := by show ByteRow _ _ _ _; rw [hwM, hB]; exact own_empty wL _ _
      have HB0 : Hid (Below B wL wM) := by show Below _ _ _; rw [hwM, hB]; exact balloc (Below.refl _ _) _
      rw [← hwM]
      clear hwL hB hwM HB HALL HGG
      go_loopg [5, 6] n (fun gg vv vi wx => ∃ i : Nat, gg = n - i ∧ i ≤ n ∧ vi = .int .i64 (i : Int) ∧ (bytesS (rs.take i)).length ≤ 1200 ∧ ByteRow wx B vv (bytesS (rs.take i)) ∧ Below B wL wx)
      case atStart => exact ⟨0, rfl, by omega, rfl, by simp [bytesS], HO0.out, HB0.out⟩
      case round =>
        obtain ⟨i, hgg, hi, rfl, hle, ho, hb⟩ := hrel
        obtain ⟨Av, cv, hv⟩ := own_slice ho
        subst hv
        have HGG := Lib.hid hgg
        have HLE := Lib.hid hle
        have HO := Lib.hid ho
        have HBW := Lib.hid hb
        clear hgg hle ho hb HO0 HB0
        obtain ⟨L, hL⟩ : ∃ L, L = bytesS (rs.take i) := ⟨_, rfl⟩
        have HLD := Lib.hid hL
        rw [← hL] at HO HLE ⊢
        obtain ⟨m, hm⟩ : ∃ m, m = L.length := ⟨_, rfl⟩
        have HM := Lib.hid hm
        have hmi : (m : Int) ≤ 1200 := by have := HLE.out; omega
        rw [← hm] at HO ⊢
        clear hL hm
        by_cases hin : i < n
        · have hini : (i : Int) < (n : Int) := by omega
          have hw1 : IntKind.i64.wrap ((i : Int) + 1) = ((i + 1 : Nat) : Int) := by have := HNN.out; rw [IntKind.wrap_i64]; omega
          obtain ⟨r, hr⟩ : ∃ r, rs[i]? = some r := ⟨_, List.getElem?_eq_getElem (by have := HLEN.out; omega)⟩
          obtain ⟨g3, o3, hA3, hg3, h3⟩ := HL9.out.at_ (by omega)
          obtain ⟨L3, hv3, hl3, hrg3⟩ := h3 i r hr
          have HFR := Lib.hid (HF.out r (List.mem_of_getElem? hr))
          have HGR := Lib.hid (HGD.out r (List.mem_of_getElem? hr))
          have HSN := Lib.hid (bytesS_snoc hr)
          have HLT := Lib.hid hin
          have HBWb : Hid (Below wL.heap.size wL wr) := HBE.out ▸ HBW.out
          have HRG3 : Hid (wr.rangeAt g3 (o3 + i * 16) L3) := below_range hrg3 HBWb.out hg3
          have HI3 : Hid ((Try.prog.info? 40).map (·.size) = some L3.length) := by show _ = _; rw [hl3]; exact infoRef40
          have HV3 : Hid (RepV wr L3.toArray r) := hv3.below HBWb.out
          obtain ⟨vd0, hvd0, hvd1⟩ := RepV.body15 hv3
          have HVD : Hid (L3.toArray[15]? = some vd0 ∧ SlV wL vd0 r.body) := ⟨hvd0, hvd1⟩
          obtain ⟨t, c, et, ec, ht1, ht2, hc1, hbl, hrs⟩ := report_w HGR.out HFR.out.fit
          have HT1 : Hid (192 ≤ t ∧ t ≤ 223 ∧ c ≤ 31) := ⟨ht1, ht2, hc1⟩
          have HET := Lib.hid et
          have HEC := Lib.hid ec
          obtain ⟨N, hN⟩ : ∃ N, N = (bodyS r).length := ⟨_, rfl⟩
          have HNE := Lib.hid hN
          have hNl : (N : Int) ≤ 10000000 := by have := bodyS_le HFR.out; omega
          subst hA3
          clear hr hin hi hg3 h3 hv3 hl3 hrg3 hvd0 hvd1 et ec ht1 ht2 hc1 hbl hrs hN
          go_upto_region 13 with (first
            | ((with_reducible show wpList _ _ _ (⟨some 36, .load 40 (.tmp 35), _, _, _, _⟩ :: _) _ _); refine wpList_load_mid rfl 40 (.tmp 35) rfl g3 (o3 + i * 16) rfl L3 _ HRG3.out Try.underlying40 rfl HI3.out ?_)
            | (go_at_call 47
               refine (body_c r L3.toArray wr HV3.out HGR.out HFR.out.fit (Nat.le_trans HFR.out.blocks (by decide)) (Nat.le_trans HFR.out.pairs (by decide)) (Nat.le_trans HFR.out.firs (by decide)) vd0 HVD.out.1).mono ?_
               rintro e9 w11 ⟨v9, he, hs9, hb9⟩
               rw [HET.out, HEC.out] at he
               subst he
               have hs11 : ByteRow w11 wr.heap.size v9 (bodyS r) ∨ SlV wL v9 (bodyS r) := hs9.imp id fun h => by rw [h.1, h.2]; exact HVD.out.2
               obtain ⟨A9, c9, hv9, _, _⟩ : SlV w11 v9 (bodyS r) := body_src HO.out HBE.out hs11 HBW.out hb9 (Sv.refl _ _)
               rw [← HNE.out] at hv9
               subst hv9
               have HS11 := Lib.hid hs11
               have HB11 := Lib.hid hb9
               have HO11 : Hid (ByteRow w11 B (.slice Av m cv) L) := (Sv.of_below (M := fun _ => False) hb9).own HO.out (fun _ _ e => e)
               have HBW11 : Hid (Below B wL w11) := HBE.out ▸ bcall HBWb.out hb9
               clear hs11 hs9 hb9))
          by_cases hbig : 1200 < m + 4 + N
          · have hbi : 1200 - (m : Int) < (N : Int) + 4 := by omega
            go_upto_region 14 with fail
            go_wp2_with fail
            go_ret2
            have HLN : Hid (1200 < (bytesS rs).length) := by
              show _ < _
              have h1 := bytesS_le rs (i + 1)
              rw [HSN.out, List.length_append, ← HLD.out, oneB_len, ← HNE.out, ← HM.out] at h1
              omega
            refine ⟨_, 4, rfl, .inr (.inl ⟨rfl, HNE0.out, HGD.out, HLN.out⟩), ?_, bcall HBL.out (HBE.out ▸ HBW11.out)⟩
            rw [if_neg (by decide)]
            exact SlV.nil _
          · have hbi : ¬ 1200 - (m : Int) < (N : Int) + 4 := by omega
            obtain ⟨X, hX⟩ : ∃ X, X = 128 + c := ⟨_, rfl⟩
            have hXs : (128 : Int) + (c : Int) = (X : Int) := by omega
            have hci : (c : Int) ≤ 31 := by have := HT1.out.2.2; omega
            have hXl : X < 256 := by have := HT1.out.2.2; omega
            have htl : t < 256 := by have := HT1.out.2.1; omega
            have hwX : IntKind.u8.wrap (X : Int) = (X : Int) := by rw [IntKind.wrap_u8]; omega
            have hwt : IntKind.u8.wrap (t : Int) = (t : Int) := by rw [IntKind.wrap_u8]; omega
            have HXE := Lib.hid hX
            clear hX
            have HLIT : Hid ([Value.int .u8 (X : Int), .int .u8 (t : Int)] = ([UInt8.ofNat X, UInt8.ofNat t] : List UInt8).map u8v) := by
              show _ = _
              simp only [List.map_cons, List.map_nil]
              rw [u8v_of hXl, u8v_of htl]
            obtain ⟨w12, hw12⟩ : ∃ w12, w12 = w11.alloc (.cells #[.int .u8 (X : Int), .int .u8 (t : Int)] 5) := ⟨_, rfl⟩
            have HB12 : Hid (Below w11.heap.size w11 w12) := by show Below _ _ _; rw [hw12]; exact balloc (Below.refl _ _) _
            have HY12 : Hid (Blk w12 w11.heap.size 5 #[.int .u8 (X : Int), .int .u8 (t : Int)]) := by show Blk _ _ _ _; rw [hw12]; exact Blk.newAt rfl _ _
            have HO12 : Hid (World.ownsRow w12 B 5 1 (.slice Av m cv) m (L.map u8v)) := by
              have := (Sv.of_below (M := fun _ => False) HB12.out).own HO11.out (fun _ _ e => e)
              rw [← HM.out] at this
              exact this
            have HBW12 : Hid (Below B wL w12) := HBE.out ▸ bcall (HBE.out ▸ HBW11.out) HB12.out
            have HBS : Hid (B ≤ w12.heap.size) := by show _ ≤ _; rw [HBE.out]; exact HBW12.out.size
            rw [hw12] at HB12 HY12 HO12 HBS HBW12
            clear hw12
            obtain ⟨Q, hQ⟩ : ∃ Q, Q = N / 4 := ⟨_, rfl⟩
            have HQ := Lib.hid hQ
            have hQi : (N : Int) / 4 = (Q : Int) := by omega
            have hwQ : IntKind.u64.wrap (Q : Int) = (Q : Int) := wrap64 (by omega)
            have HQL : Hid (Q < 65536000) := by show _ < _; omega
            clear hQ
            go_upto_region 16 with (first
              | (at_builtin
                 refine wpList_append_any _ rfl (.tmp 48) (.tmp 54) _ rfl B 5 iB _ 1 1 Try.underlying22 hiB hz0 hz1 hz2 rfl (by omega) (.slice Av m cv) m (L.map u8v) rfl HO12.out
                   _ (some ⟨w11.heap.size, 0, none⟩) 2 2 [.int .u8 (X : Int), .int .u8 (t : Int)] rfl (reads_blk HY12.out rfl) (by simp [Value.oneCell']) (by simp only [maxLen]; omega) (by omega) HBS.out ?_
                 intro v13 w13 hown13 hg13 hat13
                 obtain ⟨A13, c13, hv13⟩ := own_slice hown13
                 subst hv13
                 have HO13 : Hid (ByteRow w13 B (.slice A13 (m + 2) c13) (L ++ [UInt8.ofNat X, UInt8.ofNat t])) := by
                   have := hown13
                   rw [HLIT.out, HM.out, ← List.map_append] at this
                   show World.ownsRow _ _ _ _ _ _ _
                   rw [List.length_append]
                   rw [← HM.out] at this ⊢
                   exact this
                 have HSV13 : Hid (Sv (fun j => (Value.slice Av m cv).ownBlock = some j) w11 w13) := ((Sv.refl _ _).alloc _).grown hg13 fun g e => .inl e
                 have HOW13 : Hid (∀ g, (Value.slice A13 (m + 2) c13).ownBlock = some g → (Value.slice Av m cv).ownBlock = some g ∨ w11.heap.size ≤ g) := by
                   intro g e
                   rcases hat13 with h | h
                   · exact .inl (h ▸ e)
                   · rw [h] at e
                     injection e with e
                     subst e
                     exact .inr (by simp)
                 have HBW13 : Hid (Below B wL w13) := own_grow_below HBW12.out HO12.out hg13 (by rw [HBE.out]; exact Nat.le_refl _)
                 clear hown13 hg13 hat13)
              | (go_at_call 48
                 refine (U_z (SlV.nil w13) (by decide) (by decide) (by have := HQL.out; omega)).mono ?_
                 rintro e9 w14 ⟨v14, rfl, ho14, hb14⟩
                 obtain ⟨A14, c14, hv14⟩ := own_slice ho14
                 subst hv14
                 have HO14 : Hid (ByteRow w14 B (.slice A13 (m + 2) c13) (L ++ [UInt8.ofNat X, UInt8.ofNat t])) := (Sv.of_below (M := fun _ => False) hb14).own HO13.out (fun _ _ e => e)
                 have HU14 : Hid (SlV w14 (.slice A14 2 c14) (beS Q 2)) := by
                   have h1 : SlV w14 (.slice A14 ([] ++ beS Q 2).length c14) ([] ++ beS Q 2) := SlV.own ho14
                   rw [List.nil_append, beS_len] at h1
                   exact h1
                 have HSV14 : Hid (Sv (fun j => (Value.slice Av m cv).ownBlock = some j) w11 w14) := HSV13.out.call hb14
                 have HBW14 : Hid (Below B wL w14) := HBE.out ▸ bcall (HBE.out ▸ HBW13.out) hb14
                 have HSZ14 : Hid (w11.heap.size ≤ w13.heap.size) := HSV13.out.size
                 have hl2 : (([] : List UInt8) ++ beS Q 2).length = 2 := by simp [beS_len]
                 rw [hl2]
                 clear ho14 hb14 hl2)
              | (at_builtin
                 refine wpList_append_any _ rfl (.tmp 55) (.tmp 60) _ rfl B 5 iB _ 1 1 Try.underlying22 hiB hz0 hz1 hz2 rfl (by omega) (.slice A13 (m + 2) c13) (m + 2) ((L ++ [UInt8.ofNat X, UInt8.ofNat t]).map u8v) rfl (by have h1 := HO14.out; unfold ByteRow at h1; rw [List.length_append, ← HM.out] at h1; exact h1)
                   _ A14 2 c14 ((beS Q 2).map u8v) rfl HU14.out.rd (u8_one _) (by simp only [maxLen]; omega) (by omega) (by rw [HBE.out]; exact HBW14.out.size) ?_
                 intro v15 w15 hown15 hg15 hat15
                 obtain ⟨A15, c15, hv15⟩ := own_slice hown15
                 subst hv15
                 have HO15 : Hid (ByteRow w15 B (.slice A15 (m + 2 + 2) c15) (L ++ [UInt8.ofNat X, UInt8.ofNat t] ++ beS Q 2)) := by
                   have := hown15
                   rw [← List.map_append] at this
                   show World.ownsRow _ _ _ _ _ _ _
                   rw [List.length_append, List.length_append, ← HM.out, beS_len]
                   exact this
                 have HSV15 : Hid (Sv (fun j => (Value.slice Av m cv).ownBlock = some j) w11 w15) := HSV14.out.trans (((Sv.refl _ _).grown hg15 fun g e => .inl e) : Sv (fun j => (Value.slice A13 (m + 2) c13).ownBlock = some j) w14 w15) (fun k hk e => by
                   rcases HOW13.out k e with h | h
                   · exact h
                   · omega)
                 have HBW15 : Hid (Below B wL w15) := own_grow_below HBW14.out HO14.out hg15 (by rw [HBE.out]; exact Nat.le_refl _)
                 have HS15 : Hid (SlV w15 (.slice A9 N c9) (bodyS r)) := body_src HO.out HBE.out HS11.out HBW.out HB11.out HSV15.out
                 clear hown15 hg15 hat15))
            obtain ⟨L15, hL15⟩ : ∃ L15, L15 = L ++ [UInt8.ofNat X, UInt8.ofNat t] ++ beS Q 2 := ⟨_, rfl⟩
            have HL15 := Lib.hid hL15
            have HN15 : Hid (L15.length = m + 2 + 2) := by show _ = _; rw [hL15, List.length_append, List.length_append, ← HM.out, beS_len]; rfl
            rw [← hL15] at HO15
            clear hL15 hXs hXl htl hwX hwt hwQ hQi
            obtain ⟨m15, hm15⟩ : ∃ m15, m15 = m + 2 + 2 := ⟨_, rfl⟩
            rw [← hm15] at HO15 HN15 ⊢
            have hm15i : (m15 : Int) ≤ 1204 := by omega
            have HM15 := Lib.hid hm15
            clear hm15
            go_upto_region 11 with (first
              | (at_builtin
                 refine wpList_append_any _ rfl (.tmp 62) (.tmp 63) _ rfl B 5 iB _ 1 1 Try.underlying22 hiB hz0 hz1 hz2 rfl (by omega) (.slice A15 m15 c15) m15 (L15.map u8v) rfl (by have h1 := HO15.out; unfold ByteRow at h1; rw [HN15.out] at h1; exact h1)
                   _ A9 N c9 ((bodyS r).map u8v) rfl HS15.out.rd (u8_one _) (by simp only [maxLen]; omega) (by omega) (by rw [HBE.out]; exact HBW15.out.size) ?_
                 intro v16 w16 hown16 hg16 hat16
                 obtain ⟨A16, c16, hv16⟩ := own_slice hown16
                 subst hv16
                 have HO16 : Hid (ByteRow w16 B (.slice A16 (m15 + N) c16) (L15 ++ bodyS r)) := by
                   have := hown16
                   rw [← List.map_append] at this
                   show World.ownsRow _ _ _ _ _ _ _
                   rw [List.length_append, HN15.out, ← HNE.out]
                   exact this
                 have HBW16 : Hid (Below B wL w16) := own_grow_below HBW15.out HO15.out hg16 (by rw [HBE.out]; exact Nat.le_refl _)
                 clear hown16 hg16 hat16))
            have HNX : Hid (L15 ++ bodyS r = bytesS (rs.take (i + 1))) := by
              show _ = _
              rw [HSN.out, HL15.out, HXE.out, HQ.out, HLD.out, HNE.out]
              unfold oneB
              rw [HET.out, HEC.out, Int.toNat_natCast, Int.toNat_natCast]
              simp [List.append_assoc]
            have HLX : Hid ((bytesS (rs.take (i + 1))).length ≤ 1200) := by
              show _ ≤ _
              rw [HSN.out, List.length_append, oneB_len, ← HLD.out, ← HNE.out, ← HM.out]
              omega
            rw [HNX.out] at HO16
            go_wp2_with fail
            go_roundg (n - (i + 1))
            case measure => have := HLT.out; have := HGG.out; omega
            case rel =>
              have hlt := HLT.out
              exact ⟨i + 1, rfl, by omega, by first | rfl | go_num, HLX.out, HO16.out, HBW16.out⟩
        · have hini : ¬ (i : Int) < (n : Int) := by omega
          have hie : n = i := by omega
          subst hie
          have HT : Hid (rs.take n = rs) := List.take_of_length_le (by have := HLEN.out; omega)
          clear hin hi
          go_wp2_with fail
          go_ret2
          refine ⟨_, 0, rfl, .inr (.inr ⟨rfl, HNE0.out, HGD.out, ?_⟩), ?_, bcall HBL.out (HBE.out ▸ HBW.out)⟩
          · have h1 := HLE.out
            rw [HLD.out, HT.out] at h1
            exact h1
          · rw [if_pos rfl]
            have hs := SlV.own HO.out
            rw [HLD.out, HT.out] at hs
            exact hs
theorem bytesOf_c (rs : List Rep) (A : Option Addr) (n cap : Nat) (w : World) (h : RepsAt w A n rs) (hl : rs.length = n) (hn : n ≤ 100000) (hf : ∀ r ∈ rs, FitM r) :
    Calls Try.prog 30 #[.slice A n cap] w (BytesR rs w) := by
  by_cases h0 : n = 0
  · subst h0
    refine (bytesOf0_c A cap w).mono ?_
    rintro e w' ⟨rfl, rfl⟩
    exact ⟨_, 1, rfl, .inl ⟨rfl, .inl (List.eq_nil_of_length_eq_zero hl)⟩, by rw [if_neg (by decide)]; exact SlV.nil _, Below.refl _ _⟩
  · exact bytesOf1_c rs A n cap w h hl (by omega) hn hf
end Go.Proofs.Ytkfimncbfbbopaa
/- help.Reports: a list of reports in the reference's form (contract). Conditions: the reports lie in memory. -/
set_option linter.unusedVariables false
set_option linter.unusedSimpArgs false
namespace Go.Proofs.Ytkfimncbfbbopaa
open Go.RowKit
attribute [local go_sem ↓] Go.wp_at_zero Go.wp_at_succ

theorem infoQZ : (Try.prog.info? 40).map (fun i => (i.zero, i.size, i.bytes)) = some (some (.agg (repA 0 0 0 0 0 0 0 nilV nilV nilV 0 0 nilV 0 0 nilV)), 16, 192) := by kernel_rfl
theorem wpList_buildQ {ops : Array Oper} {rest : List Oper} {op : Oper} {a : Act} {w : World} {Q : Exit → Act → World → Prop} (hgd : op.guard = none) (x : Operand) (ho : op.op = .buildSlice 28 1 #[(0, x)]) (X : List Value) (hX : X.length = 16) (hx : a.eval x = .agg X.toArray)
    (h : wpList Try.prog ops Q rest (a.put op.dst (.slice (some ⟨w.heap.size, 0, none⟩) 1 1)) (w.alloc (.cells X.toArray 40))) : wpList Try.prog ops Q (op :: rest) a w := by
  obtain ⟨ie, hi, h0, h1, h2⟩ := info_parts infoQZ
  refine wpList_plain hgd fun K hK => wp_buildSlice 28 40 1 #[(0, x)] ho X.toArray ie _ Try.underlying28 hi h0 (by rw [h1]; decide) (by rw [h1]; decide) ?_ (hK _ _ h)
  rw [h1]
  simp only [List.map_toArray, List.map_cons, List.map_nil, hx]
  exact fillR X hX
theorem RepG.grown {w w' : World} {B B' n : Nat} {vs vd : Value} {cs : Array Value} {r : Rep} {v : Value} {xs : List Value} (h : RepG B w vs vd cs r) (ho : w.ownsRow B' 40 16 v n xs) (hg : w.grownBy w' v.ownBlock) : RepG B w' vs vd cs r := by
  obtain ⟨vb, vp, vf, e, h1, h2, h3⟩ := h
  exact ⟨vb, vp, vf, e, own_grown_far h1 ho (by decide) hg, own_grown_far h2 ho (by decide) hg, own_grown_far h3 ho (by decide) hg⟩
theorem RepG.call {w w' : World} {B : Nat} {vs vd : Value} {cs : Array Value} {r : Rep} (h : RepG B w vs vd cs r) (hb : Below w.heap.size w w') : RepG B w' vs vd cs r := by
  obtain ⟨vb, vp, vf, e, h1, h2, h3⟩ := h
  have hs := Sv.of_below (M := fun _ => False) hb
  exact ⟨vb, vp, vf, e, hs.own h1 (fun _ _ e => e), hs.own h2 (fun _ _ e => e), hs.own h3 (fun _ _ e => e)⟩
theorem RepG.lower {w : World} {B B' : Nat} {vs vd : Value} {cs : Array Value} {r : Rep} (h : RepG B' w vs vd cs r) (hB : B ≤ B') : RepG B w vs vd cs r := by
  obtain ⟨vb, vp, vf, e, h1, h2, h3⟩ := h
  exact ⟨vb, vp, vf, e, own_lower h1 hB, own_lower h2 hB, own_lower h3 hB⟩
theorem RepG.size {w : World} {B : Nat} {vs vd : Value} {cs : Array Value} {r : Rep} (h : RepG B w vs vd cs r) : cs.size = 16 := by
  obtain ⟨vb, vp, vf, e, _⟩ := h
  rw [e]
  rfl
/-- A list of them, whose shared parts read in w0. -/
def RepsG (w0 : World) (B : Nat) (w : World) (css : List (Array Value)) (rs : List Rep) : Prop := css.length = rs.length ∧ ∀ (i : Nat) (cs : Array Value) (r : Rep), css[i]? = some cs → rs[i]? = some r → ∃ vs vd, RepG B w vs vd cs r ∧ SlR w0 ksS vs r.ssrcs ∧ SlV w0 vd r.body
theorem RepsG.keep {w0 w w' : World} {B : Nat} {css : List (Array Value)} {rs : List Rep} (h : RepsG w0 B w css rs) (hk : ∀ vs vd cs r, RepG B w vs vd cs r → RepG B w' vs vd cs r) : RepsG w0 B w' css rs :=
  ⟨h.1, fun i cs r h1 h2 => by obtain ⟨vs, vd, a, b, c⟩ := h.2 i cs r h1 h2; exact ⟨vs, vd, hk _ _ _ _ a, b, c⟩⟩
theorem RepsG.snoc {w0 w : World} {B : Nat} {css : List (Array Value)} {rs : List Rep} {cs : Array Value} {r : Rep} (h : RepsG w0 B w css rs) (h1 : ∃ vs vd, RepG B w vs vd cs r ∧ SlR w0 ksS vs r.ssrcs ∧ SlV w0 vd r.body) : RepsG w0 B w (css ++ [cs]) (rs ++ [r]) := by
  refine ⟨by rw [List.length_append, List.length_append, h.1]; rfl, fun i c x hc hx => ?_⟩
  by_cases hi : i < css.length
  · rw [List.getElem?_append_left hi] at hc
    rw [List.getElem?_append_left (by rw [← h.1]; exact hi)] at hx
    exact h.2 i c x hc hx
  · rw [List.getElem?_append_right (by omega)] at hc
    rw [List.getElem?_append_right (by rw [← h.1]; omega), ← h.1] at hx
    match hj : i - css.length, hc, hx with
    | 0, hc, hx =>
      simp at hc hx
      subst hc hx
      exact h1
    | j + 1, hc, hx => simp at hc
theorem RepV.at12 {w : World} {cs : Array Value} {r : Rep} (h : RepV w cs r) : ∃ vs vd, cs[12]? = some vs ∧ cs[15]? = some vd ∧ SlR w ksS vs r.ssrcs ∧ SlV w vd r.body := by
  obtain ⟨vb, vp, vf, vs, vd, e, h1, h2, h3, h4, h5⟩ := h
  subst e
  exact ⟨vs, vd, rfl, rfl, h4, h5⟩
/-- What help.Reports returns. -/
def ReportsR (rs : List Rep) (n : Nat) (w : World) (e : Ending) (w' : World) : Prop := ∃ A' c', e = .returned (.slice A' n c') ∧ RepsAt w' A' n rs ∧ Below w.heap.size w w'
set_option maxRecDepth 100000 in
set_option maxHeartbeats 6400000 in
theorem reports_c (rs : List Rep) (A : Option Addr) (n cap : Nat) (w : World) (h : RepsAt w A n rs) (hl : rs.length = n) (hn : n ≤ 1000) (hf : ∀ r ∈ rs, FitM r) :
    Calls Try.prog 25 #[.slice A n cap] w (ReportsR rs n w) := by
  obtain ⟨iQ, hiQ, hzaQ, hzbQ, hzcQ⟩ := info_parts infoQZ
  have HLEN := Lib.hid hl
  have H := Lib.hid h
  have HF := Lib.hid hf
  have hni : (n : Int) ≤ 1000 := by omega
  clear hl h hf hn
  go_enter Try.func25, Try.ntmps25
  go_upto_region 3 with fail
  go_loopg [3, 4] n (fun gg v3 v4 wx => ∃ (i : Nat) (css : List (Array Value)), gg = n - i ∧ i ≤ n ∧ v4 = .int .i64 (i : Int) ∧ wx.ownsRow w.heap.size 40 16 v3 i (cellsL css) ∧ RepsG w w.heap.size wx css (rs.take i) ∧ Below w.heap.size w wx)
  case atStart => exact ⟨0, [], rfl, by omega, rfl, World.ownsRow_nil _ _ _ _, ⟨by simp, fun i cs r h1 _ => by simp at h1⟩, Below.refl _ _⟩
  case round =>
    obtain ⟨i, css, hgg, hi, rfl, ho, hg, hb⟩ := hrel
    obtain ⟨Ao, co, hv⟩ := own_slice ho
    subst hv
    have HGG := Lib.hid hgg
    have HO := Lib.hid ho
    have HG := Lib.hid hg
    have HB := Lib.hid hb
    clear hgg ho hg hb
    by_cases hin : i < n
    · have hini : (i : Int) < (n : Int) := by omega
      have hw1 : IntKind.i64.wrap ((i : Int) + 1) = ((i + 1 : Nat) : Int) := by rw [IntKind.wrap_i64]; omega
      obtain ⟨r, hr⟩ : ∃ r, rs[i]? = some r := ⟨_, List.getElem?_eq_getElem (by have := HLEN.out; omega)⟩
      obtain ⟨g3, o3, hA3, hg3, h3⟩ := H.out.at_ (by omega)
      obtain ⟨L3, hv3, hl3, hrg3⟩ := h3 i r hr
      subst hA3
      have HV : Hid (RepV wr L3.toArray r) := hv3.below HB.out
      have HRG : Hid (wr.rangeAt g3 (o3 + i * 16) L3) := below_range hrg3 HB.out hg3
      have HI : Hid ((Try.prog.info? 46).map (·.size) = some L3.length) := by show _ = _; rw [hl3]; exact infoRep
      have HFR := Lib.hid (HF.out r (List.mem_of_getElem? hr))
      obtain ⟨vs, vd, es, ed, hss, hdd⟩ := hv3.at12
      have HES : Hid (L3.toArray[12]? = some vs ∧ L3.toArray[15]? = some vd) := ⟨es, ed⟩
      have HSS : Hid (SlR w ksS vs r.ssrcs ∧ SlV w vd r.body) := ⟨hss, hdd⟩
      have HTK := Lib.hid (takeN_snoc hr)
      have HLT := Lib.hid hin
      clear hg3 h3 hv3 hl3 hrg3 hr hin hi es ed hss hdd
      go_wp2_with (first
        | ((with_reducible show wpList _ _ _ (⟨some 15, .load 46 (.tmp 14), _, _, _, _⟩ :: _) _ _); refine wpList_load_mid rfl 46 (.tmp 14) rfl g3 (o3 + i * 16) rfl L3 _ HRG.out Try.underlying46 rfl HI.out ?_)
        | (go_at_call 15
           refine (repG_c L3.toArray r wr HV.out (by have := HFR.out.blocks; omega) (by have := HFR.out.pairs; omega) (by have := HFR.out.firs; omega) vs vd HES.out.1 HES.out.2).mono ?_
           rintro e9 w9 ⟨cs9, rfl, hg9, hb9⟩
           obtain ⟨X, hX⟩ : ∃ X : List Value, X = cs9.toList := ⟨_, rfl⟩
           have hXA : cs9 = X.toArray := by rw [hX]
           subst hXA
           have HX16 : Hid (X.length = 16) := by have := hg9.size; show _ = _; rw [List.size_toArray] at this; exact this
           have HV9 : Hid (RepV w9 X.toArray r) := hg9.toV HSS.out.1 HSS.out.2 (bcall HB.out hb9)
           have HG9 : Hid (RepG w.heap.size w9 vs vd X.toArray r) := hg9.lower HB.out.size
           have HB9 : Hid (Below w.heap.size w w9) := bcall HB.out hb9
           have HO9 : Hid (World.ownsRow w9 w.heap.size 40 16 (.slice Ao i co) i (cellsL css)) := (Sv.of_below (M := fun _ => False) hb9).own HO.out (fun _ _ e => e)
           have HGS9 : Hid (RepsG w w.heap.size w9 css (rs.take i)) := HG.out.keep fun _ _ _ _ h => h.call hb9
           have HR1 : Hid (∀ u ∈ X, u.oneCell' = true) := by have := RepV.one HV9.out; show ∀ u ∈ X, _; simpa [List.all_eq_true] using this
           have HRE : Hid (Reads (w9.alloc (.cells X.toArray 40)) (World.heap (w9.alloc (.cells X.toArray 40))).size 16 (some ⟨w9.heap.size, 0, none⟩) 1 X) := reads_blk (n := 1) (size := 16) (Blk.newAt (w := w9) rfl 40 X.toArray) (by rw [List.size_toArray]; exact HX16.out)
           clear hg9 hb9 hX)
        | ((with_reducible show wpList _ _ _ (⟨some 17, .buildSlice _ _ _, _, _, _, _⟩ :: _) _ _); refine wpList_buildQ rfl (.tmp 16) rfl X HX16.out rfl ?_)
        | ((with_reducible show wpList _ _ _ (⟨some 18, .call _, _, _, _, _⟩ :: _) _ _)
           refine wpList_append_any _ rfl (.tmp 11) (.tmp 17) _ rfl w.heap.size 40 iQ _ 16 192 Try.underlying28 hiQ hzaQ hzbQ hzcQ rfl (by omega) (.slice Ao i co) i (cellsL css) rfl (HO9.out.alloc _)
             _ (some ⟨w9.heap.size, 0, none⟩) 1 1 X rfl HRE.out HR1.out (by simp only [maxLen]; omega) (by omega) (by have := HB9.out.size; simp; omega) ?_
           intro v10 w10 hown hg10 hv10
           obtain ⟨A10, c10, rfl⟩ := own_slice hown
           have HO10 := Lib.hid hown
           have HG10 := Lib.hid hg10
           clear hown hg10 hv10))
      go_roundg (n - (i + 1))
      case measure => have := HLT.out; have := HGG.out; omega
      case rel =>
        have hlt := HLT.out
        have hbw : Below w9.heap.size w9 (w9.alloc (.cells X.toArray 40)) := balloc (Below.refl _ _) _
        refine ⟨i + 1, css ++ [X.toArray], rfl, by omega, by first | rfl | go_num, ?_, ?_, ?_⟩
        · rw [cellsL_snoc]; exact HO10.out
        · rw [HTK.out]
          refine RepsG.snoc ((HGS9.out.keep fun _ _ _ _ h => h.call hbw).keep fun _ _ _ _ h => h.grown (HO9.out.alloc _) HG10.out) ⟨vs, vd, (HG9.out.call hbw).grown (HO9.out.alloc _) HG10.out, HSS.out.1, HSS.out.2⟩
        · exact own_grow_below (balloc HB9.out _) (HO9.out.alloc _) HG10.out
    · have hini : ¬ (i : Int) < (n : Int) := by omega
      have hie : n = i := by omega
      subst hie
      have HT : Hid (rs.take n = rs) := List.take_of_length_le (by have := HLEN.out; omega)
      clear hin hi
      go_wp2_with fail
      go_ret
      refine ⟨Ao, co, rfl, ⟨css, Reads.of_own HO.out, ?_⟩, HB.out⟩
      have hg := HG.out
      rw [HT.out] at hg
      exact ⟨hg.1, fun j cs r h1 h2 => by obtain ⟨vs, vd, a, b, c⟩ := hg.2 j cs r h1 h2; exact a.toV b c HB.out⟩
end Go.Proofs.Ytkfimncbfbbopaa
/- The law RtcpSays (its walk). Conditions: the reports lie in memory. (Printed by gen8Z.py.) -/
set_option linter.unusedVariables false
set_option linter.unusedSimpArgs false
namespace Go.Proofs.Ytkfimncbfbbopaa
open Go.RowKit
attribute [local go_sem ↓] Go.wp_at_zero Go.wp_at_succ

theorem fitM_of {r : Rep} (hf : FitR r) (hx : -9223372036854775808 ≤ r.ex ∧ r.ex ≤ 9223372036854775807) (hl : LenLe 1500 r) : FitM r := by
  obtain ⟨h1, h2, h3, h4, h5⟩ := hl
  exact ⟨hf, by omega, by omega, by omega, by omega, by omega, hx.1, hx.2⟩
theorem rateRV_c (cs0 : Array Value) (r : Rep) (w : World) (h : RepV w cs0 r) (hm : r.mt < 4294967296) (hx1 : -9223372036854775808 ≤ r.ex) (hx2 : r.ex ≤ 9223372036854775807) :
    Calls Try.prog 29 #[.agg cs0] w fun e w' => e = .returned (.int .u64 (rateS r.mt r.ex : Int)) ∧ Below w.heap.size w w' := by
  obtain ⟨vb, vp, vf, vs, vd, e1, hb, hp, hf, hs, hd⟩ := h
  subst e1
  obtain ⟨Ab, cb, eb, _, _⟩ := id hb
  subst eb
  obtain ⟨Ap, cp, ep, _, _⟩ := id hp
  subst ep
  obtain ⟨Af, cf, ef, _, _⟩ := id hf
  subst ef
  obtain ⟨As, cs, es, _, _⟩ := id hs
  subst es
  obtain ⟨Ad, cd, ed, _, _⟩ := id hd
  subst ed
  exact rateR_c r.kind _ _ _ _ _ _ _ _ _ _ _ _ _ _ _ _ _ _ _ _ _ _ _ _ _ w hm hx1 hx2
set_option maxRecDepth 100000 in
set_option maxHeartbeats 12800000 in
theorem saysLaw_c (rs : List Rep) (A : Option Addr) (n cap : Nat) (w : World) (h : RepsAt w A n rs) (hl : rs.length = n) (hn : n ≤ 140737488355328) (hf : ∀ r ∈ rs, FitR r ∧ LenLe 140737488355328 r ∧ -9223372036854775808 ≤ r.ex ∧ r.ex ≤ 9223372036854775807) :
    Calls Try.prog 7 #[.slice A n cap] w fun e w' => e = .returned (.bool true) ∧ Below w.heap.size w w' := by
  have H := Lib.hid h
  have HLEN := Lib.hid hl
  have HF := Lib.hid hf
  have HN := Lib.hid hn
  clear h hl hf hn
  go_enter Try.func7, Try.ntmps7
  go_upto_if 12 with (first
    | (go_at_call 9
       refine (awake_c _).mono ?_
       rintro e0 w0 ⟨rfl, hb0⟩
       have HB0 := Lib.hid hb0
       clear hb0)
    | (go_at_call 22
       refine (heavy_c rs A n cap w0 (H.out.below HB0.out) HLEN.out HN.out (fun r hr => (HF.out r hr).2.1)).mono ?_
       rintro e1 w1 ⟨q, rfl, hq, hb1⟩
       have HQ := Lib.hid hq
       have HB1 : Hid (Below w.heap.size w w1) := bcall HB0.out hb1
       clear hq hb1))
  clear HB0
  cases q with
  | true =>
    go_wp2_with fail
    go_ret
    exact ⟨rfl, HB1.out⟩
  | false =>
    have HSH := Lib.hid (HQ.out rfl)
    have HFM : Hid (∀ r ∈ rs, FitM r) := fun r hr => fitM_of (HF.out r hr).1 (HF.out r hr).2.2 (HSH.out.2 r hr)
    have HNS : Hid (n ≤ 100) := by show n ≤ 100; rw [← HLEN.out]; exact HSH.out.1
    have hni : (n : Int) ≤ 100 := by have := HNS.out; omega
    clear HQ
    go_upto_region 7 with (first
      | (go_at_call 25
         refine (reports_c rs A n cap w1 (H.out.below HB1.out) HLEN.out (by have := HNS.out; omega) HFM.out).mono ?_
         rintro e2 w2 ⟨A2, c2, rfl, hr2, hb2⟩
         have HR2 := Lib.hid hr2
         have HB2 : Hid (Below w.heap.size w w2) := bcall HB1.out hb2
         clear hr2 hb2))
    clear HB1
    have H2 : Hid (RepsAt w2 A n rs) := H.out.below HB2.out
    go_loopg [4] n (fun gg v4 wx => ∃ i : Nat, gg = n - i ∧ i ≤ n ∧ v4 = .int .i64 (i : Int) ∧ Below w2.heap.size w2 wx)
    case atStart => exact ⟨0, by omega, by omega, rfl, Below.refl _ _⟩
    case round =>
      obtain ⟨i, hgg, hi, rfl, hbx⟩ := hrel
      have HBX := Lib.hid hbx
      have HG := Lib.hid hgg
      clear hbx hgg
      by_cases hin : i < n
      · have hini : (i : Int) < (n : Int) := by omega
        have hw1 : IntKind.i64.wrap ((i : Int) + 1) = ((i + 1 : Nat) : Int) := by rw [IntKind.wrap_i64]; omega
        obtain ⟨r, hr⟩ : ∃ r, rs[i]? = some r := ⟨_, List.getElem?_eq_getElem (by rw [HLEN.out]; exact hin)⟩
        have HFX : Hid (FitM r) := HFM.out r (List.mem_of_getElem? hr)
        have HLT := Lib.hid hin
        obtain ⟨g3, o3, hA3, hg3, h3⟩ := H2.out.at_ (by omega)
        obtain ⟨L3, hv3, hl3, hrg3⟩ := h3 i r hr
        obtain ⟨g4, o4, hA4, hg4, h4⟩ := HR2.out.at_ (by omega)
        obtain ⟨L4, hv4, hl4, hrg4⟩ := h4 i r hr
        have HG3 : Hid (g3 < wr.heap.size) := Nat.lt_of_lt_of_le hg3 HBX.out.size
        have HG4 : Hid (g4 < wr.heap.size) := Nat.lt_of_lt_of_le hg4 HBX.out.size
        have HV3 : Hid (RepV wr L3.toArray r) := hv3.below HBX.out
        have HV4 : Hid (RepV wr L4.toArray r) := hv4.below HBX.out
        have HRG3 : Hid (wr.rangeAt g3 (o3 + i * 16) L3) := below_range hrg3 HBX.out hg3
        have HRG4 : Hid (wr.rangeAt g4 (o4 + i * 16) L4) := below_range hrg4 HBX.out hg4
        have HI3 : Hid ((Try.prog.info? 46).map (·.size) = some L3.length) := by show _ = _; rw [hl3]; exact infoRep
        have HI4 : Hid ((Try.prog.info? 40).map (·.size) = some L4.length) := by show _ = _; rw [hl4]; exact infoRef40
        obtain ⟨ra, hra⟩ : ∃ ra : Int, ra = (rateS r.mt r.ex : Int) := ⟨_, rfl⟩
        have HRA := Lib.hid hra
        have qra : (ra != ra) = false := by simp
        subst hA3 hA4
        clear hr hin hg3 h3 hv3 hl3 hrg3 hg4 h4 hv4 hl4 hrg4 hra
        go_upto_region 9 with fail
        obtain ⟨Bq, hBq⟩ : ∃ Bq, Bq = wr.heap.size := ⟨_, rfl⟩
        have HBQ := Lib.hid hBq
        clear hBq
        have HBD : Hid (Below wr.heap.size wr (World.drew wr)) := bdrew (Below.refl _ _)
        refine wp_region_held_drew (S := (fun w2 => Below Bq wr w2)) (by kernel_rfl) (HBQ.out.symm ▸ HBD.out) (fun hHeld => ?_)
        refine wpAnyH_takeAt (i := 0) (v := (.slice (some ⟨g3, o3, none⟩) n cap)) rfl (by kernel_rfl) (by kernel_rfl) (by kernel_rfl) (fun _ _ _ h => h) rfl (Or.inl ⟨by rfl, fun w' hS => ?_⟩) hHeld ?_
        · go_simp
        simp only [List.set_cons_zero, List.set_cons_succ]
        refine wpAnyH_takeAt (i := 1) (v := (.int .i64 (i : Int))) rfl (by kernel_rfl) (by kernel_rfl) (by kernel_rfl) (fun _ _ _ h => h) rfl (Or.inl ⟨by rfl, fun w' hS => ?_⟩) hHeld ?_
        · go_simp
        simp only [List.set_cons_zero, List.set_cons_succ]
        refine wpAnyH_takeAt (i := 2) (v := (.pointer (some ⟨g3, o3 + i * 16, none⟩))) rfl (by kernel_rfl) (by kernel_rfl) (by kernel_rfl) (fun _ _ _ h => h) rfl (Or.inl ⟨by rfl, fun w' hS => ?_⟩) hHeld ?_
        · go_simp
        simp only [List.set_cons_zero, List.set_cons_succ]
        refine wpAnyH_takeAt (i := 3) (v := (.agg L3.toArray)) rfl (by kernel_rfl) (by kernel_rfl) (by kernel_rfl) (fun _ _ _ h => h) rfl (yieldsIf_load_mid (by rfl) 46 _ rfl g3 (o3 + i * 16) rfl L3 _ (fun w' hS => below_range HRG3.out hS (HBQ.out.symm ▸ HG3.out)) Try.underlying46 rfl HI3.out) hHeld ?_
        simp only [List.set_cons_zero, List.set_cons_succ]
        refine wpAnyH_takeAt (i := 5) (v := (.slice (some ⟨g4, o4, none⟩) n c2)) rfl (by kernel_rfl) (by kernel_rfl) (by kernel_rfl) (fun _ _ _ h => h) rfl (Or.inl ⟨by rfl, fun w' hS => ?_⟩) hHeld ?_
        · go_simp
        simp only [List.set_cons_zero, List.set_cons_succ]
        refine wpAnyH_takeAt (i := 6) (v := (.int .i64 (i : Int))) rfl (by kernel_rfl) (by kernel_rfl) (by kernel_rfl) (fun _ _ _ h => h) rfl (Or.inl ⟨by rfl, fun w' hS => ?_⟩) hHeld ?_
        · go_simp
        simp only [List.set_cons_zero, List.set_cons_succ]
        refine wpAnyH_takeAt (i := 7) (v := (.pointer (some ⟨g4, o4 + i * 16, none⟩))) rfl (by kernel_rfl) (by kernel_rfl) (by kernel_rfl) (fun _ _ _ h => h) rfl (Or.inl ⟨by rfl, fun w' hS => ?_⟩) hHeld ?_
        · go_simp
        simp only [List.set_cons_zero, List.set_cons_succ]
        refine wpAnyH_takeAt (i := 8) (v := (.agg L4.toArray)) rfl (by kernel_rfl) (by kernel_rfl) (by kernel_rfl) (fun _ _ _ h => h) rfl (yieldsIf_load_mid (by rfl) 40 _ rfl g4 (o4 + i * 16) rfl L4 _ (fun w' hS => below_range HRG4.out hS (HBQ.out.symm ▸ HG4.out)) Try.underlying40 rfl HI4.out) hHeld ?_
        simp only [List.set_cons_zero, List.set_cons_succ]
        refine wpAnyH_ready (rs := [4]) (by kernel_rfl) (by simp) (AllReadyH.cons rfl (fun K' hK => ?_) AllReadyH.nil)
        go_simp
        go_at_call 26
        refine (good_c L3.toArray r _ (HV3.out.below HBD.out) (by have := HFX.out.blocks; omega) HFX.out.exlo HFX.out.exhi).mono ?_
        rintro e0 w11 ⟨q1, rfl, hq1, hb11⟩
        go_wp2_with fail
        have HQ1 := Lib.hid hq1
        have HB11 : Hid (Below wr.heap.size wr w11) := bcall HBD.out hb11
        clear hq1 hb11
        refine hK.out _ _ (HBQ.out.symm ▸ HB11.out) (fun hHeld' => ?_)
        clear hK hHeld
        have hHeld := hHeld'
        clear hHeld'
        refine wpAnyH_ready (rs := [9]) (by kernel_rfl) (by simp) (AllReadyH.cons rfl (fun K' hK => ?_) AllReadyH.nil)
        go_simp
        go_at_call 27
        refine (rgood_c L4.toArray r _ (HV4.out.below HB11.out) (by have := HFX.out.blocks; omega) (by have := HFX.out.pairs; omega) (by have := HFX.out.firs; omega) (by have := HFX.out.ssrcs; omega) (by have := HFX.out.body; omega) HFX.out.exlo HFX.out.exhi).mono ?_
        rintro e0 w12 ⟨q2, rfl, hq2, hb12⟩
        have hq12 : q2 = q1 := by
          rw [Bool.eq_iff_iff, hq2, HQ1.out]
        subst hq12
        go_wp2_with fail
        have HB12 : Hid (Below wr.heap.size wr w12) := bcall HB11.out hb12
        clear hq2 hb12
        refine hK.out _ _ (HBQ.out.symm ▸ HB12.out) (fun hHeld' => ?_)
        clear hK hHeld
        have hHeld := hHeld'
        clear hHeld'
        have qq2 : (q2 != q2) = false := by simp
        refine wpAnyH_takeAt (i := 10) (v := (.bool false)) rfl (by kernel_rfl) (by kernel_rfl) (by kernel_rfl) (fun _ _ _ h => h) rfl (Or.inl ⟨by rfl, fun w' hS => ?_⟩) hHeld ?_
        · go_simp
        simp only [List.set_cons_zero, List.set_cons_succ]
        refine wpAnyH_takeAt (i := 11) (v := (.bool false)) rfl (by kernel_rfl) (by kernel_rfl) (by kernel_rfl) (fun _ _ _ h => h) rfl (Or.inl ⟨by rfl, fun w' hS => ?_⟩) hHeld ?_
        · go_simp
        simp only [List.set_cons_zero, List.set_cons_succ]
        refine wpAnyH_takeAt (i := 12) (v := (.slice (some ⟨g3, o3, none⟩) n cap)) rfl (by kernel_rfl) (by kernel_rfl) (by kernel_rfl) (fun _ _ _ h => h) rfl (Or.inl ⟨by rfl, fun w' hS => ?_⟩) hHeld ?_
        · go_simp
        simp only [List.set_cons_zero, List.set_cons_succ]
        refine wpAnyH_takeAt (i := 13) (v := (.int .i64 (i : Int))) rfl (by kernel_rfl) (by kernel_rfl) (by kernel_rfl) (fun _ _ _ h => h) rfl (Or.inl ⟨by rfl, fun w' hS => ?_⟩) hHeld ?_
        · go_simp
        simp only [List.set_cons_zero, List.set_cons_succ]
        refine wpAnyH_takeAt (i := 14) (v := (.pointer (some ⟨g3, o3 + i * 16, none⟩))) rfl (by kernel_rfl) (by kernel_rfl) (by kernel_rfl) (fun _ _ _ h => h) rfl (Or.inl ⟨by rfl, fun w' hS => ?_⟩) hHeld ?_
        · go_simp
        simp only [List.set_cons_zero, List.set_cons_succ]
        refine wpAnyH_takeAt (i := 15) (v := (.agg L3.toArray)) rfl (by kernel_rfl) (by kernel_rfl) (by kernel_rfl) (fun _ _ _ h => h) rfl (yieldsIf_load_mid (by rfl) 46 _ rfl g3 (o3 + i * 16) rfl L3 _ (fun w' hS => below_range HRG3.out hS (HBQ.out.symm ▸ HG3.out)) Try.underlying46 rfl HI3.out) hHeld ?_
        simp only [List.set_cons_zero, List.set_cons_succ]
        refine wpAnyH_takeAt (i := 17) (v := (.slice (some ⟨g4, o4, none⟩) n c2)) rfl (by kernel_rfl) (by kernel_rfl) (by kernel_rfl) (fun _ _ _ h => h) rfl (Or.inl ⟨by rfl, fun w' hS => ?_⟩) hHeld ?_
        · go_simp
        simp only [List.set_cons_zero, List.set_cons_succ]
        refine wpAnyH_takeAt (i := 18) (v := (.int .i64 (i : Int))) rfl (by kernel_rfl) (by kernel_rfl) (by kernel_rfl) (fun _ _ _ h => h) rfl (Or.inl ⟨by rfl, fun w' hS => ?_⟩) hHeld ?_
        · go_simp
        simp only [List.set_cons_zero, List.set_cons_succ]
        refine wpAnyH_takeAt (i := 19) (v := (.pointer (some ⟨g4, o4 + i * 16, none⟩))) rfl (by kernel_rfl) (by kernel_rfl) (by kernel_rfl) (fun _ _ _ h => h) rfl (Or.inl ⟨by rfl, fun w' hS => ?_⟩) hHeld ?_
        · go_simp
        simp only [List.set_cons_zero, List.set_cons_succ]
        refine wpAnyH_takeAt (i := 20) (v := (.agg L4.toArray)) rfl (by kernel_rfl) (by kernel_rfl) (by kernel_rfl) (fun _ _ _ h => h) rfl (yieldsIf_load_mid (by rfl) 40 _ rfl g4 (o4 + i * 16) rfl L4 _ (fun w' hS => below_range HRG4.out hS (HBQ.out.symm ▸ HG4.out)) Try.underlying40 rfl HI4.out) hHeld ?_
        simp only [List.set_cons_zero, List.set_cons_succ]
        refine wpAnyH_ready (rs := [16]) (by kernel_rfl) (by simp) (AllReadyH.cons rfl (fun K' hK => ?_) AllReadyH.nil)
        go_simp
        go_at_call 28
        refine (rateV_c L3.toArray r _ (HV3.out.below HB12.out) HFX.out.fit.mt HFX.out.exlo HFX.out.exhi).mono ?_
        rintro e0 w13 ⟨he13, hb13⟩
        rw [← HRA.out] at he13
        subst he13
        go_wp2_with fail
        have HB13 : Hid (Below wr.heap.size wr w13) := bcall HB12.out hb13
        clear hb13
        refine hK.out _ _ (HBQ.out.symm ▸ HB13.out) (fun hHeld' => ?_)
        clear hK hHeld
        have hHeld := hHeld'
        clear hHeld'
        refine wpAnyH_ready (rs := [21]) (by kernel_rfl) (by simp) (AllReadyH.cons rfl (fun K' hK => ?_) AllReadyH.nil)
        go_simp
        go_at_call 29
        refine (rateRV_c L4.toArray r _ (HV4.out.below HB13.out) HFX.out.fit.mt HFX.out.exlo HFX.out.exhi).mono ?_
        rintro e0 w14 ⟨he14, hb14⟩
        rw [← HRA.out] at he14
        subst he14
        go_wp2_with fail
        have HB14 : Hid (Below wr.heap.size wr w14) := bcall HB13.out hb14
        clear hb14
        refine hK.out _ _ (HBQ.out.symm ▸ HB14.out) (fun hHeld' => ?_)
        clear hK hHeld
        have hHeld := hHeld'
        clear hHeld'
        refine wpAnyH_takeAt (i := 22) (v := (.bool false)) rfl (by kernel_rfl) (by kernel_rfl) (by kernel_rfl) (fun _ _ _ h => h) rfl (Or.inl ⟨by rfl, fun w' hS => ?_⟩) hHeld ?_
        · go_simp
        simp only [List.set_cons_zero, List.set_cons_succ]
        refine wpAnyH_takeAt (i := 23) (v := (.bool false)) rfl (by kernel_rfl) (by kernel_rfl) (by kernel_rfl) (fun _ _ _ h => h) rfl (Or.inl ⟨by rfl, fun w' hS => ?_⟩) hHeld ?_
        · go_simp
        simp only [List.set_cons_zero, List.set_cons_succ]
        refine wpAnyH_done (by kernel_rfl) ?_ _
        go_wp2_with fail
        go_roundg (n - (i + 1))
        case measure => have := HLT.out; have := HG.out; omega
        case rel => have hlt := HLT.out; exact ⟨i + 1, rfl, by omega, by first | rfl | go_num, bcall HBX.out HB14.out⟩
      · have hini : ¬ (i : Int) < (n : Int) := by omega
        clear hin hi
        have HBY : Hid (Below w.heap.size w wr) := bcall HB2.out HBX.out
        have HAX : Hid (RepsAt wr A n rs) := H2.out.below HBX.out
        have HRX : Hid (RepsAt wr A2 n rs) := HR2.out.below HBX.out
        have q3 : ∀ z : Int, (z == z) = true := fun z => by simp
        go_upto_region 13 with (first
          | (go_at_call 23
             refine (bytes_c rs A n cap wr HAX.out HLEN.out (by have := HNS.out; omega) HFM.out).mono ?_
             rintro e3 w3 ⟨v3, z3, rfl, herr3, hs3, hb3⟩
             obtain ⟨A3, c3, rfl, _, _⟩ := id hs3
             obtain ⟨m3, hm3⟩ : ∃ m3, m3 = (if z3 = 0 then bytesS rs else ([] : List UInt8)).length := ⟨_, rfl⟩
             obtain ⟨l3, hl3⟩ : ∃ l3, l3 = (if z3 = 0 then bytesS rs else ([] : List UInt8)) := ⟨_, rfl⟩
             rw [← hm3, ← hl3] at hs3
             rw [← hm3]
             have HL3 := Lib.hid hl3
             have HE3 := Lib.hid herr3
             have HS3 := Lib.hid hs3
             have HB3 : Hid (Below w.heap.size w w3) := bcall HBY.out hb3
             have HRX3 : Hid (RepsAt w3 A2 n rs) := HRX.out.below hb3
             clear hm3 hl3 herr3 hs3 hb3)
          | (go_at_call 30
             refine (bytesOf_c rs A2 n c2 w3 HRX3.out HLEN.out (by have := HNS.out; omega) HFM.out).mono ?_
             rintro e4 w4 ⟨v4, z4, rfl, herr4, hs4, hb4⟩
             have hz4 : z4 = z3 := ErrOf.one herr4 HE3.out
             subst hz4
             rw [← HL3.out] at hs4
             obtain ⟨A4, c4, rfl, _, _⟩ := id hs4
             obtain ⟨m4, hm4⟩ : ∃ m4, m4 = l3.length := ⟨_, rfl⟩
             rw [← hm4] at hs4 ⊢
             have HS4 := Lib.hid hs4
             have HS34 : Hid (SlV w4 (.slice A3 m3 c3) l3) := HS3.out.below hb4
             have HB4 : Hid (Below w.heap.size w w4) := bcall HB3.out hb4
             clear hm4 herr4 hs4 hb4))
        go_wp2_with (first
          | (go_at_call 24
             refine (same_s (r := true) (by simp) HS34.out HS4.out).mono ?_
             rintro e7 w7 ⟨rfl, rfl⟩))
        go_ret
        exact ⟨rfl, HB4.out⟩
end Go.Proofs.Ytkfimncbfbbopaa
