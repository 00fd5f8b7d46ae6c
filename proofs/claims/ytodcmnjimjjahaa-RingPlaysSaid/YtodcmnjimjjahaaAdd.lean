/- What the ring's Add leaves (a contract). Conditions: the ring lies as RingIs says, with at most 64 entries; the bytes' slice reads. -/
import Derived.Test.YtodcmnjimjjahaaDel
set_option linter.unusedVariables false
namespace Go.Proofs.Ytodcmnjimjjahaa
open Go.RowKit
attribute [local go_sem ↓] Go.wp_at_zero Go.wp_at_succ

def rt : TypeId → Bool := fun t => t == 45 || t == 49
/-- Without the entry of that number. -/
def outF (es : List Ent) (q : Nat) : List Ent := if idxF es q < es.length then es.eraseIdx (idxF es q) else es
/-- At most 64: the first goes. -/
def cutF (es : List Ent) : List Ent := if 64 < es.length then es.eraseIdx 0 else es
def addF (es : List Ent) (E : Ent) : List Ent := cutF (outF es E.seq ++ [E])
theorem out_len (es : List Ent) (q : Nat) : (outF es q).length ≤ es.length := by
  unfold outF; split
  · rw [erase_len es _ (by assumption)]; omega
  · omega
theorem add_len (es : List Ent) (E : Ent) (h : es.length ≤ 64) : (addF es E).length ≤ 64 := by
  have := out_len es E.seq
  unfold addF cutF
  split
  · rename_i h1
    rw [erase_len _ _ (by omega)]
    simp only [List.length_append, List.length_cons, List.length_nil] at *
    omega
  · omega

theorem RingIs.put {w : World} {B r : Nat} {es : List Ent} {V0 V : Value} (hb : Blk w r 45 #[V0]) (hB : B ≤ r) (hown : w.ownsRow B 49 2 V es.length (ecells es)) (hbv : ∀ e ∈ es, BytesV 5 B w e.v e.bs) (hs : ∀ e ∈ es, e.seq < 65536) :
    RingIs (w.setCell ⟨r, 0, none⟩ V) B r es := by
  have hf : Fr B (fun t => t == 45) w (w.setCell ⟨r, 0, none⟩ V) := (Fr.refl _ _ _).set_ hb rfl hB 0 V
  exact ⟨V, hb.set_ 0 V, hB, own_fr hown hf rfl, fun e he => (hbv e he).fr hf rfl, hs⟩
theorem Fr.ring {w w' : World} {B r : Nat} {V0 V : Value} (h : Fr B rt w w') (hb : Blk w' r 45 #[V0]) (hB : B ≤ r) : Fr B rt w (w'.setCell ⟨r, 0, none⟩ V) := h.set_ hb rfl hB 0 V
theorem mem_erase {es : List Ent} {i : Nat} {e : Ent} (h : e ∈ es.eraseIdx i) : e ∈ es := List.mem_of_mem_eraseIdx h

theorem own_put {w : World} {B r base n : Nat} {V0 V v : Value} {xs : List Value} (hb : Blk w r 45 #[V0]) (hB : B ≤ r) (ho : w.ownsRow base 5 1 v n xs) : (w.setCell ⟨r, 0, none⟩ V).ownsRow base 5 1 v n xs :=
  own_fr ho ((Fr.refl B (fun t => t == 45) w).set_ hb rfl hB 0 V) rfl
def AddMid (w : World) (B r : Nat) (es : List Ent) (wx : World) : Prop := RingIs wx B r es ∧ Fr B rt w wx
def AddEnd (w : World) (B r : Nat) (es : List Ent) (s : Nat) (bs : List UInt8) (wx : World) : Prop := ∃ v', RingIs wx B r (addF es ⟨s, v', bs⟩) ∧ Fr B rt w wx ∧ wx.ownsRow w.heap.size 5 1 v' bs.length (bs.map u8v)
def AddPut (w : World) (B r : Nat) (es : List Ent) (s : Nat) (bs : List UInt8) (wx : World) : Prop := ∃ v', RingIs wx B r (es ++ [⟨s, v', bs⟩]) ∧ Fr B rt w wx ∧ wx.ownsRow w.heap.size 5 1 v' bs.length (bs.map u8v)

theorem own_at {w : World} {B n : Nat} {V : Value} {xs : List Value} (h : w.ownsRow B 49 2 V n xs) (hn : 0 < n) : ∃ g cap, V = .slice (some ⟨g, 0, none⟩) n cap ∧ cap ≤ 9223372036854775807 := by
  rcases h.2 with ⟨_, h0⟩ | ⟨g, cap, cur, e, _, _, _, h1, _⟩
  · omega
  · exact ⟨g, cap, e, h1⟩

theorem put_put {w w3 w4 w5 : World} {B r s gg cap cc : Nat} {A : Option Addr} {es : List Ent} {bs : List UInt8} {v' : Value}
    (hf : Fr B rt w w3) (hB : B ≤ r) (hbv : ∀ e ∈ es, BytesV 5 B w3 e.v e.bs) (hs : ∀ e ∈ es, e.seq < 65536) (hs0 : s < 65536)
    (b3 : Blk w3 r 45 #[.slice A es.length cc]) (o3 : w3.ownsRow B 49 2 (.slice A es.length cc) es.length (ecells es))
    (hb3 : Below w3.heap.size w3 w4) (hv' : w4.ownsRow w3.heap.size 5 1 v' bs.length (bs.map u8v))
    (hown : w5.ownsRow B 49 2 (.slice (some ⟨gg, 0, none⟩) (es.length + 1) cap) (es.length + 1) (ecells es ++ [.int .u16 s, v']))
    (hg : (w4.alloc (.cells #[.int .u16 s, v'] 49)).grownBy w5 (Value.slice A es.length cc).ownBlock) :
    Blk w5 r 45 #[.slice A es.length cc] ∧ AddPut w B r es s bs (w5.setCell ⟨r, 0, none⟩ (.slice (some ⟨gg, 0, none⟩) (es.length + 1) cap)) := by
  have hf5 : Fr B rt w3 w5 := (((Fr.refl B rt w3).call hb3).alloc (.cells #[.int .u16 s, v'] 49)).grown_own ((own_below o3 hb3).alloc _) hg (Nat.le_refl _) rfl
  have hf5' : Fr B (fun t => t == 49) w3 w5 := (((Fr.refl B _ w3).call hb3).alloc (.cells #[.int .u16 s, v'] 49)).grown_own ((own_below o3 hb3).alloc _) hg (Nat.le_refl _) rfl
  have hv5o : w5.ownsRow w3.heap.size 5 1 v' bs.length (bs.map u8v) := own_fr hv' (((Fr.refl B (fun t => t == 49) w4).alloc (.cells #[.int .u16 s, v'] 49)).grown_own ((own_below o3 hb3).alloc _) hg (Nat.le_refl _) rfl) rfl
  have hv5 : BytesV 5 B w5 v' bs := by
    have h4 : BytesV 5 B w4 v' bs := BytesV.owned hv'
    exact h4.fr (((Fr.refl B (fun t => t == 49) w4).alloc (.cells #[.int .u16 s, v'] 49)).grown_own ((own_below o3 hb3).alloc _) hg (Nat.le_refl _) rfl) rfl
  have b5 : Blk w5 r 45 #[.slice A es.length cc] := b3.fr hf5' (.inr rfl)
  refine ⟨b5, v', ?_, (hf.trans hf5).ring b5 hB, own_put b5 hB (own_lower hv5o hf.size)⟩
  refine RingIs.put b5 hB ?_ ?_ ?_
  · have e1 : (es ++ [(⟨s, v', bs⟩ : Ent)]).length = es.length + 1 := by simp
    rw [e1, ecells_app]
    exact hown
  · intro e he
    rcases List.mem_append.1 he with h | h
    · exact (hbv e h).fr hf5 rfl
    · rw [List.mem_singleton.1 h]; exact hv5
  · intro e he
    rcases List.mem_append.1 he with h | h
    · exact hs e h
    · rw [List.mem_singleton.1 h]; exact hs0

set_option maxHeartbeats 1600000 in
theorem add_c (r s B : Nat) (es : List Ent) (bs : List UInt8) (v : Value) (w : World) (h : RingIs w B r es) (hv : BytesV 5 B w v bs) (hbs : bs.length ≤ 140737488355328) (hs : s < 65536) (hl : es.length ≤ 64) :
    Calls Try.prog 9 #[.pointer (some ⟨r, 0, none⟩), .int .u16 s, v] w fun e w' => e = .returned (.tuple #[]) ∧ AddEnd w B r es s bs w' := by
  obtain ⟨i0, hi0, hz0, hz1, hz2⟩ := info_parts info49
  have HR : Hid (RingIs w B r es) := h
  have HV : Hid (BytesV 5 B w v bs) := hv
  clear h hv
  go_enter Try.func9, Try.ntmps9
  go_wp2_with fail
  refine (at_c r s B es _ HR.out (by omega)).mono ?_
  rintro e0 w1 ⟨rfl, hb1⟩
  go_upto_if 11 with (fail)
  go_cut [6] (fun v6 wx => AddMid w B r (outF es s) wx)
  case first =>
    have hr1 := HR.out.below hb1
    by_cases hk : idxF es s < es.length
    · have e1 : idxI es s = (idxF es s : Int) := by rw [idxI, if_pos hk]
      have HK := Lib.hid hk
      have hone := hr1.one
      obtain ⟨V, hb, hB, hown, hbv, hsq⟩ := hr1
      have hcl := hb.cell1
      obtain ⟨g, cap, rfl, hcapb⟩ := own_at hown (by omega)
      have HO := Lib.hid hown
      have HB := Lib.hid hb
      have HBV := Lib.hid hbv
      have HSQ := Lib.hid hsq
      have HONE := Lib.hid hone
      have hge : (0 : Int) ≤ (idxF es s : Int) := by omega
      rw [e1]
      have hwr : IntKind.i64.wrap ((idxF es s : Int) + 1) = (idxF es s : Int) + 1 := by rw [IntKind.wrap_i64]; omega
      obtain ⟨k, hkk⟩ : ∃ k, idxF es s = k := ⟨_, rfl⟩
      rw [hkk] at HK hge hwr ⊢
      have HKK := Lib.hid hkk
      have hkl : k < es.length := HK.out
      clear e1 hkk hk hown hb hbv hsq hone
      go_wp2_with fail
      refine (del_c B g es.length cap k es _ HO.out rfl hkl HONE.out hcapb).mono ?_
      rintro e0 w2 ⟨rfl, ho2, hf2⟩
      have b2 := HB.out.fr hf2 (.inr rfl)
      have c2 := b2.cell1
      have z2 := b2.frozen 0
      have F2 := Lib.hid hf2
      have B2 := Lib.hid b2
      have O2 := Lib.hid ho2
      clear hf2 b2 ho2
      go_wp2_with fail
      go_meet
      refine ⟨?_, ?_⟩
      · rw [outF, HKK.out, if_pos hkl]
        refine RingIs.put B2.out hB ?_ (fun e he => (HBV.out e (mem_erase he)).fr F2.out rfl) (fun e he => HSQ.out e (mem_erase he))
        rw [erase_len es k hkl]; exact O2.out
      · exact ((Fr.of_below hb1).trans (F2.out.mono (by simp [rt]))).ring B2.out hB
    · have e1 : idxI es s = -1 := by rw [idxI, if_neg hk]
      rw [e1]
      go_wp2_with fail
      go_meet
      exact ⟨by rw [outF, if_neg hk]; exact hr1, Fr.of_below hb1⟩
  case rest =>
    obtain ⟨hr2, hf2⟩ := hcut
    have hlo := out_len es s
    obtain ⟨es2, he2⟩ : ∃ es2, es2 = outF es s := ⟨_, rfl⟩
    rw [← he2] at hr2 hlo
    have E2 := Lib.hid he2
    have F2 := Lib.hid hf2.drew
    have HV2 := Lib.hid (HV.out.fr hf2.drew rfl)
    replace hr2 : RingIs wc.drew B r es2 := hr2
    obtain ⟨V, hb, hB, hown, hbv, hsq⟩ := hr2
    have hcl := hb.cell1
    obtain ⟨A, cc, rfl⟩ := own_slice hown
    have HO := Lib.hid hown
    have HB := Lib.hid hb
    have HBV := Lib.hid hbv
    have HSQ := Lib.hid hsq
    obtain ⟨A1, c1, rfl, _, _, _⟩ := HV.out
    clear hb1 hf2 he2 hown hb hbv hsq
    go_wp2_with fail
    go_cut [] (fun wx => AddPut w B r es2 s bs wx)
    case first =>
      go_region_law (first
        | (refine step_append_lies _ (by rfl) _ _ _ (by rfl) B 49 i0 _ 2 32 Try.underlying43 hi0 hz0 hz1 hz2 rfl (by omega) (.slice A es2.length cc) es2.length (ecells es2) (by rfl) ((own_below HO.out HB4.out).alloc _)
             ⟨w4.heap.size, 0, none⟩ 1 1 [.int .u16 s, .slice A4 bs.length cc4] (by rfl) (by rfl) (World.news_of_block (cs := #[.int .u16 s, .slice A4 bs.length cc4]) (t := 49) (fr := (0, 0)) (heap_alloc_new w4 _)) ONE4.out
             (by omega) (by unfold maxLen; omega) (by omega) (by simp; omega) (w4.heap.size + 1) (by simp) ?_
           intro gg cap w5 hown5 hgrow5 hat5 hlt5
           obtain ⟨b5, hput⟩ := put_put F2.out hB HBV.out HSQ.out hs HB.out HO.out HB4.out HV4.out hown5 hgrow5
           have c5 := b5.cell1
           have z5 := b5.frozen 0
           have HP5 := Lib.hid hput
           clear b5 hput)
        | (go_simp
           go_at_call 17
           refine (clone_c bs _ _ _ HV2.out hbs).mono ?_
           rintro e0 w4 ⟨v', rfl, hv4, hb4⟩
           obtain ⟨A4, cc4, rfl⟩ := own_slice hv4
           have c4 := (HB.out.below hb4).cell1
           have HB4 := Lib.hid hb4
           have HV4 := Lib.hid hv4
           have ONE4 : Hid (∀ u ∈ [Value.int .u16 s, .slice A4 bs.length cc4], u.oneCell' = true) := by
             intro u hu
             simp only [List.mem_cons, List.not_mem_nil, or_false] at hu
             rcases hu with rfl | rfl <;> rfl
           clear hb4 hv4))
      all_goals
        go_wp2_with fail
        go_meet
        exact HP5.out
    case rest =>
      obtain ⟨v', hr3, hf3, ho3⟩ := hcut
      have OV3 := Lib.hid ho3
      clear ho3
      obtain ⟨es3, he3⟩ : ∃ es3, es3 = es2 ++ [(⟨s, v', bs⟩ : Ent)] := ⟨_, rfl⟩
      rw [← he3] at hr3
      have hl3 : es3.length = es2.length + 1 := by rw [he3]; simp
      have AE : Hid (addF es ⟨s, v', bs⟩ = cutF es3) := by show addF es ⟨s, v', bs⟩ = _; rw [he3, addF, E2.out]
      have hone := hr3.one
      have hr30 := hr3
      obtain ⟨V, hb3, hB, hown, hbv, hsq⟩ := hr3
      have hcl3 := hb3.cell1
      obtain ⟨g, cap, rfl, hcapb⟩ := own_at hown (by omega)
      have HO3 := Lib.hid hown
      have HB3 := Lib.hid hb3
      have HBV3 := Lib.hid hbv
      have HSQ3 := Lib.hid hsq
      have HONE := Lib.hid hone
      have HR3 := Lib.hid hr30
      have F3 := Lib.hid hf3
      by_cases hk : 64 < es3.length
      · have hki : (64 : Int) < (es3.length : Int) := by omega
        have hcf : Hid (cutF es3 = es3.eraseIdx 0) := by show cutF es3 = _; rw [cutF, if_pos hk]
        clear he3 hl3 hown hb3 hbv hsq hone hr30 hf3
        go_wp2_with fail
        refine (del_c B g es3.length cap 0 es3 _ HO3.out rfl (by omega) HONE.out hcapb).mono ?_
        rintro e0 w2 ⟨rfl, ho2, hf2⟩
        have b2 := HB3.out.fr hf2 (.inr rfl)
        have c2 := b2.cell1
        have z2 := b2.frozen 0
        have F4 := Lib.hid hf2
        have B2 := Lib.hid b2
        have O2 := Lib.hid ho2
        clear hf2 b2 ho2
        go_wp2
        go_end0
        refine ⟨rfl, v', ?_, (F3.out.trans (F4.out.mono (by simp [rt]))).ring B2.out hB, own_put B2.out hB (own_fr OV3.out F4.out rfl)⟩
        rw [AE.out, hcf.out]
        refine RingIs.put B2.out hB ?_ (fun e he => (HBV3.out e (mem_erase he)).fr F4.out rfl) (fun e he => HSQ3.out e (mem_erase he))
        rw [erase_len es3 0 (by omega)]; exact O2.out
      · have hki : ¬ (64 : Int) < (es3.length : Int) := by omega
        have hki2 : (es3.length : Int) ≤ 64 := by omega
        have hcf : Hid (cutF es3 = es3) := by show cutF es3 = _; rw [cutF, if_neg hk]
        clear he3 hl3 hown hb3 hbv hsq hone hr30 hf3
        go_wp2
        go_end0
        exact ⟨rfl, v', by rw [AE.out, hcf.out]; exact HR3.out, F3.out, OV3.out⟩
end Go.Proofs.Ytodcmnjimjjahaa
