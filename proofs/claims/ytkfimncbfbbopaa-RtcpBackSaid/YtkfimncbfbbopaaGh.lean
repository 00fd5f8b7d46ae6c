/- What alike tells (contract). Conditions: none. (Printed by gen8g.py.) -/
import Derived.Test.YtkfimncbfbbopaaGg
set_option linter.unusedVariables false
set_option linter.unusedSimpArgs false
namespace Go.Proofs.Ytkfimncbfbbopaa
open Go.RowKit
attribute [local go_sem ↓] Go.wp_at_zero Go.wp_at_succ

def AlikeV (fr ab ntp ts pk oc mt nb cb np cp nf cf ns cs nd cd : Nat) (ex ty ct : Int) (Ab Ap Af As Ad : Option Addr) (fr2 ab2 ntp2 ts2 pk2 oc2 mt2 nb2 cb2 np2 cp2 nf2 cf2 ns2 cs2 nd2 cd2 : Nat) (ex2 ty2 ct2 : Int) (Ab2 Ap2 Af2 As2 Ad2 : Option Addr) : Prop := fr = fr2 ∧ ab = ab2 ∧ ntp = ntp2 ∧ ts = ts2 ∧ pk = pk2 ∧ oc = oc2 ∧ ex = ex2 ∧ mt = mt2 ∧ ty = ty2 ∧ ct = ct2 ∧ nb = nb2 ∧ np = np2 ∧ nf = nf2 ∧ ns = ns2 ∧ nd = nd2
theorem cast_eqb (a b : Nat) : ((a : Int) == (b : Int)) = (a == b) := by
  rw [Bool.eq_iff_iff, beq_iff_eq, beq_iff_eq]; omega
set_option maxRecDepth 100000 in
set_option maxHeartbeats 25600000 in
theorem alike_c (k1 k2 : Int) (fr ab ntp ts pk oc mt nb cb np cp nf cf ns cs nd cd : Nat) (ex ty ct : Int) (Ab Ap Af As Ad : Option Addr) (fr2 ab2 ntp2 ts2 pk2 oc2 mt2 nb2 cb2 np2 cp2 nf2 cf2 ns2 cs2 nd2 cd2 : Nat) (ex2 ty2 ct2 : Int) (Ab2 Ap2 Af2 As2 Ad2 : Option Addr) (w : World) :
    Calls Try.prog 39 #[.agg #[.int .i64 k1, .int .u32 (fr : Int), .int .u32 (ab : Int), .int .u64 (ntp : Int), .int .u32 (ts : Int), .int .u32 (pk : Int), .int .u32 (oc : Int), .slice Ab nb cb, .slice Ap np cp, .slice Af nf cf, .int .i64 ex, .int .u32 (mt : Int), .slice As ns cs, .int .i64 ty, .int .i64 ct, .slice Ad nd cd], .agg #[.int .i64 k2, .int .u32 (fr2 : Int), .int .u32 (ab2 : Int), .int .u64 (ntp2 : Int), .int .u32 (ts2 : Int), .int .u32 (pk2 : Int), .int .u32 (oc2 : Int), .slice Ab2 nb2 cb2, .slice Ap2 np2 cp2, .slice Af2 nf2 cf2, .int .i64 ex2, .int .u32 (mt2 : Int), .slice As2 ns2 cs2, .int .i64 ty2, .int .i64 ct2, .slice Ad2 nd2 cd2]] w (BoolIs (AlikeV fr ab ntp ts pk oc mt nb cb np cp nf cf ns cs nd cd ex ty ct Ab Ap Af As Ad fr2 ab2 ntp2 ts2 pk2 oc2 mt2 nb2 cb2 np2 cp2 nf2 cf2 ns2 cs2 nd2 cd2 ex2 ty2 ct2 Ab2 Ap2 Af2 As2 Ad2) w) := by
  obtain ⟨q_fr, hq_fr⟩ : ∃ q : Bool, (fr == fr2) = q := ⟨_, rfl⟩
  have hr_fr : ((fr : Int) == (fr2 : Int)) = q_fr := by rw [cast_eqb]; exact hq_fr
  have HQ_fr : Hid ((q_fr = true) ↔ fr = fr2) := by show _ ↔ _; rw [← hq_fr]; exact beq_iff_eq
  obtain ⟨q_ab, hq_ab⟩ : ∃ q : Bool, (ab == ab2) = q := ⟨_, rfl⟩
  have hr_ab : ((ab : Int) == (ab2 : Int)) = q_ab := by rw [cast_eqb]; exact hq_ab
  have HQ_ab : Hid ((q_ab = true) ↔ ab = ab2) := by show _ ↔ _; rw [← hq_ab]; exact beq_iff_eq
  obtain ⟨q_ntp, hq_ntp⟩ : ∃ q : Bool, (ntp == ntp2) = q := ⟨_, rfl⟩
  have hr_ntp : ((ntp : Int) == (ntp2 : Int)) = q_ntp := by rw [cast_eqb]; exact hq_ntp
  have HQ_ntp : Hid ((q_ntp = true) ↔ ntp = ntp2) := by show _ ↔ _; rw [← hq_ntp]; exact beq_iff_eq
  obtain ⟨q_ts, hq_ts⟩ : ∃ q : Bool, (ts == ts2) = q := ⟨_, rfl⟩
  have hr_ts : ((ts : Int) == (ts2 : Int)) = q_ts := by rw [cast_eqb]; exact hq_ts
  have HQ_ts : Hid ((q_ts = true) ↔ ts = ts2) := by show _ ↔ _; rw [← hq_ts]; exact beq_iff_eq
  obtain ⟨q_pk, hq_pk⟩ : ∃ q : Bool, (pk == pk2) = q := ⟨_, rfl⟩
  have hr_pk : ((pk : Int) == (pk2 : Int)) = q_pk := by rw [cast_eqb]; exact hq_pk
  have HQ_pk : Hid ((q_pk = true) ↔ pk = pk2) := by show _ ↔ _; rw [← hq_pk]; exact beq_iff_eq
  obtain ⟨q_oc, hq_oc⟩ : ∃ q : Bool, (oc == oc2) = q := ⟨_, rfl⟩
  have hr_oc : ((oc : Int) == (oc2 : Int)) = q_oc := by rw [cast_eqb]; exact hq_oc
  have HQ_oc : Hid ((q_oc = true) ↔ oc = oc2) := by show _ ↔ _; rw [← hq_oc]; exact beq_iff_eq
  obtain ⟨q_ex, hq_ex⟩ : ∃ q : Bool, (ex == ex2) = q := ⟨_, rfl⟩
  have hr_ex : (ex == ex2) = q_ex := hq_ex
  have HQ_ex : Hid ((q_ex = true) ↔ ex = ex2) := by show _ ↔ _; rw [← hq_ex]; exact beq_iff_eq
  obtain ⟨q_mt, hq_mt⟩ : ∃ q : Bool, (mt == mt2) = q := ⟨_, rfl⟩
  have hr_mt : ((mt : Int) == (mt2 : Int)) = q_mt := by rw [cast_eqb]; exact hq_mt
  have HQ_mt : Hid ((q_mt = true) ↔ mt = mt2) := by show _ ↔ _; rw [← hq_mt]; exact beq_iff_eq
  obtain ⟨q_ty, hq_ty⟩ : ∃ q : Bool, (ty == ty2) = q := ⟨_, rfl⟩
  have hr_ty : (ty == ty2) = q_ty := hq_ty
  have HQ_ty : Hid ((q_ty = true) ↔ ty = ty2) := by show _ ↔ _; rw [← hq_ty]; exact beq_iff_eq
  obtain ⟨q_ct, hq_ct⟩ : ∃ q : Bool, (ct == ct2) = q := ⟨_, rfl⟩
  have hr_ct : (ct == ct2) = q_ct := hq_ct
  have HQ_ct : Hid ((q_ct = true) ↔ ct = ct2) := by show _ ↔ _; rw [← hq_ct]; exact beq_iff_eq
  obtain ⟨q_nb, hq_nb⟩ : ∃ q : Bool, (nb == nb2) = q := ⟨_, rfl⟩
  have hr_nb : ((nb : Int) == (nb2 : Int)) = q_nb := by rw [cast_eqb]; exact hq_nb
  have HQ_nb : Hid ((q_nb = true) ↔ nb = nb2) := by show _ ↔ _; rw [← hq_nb]; exact beq_iff_eq
  obtain ⟨q_np, hq_np⟩ : ∃ q : Bool, (np == np2) = q := ⟨_, rfl⟩
  have hr_np : ((np : Int) == (np2 : Int)) = q_np := by rw [cast_eqb]; exact hq_np
  have HQ_np : Hid ((q_np = true) ↔ np = np2) := by show _ ↔ _; rw [← hq_np]; exact beq_iff_eq
  obtain ⟨q_nf, hq_nf⟩ : ∃ q : Bool, (nf == nf2) = q := ⟨_, rfl⟩
  have hr_nf : ((nf : Int) == (nf2 : Int)) = q_nf := by rw [cast_eqb]; exact hq_nf
  have HQ_nf : Hid ((q_nf = true) ↔ nf = nf2) := by show _ ↔ _; rw [← hq_nf]; exact beq_iff_eq
  obtain ⟨q_ns, hq_ns⟩ : ∃ q : Bool, (ns == ns2) = q := ⟨_, rfl⟩
  have hr_ns : ((ns : Int) == (ns2 : Int)) = q_ns := by rw [cast_eqb]; exact hq_ns
  have HQ_ns : Hid ((q_ns = true) ↔ ns = ns2) := by show _ ↔ _; rw [← hq_ns]; exact beq_iff_eq
  obtain ⟨q_nd, hq_nd⟩ : ∃ q : Bool, (nd == nd2) = q := ⟨_, rfl⟩
  have hr_nd : ((nd : Int) == (nd2 : Int)) = q_nd := by rw [cast_eqb]; exact hq_nd
  have HQ_nd : Hid ((q_nd = true) ↔ nd = nd2) := by show _ ↔ _; rw [← hq_nd]; exact beq_iff_eq
  go_enter Try.func39, Try.ntmps39
  clear hq_fr hq_ab hq_ntp hq_ts hq_pk hq_oc hq_ex hq_mt hq_ty hq_ct hq_nb hq_np hq_nf hq_ns hq_nd
  go_wp2_with fail
  all_goals clear hr_fr hr_ab hr_ntp hr_ts hr_pk hr_oc hr_ex hr_mt hr_ty hr_ct hr_nb hr_np hr_nf hr_ns hr_nd
  all_goals first
    | (go_ret
       refine BoolIs.no (fun h => ?_) (balloc (balloc (Below.refl _ _) _) _)
       unfold AlikeV at h
       obtain ⟨h_fr, h_ab, h_ntp, h_ts, h_pk, h_oc, h_ex, h_mt, h_ty, h_ct, h_nb, h_np, h_nf, h_ns, h_nd⟩ := h
       first
         | exact absurd (HQ_fr.out.2 h_fr) (by assumption)
         | exact absurd (HQ_ab.out.2 h_ab) (by assumption)
         | exact absurd (HQ_ntp.out.2 h_ntp) (by assumption)
         | exact absurd (HQ_ts.out.2 h_ts) (by assumption)
         | exact absurd (HQ_pk.out.2 h_pk) (by assumption)
         | exact absurd (HQ_oc.out.2 h_oc) (by assumption)
         | exact absurd (HQ_ex.out.2 h_ex) (by assumption)
         | exact absurd (HQ_mt.out.2 h_mt) (by assumption)
         | exact absurd (HQ_ty.out.2 h_ty) (by assumption)
         | exact absurd (HQ_ct.out.2 h_ct) (by assumption)
         | exact absurd (HQ_nb.out.2 h_nb) (by assumption)
         | exact absurd (HQ_np.out.2 h_np) (by assumption)
         | exact absurd (HQ_nf.out.2 h_nf) (by assumption)
         | exact absurd (HQ_ns.out.2 h_ns) (by assumption)
         | exact absurd (HQ_nd.out.2 h_nd) (by assumption)
         | exact absurd ((HQ_fr.out.2 h_fr).symm.trans (by assumption : q_fr = false)) (by decide)
         | exact absurd ((HQ_ab.out.2 h_ab).symm.trans (by assumption : q_ab = false)) (by decide)
         | exact absurd ((HQ_ntp.out.2 h_ntp).symm.trans (by assumption : q_ntp = false)) (by decide)
         | exact absurd ((HQ_ts.out.2 h_ts).symm.trans (by assumption : q_ts = false)) (by decide)
         | exact absurd ((HQ_pk.out.2 h_pk).symm.trans (by assumption : q_pk = false)) (by decide)
         | exact absurd ((HQ_oc.out.2 h_oc).symm.trans (by assumption : q_oc = false)) (by decide)
         | exact absurd ((HQ_ex.out.2 h_ex).symm.trans (by assumption : q_ex = false)) (by decide)
         | exact absurd ((HQ_mt.out.2 h_mt).symm.trans (by assumption : q_mt = false)) (by decide)
         | exact absurd ((HQ_ty.out.2 h_ty).symm.trans (by assumption : q_ty = false)) (by decide)
         | exact absurd ((HQ_ct.out.2 h_ct).symm.trans (by assumption : q_ct = false)) (by decide)
         | exact absurd ((HQ_nb.out.2 h_nb).symm.trans (by assumption : q_nb = false)) (by decide)
         | exact absurd ((HQ_np.out.2 h_np).symm.trans (by assumption : q_np = false)) (by decide)
         | exact absurd ((HQ_nf.out.2 h_nf).symm.trans (by assumption : q_nf = false)) (by decide)
         | exact absurd ((HQ_ns.out.2 h_ns).symm.trans (by assumption : q_ns = false)) (by decide)
         | exact absurd ((HQ_nd.out.2 h_nd).symm.trans (by assumption : q_nd = false)) (by decide))
    | (go_ret
       refine ⟨q_nd, rfl, ?_, balloc (balloc (Below.refl _ _) _) _⟩
       unfold AlikeV
       constructor
       · intro h
         exact ⟨HQ_fr.out.1 (by assumption), HQ_ab.out.1 (by assumption), HQ_ntp.out.1 (by assumption), HQ_ts.out.1 (by assumption), HQ_pk.out.1 (by assumption), HQ_oc.out.1 (by assumption), HQ_ex.out.1 (by assumption), HQ_mt.out.1 (by assumption), HQ_ty.out.1 (by assumption), HQ_ct.out.1 (by assumption), HQ_nb.out.1 (by assumption), HQ_np.out.1 (by assumption), HQ_nf.out.1 (by assumption), HQ_ns.out.1 (by assumption), HQ_nd.out.1 h⟩
       · intro h
         exact HQ_nd.out.2 h.2.2.2.2.2.2.2.2.2.2.2.2.2.2)
end Go.Proofs.Ytkfimncbfbbopaa
