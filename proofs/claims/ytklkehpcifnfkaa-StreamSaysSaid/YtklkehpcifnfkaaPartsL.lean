/- The walk of StreamParts (it returns true). -/
import Derived.Test.YtklkehpcifnfkaaTwiceL
set_option linter.unusedVariables false
set_option linter.unusedSimpArgs false
namespace Go.Proofs.Ytklkehpcifnfkaa
open Go.RowKit
attribute [local go_sem ↓] Go.wp_at_zero Go.wp_at_succ

theorem wpList_append_any_g {P : Program} (w : World) {ops : Array Oper} {rest : List Oper} {o : Oper} {a : Act} {Q : Exit → Act → World → Prop} (hgd : Region.wanted o (yielded ops a.tmps) = true) (s x : Operand) (t : TypeId)
    (ho : o.op = .call { callee := .builtin .append, args := #[s, x], argTypes := #[t, t] })
    (base : Nat) (e : TypeId) (i : TypeInfo) (z : Value) (size bytes : Nat) (ht : P.underlying t = some (.slice e)) (hi : P.info? e = some i) (hz : i.zero = some z)
    (hsize : i.size = size) (hby : i.bytes = bytes) (hzs : z.cells.size = size) (hsz : 0 < size)
    (v : Value) (n : Nat) (xs : List Value) (hs : a.eval s = v) (hown : w.ownsRow base e size v n xs)
    (B : Nat) (A : Option Addr) (m c : Nat) (news : List Value) (hx : a.eval x = .slice A m c) (hr : Reads w B size A m news) (h1 : ∀ u ∈ news, u.oneCell' = true)
    (h63 : n + m ≤ maxLen) (hbytes : (n + m) * bytes ≤ 140737488355328) (hbase : base ≤ w.heap.size)
    (h : ∀ v' w', w'.ownsRow base e size v' (n + m) (xs ++ news) → w.grownBy w' v.ownBlock → (v'.ownBlock = v.ownBlock ∨ v'.ownBlock = some w.heap.size) → wpList P ops Q rest (a.put o.dst v') w') : wpList P ops Q (o :: rest) a w := by
  simp only [wpList, hgd, if_true]
  exact .inl <| wp_append_any w s x t ho base e i z size bytes ht hi hz hsize hby hzs hsz v n xs hs hown B A m c news hx hr h1 h63 hbytes hbase h
/-- Where b[k:] begins. -/
def cutA (A : Option Addr) (c k : Nat) : Option Addr := if c = k then A else A.map (·.add k)
theorem slice22 : Try.prog.underlying 22 = some (.slice (Try.prog.elem 22)) := by rw [Try.underlying22, show Try.prog.elem 22 = 5 from by kernel_rfl]
theorem size22 (w : World) : (sizeOf (Try.prog.elem 22)).run Try.prog w = .ok 1 w := by rw [show Try.prog.elem 22 = 5 from by kernel_rfl]; exact size_byte w
theorem cut_to (wx : World) (A : Option Addr) (n c k : Nat) (hk : k ≤ c) : (Instr.slice 22 (.slice A n c) none (some (.int .i64 (k : Int))) none).run Try.prog wx = .ok (.slice (cutA A c 0) k c) wx := by
  rw [run_slice_h (P := Try.prog) wx 22 A n c slice22 .i64 (k : Int) (by omega) (by omega)]
  rw [size22]
  simp [Result.andThen, sliced, cutA]
theorem cut_from (wx : World) (A : Option Addr) (n c k : Nat) (hk : k ≤ n) : (Instr.slice 22 (.slice A n c) (some (.int .i64 (k : Int))) none none).run Try.prog wx = .ok (.slice (cutA A c k) (n - k) (c - k)) wx := by
  rw [run_slice_l (P := Try.prog) wx 22 A n c slice22 .i64 (k : Int) (by omega) (by omega)]
  rw [size22]
  simp [Result.andThen, sliced, cutA]
theorem cut_to' (wx : World) (A : Option Addr) (n c k : Nat) (hk : k ≤ c) : (Instr.sliceAt 22 (.slice A n c) none (some (.int .i64 (k : Int))) none).run Try.prog wx = .ok (.slice (cutA A c 0) k c) wx := by
  rw [run_sliceAt_slice (P := Try.prog) wx 22 _ _ _ _ slice22]; exact cut_to wx A n c k hk
theorem cut_from' (wx : World) (A : Option Addr) (n c k : Nat) (hk : k ≤ n) : (Instr.sliceAt 22 (.slice A n c) (some (.int .i64 (k : Int))) none none).run Try.prog wx = .ok (.slice (cutA A c k) (n - k) (c - k)) wx := by
  rw [run_sliceAt_slice (P := Try.prog) wx 22 _ _ _ _ slice22]; exact cut_from wx A n c k hk
theorem Reads.from_ {w : World} {B n c k : Nat} {A : Option Addr} {b : List UInt8} (h : Reads w B 1 A n (b.map u8v)) (hk : k ≤ n) (hc : n ≤ c) : Reads w B 1 (cutA A c k) (n - k) ((b.drop k).map u8v) := by
  have := h.cut hk hc
  rw [Nat.mul_one, ← List.map_drop] at this
  exact this
theorem Reads.to_k {w : World} {B n c k : Nat} {A : Option Addr} {b : List UInt8} (h : Reads w B 1 A n (b.map u8v)) (hn : b.length = n) (hk : k ≤ n) (hc : n ≤ c) : Reads w B 1 (cutA A c 0) k ((b.take k).map u8v) := by
  have h0 := h.from_ (Nat.zero_le _) hc
  rw [List.drop_zero, Nat.sub_zero] at h0
  have := reads_take h0 hn hk
  rwa [List.length_take, hn, Nat.min_eq_left hk] at this
theorem strmS_add (W first : List UInt8) (a k i : Nat) : strmS W first (a + k) i = strmS W first a (k + i) := by
  unfold strmS
  rw [Nat.add_assoc]
theorem cryptS_parts (W first : List UInt8) (a : Nat) (b : List UInt8) (k : Nat) (hk : k ≤ b.length) : cryptS W first a (b.take k) ++ cryptS W first (a + k) (b.drop k) = cryptS W first a b := by
  refine List.ext_getElem? fun i => ?_
  have e : ∀ (a : Nat) (b : List UInt8) i, i < b.length → (cryptS W first a b)[i]? = some (cryptF W first a b i) := fun a b i hi => by
    simp [cryptS, hi]
  by_cases hi : i < b.length
  · rw [e a b i hi]
    by_cases h1 : i < k
    · rw [List.getElem?_append_left (by rw [cryptS_len, List.length_take]; omega), e _ _ _ (by rw [List.length_take]; omega)]
      unfold cryptF
      rw [List.getD_eq_getElem?_getD, List.getElem?_take, if_pos h1, ← List.getD_eq_getElem?_getD]
    · rw [List.getElem?_append_right (by rw [cryptS_len, List.length_take]; omega), cryptS_len, List.length_take, Nat.min_eq_left hk, e _ _ _ (by rw [List.length_drop]; omega)]
      unfold cryptF
      rw [List.getD_eq_getElem?_getD, List.getElem?_drop, ← List.getD_eq_getElem?_getD, strmS_add, show k + (i - k) = i by omega, show a + k + (i - k) = a + i by omega]
  · rw [List.getElem?_eq_none (by rw [List.length_append, cryptS_len, cryptS_len, List.length_take, List.length_drop]; omega), List.getElem?_eq_none (by rw [cryptS_len]; omega)]
set_option maxRecDepth 100000 in
set_option maxHeartbeats 3200000 in
theorem parts_walk (kb first plain : List UInt8) (a c u : Nat) (A : Option Addr) (w : World) (hkb : kb.length = 16) (hf : first.length = 16) (ha : a ≤ 4294967295) (hu : u ≤ 65535) (hr : Reads w w.heap.size 1 A plain.length (plain.map u8v)) (hc : plain.length ≤ c) (hcm : c ≤ maxLen) :
    Calls Try.prog 11 #[.agg (kb.map u8v).toArray, .agg (first.map u8v).toArray, .int .u32 (a : Int), .slice A plain.length c, .int .u16 (u : Int)] w fun e w' => e = .returned (.bool true) ∧ Below w.heap.size w w' := by
  obtain ⟨i5, hi5, hz0, hz1, hz2⟩ := info_parts infoByte
  obtain ⟨n, hn⟩ : ∃ n, n = plain.length := ⟨_, rfl⟩
  have HKB := Lib.hid hkb
  have HF := Lib.hid hf
  have HR : Hid (Reads w w.heap.size 1 A n (plain.map u8v)) := by show Reads _ _ _ _ _ _; rw [hn]; exact hr
  have HN := Lib.hid hn
  have hai : (a : Int) ≤ 4294967295 := by omega
  have hai0 : (0 : Int) ≤ (a : Int) := Int.natCast_nonneg a
  have hui : (u : Int) ≤ 65535 := by omega
  have hui0 : (0 : Int) ≤ (u : Int) := Int.natCast_nonneg u
  rw [← hn] at hc ⊢
  clear hkb hf ha hr hn hu hcm
  go_enter Try.func11, Try.ntmps11
  go_upto_region 1 with (fail)
  have h0 := (BB.new w 23 kb).alloc (.cells (first.map u8v).toArray 23)
  have h1 := BB.new (w.alloc (.cells (kb.map u8v).toArray 23)) 23 first
  simp only [World.size_alloc] at h1
  have HB0 := Lib.hid (balloc (balloc (Below.refl w.heap.size w) (.cells (kb.map u8v).toArray 23)) (.cells (first.map u8v).toArray 23))
  have H0 := Lib.hid h0
  have H1 := Lib.hid h1
  clear h0 h1
  generalize ((w.alloc (Obj.cells (kb.map u8v).toArray 23)).alloc (.cells (first.map u8v).toArray 23)) = w0 at *
  go_wp2_with fail
  have hkey := key_c kb (some ⟨w.heap.size, 0, none⟩) 16 w0 (by rw [HKB.out]; decide) (by rw [HKB.out]; exact H0.out.reads HKB.out) (by rw [HKB.out]; decide)
  rw [HKB.out] at hkey
  refine hkey.mono ?_
  rintro e0 w1 ⟨rfl, hk, hb1⟩
  obtain ⟨g, hg⟩ : ∃ g, g = w0.heap.size := ⟨_, rfl⟩
  obtain ⟨W, hW⟩ : ∃ W, W = keyS kb := ⟨_, rfl⟩
  rw [← hg, ← hW] at hk
  rw [← hg]
  have HK1 := Lib.hid hk
  have HB1 := Lib.hid (bcall HB0.out hb1)
  have HF1 := Lib.hid (H1.out.below hb1)
  clear hkey hk hb1 hg hW
  go_wp2_with fail
  refine (awake5_c _).mono ?_
  rintro e0 w2 ⟨rfl, hb2⟩
  have HK2 := Lib.hid (HK1.out.below hb2)
  have HB2 := Lib.hid (bcall HB1.out hb2)
  have HF2 := Lib.hid (HF1.out.below hb2)
  clear hb2
  by_cases hbig : 1000 < n
  · have hbi : (1000 : Int) < (n : Int) := by omega
    go_wp2
    go_ret
    exact ⟨rfl, HB2.out⟩
  have hni : (n : Int) ≤ 1000 := by omega
  have hnn : n ≤ 1000 := by omega
  obtain ⟨k, hk⟩ : ∃ k, k = u % (n + 1) := ⟨_, rfl⟩
  have hkn : k ≤ n := by rw [hk]; have := Nat.mod_lt u (show 0 < n + 1 by omega); omega
  have hrem : (u : Int).tmod ((n : Int) + 1) = (k : Int) := by rw [hk]; rfl
  have hki : (k : Int) ≤ 1000 := by omega
  obtain ⟨s, hs⟩ : ∃ s, s = a + k := ⟨_, rfl⟩
  have hsi : (a : Int) + (k : Int) = (s : Int) := by omega
  have HSI := Lib.hid hsi
  have hsl : s ≤ 4294968295 := by omega
  clear hbig hk hsi
  have HR2 := Lib.hid (HR.out.to_ HB2.out)
  have HRG2 := Lib.hid (HF2.out.range)
  have HI : Hid ((Try.prog.info? 23).map (·.size) = some (first.map u8v).length) := by show _ = _; rw [List.length_map, HF.out]; exact info23
  obtain ⟨X, hX⟩ : ∃ X, X = cryptS W first a plain := ⟨_, rfl⟩
  obtain ⟨Y, hY⟩ : ∃ Y, Y = cryptS W first a (plain.take k) := ⟨_, rfl⟩
  obtain ⟨Z, hZ⟩ : ∃ Z, Z = cryptS W first s (plain.drop k) := ⟨_, rfl⟩
  have HXL : Hid (X.length = n) := by show _ = _; rw [hX, cryptS_len]; exact HN.out.symm
  have HYL : Hid (Y.length = k) := by show _ = _; rw [hY, cryptS_len, List.length_take, ← HN.out, Nat.min_eq_left hkn]
  have HZL : Hid (Z.length = n - k) := by show _ = _; rw [hZ, cryptS_len, List.length_drop, ← HN.out]
  have HXYZ : Hid (Y ++ Z = X) := by show _ = _; rw [hX, hY, hZ, hs]; exact cryptS_parts _ _ _ _ _ (by rw [← HN.out]; exact hkn)
  have HX := Lib.hid hX
  have HY := Lib.hid hY
  have HZ := Lib.hid hZ
  clear hX hY hZ hs
  go_upto_region 8 with (first
    | (refine wpList_load_mid rfl 23 (.tmp 6) rfl (w.heap.size + 1) 0 rfl (first.map u8v) _ HRG2.out Try.underlying23 rfl HI.out ?_)
    | (go_at_call 23
       refine (crypt_n W first plain g a n A c w2 HK2.out HF.out (by omega) HR2.out HN.out.symm hnn).mono ?_
       rintro e0 w3 ⟨rfl, ho3, hb3⟩
       rw [← HX.out] at ho3
       have HO3 := Lib.hid ho3
       have HB3 := Lib.hid (bcall HB2.out hb3)
       have HK3 := Lib.hid (HK2.out.below hb3)
       have HF3 := Lib.hid (HF2.out.below hb3)
       have HR3 := Lib.hid (HR2.out.to_ hb3)
       obtain ⟨gx, hgx⟩ : ∃ gx, gx = w2.heap.size + 1 := ⟨_, rfl⟩
       rw [← hgx] at HO3 ⊢
       clear ho3 hb3 hgx))
  have hu := Try.underlying23
  have hi := HI.out
  have hwa := wrap64 a (by omega)
  obtain ⟨A1, hA1⟩ : ∃ A1, A1 = cutA A c 0 := ⟨_, rfl⟩
  obtain ⟨A2, hA2⟩ : ∃ A2, A2 = cutA A c k := ⟨_, rfl⟩
  have hcut1 := fun wx => cut_to wx A n c k (by omega)
  have hcut1' := fun wx => cut_to' wx A n c k (by omega)
  have hcut2 := fun wx => cut_from wx A n c k hkn
  have hcut2' := fun wx => cut_from' wx A n c k hkn
  rw [← hA1] at hcut1 hcut1'
  rw [← hA2] at hcut2 hcut2'
  have HRY : Hid (Reads w3 w3.heap.size 1 A1 k ((plain.take k).map u8v)) := by show Reads _ _ _ _ _ _; rw [hA1]; exact HR3.out.to_k HN.out.symm hkn hc
  have HRZ : Hid (Reads w3 w3.heap.size 1 A2 (n - k) ((plain.drop k).map u8v)) := by show Reads _ _ _ _ _ _; rw [hA2]; exact HR3.out.from_ hkn hc
  have HC2 := Lib.hid hcut2
  have HC2' := Lib.hid hcut2'
  clear hA1 hA2 hcut2 hcut2'
  have K : Hid (∀ w', Below w3.heap.size w3 w' → w'.rangeAt (w.heap.size + 1) 0 (first.map u8v) ∧ Below w3.heap.size w3 w') := fun w' hb => ⟨(HF3.out.below hb).range, hb⟩
  have k0 := Below.refl w3.heap.size w3
  go_region_held3 (fun w' => w'.rangeAt (w.heap.size + 1) 0 (first.map u8v) ∧ Below w3.heap.size w3 w')
    (first | exact K.out _ (by assumption) | exact K.out _ (by repeat (first | assumption | refine bdrew ?_)))
    (first
      | (go_at_call 23
         refine (crypt_n W first (plain.take k) g a k A1 c _ (HK3.out.below (bdrew k0)) HF.out (by omega) (show Reads (World.drew w3) _ _ _ _ _ from HRY.out) (by rw [List.length_take, ← HN.out]; omega) (by omega)).mono ?_
         rintro e0 w5 ⟨rfl, ho5, hb5⟩
         have kW := bcall (bdrew k0) hb5))
  rw [← HY.out] at ho5
  obtain ⟨gy, hgy⟩ : ∃ gy, gy = w3.drew.heap.size + 1 := ⟨_, rfl⟩
  rw [← hgy] at ho5
  rw [show w3.heap.size + 1 = gy from hgy.symm]
  have HY5 := Lib.hid ho5
  have HX5 := Lib.hid (HO3.out.below kW)
  have HK5 := Lib.hid (HK3.out.below kW)
  have HF5 := Lib.hid (HF3.out.below kW)
  have HRZ5 := Lib.hid (HRZ.out.to_ kW)
  have HB5 := Lib.hid (bcall HB3.out kW)
  clear hgy ho5 hb5 kW k0 K hcut1 hcut1'
  have hcut2 := HC2.out
  have hcut2' := HC2'.out
  have hsi := HSI.out
  have hws := wrap64 s (by omega)
  have K : Hid (∀ w', Below w5.heap.size w5 w' → w'.rangeAt (w.heap.size + 1) 0 (first.map u8v) ∧ Below w5.heap.size w5 w') := fun w' hb => ⟨(HF5.out.below hb).range, hb⟩
  have k0 := Below.refl w5.heap.size w5
  go_upto_region 9 with (fail)
  go_region_held3 (fun w' => w'.rangeAt (w.heap.size + 1) 0 (first.map u8v) ∧ Below w5.heap.size w5 w')
    (first | exact K.out _ (by assumption) | exact K.out _ (by repeat (first | assumption | refine bdrew ?_)))
    (first
      | (go_at_call 23
         refine (crypt_n W first (plain.drop k) g s (n - k) A2 (c - k) _ (HK5.out.below (bdrew k0)) HF.out (by omega) (show Reads (World.drew w5) _ _ _ _ _ from HRZ5.out) (by rw [List.length_drop, ← HN.out]) (by omega)).mono ?_
         rintro e0 w6 ⟨rfl, ho6, hb6⟩
         have kW := bcall (bdrew k0) hb6))
  rw [← HZ.out] at ho6
  obtain ⟨gz, hgz⟩ : ∃ gz, gz = w5.drew.heap.size + 1 := ⟨_, rfl⟩
  rw [← hgz] at ho6
  rw [show w5.heap.size + 1 = gz from hgz.symm]
  have HZ6 := Lib.hid (ho6.reads HZL.out)
  have HX6 := Lib.hid ((HX5.out.below kW).reads HXL.out)
  have HY6 := Lib.hid ((HY5.out.below kW).reads HYL.out)
  have HB6 := Lib.hid (bcall HB5.out kW)
  clear hgz ho6 hb6 kW k0 K hcut2 hcut2' hwa hws hsi
  go_wp2_with (first
    | (at_builtin
       refine wpList_append_any_g _ (by rfl) (.tmp 81) (.tmp 82) _ rfl w6.heap.size 5 i5 _ 1 1 Try.underlying22 hi5 hz0 hz1 hz2 rfl (by omega) (.slice (some ⟨w6.heap.size, 0, none⟩) 0 0) 0 [] rfl (own_empty w6 5 1)
         (w6.alloc (.cells #[] 5)).heap.size (some ⟨gy, 0, none⟩) k k (Y.map u8v) rfl (HY6.out.to_ (balloc (Below.refl _ _) _)) (u8_one Y) (by simp only [maxLen]; omega) (by omega) (by simp) ?_
       intro v1 w7 hown1 hg1 hat1
       rw [Nat.zero_add, List.nil_append] at hown1
       obtain ⟨A7, c7, rfl⟩ := own_slice hown1
       have HO7 := Lib.hid hown1
       have HB7 := Lib.hid (fresh_below hg1)
       clear hown1 hg1 hat1)
    | (at_builtin
       refine wpList_append_any_g _ (by rfl) (.tmp 83) (.tmp 84) _ rfl w6.heap.size 5 i5 _ 1 1 Try.underlying22 hi5 hz0 hz1 hz2 rfl (by omega) (.slice A7 k c7) k (Y.map u8v) rfl HO7.out
         w7.heap.size (some ⟨gz, 0, none⟩) (n - k) (n - k) (Z.map u8v) rfl (HZ6.out.to_ HB7.out) (u8_one Z) (by simp only [maxLen]; omega) (by omega) HB7.out.size ?_
       intro v2 w8 hown2 hg2 hat2
       rw [show k + (n - k) = n by omega, ← List.map_append, HXYZ.out] at hown2
       obtain ⟨A8, c8, rfl⟩ := own_slice hown2
       have HO8 := Lib.hid hown2
       have HB8 := Lib.hid (own_grow_below HB7.out HO7.out hg2)
       clear hown2 hg2 hat2)
    | (go_at_call 26
       refine (same_n (HX6.out.to_ HB8.out) (Reads.of_own HO8.out) HXL.out HXL.out).mono ?_
       rintro e0 w9 ⟨rfl, rfl⟩))
  go_ret
  exact ⟨by simp, bcall HB6.out HB8.out⟩
end Go.Proofs.Ytklkehpcifnfkaa
