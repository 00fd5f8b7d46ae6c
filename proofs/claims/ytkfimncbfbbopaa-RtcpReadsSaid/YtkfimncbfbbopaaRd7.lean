/- The reference's reads: what is of no kind, and blocks (contracts); all kinds. Conditions: the bytes lie in memory. (Printed by gen8d.py.) -/
import Derived.Test.YtkfimncbfbbopaaBlksR1
import Derived.Test.YtkfimncbfbbopaaBlksR2
import Derived.Test.YtkfimncbfbbopaaRd3
import Derived.Test.YtkfimncbfbbopaaRd4
import Derived.Test.YtkfimncbfbbopaaRd5
import Derived.Test.YtkfimncbfbbopaaRd6
set_option linter.unusedVariables false
set_option linter.unusedSimpArgs false
namespace Go.Proofs.Ytkfimncbfbbopaa
open Go.RowKit
attribute [local go_sem ↓] Go.wp_at_zero Go.wp_at_succ

set_option maxRecDepth 100000 in
set_option maxHeartbeats 12800000 in
theorem reads7_c (t c : Nat) (b : List UInt8) (A : Option Addr) (n cap : Nat) (w : World) (h : SlV w (.slice A n cap) b) (hn : n ≤ 1200) (hcap : n ≤ cap) (hm4 : n % 4 = 0) (hk : kindS t c b = 7) :
    Calls Try.prog 33 #[.int .i64 (t : Int), .int .i64 (c : Int), .slice A n cap] w (RdR (reportS t c b) w) := by
  have HN := Lib.hid h.num
  have HS := Lib.hid h
  clear h
  obtain ⟨gr, hgr⟩ : ∃ gr, gr = w.heap.size := ⟨_, rfl⟩
  obtain ⟨w1, hw1⟩ : ∃ w1, w1 = w.alloc (.cells #[.int .i64 0, .int .u32 0, .int .u32 0, .int .u64 0, .int .u32 0, .int .u32 0, .int .u32 0, .slice none 0 0, .slice none 0 0, .slice none 0 0, .int .i64 0, .int .u32 0, .slice none 0 0, .int .i64 0, .int .i64 0, .slice none 0 0] 40) := ⟨_, rfl⟩
  have HZ1 : Hid (Blk w1 gr 40 zR) := by show Blk _ _ _ _; rw [hw1]; exact Blk.newAt hgr _ _
  have HB1 : Hid (Below w.heap.size w w1) := by show Below _ _ _; rw [hw1]; exact balloc (Below.refl _ _) _
  have HGR : Hid (w.heap.size = gr) := hgr.symm
  have HS1 : Hid (SlV w1 (.slice A n cap) b) := HS.out.below HB1.out
  have hk2 : (kindS (t : Int) (c : Int) b != 7) = false := by rw [hk]; rfl
  have HRY := Lib.hid (rep_k7 hk)
  clear hk
  obtain ⟨iB, hiB, hz0, hz1, hz2⟩ := info_parts infoByte
  go_enter Try.func33, Try.ntmps33
  go_upto_region 1 with fail
  rw [← hw1, ← hgr]
  clear hw1 hgr
  go_wp2_with (first
    | (go_at_call 45
       refine (other_c t c b A n cap w1 HS1.out).mono ?_
       rintro e0 _ ⟨rfl, rfl⟩)
    | (at_builtin
       refine wpList_append_any _ rfl (.tmp 21) (.tmp 22) _ rfl w1.heap.size 5 iB _ 1 1 Try.underlying22 hiB hz0 hz1 hz2 rfl (by omega) (.slice (some ⟨w1.heap.size, 0, none⟩) 0 0) 0 [] rfl (own_empty w1 _ _)
         (w1.alloc (.cells #[] 5)).heap.size A n cap (b.map u8v) rfl (SlV.rd (HS1.out.below (balloc (Below.refl _ _) _))) (u8_one b) (by simp only [maxLen]; omega) (by omega) (by simp) ?_
       intro v2 w2 hown2 hg2 hat2
       rw [Nat.zero_add, List.nil_append] at hown2
       obtain ⟨A2, c2, rfl⟩ := own_slice hown2
       have HO2 : Hid (ByteRow w2 w1.heap.size (.slice A2 n c2) b) := by show World.ownsRow _ _ _ _ _ _ _; rw [← HN.out]; exact hown2
       have HB2 : Hid (Below w1.heap.size w1 w2) := fresh_below hg2
       have HZ2 : Hid (Blk w2 gr 40 zR) := HZ1.out.below HB2.out
       have HTH : Hid (w2.there gr 0 (Array.size (repA 7 0 0 0 0 0 0 nilV nilV nilV 0 0 nilV (t : Int) (c : Int) (.slice A2 n c2)))) := blk_there (l := zR.toList) HZ2.out rfl
       have HON : Hid (((repA 7 0 0 0 0 0 0 nilV nilV nilV 0 0 nilV (t : Int) (c : Int) (.slice A2 n c2))).all (·.oneCell') = true) := by show _ = _; simp [repA, Value.oneCell', nilV]
       have HJ : Hid ((Try.prog.info? 40).map (·.size) = some (Array.size (repA 7 0 0 0 0 0 0 nilV nilV nilV 0 0 nilV (t : Int) (c : Int) (.slice A2 n c2)))) := infoRef40
       clear hown2 hg2 hat2)
    | ((with_reducible show wpList _ _ _ (⟨none, .store 40 (.tmp 6) (.tmp 24), _, _, _, _⟩ :: _) _ _); refine wpList_store_mid rfl 40 (.tmp 6) (.tmp 24) rfl gr 0 (repA 7 0 0 0 0 0 0 nilV nilV nilV 0 0 nilV (t : Int) (c : Int) (.slice A2 n c2)) rfl rfl HTH.out HJ.out HON.out ?_))
  have hst : Blk (w2.setCells gr 0 (Array.toList (repA 7 0 0 0 0 0 0 nilV nilV nilV 0 0 nilV (t : Int) (c : Int) (.slice A2 n c2)))) gr 40 (repA 7 0 0 0 0 0 0 nilV nilV nilV 0 0 nilV (t : Int) (c : Int) (.slice A2 n c2)) := blk_setAll (l := zR.toList) (l' := Array.toList (repA 7 0 0 0 0 0 0 nilV nilV nilV 0 0 nilV (t : Int) (c : Int) (.slice A2 n c2))) HZ2.out rfl
  have hload := run_loadVar_mid (P := Try.prog) (w2.setCells gr 0 (Array.toList (repA 7 0 0 0 0 0 0 nilV nilV nilV 0 0 nilV (t : Int) (c : Int) (.slice A2 n c2)))) gr 0 40 (Array.toList (repA 7 0 0 0 0 0 0 nilV nilV nilV 0 0 nilV (t : Int) (c : Int) (.slice A2 n c2))) _ (blk_range hst) Try.underlying40 rfl HJ.out
  have hb1 : Below w.heap.size w w2 := bcall HB1.out HB2.out
  have hbf : Below w.heap.size w (w2.setCells gr 0 (Array.toList (repA 7 0 0 0 0 0 0 nilV nilV nilV 0 0 nilV (t : Int) (c : Int) (.slice A2 n c2)))) := below_setCells hb1 (by have := HGR.out; omega) _ _
  refine bodyPost_ret (results_ct rfl _ _ gr _ _ rfl rfl hload) rfl ⟨Array.toList (repA 7 0 0 0 0 0 0 nilV nilV nilV 0 0 nilV (t : Int) (c : Int) (.slice A2 n c2)), by rw [HRY.out]; rfl, rfl, HON.out, fun _ => ?_, hbf⟩
  rw [HRY.out]
  exact ⟨nilV, nilV, nilV, nilV, .slice A2 n c2, rfl, World.ownsRow_nil _ _ _ _, World.ownsRow_nil _ _ _ _, World.ownsRow_nil _ _ _ _, World.ownsRow_nil _ _ _ _, own_lower (own_setAll (own_blk_ne HO2.out HZ2.out (by decide)) _ _ _ HO2.out) HB1.out.size⟩
set_option maxRecDepth 100000 in
set_option maxHeartbeats 12800000 in
theorem reads1_c (c : Nat) (b : List UInt8) (A : Option Addr) (n cap : Nat) (w : World) (h : SlV w (.slice A n cap) b) (hn : n ≤ 1200) (hcap : n ≤ cap) (hm4 : n % 4 = 0) (hc : c ≤ 31) :
    Calls Try.prog 33 #[.int .i64 200, .int .i64 (c : Int), .slice A n cap] w (RdR (reportS 200 c b) w) := by
  have HN := Lib.hid h.num
  have HS := Lib.hid h
  clear h
  obtain ⟨gr, hgr⟩ : ∃ gr, gr = w.heap.size := ⟨_, rfl⟩
  obtain ⟨w1, hw1⟩ : ∃ w1, w1 = w.alloc (.cells #[.int .i64 0, .int .u32 0, .int .u32 0, .int .u64 0, .int .u32 0, .int .u32 0, .int .u32 0, .slice none 0 0, .slice none 0 0, .slice none 0 0, .int .i64 0, .int .u32 0, .slice none 0 0, .int .i64 0, .int .i64 0, .slice none 0 0] 40) := ⟨_, rfl⟩
  have HZ1 : Hid (Blk w1 gr 40 zR) := by show Blk _ _ _ _; rw [hw1]; exact Blk.newAt hgr _ _
  have HB1 : Hid (Below w.heap.size w w1) := by show Below _ _ _; rw [hw1]; exact balloc (Below.refl _ _) _
  have HGR : Hid (w.heap.size = gr) := hgr.symm
  have HS1 : Hid (SlV w1 (.slice A n cap) b) := HS.out.below HB1.out
  have hk : kindS ((200 : Nat) : Int) (c : Int) b = 1 := rfl
  have hk2 : (kindS 200 (c : Int) b != 7) = true := rfl
  have HK := Lib.hid hk
  have hci : (c : Int) ≤ 31 := by omega
  clear hk
  go_enter Try.func33, Try.ntmps33
  go_upto_region 1 with fail
  rw [← hw1, ← hgr]
  clear hw1 hgr
  go_wp2_with (first
    | (go_at_call 45
       refine (other_c 200 c b A n cap w1 HS1.out).mono ?_
       rintro e0 _ ⟨rfl, rfl⟩)
    | (go_at_call 54
       refine (blocksR1_c 200 c b A n cap w1 HS1.out hn hc HK.out).mono ?_
       rintro e0 w2 ⟨L, rfl, hL, hone, hv, hb2⟩
       have HZ2 : Hid (Blk w2 gr 40 zR) := HZ1.out.below hb2
       have HB2 : Hid (Below w.heap.size w w2) := bcall HB1.out hb2
       have HL := Lib.hid hL
       have HV := Lib.hid hv
       have HON := Lib.hid hone
       have HTH : Hid (w2.there gr 0 L.toArray.size) := by show World.there _ _ _ L.toArray.size; rw [List.size_toArray, hL]; exact blk_there (l := zR.toList) HZ2.out rfl
       have HJ : Hid ((Try.prog.info? 40).map (·.size) = some L.toArray.size) := by show _ = _; rw [List.size_toArray, hL]; exact infoRef40
       clear hL hone hv hb2)
    | ((with_reducible show wpList _ _ _ (⟨none, .store 40 (.tmp 6) (.tmp 32), _, _, _, _⟩ :: _) _ _); refine wpList_store_mid rfl 40 (.tmp 6) (.tmp 32) rfl gr 0 L.toArray rfl rfl HTH.out HJ.out HON.out ?_))
  have hst : Blk (w2.setCells gr 0 L) gr 40 L.toArray := blk_setAll (l := zR.toList) HZ2.out (by rw [HL.out]; rfl)
  have hload := run_loadVar_mid (P := Try.prog) (w2.setCells gr 0 L) gr 0 40 L _ (blk_range hst) Try.underlying40 rfl (by rw [HL.out]; exact infoRef40)
  have hbf : Below w.heap.size w (w2.setCells gr 0 L) := below_setCells HB2.out (by have := HGR.out; omega) _ _
  refine bodyPost_ret (results_ct rfl _ _ gr _ _ rfl rfl hload) rfl ⟨L, rfl, HL.out, HON.out, fun h => ?_, hbf⟩
  exact ((HV.out h).lower HB1.out.size).setAll HZ2.out L
set_option maxRecDepth 100000 in
set_option maxHeartbeats 12800000 in
theorem reads2_c (c : Nat) (b : List UInt8) (A : Option Addr) (n cap : Nat) (w : World) (h : SlV w (.slice A n cap) b) (hn : n ≤ 1200) (hcap : n ≤ cap) (hm4 : n % 4 = 0) (hc : c ≤ 31) :
    Calls Try.prog 33 #[.int .i64 201, .int .i64 (c : Int), .slice A n cap] w (RdR (reportS 201 c b) w) := by
  have HN := Lib.hid h.num
  have HS := Lib.hid h
  clear h
  obtain ⟨gr, hgr⟩ : ∃ gr, gr = w.heap.size := ⟨_, rfl⟩
  obtain ⟨w1, hw1⟩ : ∃ w1, w1 = w.alloc (.cells #[.int .i64 0, .int .u32 0, .int .u32 0, .int .u64 0, .int .u32 0, .int .u32 0, .int .u32 0, .slice none 0 0, .slice none 0 0, .slice none 0 0, .int .i64 0, .int .u32 0, .slice none 0 0, .int .i64 0, .int .i64 0, .slice none 0 0] 40) := ⟨_, rfl⟩
  have HZ1 : Hid (Blk w1 gr 40 zR) := by show Blk _ _ _ _; rw [hw1]; exact Blk.newAt hgr _ _
  have HB1 : Hid (Below w.heap.size w w1) := by show Below _ _ _; rw [hw1]; exact balloc (Below.refl _ _) _
  have HGR : Hid (w.heap.size = gr) := hgr.symm
  have HS1 : Hid (SlV w1 (.slice A n cap) b) := HS.out.below HB1.out
  have hk : kindS ((201 : Nat) : Int) (c : Int) b = 2 := rfl
  have hk2 : (kindS 201 (c : Int) b != 7) = true := rfl
  have HK := Lib.hid hk
  have hci : (c : Int) ≤ 31 := by omega
  clear hk
  go_enter Try.func33, Try.ntmps33
  go_upto_region 1 with fail
  rw [← hw1, ← hgr]
  clear hw1 hgr
  go_wp2_with (first
    | (go_at_call 45
       refine (other_c 201 c b A n cap w1 HS1.out).mono ?_
       rintro e0 _ ⟨rfl, rfl⟩)
    | (go_at_call 54
       refine (blocksR2_c 201 c b A n cap w1 HS1.out hn hc HK.out).mono ?_
       rintro e0 w2 ⟨L, rfl, hL, hone, hv, hb2⟩
       have HZ2 : Hid (Blk w2 gr 40 zR) := HZ1.out.below hb2
       have HB2 : Hid (Below w.heap.size w w2) := bcall HB1.out hb2
       have HL := Lib.hid hL
       have HV := Lib.hid hv
       have HON := Lib.hid hone
       have HTH : Hid (w2.there gr 0 L.toArray.size) := by show World.there _ _ _ L.toArray.size; rw [List.size_toArray, hL]; exact blk_there (l := zR.toList) HZ2.out rfl
       have HJ : Hid ((Try.prog.info? 40).map (·.size) = some L.toArray.size) := by show _ = _; rw [List.size_toArray, hL]; exact infoRef40
       clear hL hone hv hb2)
    | ((with_reducible show wpList _ _ _ (⟨none, .store 40 (.tmp 6) (.tmp 32), _, _, _, _⟩ :: _) _ _); refine wpList_store_mid rfl 40 (.tmp 6) (.tmp 32) rfl gr 0 L.toArray rfl rfl HTH.out HJ.out HON.out ?_))
  have hst : Blk (w2.setCells gr 0 L) gr 40 L.toArray := blk_setAll (l := zR.toList) HZ2.out (by rw [HL.out]; rfl)
  have hload := run_loadVar_mid (P := Try.prog) (w2.setCells gr 0 L) gr 0 40 L _ (blk_range hst) Try.underlying40 rfl (by rw [HL.out]; exact infoRef40)
  have hbf : Below w.heap.size w (w2.setCells gr 0 L) := below_setCells HB2.out (by have := HGR.out; omega) _ _
  refine bodyPost_ret (results_ct rfl _ _ gr _ _ rfl rfl hload) rfl ⟨L, rfl, HL.out, HON.out, fun h => ?_, hbf⟩
  exact ((HV.out h).lower HB1.out.size).setAll HZ2.out L
/-- What the reference's reads returns. -/
theorem reads_c (t c : Nat) (b : List UInt8) (A : Option Addr) (n cap : Nat) (w : World) (h : SlV w (.slice A n cap) b) (hn : n ≤ 1200) (hcap : n ≤ cap) (hm4 : n % 4 = 0) (hc : c ≤ 31) :
    Calls Try.prog 33 #[.int .i64 (t : Int), .int .i64 (c : Int), .slice A n cap] w (RdR (reportS t c b) w) := by
  by_cases h7 : kindS t c b = 7
  · exact reads7_c t c b A n cap w h hn hcap hm4 h7
  by_cases h0 : t = 200
  · subst h0; exact reads1_c c b A n cap w h hn hcap hm4 hc
  by_cases h1 : t = 201
  · subst h1; exact reads2_c c b A n cap w h hn hcap hm4 hc
  by_cases h5 : t = 205 ∧ c = 1
  · obtain ⟨rfl, rfl⟩ := h5; exact reads3_c b A n cap w h hn hcap hm4
  by_cases h6 : t = 206 ∧ c = 1
  · obtain ⟨rfl, rfl⟩ := h6; exact reads4_c b A n cap w h hn hcap hm4
  by_cases h64 : t = 206 ∧ c = 4
  · obtain ⟨rfl, rfl⟩ := h64; exact reads5_c b A n cap w h hn hcap hm4
  by_cases h615 : t = 206 ∧ c = 15 ∧ rembB b = true
  · obtain ⟨rfl, rfl, hR⟩ := h615; exact reads6_c b A n cap w h hn hcap hm4 hR
  exfalso
  apply h7
  unfold kindS
  rw [if_neg (by omega), if_neg (by omega), if_neg (by omega), if_neg (by omega), if_neg (by omega), if_neg (by rintro ⟨a, b', c'⟩; exact h615 ⟨by omega, by omega, c'⟩)]
end Go.Proofs.Ytkfimncbfbbopaa
