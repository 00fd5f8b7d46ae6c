/- Bytes of a lost picture; of a rate for one stream (contracts). Conditions: numbers that fit. -/
import Derived.Test.YtmkifedcanmjoaaGreatJf
import Derived.Test.YtmkifedcanmjoaaGreatJh
import Derived.Test.YtmkifedcanmjoaaGreatJi
import Derived.Test.YtmkifedcanmjoaaGreatJj
import Derived.Test.YtmkifedcanmjoaaGreatJy
set_option linter.unusedVariables false
set_option linter.unusedSimpArgs false
namespace Go.Proofs.YtmkifedcanmjoaaGreat
open Go.RowKit
def nl : Value := .slice none 0 0
/-- A lost picture's cells. -/
def pliL (fr ab : Nat) : List Value := [.int .i64 4, .int .u32 (fr : Int), .int .u32 (ab : Int), .int .u64 0, .int .u32 0, .int .u32 0, .int .u32 0, .slice none 0 0, .slice none 0 0, .slice none 0 0, .int .i64 0, .int .u32 0, .slice none 0 0, .int .i64 0, .int .i64 0, .slice none 0 0]
/-- A rate's cells, for one stream. -/
def rembL (fr ex mt q : Nat) : List Value := [.int .i64 6, .int .u32 (fr : Int), .int .u32 0, .int .u64 0, .int .u32 0, .int .u32 0, .int .u32 0, .slice none 0 0, .slice none 0 0, .slice none 0 0, .int .i64 (ex : Int), .int .u32 (mt : Int), .slice (some ⟨q, 0, none⟩) 1 1, .int .i64 0, .int .i64 0, .slice none 0 0]
theorem fitPli (fr ab : Nat) : FitL 81 (pliL fr ab) := ⟨infoRep, by simp [pliL, Value.oneCell']⟩
theorem fitRemb (fr ex mt q : Nat) : FitL 81 (rembL fr ex mt q) := ⟨infoRep, by simp [rembL, Value.oneCell']⟩
theorem be4_eq (x : Nat) : beS x 4 = be4 x := by simp [beS, beTake, be4]
theorem pli_good (w : World) (fr ab : Nat) : GoodAt w (pliL fr ab) := fun wx _ => by
  refine (good4_c fr ab 0 0 0 0 0 0 0 0 0 0 0 0 0 0 0 0 0 0 none none none none none wx).mono ?_
  rintro e w' ⟨q, rfl, hq, hb⟩
  have : q = true := hq.2 ⟨by simp [AlikeV], trivial⟩
  subst this
  exact ⟨rfl, hb⟩
theorem remb_good (w : World) (fr ex mt q : Nat) (hex : ex ≤ 63) (hmt : mt < 262144) : GoodAt w (rembL fr ex mt q) := fun wx _ => by
  refine (good6_c fr 0 0 0 0 0 mt 0 0 0 0 0 0 1 1 0 0 (ex : Int) 0 0 none none none (some ⟨q, 0, none⟩) none wx (by omega) (by omega)).mono ?_
  rintro e w' ⟨q, rfl, hq, hb⟩
  have : q = true := hq.2 ⟨by simp [AlikeV], by omega, by omega, by omega, hmt⟩
  subst this
  exact ⟨rfl, hb⟩
theorem pli_told (w : World) (fr ab : Nat) (hf : fr < 4294967296) (ha : ab < 4294967296) : ToldAt w (pliL fr ab) (be4 fr ++ be4 ab) 206 1 := fun wx _ => by
  refine (told4_c fr ab 0 0 0 0 0 0 0 0 0 0 0 0 0 0 0 0 0 0 none none none none none wx { rep0 with kind := 4, fr := fr, ab := ab } rfl hf ha rfl rfl).mono ?_
  rintro e w' ⟨v, rfl, hv, hb⟩
  have e1 : bodyS { rep0 with kind := 4, fr := fr, ab := ab } = be4 fr ++ be4 ab := by unfold bodyS; simp [be4_eq]
  refine ⟨v, rfl, ?_, hb⟩
  rcases hv with hv | ⟨_, hv⟩
  · rw [e1] at hv; exact hv
  · rw [e1] at hv
    simp [be4, rep0] at hv
def rembF (ex mt x : Nat) : List UInt8 := be4 1 ++ be4 0 ++ [82, 69, 77, 66] ++ [1] ++ beS (ex * 262144 + mt) 3 ++ be4 x
theorem remb_told (w : World) (ex mt q x : Nat) (hex : ex ≤ 63) (hmt : mt < 262144) (hx : x < 4294967296) (hq : Blk w q 32 #[.int .u32 (x : Int)]) : ToldAt w (rembL 1 ex mt q) (rembF ex mt x) 206 15 := fun wx hbx => by
  have hs : SlR wx ksS (.slice (some ⟨q, 0, none⟩) 1 1) [[x]] := ⟨_, _, rfl, Nat.le_refl _, (reads_blk (n := 1) (size := 1) (hq.below hbx) rfl)⟩
  refine (told6_c 1 0 0 0 0 0 mt 0 0 0 0 0 0 1 1 0 0 (ex : Int) 0 0 none none none (some ⟨q, 0, none⟩) none wx { rep0 with kind := 6, fr := 1, ex := ex, mt := mt, ssrcs := [[x]] } rfl hs (by simp; omega) (by omega) ex rfl (by omega) hmt rfl rfl (by omega) (by omega) rfl rfl).mono ?_
  rintro e w' ⟨v, rfl, hv, hb⟩
  have e1 : bodyS { rep0 with kind := 6, fr := 1, ex := ex, mt := mt, ssrcs := [[x]] } = rembF ex mt x := by
    unfold bodyS rembF
    simp [be4_eq, fours, rep0]
  refine ⟨v, rfl, ?_, hb⟩
  rcases hv with hv | ⟨_, hv⟩
  · rw [e1] at hv; exact hv
  · rw [e1] at hv
    simp [rembF, be4, rep0] at hv
theorem pli_bytes {w : World} {g fr ab : Nat} (hf : fr < 4294967296) (ha : ab < 4294967296) (hb : Blk w g 81 (pliL fr ab).toArray) :
    Calls Tryz.prog 19 #[.slice (some ⟨g, 0, none⟩) 1 1] w fun e w' => ∃ v, e = .returned (.tuple #[v, .int .i64 0]) ∧ ByteRow w' w.heap.size v (pliB fr ab) ∧ Below w.heap.size w w' := by
  refine (bytes1_c (fitPli fr ab) hb (pli_good w fr ab) (by decide) (by decide) (by simp [be4]) (pli_told w fr ab hf ha)).mono ?_
  rintro e w' ⟨v, rfl, h1, h2⟩
  refine ⟨v, rfl, ?_, h2⟩
  have e1 : repB 1 206 (be4 fr ++ be4 ab) = pliB fr ab := by
    have h8 : (be4 fr ++ be4 ab).length = 8 := rfl
    unfold repB
    rw [h8]
    rfl
  rw [← e1]
  exact h1
/-- The datagram of a rate. -/
def rembD (ex mt x : Nat) : List UInt8 := [143, 206, 0, 5] ++ rembF ex mt x
theorem remb_bytes {w : World} {g ex mt q x : Nat} (hex : ex ≤ 63) (hmt : mt < 262144) (hx : x < 4294967296) (hq : Blk w q 32 #[.int .u32 (x : Int)]) (hb : Blk w g 81 (rembL 1 ex mt q).toArray) :
    Calls Tryz.prog 19 #[.slice (some ⟨g, 0, none⟩) 1 1] w fun e w' => ∃ v, e = .returned (.tuple #[v, .int .i64 0]) ∧ ByteRow w' w.heap.size v (rembD ex mt x) ∧ Below w.heap.size w w' := by
  have hl : (rembF ex mt x).length = 20 := by simp [rembF, be4, beS_len]
  refine (bytes1_c (fitRemb 1 ex mt q) hb (remb_good w 1 ex mt q hex hmt) (by decide) (by decide) (by omega) (remb_told w ex mt q x hex hmt hx hq)).mono ?_
  rintro e w' ⟨v, rfl, h1, h2⟩
  refine ⟨v, rfl, ?_, h2⟩
  have e1 : repB 15 206 (rembF ex mt x) = rembD ex mt x := by
    unfold repB
    rw [hl]
    rfl
  rw [← e1]
  exact h1
end Go.Proofs.YtmkifedcanmjoaaGreat
