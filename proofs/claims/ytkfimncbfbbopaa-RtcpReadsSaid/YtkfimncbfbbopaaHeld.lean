/- Steps of a drawn region walked by hand. Conditions: as each says. -/
import Derived.Test.YtkfimncbfbbopaaBlks
import Derived.Deep.RegionHeld3
set_option linter.unusedVariables false
namespace Go.Proofs.Ytkfimncbfbbopaa
open Go.RowKit
theorem wpAnyH_takeAt {P : Program} {md : Region.Mode} {ops : Array Oper} {Q : Exit → Act → World → Prop} {S : World → Prop} {i d : Nat} {oi : Oper} {v : Value} {fuel : Nat} {listed : Array Bool} {tm : List Value} {df : List Deferred} {w : World} (hi : ops[i]? = some oi)
    (hs : Region.noSelect ops = true) (hf : Region.free md ops listed i = true) (hr : (Region.ready md ops listed).contains i = true)
    (hQ : ∀ c a w, Q (.panic c) (a.put oi.dst v) w → Q (.panic c) a w) (hd : oi.dst = some d) (hy : YieldsIf P ops S oi v ⟨tm.toArray, df⟩) (hS : S w)
    (h : wpAnyH P md ops Q S fuel (listed.setIfInBounds i true) ⟨(tm.set d v).toArray, df⟩ w) : wpAnyH P md ops Q S (fuel + 1) listed ⟨tm.toArray, df⟩ w := by
  refine wpAnyH_take hi hs hf hr hQ hy hS ?_
  rw [hd]
  simpa [Act.put] using h
theorem wpAnyH_putAt {P : Program} {md : Region.Mode} {ops : Array Oper} {Q : Exit → Act → World → Prop} {S : World → Prop} {d : Nat} {x : Option Nat} {v : Value} {fuel : Nat} {listed : Array Bool} {tm : List Value} {df : List Deferred} {w : World} (hd : x = some d)
    (h : wpAnyH P md ops Q S fuel listed ⟨(tm.set d v).toArray, df⟩ w) : wpAnyH P md ops Q S fuel listed (Act.put ⟨tm.toArray, df⟩ x v) w := by
  rw [hd]
  simpa [Act.put] using h
theorem wpAnyH_putNone {P : Program} {md : Region.Mode} {ops : Array Oper} {Q : Exit → Act → World → Prop} {S : World → Prop} {x : Option Nat} {v : Value} {fuel : Nat} {listed : Array Bool} {a : Act} {w : World} (hd : x = none)
    (h : wpAnyH P md ops Q S fuel listed a w) : wpAnyH P md ops Q S fuel listed (Act.put a x v) w := by
  rw [hd]
  exact h
end Go.Proofs.Ytkfimncbfbbopaa
