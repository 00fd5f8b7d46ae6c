/-
  No cell of these rows narrows 'for every input' (looked for: loops, veiled, ifaces, maps, wideKeys, modest, calm, conditions, laid).
  DERIVED. THE GIVEN ROWS OF THIS SEAT. 5 by the template 'for every input the law returns true; each argument reads behind the call as it read before'; 0 by the template 'total and deterministic' (their statements: YtahdkdbcdopgjaaTotals.lean).
  GIVEN WITH THE SEED: the statements are not yours to turn. If you find one false, say at which input.
  Laid BY PROGRAM, IN A SANDBOX (cutbox-rows.mjs): the forced cells as the released guide's own fill.sh prints them over the translation eba4d62cf97e9160… (all of the seat's roots in one cut). By AI agents, Wed Nov 11 2026. No macro, syntax, notation, axiom, sorry.
-/
import Derived.Test.YtahdkdbcdopgjaaChecked
import GoSem.Claim
import GoSem.ClaimJoined
import GoSem.ClaimMapViews
import Derived.JoinedTies
import Derived.KernelRfl
namespace Go.Proofs.Ytahdkdbcdopgjaa
/- THE CELL 'sum', in the pinned program and in every row, IS THE sha256 OF THE DUMP (.gsa) THAT YtahdkdbcdopgjaaProg.lean LOADS. Nothing in Lean hashes anything: it is a label: what it is worth is what the hold of that sum in a sandbox is worth. -/
noncomputable def Try.pinned : Pinned := { name := "ytahdkdbcdopgjaa", sum := "eba4d62cf97e91601deb893efec8dc9c3ffebb3168eb0a7c0da08d21455bca4b", checked := Try.checked }
namespace Rows
def none {H : Type} : Left H := { results := [], args := [] }

/-- 'palanquinlaw13.WindowKnown': WHATEVER THE INPUT: true; the input reads as it did. -/
def windowKnownSpec : ChangeSpec := { name := "windowKnown", fn := fun _ => fun
  | [] => { results := [.lit (.bool true)], args := [] }
  | _ => none }
def windowKnownRow : OpenClaim := { program := "ytahdkdbcdopgjaa", sum := "eba4d62cf97e91601deb893efec8dc9c3ffebb3168eb0a7c0da08d21455bca4b", func := "palanquin/palanquinlaw13.WindowKnown", spec := "windowKnown", apart := false }
def WindowKnownSaid : Prop := windowKnownRow.holds Try.pinned (OpenSpec.ofChange windowKnownSpec)

/-- ITS FALSE NEIGHBOUR: 'it returns false'. Refute it at one input. -/
def windowKnownWrong : ChangeSpec := { name := "windowKnown", fn := fun _ => fun
  | [] => { results := [.lit (.bool false)], args := [] }
  | _ => none }
def WindowKnownWrongFalsely : Prop := windowKnownRow.holds Try.pinned (OpenSpec.ofChange windowKnownWrong)

/-- 'palanquinlaw13.WindowSays': WHATEVER THE INPUT: true; the input reads as it did. -/
def windowSaysSpec : ChangeSpec := { name := "windowSays", fn := fun _ => fun
  | [d1, d2] => { results := [.lit (.bool true)], args := [d1, d2] }
  | _ => none }
def windowSaysRow : OpenClaim := { program := "ytahdkdbcdopgjaa", sum := "eba4d62cf97e91601deb893efec8dc9c3ffebb3168eb0a7c0da08d21455bca4b", func := "palanquin/palanquinlaw13.WindowSays", spec := "windowSays", apart := false }
def WindowSaysSaid : Prop := windowSaysRow.holds Try.pinned (OpenSpec.ofChange windowSaysSpec)

/-- ITS FALSE NEIGHBOUR: 'it returns false'. Refute it at one input. -/
def windowSaysWrong : ChangeSpec := { name := "windowSays", fn := fun _ => fun
  | [d1, d2] => { results := [.lit (.bool false)], args := [d1, d2] }
  | _ => none }
def WindowSaysWrongFalsely : Prop := windowSaysRow.holds Try.pinned (OpenSpec.ofChange windowSaysWrong)

/-- 'palanquinlaw13.WindowRuns': WHATEVER THE INPUT: true; the input reads as it did. -/
def windowRunsSpec : ChangeSpec := { name := "windowRuns", fn := fun _ => fun
  | [d] => { results := [.lit (.bool true)], args := [d] }
  | _ => none }
def windowRunsRow : OpenClaim := { program := "ytahdkdbcdopgjaa", sum := "eba4d62cf97e91601deb893efec8dc9c3ffebb3168eb0a7c0da08d21455bca4b", func := "palanquin/palanquinlaw13.WindowRuns", spec := "windowRuns", apart := false }
def WindowRunsSaid : Prop := windowRunsRow.holds Try.pinned (OpenSpec.ofChange windowRunsSpec)

/-- ITS FALSE NEIGHBOUR: 'it returns false'. Refute it at one input. -/
def windowRunsWrong : ChangeSpec := { name := "windowRuns", fn := fun _ => fun
  | [d] => { results := [.lit (.bool false)], args := [d] }
  | _ => none }
def WindowRunsWrongFalsely : Prop := windowRunsRow.holds Try.pinned (OpenSpec.ofChange windowRunsWrong)

/-- 'palanquinlaw13.WindowKeeps': WHATEVER THE INPUT: true; the input reads as it did. -/
def windowKeepsSpec : ChangeSpec := { name := "windowKeeps", fn := fun _ => fun
  | [d1, d2] => { results := [.lit (.bool true)], args := [d1, d2] }
  | _ => none }
def windowKeepsRow : OpenClaim := { program := "ytahdkdbcdopgjaa", sum := "eba4d62cf97e91601deb893efec8dc9c3ffebb3168eb0a7c0da08d21455bca4b", func := "palanquin/palanquinlaw13.WindowKeeps", spec := "windowKeeps", apart := false }
def WindowKeepsSaid : Prop := windowKeepsRow.holds Try.pinned (OpenSpec.ofChange windowKeepsSpec)

/-- ITS FALSE NEIGHBOUR: 'it returns false'. Refute it at one input. -/
def windowKeepsWrong : ChangeSpec := { name := "windowKeeps", fn := fun _ => fun
  | [d1, d2] => { results := [.lit (.bool false)], args := [d1, d2] }
  | _ => none }
def WindowKeepsWrongFalsely : Prop := windowKeepsRow.holds Try.pinned (OpenSpec.ofChange windowKeepsWrong)

/-- 'palanquinlaw13.WindowOrder': WHATEVER THE INPUT: true; the input reads as it did. -/
def windowOrderSpec : ChangeSpec := { name := "windowOrder", fn := fun _ => fun
  | [d1, d2] => { results := [.lit (.bool true)], args := [d1, d2] }
  | _ => none }
def windowOrderRow : OpenClaim := { program := "ytahdkdbcdopgjaa", sum := "eba4d62cf97e91601deb893efec8dc9c3ffebb3168eb0a7c0da08d21455bca4b", func := "palanquin/palanquinlaw13.WindowOrder", spec := "windowOrder", apart := false }
def WindowOrderSaid : Prop := windowOrderRow.holds Try.pinned (OpenSpec.ofChange windowOrderSpec)

/-- ITS FALSE NEIGHBOUR: 'it returns false'. Refute it at one input. -/
def windowOrderWrong : ChangeSpec := { name := "windowOrder", fn := fun _ => fun
  | [d1, d2] => { results := [.lit (.bool false)], args := [d1, d2] }
  | _ => none }
def WindowOrderWrongFalsely : Prop := windowOrderRow.holds Try.pinned (OpenSpec.ofChange windowOrderWrong)

/- THE SECOND FORM. 'bulk': how many values and letters a reading holds, each counted each time it is reached (what is shared counts as often as it is met; a slice's spare places count too). A statement '..UptoSaid' is the law's where the arguments, and the package variables that the reading takes, are together of bulk at most 1048576: NARROWER than '..Said'. Prove '..Said' where nothing that the law and all that it calls make is longer than what came in: it says more and counts as full. Else prove '..UptoSaid'. A law counts once. -/
mutual
def uptoBulk {H : Type} : DataW H → Nat
  | .lit (.string bytes) => bytes.length + 1
  | .lit _ => 1
  | .nil => 1
  | .ptr d => uptoBulk d + 1
  | .slice elems spare => uptoBulkAll elems + uptoBulkAll spare + 1
  | .agg parts => uptoBulkAll parts + 1
  | .iface _ d => uptoBulk d + 1
  | .map entries => uptoBulkEntries entries + 1
  | .held _ => 1
def uptoBulkAll {H : Type} : List (DataW H) → Nat
  | [] => 0
  | d :: r => uptoBulk d + uptoBulkAll r
def uptoBulkEntries {H : Type} : List (Lit × DataW H) → Nat
  | [] => 0
  | x :: r => uptoBulkEntry x + uptoBulkEntries r
def uptoBulkEntry {H : Type} : Lit × DataW H → Nat
  | (.string bytes, d) => bytes.length + uptoBulk d + 1
  | (_, d) => uptoBulk d + 1
 end
def uptoSmall : (H : Type) → List (DataW H) → Bool := fun _ ds => decide (uptoBulkAll ds ≤ 1048576)
def OpenSpec.upto (s : _root_.Go.ChangeSpec) : _root_.Go.OpenSpec := { _root_.Go.OpenSpec.ofChange s with cond := some uptoSmall }

/-- 'palanquinlaw13.WindowKnown', WHERE WHAT IT READS IS OF BULK AT MOST 1048576: true; the input reads as it did. -/
def windowKnownUptoRow : OpenClaim := { program := "ytahdkdbcdopgjaa", sum := "eba4d62cf97e91601deb893efec8dc9c3ffebb3168eb0a7c0da08d21455bca4b", func := "palanquin/palanquinlaw13.WindowKnown", spec := "windowKnown", apart := false, narrowed := true }
def WindowKnownUptoSaid : Prop := windowKnownUptoRow.holds Try.pinned (OpenSpec.upto windowKnownSpec)

/-- 'palanquinlaw13.WindowSays', WHERE WHAT IT READS IS OF BULK AT MOST 1048576: true; the input reads as it did. -/
def windowSaysUptoRow : OpenClaim := { program := "ytahdkdbcdopgjaa", sum := "eba4d62cf97e91601deb893efec8dc9c3ffebb3168eb0a7c0da08d21455bca4b", func := "palanquin/palanquinlaw13.WindowSays", spec := "windowSays", apart := false, narrowed := true }
def WindowSaysUptoSaid : Prop := windowSaysUptoRow.holds Try.pinned (OpenSpec.upto windowSaysSpec)

/-- 'palanquinlaw13.WindowRuns', WHERE WHAT IT READS IS OF BULK AT MOST 1048576: true; the input reads as it did. -/
def windowRunsUptoRow : OpenClaim := { program := "ytahdkdbcdopgjaa", sum := "eba4d62cf97e91601deb893efec8dc9c3ffebb3168eb0a7c0da08d21455bca4b", func := "palanquin/palanquinlaw13.WindowRuns", spec := "windowRuns", apart := false, narrowed := true }
def WindowRunsUptoSaid : Prop := windowRunsUptoRow.holds Try.pinned (OpenSpec.upto windowRunsSpec)

/-- 'palanquinlaw13.WindowKeeps', WHERE WHAT IT READS IS OF BULK AT MOST 1048576: true; the input reads as it did. -/
def windowKeepsUptoRow : OpenClaim := { program := "ytahdkdbcdopgjaa", sum := "eba4d62cf97e91601deb893efec8dc9c3ffebb3168eb0a7c0da08d21455bca4b", func := "palanquin/palanquinlaw13.WindowKeeps", spec := "windowKeeps", apart := false, narrowed := true }
def WindowKeepsUptoSaid : Prop := windowKeepsUptoRow.holds Try.pinned (OpenSpec.upto windowKeepsSpec)

/-- 'palanquinlaw13.WindowOrder', WHERE WHAT IT READS IS OF BULK AT MOST 1048576: true; the input reads as it did. -/
def windowOrderUptoRow : OpenClaim := { program := "ytahdkdbcdopgjaa", sum := "eba4d62cf97e91601deb893efec8dc9c3ffebb3168eb0a7c0da08d21455bca4b", func := "palanquin/palanquinlaw13.WindowOrder", spec := "windowOrder", apart := false, narrowed := true }
def WindowOrderUptoSaid : Prop := windowOrderUptoRow.holds Try.pinned (OpenSpec.upto windowOrderSpec)

end Rows
end Go.Proofs.Ytahdkdbcdopgjaa
