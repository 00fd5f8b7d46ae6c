/-
  No cell of these rows narrows 'for every input' (looked for: loops, veiled, ifaces, maps, wideKeys, modest, calm, conditions, laid).
  DERIVED. THE GIVEN ROWS OF THIS SEAT. 6 by the template 'for every input the law returns true; each argument reads behind the call as it read before'; 0 by the template 'total and deterministic' (their statements: YtkfimncbfbbopaaTotals.lean).
  GIVEN WITH THE SEED: the statements are not yours to turn. If you find one false, say at which input.
  Laid BY PROGRAM, IN A SANDBOX (cutbox-rows.mjs): the forced cells as the released guide's own fill.sh prints them over the translation a7e785d5a3cdcc1e… (all of the seat's roots in one cut). By AI agents, Wed Nov 11 2026. No macro, syntax, notation, axiom, sorry.
-/
import Derived.Test.YtkfimncbfbbopaaChecked
import GoSem.Claim
import GoSem.ClaimJoined
import GoSem.ClaimMapViews
import Derived.JoinedTies
import Derived.KernelRfl
namespace Go.Proofs.Ytkfimncbfbbopaa
/- THE CELL 'sum', in the pinned program and in every row, IS THE sha256 OF THE DUMP (.gsa) THAT YtkfimncbfbbopaaProg.lean LOADS. Nothing in Lean hashes anything: it is a label: what it is worth is what the hold of that sum in a sandbox is worth. -/
noncomputable def Try.pinned : Pinned := { name := "ytkfimncbfbbopaa", sum := "a7e785d5a3cdcc1e199f27e899a25e411770725905f5e242b1e9318271cd00a5", checked := Try.checked }
namespace Rows
def none {H : Type} : Left H := { results := [], args := [] }

/-- 'palanquinlaw8.RtcpReads': WHATEVER THE INPUT: true; the input reads as it did. -/
def rtcpReadsSpec : ChangeSpec := { name := "rtcpReads", fn := fun _ => fun
  | [d] => { results := [.lit (.bool true)], args := [d] }
  | _ => none }
def rtcpReadsRow : OpenClaim := { program := "ytkfimncbfbbopaa", sum := "a7e785d5a3cdcc1e199f27e899a25e411770725905f5e242b1e9318271cd00a5", func := "palanquin/palanquinlaw8.RtcpReads", spec := "rtcpReads", apart := false }
def RtcpReadsSaid : Prop := rtcpReadsRow.holds Try.pinned (OpenSpec.ofChange rtcpReadsSpec)

/-- ITS FALSE NEIGHBOUR: 'it returns false'. Refute it at one input. -/
def rtcpReadsWrong : ChangeSpec := { name := "rtcpReads", fn := fun _ => fun
  | [d] => { results := [.lit (.bool false)], args := [d] }
  | _ => none }
def RtcpReadsWrongFalsely : Prop := rtcpReadsRow.holds Try.pinned (OpenSpec.ofChange rtcpReadsWrong)

/-- 'palanquinlaw8.RtcpJoins': WHATEVER THE INPUT: true; the input reads as it did. -/
def rtcpJoinsSpec : ChangeSpec := { name := "rtcpJoins", fn := fun _ => fun
  | [d1, d2] => { results := [.lit (.bool true)], args := [d1, d2] }
  | _ => none }
def rtcpJoinsRow : OpenClaim := { program := "ytkfimncbfbbopaa", sum := "a7e785d5a3cdcc1e199f27e899a25e411770725905f5e242b1e9318271cd00a5", func := "palanquin/palanquinlaw8.RtcpJoins", spec := "rtcpJoins", apart := false }
def RtcpJoinsSaid : Prop := rtcpJoinsRow.holds Try.pinned (OpenSpec.ofChange rtcpJoinsSpec)

/-- ITS FALSE NEIGHBOUR: 'it returns false'. Refute it at one input. -/
def rtcpJoinsWrong : ChangeSpec := { name := "rtcpJoins", fn := fun _ => fun
  | [d1, d2] => { results := [.lit (.bool false)], args := [d1, d2] }
  | _ => none }
def RtcpJoinsWrongFalsely : Prop := rtcpJoinsRow.holds Try.pinned (OpenSpec.ofChange rtcpJoinsWrong)

/-- 'palanquinlaw8.RtcpNack': WHATEVER THE INPUT: true; the input reads as it did. -/
def rtcpNackSpec : ChangeSpec := { name := "rtcpNack", fn := fun _ => fun
  | [d] => { results := [.lit (.bool true)], args := [d] }
  | _ => none }
def rtcpNackRow : OpenClaim := { program := "ytkfimncbfbbopaa", sum := "a7e785d5a3cdcc1e199f27e899a25e411770725905f5e242b1e9318271cd00a5", func := "palanquin/palanquinlaw8.RtcpNack", spec := "rtcpNack", apart := false }
def RtcpNackSaid : Prop := rtcpNackRow.holds Try.pinned (OpenSpec.ofChange rtcpNackSpec)

/-- ITS FALSE NEIGHBOUR: 'it returns false'. Refute it at one input. -/
def rtcpNackWrong : ChangeSpec := { name := "rtcpNack", fn := fun _ => fun
  | [d] => { results := [.lit (.bool false)], args := [d] }
  | _ => none }
def RtcpNackWrongFalsely : Prop := rtcpNackRow.holds Try.pinned (OpenSpec.ofChange rtcpNackWrong)

/-- 'palanquinlaw8.RtcpBack': WHATEVER THE INPUT: true; the input reads as it did. -/
def rtcpBackSpec : ChangeSpec := { name := "rtcpBack", fn := fun _ => fun
  | [d1, d2] => { results := [.lit (.bool true)], args := [d1, d2] }
  | _ => none }
def rtcpBackRow : OpenClaim := { program := "ytkfimncbfbbopaa", sum := "a7e785d5a3cdcc1e199f27e899a25e411770725905f5e242b1e9318271cd00a5", func := "palanquin/palanquinlaw8.RtcpBack", spec := "rtcpBack", unfollowed := true, recurses := true, apart := false }
def RtcpBackSaid : Prop := rtcpBackRow.holds Try.pinned (OpenSpec.ofChange rtcpBackSpec)

/-- ITS FALSE NEIGHBOUR: 'it returns false'. Refute it at one input. -/
def rtcpBackWrong : ChangeSpec := { name := "rtcpBack", fn := fun _ => fun
  | [d1, d2] => { results := [.lit (.bool false)], args := [d1, d2] }
  | _ => none }
def RtcpBackWrongFalsely : Prop := rtcpBackRow.holds Try.pinned (OpenSpec.ofChange rtcpBackWrong)

/-- 'palanquinlaw8.RtcpSays': WHATEVER THE INPUT: true; the input reads as it did. -/
def rtcpSaysSpec : ChangeSpec := { name := "rtcpSays", fn := fun _ => fun
  | [d] => { results := [.lit (.bool true)], args := [d] }
  | _ => none }
def rtcpSaysRow : OpenClaim := { program := "ytkfimncbfbbopaa", sum := "a7e785d5a3cdcc1e199f27e899a25e411770725905f5e242b1e9318271cd00a5", func := "palanquin/palanquinlaw8.RtcpSays", spec := "rtcpSays", unfollowed := true, recurses := true, apart := false }
def RtcpSaysSaid : Prop := rtcpSaysRow.holds Try.pinned (OpenSpec.ofChange rtcpSaysSpec)

/-- ITS FALSE NEIGHBOUR: 'it returns false'. Refute it at one input. -/
def rtcpSaysWrong : ChangeSpec := { name := "rtcpSays", fn := fun _ => fun
  | [d] => { results := [.lit (.bool false)], args := [d] }
  | _ => none }
def RtcpSaysWrongFalsely : Prop := rtcpSaysRow.holds Try.pinned (OpenSpec.ofChange rtcpSaysWrong)

/-- 'palanquinlaw8.RtcpKnown': WHATEVER THE INPUT: true; the input reads as it did. -/
def rtcpKnownSpec : ChangeSpec := { name := "rtcpKnown", fn := fun _ => fun
  | [] => { results := [.lit (.bool true)], args := [] }
  | _ => none }
def rtcpKnownRow : OpenClaim := { program := "ytkfimncbfbbopaa", sum := "a7e785d5a3cdcc1e199f27e899a25e411770725905f5e242b1e9318271cd00a5", func := "palanquin/palanquinlaw8.RtcpKnown", spec := "rtcpKnown", unfollowed := true, recurses := true, apart := false }
def RtcpKnownSaid : Prop := rtcpKnownRow.holds Try.pinned (OpenSpec.ofChange rtcpKnownSpec)

/-- ITS FALSE NEIGHBOUR: 'it returns false'. Refute it at one input. -/
def rtcpKnownWrong : ChangeSpec := { name := "rtcpKnown", fn := fun _ => fun
  | [] => { results := [.lit (.bool false)], args := [] }
  | _ => none }
def RtcpKnownWrongFalsely : Prop := rtcpKnownRow.holds Try.pinned (OpenSpec.ofChange rtcpKnownWrong)

/- THE SECOND FORM. 'bulk': how many values and letters a reading holds, each counted each time it is reached (what is shared counts as often as it is met; a slice's spare places count too). A statement '..UptoSaid' is the law's where the arguments, and the package variables that the reading takes, are together of bulk at most 1048576: NARROWER than '..Said'. Prove '..Said' where nothing that the law and all that it calls make is longer than what came in: it says more and counts as full. Else prove '..UptoSaid'. A law counts once. -/
mutual
def uptoBulk {H : Type} : DataW H → Nat
  | .lit (.string bytes) => bytes.length + 1
  | .lit _ => 1
  | .nil => 1
  | .ptr d => uptoBulk d + 1
  | .slice elems spare => uptoBulkAll elems + uptoBulkAll spare + 1
  | .agg parts => uptoBulkAll parts + 1
  | .iface _ d => uptoBulk d + 1
  | .map entries => uptoBulkEntries entries + 1
  | .held _ => 1
def uptoBulkAll {H : Type} : List (DataW H) → Nat
  | [] => 0
  | d :: r => uptoBulk d + uptoBulkAll r
def uptoBulkEntries {H : Type} : List (Lit × DataW H) → Nat
  | [] => 0
  | x :: r => uptoBulkEntry x + uptoBulkEntries r
def uptoBulkEntry {H : Type} : Lit × DataW H → Nat
  | (.string bytes, d) => bytes.length + uptoBulk d + 1
  | (_, d) => uptoBulk d + 1
 end
def uptoSmall : (H : Type) → List (DataW H) → Bool := fun _ ds => decide (uptoBulkAll ds ≤ 1048576)
def OpenSpec.upto (s : _root_.Go.ChangeSpec) : _root_.Go.OpenSpec := { _root_.Go.OpenSpec.ofChange s with cond := some uptoSmall }

/-- 'palanquinlaw8.RtcpReads', WHERE WHAT IT READS IS OF BULK AT MOST 1048576: true; the input reads as it did. -/
def rtcpReadsUptoRow : OpenClaim := { program := "ytkfimncbfbbopaa", sum := "a7e785d5a3cdcc1e199f27e899a25e411770725905f5e242b1e9318271cd00a5", func := "palanquin/palanquinlaw8.RtcpReads", spec := "rtcpReads", apart := false, narrowed := true }
def RtcpReadsUptoSaid : Prop := rtcpReadsUptoRow.holds Try.pinned (OpenSpec.upto rtcpReadsSpec)

/-- 'palanquinlaw8.RtcpJoins', WHERE WHAT IT READS IS OF BULK AT MOST 1048576: true; the input reads as it did. -/
def rtcpJoinsUptoRow : OpenClaim := { program := "ytkfimncbfbbopaa", sum := "a7e785d5a3cdcc1e199f27e899a25e411770725905f5e242b1e9318271cd00a5", func := "palanquin/palanquinlaw8.RtcpJoins", spec := "rtcpJoins", apart := false, narrowed := true }
def RtcpJoinsUptoSaid : Prop := rtcpJoinsUptoRow.holds Try.pinned (OpenSpec.upto rtcpJoinsSpec)

/-- 'palanquinlaw8.RtcpNack', WHERE WHAT IT READS IS OF BULK AT MOST 1048576: true; the input reads as it did. -/
def rtcpNackUptoRow : OpenClaim := { program := "ytkfimncbfbbopaa", sum := "a7e785d5a3cdcc1e199f27e899a25e411770725905f5e242b1e9318271cd00a5", func := "palanquin/palanquinlaw8.RtcpNack", spec := "rtcpNack", apart := false, narrowed := true }
def RtcpNackUptoSaid : Prop := rtcpNackUptoRow.holds Try.pinned (OpenSpec.upto rtcpNackSpec)

/-- 'palanquinlaw8.RtcpBack', WHERE WHAT IT READS IS OF BULK AT MOST 1048576: true; the input reads as it did. -/
def rtcpBackUptoRow : OpenClaim := { program := "ytkfimncbfbbopaa", sum := "a7e785d5a3cdcc1e199f27e899a25e411770725905f5e242b1e9318271cd00a5", func := "palanquin/palanquinlaw8.RtcpBack", spec := "rtcpBack", unfollowed := true, recurses := true, apart := false, narrowed := true }
def RtcpBackUptoSaid : Prop := rtcpBackUptoRow.holds Try.pinned (OpenSpec.upto rtcpBackSpec)

/-- 'palanquinlaw8.RtcpSays', WHERE WHAT IT READS IS OF BULK AT MOST 1048576: true; the input reads as it did. -/
def rtcpSaysUptoRow : OpenClaim := { program := "ytkfimncbfbbopaa", sum := "a7e785d5a3cdcc1e199f27e899a25e411770725905f5e242b1e9318271cd00a5", func := "palanquin/palanquinlaw8.RtcpSays", spec := "rtcpSays", unfollowed := true, recurses := true, apart := false, narrowed := true }
def RtcpSaysUptoSaid : Prop := rtcpSaysUptoRow.holds Try.pinned (OpenSpec.upto rtcpSaysSpec)

/-- 'palanquinlaw8.RtcpKnown', WHERE WHAT IT READS IS OF BULK AT MOST 1048576: true; the input reads as it did. -/
def rtcpKnownUptoRow : OpenClaim := { program := "ytkfimncbfbbopaa", sum := "a7e785d5a3cdcc1e199f27e899a25e411770725905f5e242b1e9318271cd00a5", func := "palanquin/palanquinlaw8.RtcpKnown", spec := "rtcpKnown", unfollowed := true, recurses := true, apart := false, narrowed := true }
def RtcpKnownUptoSaid : Prop := rtcpKnownUptoRow.holds Try.pinned (OpenSpec.upto rtcpKnownSpec)

end Rows
end Go.Proofs.Ytkfimncbfbbopaa
