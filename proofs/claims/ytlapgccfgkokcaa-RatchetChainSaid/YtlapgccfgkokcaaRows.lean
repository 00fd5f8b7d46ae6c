/-
  No cell of these rows narrows 'for every input' (looked for: loops, veiled, ifaces, maps, wideKeys, modest, calm, conditions, laid).
  DERIVED. THE GIVEN ROWS OF THIS SEAT. 18 by the template 'for every input the law returns true; each argument reads behind the call as it read before'; 0 by the template 'total and deterministic' (their statements: YtlapgccfgkokcaaTotals.lean).
  GIVEN WITH THE SEED: the statements are not yours to turn. If you find one false, say at which input.
  Laid BY PROGRAM, IN A SANDBOX (cutbox-rows.mjs): the forced cells as the released guide's own fill.sh prints them over the translation f11ef3b34252cfef… (all of the seat's roots in one cut). By AI agents, Wed Nov 11 2026. No macro, syntax, notation, axiom, sorry.
-/
import Derived.Test.YtlapgccfgkokcaaChecked
import GoSem.Claim
import GoSem.ClaimJoined
import GoSem.ClaimMapViews
import Derived.JoinedTies
import Derived.KernelRfl
namespace Go.Proofs.Ytlapgccfgkokcaa
/- THE CELL 'sum', in the pinned program and in every row, IS THE sha256 OF THE DUMP (.gsa) THAT YtlapgccfgkokcaaProg.lean LOADS. Nothing in Lean hashes anything: it is a label: what it is worth is what the hold of that sum in a sandbox is worth. -/
noncomputable def Try.pinned : Pinned := { name := "ytlapgccfgkokcaa", sum := "f11ef3b34252cfefa4daa8990d213f252b2b379613f0e965d8d82b0a1d1582cd", checked := Try.checked }
namespace Rows
def none {H : Type} : Left H := { results := [], args := [] }

/-- 'palanquinlaw1.DigestSays': WHATEVER THE INPUT: true; the input reads as it did. -/
def digestSaysSpec : ChangeSpec := { name := "digestSays", fn := fun _ => fun
  | [d] => { results := [.lit (.bool true)], args := [d] }
  | _ => none }
def digestSaysRow : OpenClaim := { program := "ytlapgccfgkokcaa", sum := "f11ef3b34252cfefa4daa8990d213f252b2b379613f0e965d8d82b0a1d1582cd", func := "palanquin/palanquinlaw1.DigestSays", spec := "digestSays", inPlace := ["math.Float64bits", "math.Float64frombits", "sync/atomic.LoadUint32", "(*internal/sync.Mutex).Lock", "internal/race.Disable", "sync/atomic.CompareAndSwapInt32", "internal/race.Enable", "internal/race.Acquire", "(*internal/sync.Mutex).lockSlow", "internal/sync.runtime_canSpin", "internal/sync.runtime_doSpin", "internal/sync.throw", "internal/sync.runtime_nanotime", "internal/sync.runtime_SemacquireMutex", "sync/atomic.AddInt32", "(*internal/sync.Mutex).Unlock", "internal/race.ReleaseMerge", "(*internal/sync.Mutex).unlockSlow", "internal/sync.fatal", "internal/sync.runtime_Semrelease", "sync/atomic.StoreUint32"], unfollowed := true, recurses := true, apart := false }
def DigestSaysSaid : Prop := digestSaysRow.holds Try.pinned (OpenSpec.ofChange digestSaysSpec)

/-- ITS FALSE NEIGHBOUR: 'it returns false'. Refute it at one input. -/
def digestSaysWrong : ChangeSpec := { name := "digestSays", fn := fun _ => fun
  | [d] => { results := [.lit (.bool false)], args := [d] }
  | _ => none }
def DigestSaysWrongFalsely : Prop := digestSaysRow.holds Try.pinned (OpenSpec.ofChange digestSaysWrong)

/-- 'palanquinlaw1.DigestStreams': WHATEVER THE INPUT: true; the input reads as it did. -/
def digestStreamsSpec : ChangeSpec := { name := "digestStreams", fn := fun _ => fun
  | [d] => { results := [.lit (.bool true)], args := [d] }
  | _ => none }
def digestStreamsRow : OpenClaim := { program := "ytlapgccfgkokcaa", sum := "f11ef3b34252cfefa4daa8990d213f252b2b379613f0e965d8d82b0a1d1582cd", func := "palanquin/palanquinlaw1.DigestStreams", spec := "digestStreams", inPlace := ["math.Float64bits", "math.Float64frombits", "sync/atomic.LoadUint32", "(*internal/sync.Mutex).Lock", "internal/race.Disable", "sync/atomic.CompareAndSwapInt32", "internal/race.Enable", "internal/race.Acquire", "(*internal/sync.Mutex).lockSlow", "internal/sync.runtime_canSpin", "internal/sync.runtime_doSpin", "internal/sync.throw", "internal/sync.runtime_nanotime", "internal/sync.runtime_SemacquireMutex", "sync/atomic.AddInt32", "(*internal/sync.Mutex).Unlock", "internal/race.ReleaseMerge", "(*internal/sync.Mutex).unlockSlow", "internal/sync.fatal", "internal/sync.runtime_Semrelease", "sync/atomic.StoreUint32"], unfollowed := true, recurses := true, apart := false }
def DigestStreamsSaid : Prop := digestStreamsRow.holds Try.pinned (OpenSpec.ofChange digestStreamsSpec)

/-- ITS FALSE NEIGHBOUR: 'it returns false'. Refute it at one input. -/
def digestStreamsWrong : ChangeSpec := { name := "digestStreams", fn := fun _ => fun
  | [d] => { results := [.lit (.bool false)], args := [d] }
  | _ => none }
def DigestStreamsWrongFalsely : Prop := digestStreamsRow.holds Try.pinned (OpenSpec.ofChange digestStreamsWrong)

/-- 'palanquinlaw1.DigestParts': WHATEVER THE INPUT: true; the input reads as it did. -/
def digestPartsSpec : ChangeSpec := { name := "digestParts", fn := fun _ => fun
  | [d1, d2] => { results := [.lit (.bool true)], args := [d1, d2] }
  | _ => none }
def digestPartsRow : OpenClaim := { program := "ytlapgccfgkokcaa", sum := "f11ef3b34252cfefa4daa8990d213f252b2b379613f0e965d8d82b0a1d1582cd", func := "palanquin/palanquinlaw1.DigestParts", spec := "digestParts", inPlace := ["math.Float64bits", "math.Float64frombits", "sync/atomic.LoadUint32", "(*internal/sync.Mutex).Lock", "internal/race.Disable", "sync/atomic.CompareAndSwapInt32", "internal/race.Enable", "internal/race.Acquire", "(*internal/sync.Mutex).lockSlow", "internal/sync.runtime_canSpin", "internal/sync.runtime_doSpin", "internal/sync.throw", "internal/sync.runtime_nanotime", "internal/sync.runtime_SemacquireMutex", "sync/atomic.AddInt32", "(*internal/sync.Mutex).Unlock", "internal/race.ReleaseMerge", "(*internal/sync.Mutex).unlockSlow", "internal/sync.fatal", "internal/sync.runtime_Semrelease", "sync/atomic.StoreUint32"], unfollowed := true, recurses := true, apart := false }
def DigestPartsSaid : Prop := digestPartsRow.holds Try.pinned (OpenSpec.ofChange digestPartsSpec)

/-- ITS FALSE NEIGHBOUR: 'it returns false'. Refute it at one input. -/
def digestPartsWrong : ChangeSpec := { name := "digestParts", fn := fun _ => fun
  | [d1, d2] => { results := [.lit (.bool false)], args := [d1, d2] }
  | _ => none }
def DigestPartsWrongFalsely : Prop := digestPartsRow.holds Try.pinned (OpenSpec.ofChange digestPartsWrong)

/-- 'palanquinlaw1.DigestCopies': WHATEVER THE INPUT: true; the input reads as it did. -/
def digestCopiesSpec : ChangeSpec := { name := "digestCopies", fn := fun _ => fun
  | [d1, d2, d3] => { results := [.lit (.bool true)], args := [d1, d2, d3] }
  | _ => none }
def digestCopiesRow : OpenClaim := { program := "ytlapgccfgkokcaa", sum := "f11ef3b34252cfefa4daa8990d213f252b2b379613f0e965d8d82b0a1d1582cd", func := "palanquin/palanquinlaw1.DigestCopies", spec := "digestCopies", inPlace := ["math.Float64bits", "math.Float64frombits", "sync/atomic.LoadUint32", "(*internal/sync.Mutex).Lock", "internal/race.Disable", "sync/atomic.CompareAndSwapInt32", "internal/race.Enable", "internal/race.Acquire", "(*internal/sync.Mutex).lockSlow", "internal/sync.runtime_canSpin", "internal/sync.runtime_doSpin", "internal/sync.throw", "internal/sync.runtime_nanotime", "internal/sync.runtime_SemacquireMutex", "sync/atomic.AddInt32", "(*internal/sync.Mutex).Unlock", "internal/race.ReleaseMerge", "(*internal/sync.Mutex).unlockSlow", "internal/sync.fatal", "internal/sync.runtime_Semrelease", "sync/atomic.StoreUint32"], unfollowed := true, recurses := true, apart := false }
def DigestCopiesSaid : Prop := digestCopiesRow.holds Try.pinned (OpenSpec.ofChange digestCopiesSpec)

/-- ITS FALSE NEIGHBOUR: 'it returns false'. Refute it at one input. -/
def digestCopiesWrong : ChangeSpec := { name := "digestCopies", fn := fun _ => fun
  | [d1, d2, d3] => { results := [.lit (.bool false)], args := [d1, d2, d3] }
  | _ => none }
def DigestCopiesWrongFalsely : Prop := digestCopiesRow.holds Try.pinned (OpenSpec.ofChange digestCopiesWrong)

/-- 'palanquinlaw1.DigestKnown': WHATEVER THE INPUT: true; the input reads as it did. -/
def digestKnownSpec : ChangeSpec := { name := "digestKnown", fn := fun _ => fun
  | [] => { results := [.lit (.bool true)], args := [] }
  | _ => none }
def digestKnownRow : OpenClaim := { program := "ytlapgccfgkokcaa", sum := "f11ef3b34252cfefa4daa8990d213f252b2b379613f0e965d8d82b0a1d1582cd", func := "palanquin/palanquinlaw1.DigestKnown", spec := "digestKnown", inPlace := ["math.Float64bits", "math.Float64frombits", "sync/atomic.LoadUint32", "(*internal/sync.Mutex).Lock", "internal/race.Disable", "sync/atomic.CompareAndSwapInt32", "internal/race.Enable", "internal/race.Acquire", "(*internal/sync.Mutex).lockSlow", "internal/sync.runtime_canSpin", "internal/sync.runtime_doSpin", "internal/sync.throw", "internal/sync.runtime_nanotime", "internal/sync.runtime_SemacquireMutex", "sync/atomic.AddInt32", "(*internal/sync.Mutex).Unlock", "internal/race.ReleaseMerge", "(*internal/sync.Mutex).unlockSlow", "internal/sync.fatal", "internal/sync.runtime_Semrelease", "sync/atomic.StoreUint32"], unfollowed := true, recurses := true, apart := false }
def DigestKnownSaid : Prop := digestKnownRow.holds Try.pinned (OpenSpec.ofChange digestKnownSpec)

/-- ITS FALSE NEIGHBOUR: 'it returns false'. Refute it at one input. -/
def digestKnownWrong : ChangeSpec := { name := "digestKnown", fn := fun _ => fun
  | [] => { results := [.lit (.bool false)], args := [] }
  | _ => none }
def DigestKnownWrongFalsely : Prop := digestKnownRow.holds Try.pinned (OpenSpec.ofChange digestKnownWrong)

/-- 'palanquinlaw2.TagKnown': WHATEVER THE INPUT: true; the input reads as it did. -/
def tagKnownSpec : ChangeSpec := { name := "tagKnown", fn := fun _ => fun
  | [] => { results := [.lit (.bool true)], args := [] }
  | _ => none }
def tagKnownRow : OpenClaim := { program := "ytlapgccfgkokcaa", sum := "f11ef3b34252cfefa4daa8990d213f252b2b379613f0e965d8d82b0a1d1582cd", func := "palanquin/palanquinlaw2.TagKnown", spec := "tagKnown", inPlace := ["math.Float64bits", "math.Float64frombits", "sync/atomic.LoadUint32", "(*internal/sync.Mutex).Lock", "internal/race.Disable", "sync/atomic.CompareAndSwapInt32", "internal/race.Enable", "internal/race.Acquire", "(*internal/sync.Mutex).lockSlow", "internal/sync.runtime_canSpin", "internal/sync.runtime_doSpin", "internal/sync.throw", "internal/sync.runtime_nanotime", "internal/sync.runtime_SemacquireMutex", "sync/atomic.AddInt32", "(*internal/sync.Mutex).Unlock", "internal/race.ReleaseMerge", "(*internal/sync.Mutex).unlockSlow", "internal/sync.fatal", "internal/sync.runtime_Semrelease", "sync/atomic.StoreUint32"], unfollowed := true, recurses := true, apart := false }
def TagKnownSaid : Prop := tagKnownRow.holds Try.pinned (OpenSpec.ofChange tagKnownSpec)

/-- ITS FALSE NEIGHBOUR: 'it returns false'. Refute it at one input. -/
def tagKnownWrong : ChangeSpec := { name := "tagKnown", fn := fun _ => fun
  | [] => { results := [.lit (.bool false)], args := [] }
  | _ => none }
def TagKnownWrongFalsely : Prop := tagKnownRow.holds Try.pinned (OpenSpec.ofChange tagKnownWrong)

/-- 'palanquinlaw2.TagSays': WHATEVER THE INPUT: true; the input reads as it did. -/
def tagSaysSpec : ChangeSpec := { name := "tagSays", fn := fun _ => fun
  | [d1, d2] => { results := [.lit (.bool true)], args := [d1, d2] }
  | _ => none }
def tagSaysRow : OpenClaim := { program := "ytlapgccfgkokcaa", sum := "f11ef3b34252cfefa4daa8990d213f252b2b379613f0e965d8d82b0a1d1582cd", func := "palanquin/palanquinlaw2.TagSays", spec := "tagSays", inPlace := ["math.Float64bits", "math.Float64frombits", "sync/atomic.LoadUint32", "(*internal/sync.Mutex).Lock", "internal/race.Disable", "sync/atomic.CompareAndSwapInt32", "internal/race.Enable", "internal/race.Acquire", "(*internal/sync.Mutex).lockSlow", "internal/sync.runtime_canSpin", "internal/sync.runtime_doSpin", "internal/sync.throw", "internal/sync.runtime_nanotime", "internal/sync.runtime_SemacquireMutex", "sync/atomic.AddInt32", "(*internal/sync.Mutex).Unlock", "internal/race.ReleaseMerge", "(*internal/sync.Mutex).unlockSlow", "internal/sync.fatal", "internal/sync.runtime_Semrelease", "sync/atomic.StoreUint32"], unfollowed := true, recurses := true, apart := false }
def TagSaysSaid : Prop := tagSaysRow.holds Try.pinned (OpenSpec.ofChange tagSaysSpec)

/-- ITS FALSE NEIGHBOUR: 'it returns false'. Refute it at one input. -/
def tagSaysWrong : ChangeSpec := { name := "tagSays", fn := fun _ => fun
  | [d1, d2] => { results := [.lit (.bool false)], args := [d1, d2] }
  | _ => none }
def TagSaysWrongFalsely : Prop := tagSaysRow.holds Try.pinned (OpenSpec.ofChange tagSaysWrong)

/-- 'palanquinlaw2.TagSame': WHATEVER THE INPUT: true; the input reads as it did. -/
def tagSameSpec : ChangeSpec := { name := "tagSame", fn := fun _ => fun
  | [d1, d2, d3, d4] => { results := [.lit (.bool true)], args := [d1, d2, d3, d4] }
  | _ => none }
def tagSameRow : OpenClaim := { program := "ytlapgccfgkokcaa", sum := "f11ef3b34252cfefa4daa8990d213f252b2b379613f0e965d8d82b0a1d1582cd", func := "palanquin/palanquinlaw2.TagSame", spec := "tagSame", inPlace := ["math.Float64bits", "math.Float64frombits", "sync/atomic.LoadUint32", "(*internal/sync.Mutex).Lock", "internal/race.Disable", "sync/atomic.CompareAndSwapInt32", "internal/race.Enable", "internal/race.Acquire", "(*internal/sync.Mutex).lockSlow", "internal/sync.runtime_canSpin", "internal/sync.runtime_doSpin", "internal/sync.throw", "internal/sync.runtime_nanotime", "internal/sync.runtime_SemacquireMutex", "sync/atomic.AddInt32", "(*internal/sync.Mutex).Unlock", "internal/race.ReleaseMerge", "(*internal/sync.Mutex).unlockSlow", "internal/sync.fatal", "internal/sync.runtime_Semrelease", "sync/atomic.StoreUint32"], unfollowed := true, recurses := true, apart := false }
def TagSameSaid : Prop := tagSameRow.holds Try.pinned (OpenSpec.ofChange tagSameSpec)

/-- ITS FALSE NEIGHBOUR: 'it returns false'. Refute it at one input. -/
def tagSameWrong : ChangeSpec := { name := "tagSame", fn := fun _ => fun
  | [d1, d2, d3, d4] => { results := [.lit (.bool false)], args := [d1, d2, d3, d4] }
  | _ => none }
def TagSameWrongFalsely : Prop := tagSameRow.holds Try.pinned (OpenSpec.ofChange tagSameWrong)

/-- 'palanquinlaw2.TagLong': WHATEVER THE INPUT: true; the input reads as it did. -/
def tagLongSpec : ChangeSpec := { name := "tagLong", fn := fun _ => fun
  | [d1, d2] => { results := [.lit (.bool true)], args := [d1, d2] }
  | _ => none }
def tagLongRow : OpenClaim := { program := "ytlapgccfgkokcaa", sum := "f11ef3b34252cfefa4daa8990d213f252b2b379613f0e965d8d82b0a1d1582cd", func := "palanquin/palanquinlaw2.TagLong", spec := "tagLong", inPlace := ["math.Float64bits", "math.Float64frombits", "sync/atomic.LoadUint32", "(*internal/sync.Mutex).Lock", "internal/race.Disable", "sync/atomic.CompareAndSwapInt32", "internal/race.Enable", "internal/race.Acquire", "(*internal/sync.Mutex).lockSlow", "internal/sync.runtime_canSpin", "internal/sync.runtime_doSpin", "internal/sync.throw", "internal/sync.runtime_nanotime", "internal/sync.runtime_SemacquireMutex", "sync/atomic.AddInt32", "(*internal/sync.Mutex).Unlock", "internal/race.ReleaseMerge", "(*internal/sync.Mutex).unlockSlow", "internal/sync.fatal", "internal/sync.runtime_Semrelease", "sync/atomic.StoreUint32"], unfollowed := true, recurses := true, apart := false }
def TagLongSaid : Prop := tagLongRow.holds Try.pinned (OpenSpec.ofChange tagLongSpec)

/-- ITS FALSE NEIGHBOUR: 'it returns false'. Refute it at one input. -/
def tagLongWrong : ChangeSpec := { name := "tagLong", fn := fun _ => fun
  | [d1, d2] => { results := [.lit (.bool false)], args := [d1, d2] }
  | _ => none }
def TagLongWrongFalsely : Prop := tagLongRow.holds Try.pinned (OpenSpec.ofChange tagLongWrong)

/-- 'palanquinlaw2.TagParts': WHATEVER THE INPUT: true; the input reads as it did. -/
def tagPartsSpec : ChangeSpec := { name := "tagParts", fn := fun _ => fun
  | [d1, d2, d3, d4] => { results := [.lit (.bool true)], args := [d1, d2, d3, d4] }
  | _ => none }
def tagPartsRow : OpenClaim := { program := "ytlapgccfgkokcaa", sum := "f11ef3b34252cfefa4daa8990d213f252b2b379613f0e965d8d82b0a1d1582cd", func := "palanquin/palanquinlaw2.TagParts", spec := "tagParts", inPlace := ["math.Float64bits", "math.Float64frombits", "sync/atomic.LoadUint32", "(*internal/sync.Mutex).Lock", "internal/race.Disable", "sync/atomic.CompareAndSwapInt32", "internal/race.Enable", "internal/race.Acquire", "(*internal/sync.Mutex).lockSlow", "internal/sync.runtime_canSpin", "internal/sync.runtime_doSpin", "internal/sync.throw", "internal/sync.runtime_nanotime", "internal/sync.runtime_SemacquireMutex", "sync/atomic.AddInt32", "(*internal/sync.Mutex).Unlock", "internal/race.ReleaseMerge", "(*internal/sync.Mutex).unlockSlow", "internal/sync.fatal", "internal/sync.runtime_Semrelease", "sync/atomic.StoreUint32"], unfollowed := true, recurses := true, apart := false }
def TagPartsSaid : Prop := tagPartsRow.holds Try.pinned (OpenSpec.ofChange tagPartsSpec)

/-- ITS FALSE NEIGHBOUR: 'it returns false'. Refute it at one input. -/
def tagPartsWrong : ChangeSpec := { name := "tagParts", fn := fun _ => fun
  | [d1, d2, d3, d4] => { results := [.lit (.bool false)], args := [d1, d2, d3, d4] }
  | _ => none }
def TagPartsWrongFalsely : Prop := tagPartsRow.holds Try.pinned (OpenSpec.ofChange tagPartsWrong)

/-- 'palanquinlaw3.KdfKnown': WHATEVER THE INPUT: true; the input reads as it did. -/
def kdfKnownSpec : ChangeSpec := { name := "kdfKnown", fn := fun _ => fun
  | [] => { results := [.lit (.bool true)], args := [] }
  | _ => none }
def kdfKnownRow : OpenClaim := { program := "ytlapgccfgkokcaa", sum := "f11ef3b34252cfefa4daa8990d213f252b2b379613f0e965d8d82b0a1d1582cd", func := "palanquin/palanquinlaw3.KdfKnown", spec := "kdfKnown", inPlace := ["math.Float64bits", "math.Float64frombits", "sync/atomic.LoadUint32", "(*internal/sync.Mutex).Lock", "internal/race.Disable", "sync/atomic.CompareAndSwapInt32", "internal/race.Enable", "internal/race.Acquire", "(*internal/sync.Mutex).lockSlow", "internal/sync.runtime_canSpin", "internal/sync.runtime_doSpin", "internal/sync.throw", "internal/sync.runtime_nanotime", "internal/sync.runtime_SemacquireMutex", "sync/atomic.AddInt32", "(*internal/sync.Mutex).Unlock", "internal/race.ReleaseMerge", "(*internal/sync.Mutex).unlockSlow", "internal/sync.fatal", "internal/sync.runtime_Semrelease", "sync/atomic.StoreUint32"], unfollowed := true, recurses := true, apart := false }
def KdfKnownSaid : Prop := kdfKnownRow.holds Try.pinned (OpenSpec.ofChange kdfKnownSpec)

/-- ITS FALSE NEIGHBOUR: 'it returns false'. Refute it at one input. -/
def kdfKnownWrong : ChangeSpec := { name := "kdfKnown", fn := fun _ => fun
  | [] => { results := [.lit (.bool false)], args := [] }
  | _ => none }
def KdfKnownWrongFalsely : Prop := kdfKnownRow.holds Try.pinned (OpenSpec.ofChange kdfKnownWrong)

/-- 'palanquinlaw3.KdfSays': WHATEVER THE INPUT: true; the input reads as it did. -/
def kdfSaysSpec : ChangeSpec := { name := "kdfSays", fn := fun _ => fun
  | [d1, d2, d3, d4] => { results := [.lit (.bool true)], args := [d1, d2, d3, d4] }
  | _ => none }
def kdfSaysRow : OpenClaim := { program := "ytlapgccfgkokcaa", sum := "f11ef3b34252cfefa4daa8990d213f252b2b379613f0e965d8d82b0a1d1582cd", func := "palanquin/palanquinlaw3.KdfSays", spec := "kdfSays", inPlace := ["math.Float64bits", "math.Float64frombits", "sync/atomic.LoadUint32", "(*internal/sync.Mutex).Lock", "internal/race.Disable", "sync/atomic.CompareAndSwapInt32", "internal/race.Enable", "internal/race.Acquire", "(*internal/sync.Mutex).lockSlow", "internal/sync.runtime_canSpin", "internal/sync.runtime_doSpin", "internal/sync.throw", "internal/sync.runtime_nanotime", "internal/sync.runtime_SemacquireMutex", "sync/atomic.AddInt32", "(*internal/sync.Mutex).Unlock", "internal/race.ReleaseMerge", "(*internal/sync.Mutex).unlockSlow", "internal/sync.fatal", "internal/sync.runtime_Semrelease", "sync/atomic.StoreUint32"], unfollowed := true, recurses := true, apart := false }
def KdfSaysSaid : Prop := kdfSaysRow.holds Try.pinned (OpenSpec.ofChange kdfSaysSpec)

/-- ITS FALSE NEIGHBOUR: 'it returns false'. Refute it at one input. -/
def kdfSaysWrong : ChangeSpec := { name := "kdfSays", fn := fun _ => fun
  | [d1, d2, d3, d4] => { results := [.lit (.bool false)], args := [d1, d2, d3, d4] }
  | _ => none }
def KdfSaysWrongFalsely : Prop := kdfSaysRow.holds Try.pinned (OpenSpec.ofChange kdfSaysWrong)

/-- 'palanquinlaw3.KdfShorter': WHATEVER THE INPUT: true; the input reads as it did. -/
def kdfShorterSpec : ChangeSpec := { name := "kdfShorter", fn := fun _ => fun
  | [d1, d2, d3, d4] => { results := [.lit (.bool true)], args := [d1, d2, d3, d4] }
  | _ => none }
def kdfShorterRow : OpenClaim := { program := "ytlapgccfgkokcaa", sum := "f11ef3b34252cfefa4daa8990d213f252b2b379613f0e965d8d82b0a1d1582cd", func := "palanquin/palanquinlaw3.KdfShorter", spec := "kdfShorter", inPlace := ["math.Float64bits", "math.Float64frombits", "sync/atomic.LoadUint32", "(*internal/sync.Mutex).Lock", "internal/race.Disable", "sync/atomic.CompareAndSwapInt32", "internal/race.Enable", "internal/race.Acquire", "(*internal/sync.Mutex).lockSlow", "internal/sync.runtime_canSpin", "internal/sync.runtime_doSpin", "internal/sync.throw", "internal/sync.runtime_nanotime", "internal/sync.runtime_SemacquireMutex", "sync/atomic.AddInt32", "(*internal/sync.Mutex).Unlock", "internal/race.ReleaseMerge", "(*internal/sync.Mutex).unlockSlow", "internal/sync.fatal", "internal/sync.runtime_Semrelease", "sync/atomic.StoreUint32"], unfollowed := true, recurses := true, apart := false }
def KdfShorterSaid : Prop := kdfShorterRow.holds Try.pinned (OpenSpec.ofChange kdfShorterSpec)

/-- ITS FALSE NEIGHBOUR: 'it returns false'. Refute it at one input. -/
def kdfShorterWrong : ChangeSpec := { name := "kdfShorter", fn := fun _ => fun
  | [d1, d2, d3, d4] => { results := [.lit (.bool false)], args := [d1, d2, d3, d4] }
  | _ => none }
def KdfShorterWrongFalsely : Prop := kdfShorterRow.holds Try.pinned (OpenSpec.ofChange kdfShorterWrong)

/-- 'palanquinlaw3.KdfBlocks': WHATEVER THE INPUT: true; the input reads as it did. -/
def kdfBlocksSpec : ChangeSpec := { name := "kdfBlocks", fn := fun _ => fun
  | [d1, d2, d3] => { results := [.lit (.bool true)], args := [d1, d2, d3] }
  | _ => none }
def kdfBlocksRow : OpenClaim := { program := "ytlapgccfgkokcaa", sum := "f11ef3b34252cfefa4daa8990d213f252b2b379613f0e965d8d82b0a1d1582cd", func := "palanquin/palanquinlaw3.KdfBlocks", spec := "kdfBlocks", inPlace := ["math.Float64bits", "math.Float64frombits", "sync/atomic.LoadUint32", "(*internal/sync.Mutex).Lock", "internal/race.Disable", "sync/atomic.CompareAndSwapInt32", "internal/race.Enable", "internal/race.Acquire", "(*internal/sync.Mutex).lockSlow", "internal/sync.runtime_canSpin", "internal/sync.runtime_doSpin", "internal/sync.throw", "internal/sync.runtime_nanotime", "internal/sync.runtime_SemacquireMutex", "sync/atomic.AddInt32", "(*internal/sync.Mutex).Unlock", "internal/race.ReleaseMerge", "(*internal/sync.Mutex).unlockSlow", "internal/sync.fatal", "internal/sync.runtime_Semrelease", "sync/atomic.StoreUint32"], unfollowed := true, recurses := true, apart := false }
def KdfBlocksSaid : Prop := kdfBlocksRow.holds Try.pinned (OpenSpec.ofChange kdfBlocksSpec)

/-- ITS FALSE NEIGHBOUR: 'it returns false'. Refute it at one input. -/
def kdfBlocksWrong : ChangeSpec := { name := "kdfBlocks", fn := fun _ => fun
  | [d1, d2, d3] => { results := [.lit (.bool false)], args := [d1, d2, d3] }
  | _ => none }
def KdfBlocksWrongFalsely : Prop := kdfBlocksRow.holds Try.pinned (OpenSpec.ofChange kdfBlocksWrong)

/-- 'palanquinlaw14.RatchetAfter': WHATEVER THE INPUT: true; the input reads as it did. -/
def ratchetAfterSpec : ChangeSpec := { name := "ratchetAfter", fn := fun _ => fun
  | [d1, d2] => { results := [.lit (.bool true)], args := [d1, d2] }
  | _ => none }
def ratchetAfterRow : OpenClaim := { program := "ytlapgccfgkokcaa", sum := "f11ef3b34252cfefa4daa8990d213f252b2b379613f0e965d8d82b0a1d1582cd", func := "palanquin/palanquinlaw14.RatchetAfter", spec := "ratchetAfter", inPlace := ["math.Float64bits", "math.Float64frombits", "sync/atomic.LoadUint32", "(*internal/sync.Mutex).Lock", "internal/race.Disable", "sync/atomic.CompareAndSwapInt32", "internal/race.Enable", "internal/race.Acquire", "(*internal/sync.Mutex).lockSlow", "internal/sync.runtime_canSpin", "internal/sync.runtime_doSpin", "internal/sync.throw", "internal/sync.runtime_nanotime", "internal/sync.runtime_SemacquireMutex", "sync/atomic.AddInt32", "(*internal/sync.Mutex).Unlock", "internal/race.ReleaseMerge", "(*internal/sync.Mutex).unlockSlow", "internal/sync.fatal", "internal/sync.runtime_Semrelease", "sync/atomic.StoreUint32"], unfollowed := true, recurses := true, apart := false }
def RatchetAfterSaid : Prop := ratchetAfterRow.holds Try.pinned (OpenSpec.ofChange ratchetAfterSpec)

/-- ITS FALSE NEIGHBOUR: 'it returns false'. Refute it at one input. -/
def ratchetAfterWrong : ChangeSpec := { name := "ratchetAfter", fn := fun _ => fun
  | [d1, d2] => { results := [.lit (.bool false)], args := [d1, d2] }
  | _ => none }
def RatchetAfterWrongFalsely : Prop := ratchetAfterRow.holds Try.pinned (OpenSpec.ofChange ratchetAfterWrong)

/-- 'palanquinlaw14.RatchetParts': WHATEVER THE INPUT: true; the input reads as it did. -/
def ratchetPartsSpec : ChangeSpec := { name := "ratchetParts", fn := fun _ => fun
  | [d1, d2, d3] => { results := [.lit (.bool true)], args := [d1, d2, d3] }
  | _ => none }
def ratchetPartsRow : OpenClaim := { program := "ytlapgccfgkokcaa", sum := "f11ef3b34252cfefa4daa8990d213f252b2b379613f0e965d8d82b0a1d1582cd", func := "palanquin/palanquinlaw14.RatchetParts", spec := "ratchetParts", inPlace := ["math.Float64bits", "math.Float64frombits", "sync/atomic.LoadUint32", "(*internal/sync.Mutex).Lock", "internal/race.Disable", "sync/atomic.CompareAndSwapInt32", "internal/race.Enable", "internal/race.Acquire", "(*internal/sync.Mutex).lockSlow", "internal/sync.runtime_canSpin", "internal/sync.runtime_doSpin", "internal/sync.throw", "internal/sync.runtime_nanotime", "internal/sync.runtime_SemacquireMutex", "sync/atomic.AddInt32", "(*internal/sync.Mutex).Unlock", "internal/race.ReleaseMerge", "(*internal/sync.Mutex).unlockSlow", "internal/sync.fatal", "internal/sync.runtime_Semrelease", "sync/atomic.StoreUint32"], unfollowed := true, recurses := true, apart := false }
def RatchetPartsSaid : Prop := ratchetPartsRow.holds Try.pinned (OpenSpec.ofChange ratchetPartsSpec)

/-- ITS FALSE NEIGHBOUR: 'it returns false'. Refute it at one input. -/
def ratchetPartsWrong : ChangeSpec := { name := "ratchetParts", fn := fun _ => fun
  | [d1, d2, d3] => { results := [.lit (.bool false)], args := [d1, d2, d3] }
  | _ => none }
def RatchetPartsWrongFalsely : Prop := ratchetPartsRow.holds Try.pinned (OpenSpec.ofChange ratchetPartsWrong)

/-- 'palanquinlaw14.RatchetKnown': WHATEVER THE INPUT: true; the input reads as it did. -/
def ratchetKnownSpec : ChangeSpec := { name := "ratchetKnown", fn := fun _ => fun
  | [] => { results := [.lit (.bool true)], args := [] }
  | _ => none }
def ratchetKnownRow : OpenClaim := { program := "ytlapgccfgkokcaa", sum := "f11ef3b34252cfefa4daa8990d213f252b2b379613f0e965d8d82b0a1d1582cd", func := "palanquin/palanquinlaw14.RatchetKnown", spec := "ratchetKnown", inPlace := ["math.Float64bits", "math.Float64frombits", "sync/atomic.LoadUint32", "(*internal/sync.Mutex).Lock", "internal/race.Disable", "sync/atomic.CompareAndSwapInt32", "internal/race.Enable", "internal/race.Acquire", "(*internal/sync.Mutex).lockSlow", "internal/sync.runtime_canSpin", "internal/sync.runtime_doSpin", "internal/sync.throw", "internal/sync.runtime_nanotime", "internal/sync.runtime_SemacquireMutex", "sync/atomic.AddInt32", "(*internal/sync.Mutex).Unlock", "internal/race.ReleaseMerge", "(*internal/sync.Mutex).unlockSlow", "internal/sync.fatal", "internal/sync.runtime_Semrelease", "sync/atomic.StoreUint32"], unfollowed := true, recurses := true, apart := false }
def RatchetKnownSaid : Prop := ratchetKnownRow.holds Try.pinned (OpenSpec.ofChange ratchetKnownSpec)

/-- ITS FALSE NEIGHBOUR: 'it returns false'. Refute it at one input. -/
def ratchetKnownWrong : ChangeSpec := { name := "ratchetKnown", fn := fun _ => fun
  | [] => { results := [.lit (.bool false)], args := [] }
  | _ => none }
def RatchetKnownWrongFalsely : Prop := ratchetKnownRow.holds Try.pinned (OpenSpec.ofChange ratchetKnownWrong)

/-- 'palanquinlaw14.RatchetChain': WHATEVER THE INPUT: true; the input reads as it did. -/
def ratchetChainSpec : ChangeSpec := { name := "ratchetChain", fn := fun _ => fun
  | [d1, d2, d3] => { results := [.lit (.bool true)], args := [d1, d2, d3] }
  | _ => none }
def ratchetChainRow : OpenClaim := { program := "ytlapgccfgkokcaa", sum := "f11ef3b34252cfefa4daa8990d213f252b2b379613f0e965d8d82b0a1d1582cd", func := "palanquin/palanquinlaw14.RatchetChain", spec := "ratchetChain", inPlace := ["math.Float64bits", "math.Float64frombits", "sync/atomic.LoadUint32", "(*internal/sync.Mutex).Lock", "internal/race.Disable", "sync/atomic.CompareAndSwapInt32", "internal/race.Enable", "internal/race.Acquire", "(*internal/sync.Mutex).lockSlow", "internal/sync.runtime_canSpin", "internal/sync.runtime_doSpin", "internal/sync.throw", "internal/sync.runtime_nanotime", "internal/sync.runtime_SemacquireMutex", "sync/atomic.AddInt32", "(*internal/sync.Mutex).Unlock", "internal/race.ReleaseMerge", "(*internal/sync.Mutex).unlockSlow", "internal/sync.fatal", "internal/sync.runtime_Semrelease", "sync/atomic.StoreUint32"], unfollowed := true, recurses := true, apart := false }
def RatchetChainSaid : Prop := ratchetChainRow.holds Try.pinned (OpenSpec.ofChange ratchetChainSpec)

/-- ITS FALSE NEIGHBOUR: 'it returns false'. Refute it at one input. -/
def ratchetChainWrong : ChangeSpec := { name := "ratchetChain", fn := fun _ => fun
  | [d1, d2, d3] => { results := [.lit (.bool false)], args := [d1, d2, d3] }
  | _ => none }
def RatchetChainWrongFalsely : Prop := ratchetChainRow.holds Try.pinned (OpenSpec.ofChange ratchetChainWrong)

/- THE SECOND FORM. 'bulk': how many values and letters a reading holds, each counted each time it is reached (what is shared counts as often as it is met; a slice's spare places count too). A statement '..UptoSaid' is the law's where the arguments, and the package variables that the reading takes, are together of bulk at most 1048576: NARROWER than '..Said'. Prove '..Said' where nothing that the law and all that it calls make is longer than what came in: it says more and counts as full. Else prove '..UptoSaid'. A law counts once. -/
mutual
def uptoBulk {H : Type} : DataW H → Nat
  | .lit (.string bytes) => bytes.length + 1
  | .lit _ => 1
  | .nil => 1
  | .ptr d => uptoBulk d + 1
  | .slice elems spare => uptoBulkAll elems + uptoBulkAll spare + 1
  | .agg parts => uptoBulkAll parts + 1
  | .iface _ d => uptoBulk d + 1
  | .map entries => uptoBulkEntries entries + 1
  | .held _ => 1
def uptoBulkAll {H : Type} : List (DataW H) → Nat
  | [] => 0
  | d :: r => uptoBulk d + uptoBulkAll r
def uptoBulkEntries {H : Type} : List (Lit × DataW H) → Nat
  | [] => 0
  | x :: r => uptoBulkEntry x + uptoBulkEntries r
def uptoBulkEntry {H : Type} : Lit × DataW H → Nat
  | (.string bytes, d) => bytes.length + uptoBulk d + 1
  | (_, d) => uptoBulk d + 1
 end
def uptoSmall : (H : Type) → List (DataW H) → Bool := fun _ ds => decide (uptoBulkAll ds ≤ 1048576)
def OpenSpec.upto (s : _root_.Go.ChangeSpec) : _root_.Go.OpenSpec := { _root_.Go.OpenSpec.ofChange s with cond := some uptoSmall }

/-- 'palanquinlaw1.DigestSays', WHERE WHAT IT READS IS OF BULK AT MOST 1048576: true; the input reads as it did. -/
def digestSaysUptoRow : OpenClaim := { program := "ytlapgccfgkokcaa", sum := "f11ef3b34252cfefa4daa8990d213f252b2b379613f0e965d8d82b0a1d1582cd", func := "palanquin/palanquinlaw1.DigestSays", spec := "digestSays", inPlace := ["math.Float64bits", "math.Float64frombits", "sync/atomic.LoadUint32", "(*internal/sync.Mutex).Lock", "internal/race.Disable", "sync/atomic.CompareAndSwapInt32", "internal/race.Enable", "internal/race.Acquire", "(*internal/sync.Mutex).lockSlow", "internal/sync.runtime_canSpin", "internal/sync.runtime_doSpin", "internal/sync.throw", "internal/sync.runtime_nanotime", "internal/sync.runtime_SemacquireMutex", "sync/atomic.AddInt32", "(*internal/sync.Mutex).Unlock", "internal/race.ReleaseMerge", "(*internal/sync.Mutex).unlockSlow", "internal/sync.fatal", "internal/sync.runtime_Semrelease", "sync/atomic.StoreUint32"], unfollowed := true, recurses := true, apart := false, narrowed := true }
def DigestSaysUptoSaid : Prop := digestSaysUptoRow.holds Try.pinned (OpenSpec.upto digestSaysSpec)

/-- 'palanquinlaw1.DigestStreams', WHERE WHAT IT READS IS OF BULK AT MOST 1048576: true; the input reads as it did. -/
def digestStreamsUptoRow : OpenClaim := { program := "ytlapgccfgkokcaa", sum := "f11ef3b34252cfefa4daa8990d213f252b2b379613f0e965d8d82b0a1d1582cd", func := "palanquin/palanquinlaw1.DigestStreams", spec := "digestStreams", inPlace := ["math.Float64bits", "math.Float64frombits", "sync/atomic.LoadUint32", "(*internal/sync.Mutex).Lock", "internal/race.Disable", "sync/atomic.CompareAndSwapInt32", "internal/race.Enable", "internal/race.Acquire", "(*internal/sync.Mutex).lockSlow", "internal/sync.runtime_canSpin", "internal/sync.runtime_doSpin", "internal/sync.throw", "internal/sync.runtime_nanotime", "internal/sync.runtime_SemacquireMutex", "sync/atomic.AddInt32", "(*internal/sync.Mutex).Unlock", "internal/race.ReleaseMerge", "(*internal/sync.Mutex).unlockSlow", "internal/sync.fatal", "internal/sync.runtime_Semrelease", "sync/atomic.StoreUint32"], unfollowed := true, recurses := true, apart := false, narrowed := true }
def DigestStreamsUptoSaid : Prop := digestStreamsUptoRow.holds Try.pinned (OpenSpec.upto digestStreamsSpec)

/-- 'palanquinlaw1.DigestParts', WHERE WHAT IT READS IS OF BULK AT MOST 1048576: true; the input reads as it did. -/
def digestPartsUptoRow : OpenClaim := { program := "ytlapgccfgkokcaa", sum := "f11ef3b34252cfefa4daa8990d213f252b2b379613f0e965d8d82b0a1d1582cd", func := "palanquin/palanquinlaw1.DigestParts", spec := "digestParts", inPlace := ["math.Float64bits", "math.Float64frombits", "sync/atomic.LoadUint32", "(*internal/sync.Mutex).Lock", "internal/race.Disable", "sync/atomic.CompareAndSwapInt32", "internal/race.Enable", "internal/race.Acquire", "(*internal/sync.Mutex).lockSlow", "internal/sync.runtime_canSpin", "internal/sync.runtime_doSpin", "internal/sync.throw", "internal/sync.runtime_nanotime", "internal/sync.runtime_SemacquireMutex", "sync/atomic.AddInt32", "(*internal/sync.Mutex).Unlock", "internal/race.ReleaseMerge", "(*internal/sync.Mutex).unlockSlow", "internal/sync.fatal", "internal/sync.runtime_Semrelease", "sync/atomic.StoreUint32"], unfollowed := true, recurses := true, apart := false, narrowed := true }
def DigestPartsUptoSaid : Prop := digestPartsUptoRow.holds Try.pinned (OpenSpec.upto digestPartsSpec)

/-- 'palanquinlaw1.DigestCopies', WHERE WHAT IT READS IS OF BULK AT MOST 1048576: true; the input reads as it did. -/
def digestCopiesUptoRow : OpenClaim := { program := "ytlapgccfgkokcaa", sum := "f11ef3b34252cfefa4daa8990d213f252b2b379613f0e965d8d82b0a1d1582cd", func := "palanquin/palanquinlaw1.DigestCopies", spec := "digestCopies", inPlace := ["math.Float64bits", "math.Float64frombits", "sync/atomic.LoadUint32", "(*internal/sync.Mutex).Lock", "internal/race.Disable", "sync/atomic.CompareAndSwapInt32", "internal/race.Enable", "internal/race.Acquire", "(*internal/sync.Mutex).lockSlow", "internal/sync.runtime_canSpin", "internal/sync.runtime_doSpin", "internal/sync.throw", "internal/sync.runtime_nanotime", "internal/sync.runtime_SemacquireMutex", "sync/atomic.AddInt32", "(*internal/sync.Mutex).Unlock", "internal/race.ReleaseMerge", "(*internal/sync.Mutex).unlockSlow", "internal/sync.fatal", "internal/sync.runtime_Semrelease", "sync/atomic.StoreUint32"], unfollowed := true, recurses := true, apart := false, narrowed := true }
def DigestCopiesUptoSaid : Prop := digestCopiesUptoRow.holds Try.pinned (OpenSpec.upto digestCopiesSpec)

/-- 'palanquinlaw1.DigestKnown', WHERE WHAT IT READS IS OF BULK AT MOST 1048576: true; the input reads as it did. -/
def digestKnownUptoRow : OpenClaim := { program := "ytlapgccfgkokcaa", sum := "f11ef3b34252cfefa4daa8990d213f252b2b379613f0e965d8d82b0a1d1582cd", func := "palanquin/palanquinlaw1.DigestKnown", spec := "digestKnown", inPlace := ["math.Float64bits", "math.Float64frombits", "sync/atomic.LoadUint32", "(*internal/sync.Mutex).Lock", "internal/race.Disable", "sync/atomic.CompareAndSwapInt32", "internal/race.Enable", "internal/race.Acquire", "(*internal/sync.Mutex).lockSlow", "internal/sync.runtime_canSpin", "internal/sync.runtime_doSpin", "internal/sync.throw", "internal/sync.runtime_nanotime", "internal/sync.runtime_SemacquireMutex", "sync/atomic.AddInt32", "(*internal/sync.Mutex).Unlock", "internal/race.ReleaseMerge", "(*internal/sync.Mutex).unlockSlow", "internal/sync.fatal", "internal/sync.runtime_Semrelease", "sync/atomic.StoreUint32"], unfollowed := true, recurses := true, apart := false, narrowed := true }
def DigestKnownUptoSaid : Prop := digestKnownUptoRow.holds Try.pinned (OpenSpec.upto digestKnownSpec)

/-- 'palanquinlaw2.TagKnown', WHERE WHAT IT READS IS OF BULK AT MOST 1048576: true; the input reads as it did. -/
def tagKnownUptoRow : OpenClaim := { program := "ytlapgccfgkokcaa", sum := "f11ef3b34252cfefa4daa8990d213f252b2b379613f0e965d8d82b0a1d1582cd", func := "palanquin/palanquinlaw2.TagKnown", spec := "tagKnown", inPlace := ["math.Float64bits", "math.Float64frombits", "sync/atomic.LoadUint32", "(*internal/sync.Mutex).Lock", "internal/race.Disable", "sync/atomic.CompareAndSwapInt32", "internal/race.Enable", "internal/race.Acquire", "(*internal/sync.Mutex).lockSlow", "internal/sync.runtime_canSpin", "internal/sync.runtime_doSpin", "internal/sync.throw", "internal/sync.runtime_nanotime", "internal/sync.runtime_SemacquireMutex", "sync/atomic.AddInt32", "(*internal/sync.Mutex).Unlock", "internal/race.ReleaseMerge", "(*internal/sync.Mutex).unlockSlow", "internal/sync.fatal", "internal/sync.runtime_Semrelease", "sync/atomic.StoreUint32"], unfollowed := true, recurses := true, apart := false, narrowed := true }
def TagKnownUptoSaid : Prop := tagKnownUptoRow.holds Try.pinned (OpenSpec.upto tagKnownSpec)

/-- 'palanquinlaw2.TagSays', WHERE WHAT IT READS IS OF BULK AT MOST 1048576: true; the input reads as it did. -/
def tagSaysUptoRow : OpenClaim := { program := "ytlapgccfgkokcaa", sum := "f11ef3b34252cfefa4daa8990d213f252b2b379613f0e965d8d82b0a1d1582cd", func := "palanquin/palanquinlaw2.TagSays", spec := "tagSays", inPlace := ["math.Float64bits", "math.Float64frombits", "sync/atomic.LoadUint32", "(*internal/sync.Mutex).Lock", "internal/race.Disable", "sync/atomic.CompareAndSwapInt32", "internal/race.Enable", "internal/race.Acquire", "(*internal/sync.Mutex).lockSlow", "internal/sync.runtime_canSpin", "internal/sync.runtime_doSpin", "internal/sync.throw", "internal/sync.runtime_nanotime", "internal/sync.runtime_SemacquireMutex", "sync/atomic.AddInt32", "(*internal/sync.Mutex).Unlock", "internal/race.ReleaseMerge", "(*internal/sync.Mutex).unlockSlow", "internal/sync.fatal", "internal/sync.runtime_Semrelease", "sync/atomic.StoreUint32"], unfollowed := true, recurses := true, apart := false, narrowed := true }
def TagSaysUptoSaid : Prop := tagSaysUptoRow.holds Try.pinned (OpenSpec.upto tagSaysSpec)

/-- 'palanquinlaw2.TagSame', WHERE WHAT IT READS IS OF BULK AT MOST 1048576: true; the input reads as it did. -/
def tagSameUptoRow : OpenClaim := { program := "ytlapgccfgkokcaa", sum := "f11ef3b34252cfefa4daa8990d213f252b2b379613f0e965d8d82b0a1d1582cd", func := "palanquin/palanquinlaw2.TagSame", spec := "tagSame", inPlace := ["math.Float64bits", "math.Float64frombits", "sync/atomic.LoadUint32", "(*internal/sync.Mutex).Lock", "internal/race.Disable", "sync/atomic.CompareAndSwapInt32", "internal/race.Enable", "internal/race.Acquire", "(*internal/sync.Mutex).lockSlow", "internal/sync.runtime_canSpin", "internal/sync.runtime_doSpin", "internal/sync.throw", "internal/sync.runtime_nanotime", "internal/sync.runtime_SemacquireMutex", "sync/atomic.AddInt32", "(*internal/sync.Mutex).Unlock", "internal/race.ReleaseMerge", "(*internal/sync.Mutex).unlockSlow", "internal/sync.fatal", "internal/sync.runtime_Semrelease", "sync/atomic.StoreUint32"], unfollowed := true, recurses := true, apart := false, narrowed := true }
def TagSameUptoSaid : Prop := tagSameUptoRow.holds Try.pinned (OpenSpec.upto tagSameSpec)

/-- 'palanquinlaw2.TagLong', WHERE WHAT IT READS IS OF BULK AT MOST 1048576: true; the input reads as it did. -/
def tagLongUptoRow : OpenClaim := { program := "ytlapgccfgkokcaa", sum := "f11ef3b34252cfefa4daa8990d213f252b2b379613f0e965d8d82b0a1d1582cd", func := "palanquin/palanquinlaw2.TagLong", spec := "tagLong", inPlace := ["math.Float64bits", "math.Float64frombits", "sync/atomic.LoadUint32", "(*internal/sync.Mutex).Lock", "internal/race.Disable", "sync/atomic.CompareAndSwapInt32", "internal/race.Enable", "internal/race.Acquire", "(*internal/sync.Mutex).lockSlow", "internal/sync.runtime_canSpin", "internal/sync.runtime_doSpin", "internal/sync.throw", "internal/sync.runtime_nanotime", "internal/sync.runtime_SemacquireMutex", "sync/atomic.AddInt32", "(*internal/sync.Mutex).Unlock", "internal/race.ReleaseMerge", "(*internal/sync.Mutex).unlockSlow", "internal/sync.fatal", "internal/sync.runtime_Semrelease", "sync/atomic.StoreUint32"], unfollowed := true, recurses := true, apart := false, narrowed := true }
def TagLongUptoSaid : Prop := tagLongUptoRow.holds Try.pinned (OpenSpec.upto tagLongSpec)

/-- 'palanquinlaw2.TagParts', WHERE WHAT IT READS IS OF BULK AT MOST 1048576: true; the input reads as it did. -/
def tagPartsUptoRow : OpenClaim := { program := "ytlapgccfgkokcaa", sum := "f11ef3b34252cfefa4daa8990d213f252b2b379613f0e965d8d82b0a1d1582cd", func := "palanquin/palanquinlaw2.TagParts", spec := "tagParts", inPlace := ["math.Float64bits", "math.Float64frombits", "sync/atomic.LoadUint32", "(*internal/sync.Mutex).Lock", "internal/race.Disable", "sync/atomic.CompareAndSwapInt32", "internal/race.Enable", "internal/race.Acquire", "(*internal/sync.Mutex).lockSlow", "internal/sync.runtime_canSpin", "internal/sync.runtime_doSpin", "internal/sync.throw", "internal/sync.runtime_nanotime", "internal/sync.runtime_SemacquireMutex", "sync/atomic.AddInt32", "(*internal/sync.Mutex).Unlock", "internal/race.ReleaseMerge", "(*internal/sync.Mutex).unlockSlow", "internal/sync.fatal", "internal/sync.runtime_Semrelease", "sync/atomic.StoreUint32"], unfollowed := true, recurses := true, apart := false, narrowed := true }
def TagPartsUptoSaid : Prop := tagPartsUptoRow.holds Try.pinned (OpenSpec.upto tagPartsSpec)

/-- 'palanquinlaw3.KdfKnown', WHERE WHAT IT READS IS OF BULK AT MOST 1048576: true; the input reads as it did. -/
def kdfKnownUptoRow : OpenClaim := { program := "ytlapgccfgkokcaa", sum := "f11ef3b34252cfefa4daa8990d213f252b2b379613f0e965d8d82b0a1d1582cd", func := "palanquin/palanquinlaw3.KdfKnown", spec := "kdfKnown", inPlace := ["math.Float64bits", "math.Float64frombits", "sync/atomic.LoadUint32", "(*internal/sync.Mutex).Lock", "internal/race.Disable", "sync/atomic.CompareAndSwapInt32", "internal/race.Enable", "internal/race.Acquire", "(*internal/sync.Mutex).lockSlow", "internal/sync.runtime_canSpin", "internal/sync.runtime_doSpin", "internal/sync.throw", "internal/sync.runtime_nanotime", "internal/sync.runtime_SemacquireMutex", "sync/atomic.AddInt32", "(*internal/sync.Mutex).Unlock", "internal/race.ReleaseMerge", "(*internal/sync.Mutex).unlockSlow", "internal/sync.fatal", "internal/sync.runtime_Semrelease", "sync/atomic.StoreUint32"], unfollowed := true, recurses := true, apart := false, narrowed := true }
def KdfKnownUptoSaid : Prop := kdfKnownUptoRow.holds Try.pinned (OpenSpec.upto kdfKnownSpec)

/-- 'palanquinlaw3.KdfSays', WHERE WHAT IT READS IS OF BULK AT MOST 1048576: true; the input reads as it did. -/
def kdfSaysUptoRow : OpenClaim := { program := "ytlapgccfgkokcaa", sum := "f11ef3b34252cfefa4daa8990d213f252b2b379613f0e965d8d82b0a1d1582cd", func := "palanquin/palanquinlaw3.KdfSays", spec := "kdfSays", inPlace := ["math.Float64bits", "math.Float64frombits", "sync/atomic.LoadUint32", "(*internal/sync.Mutex).Lock", "internal/race.Disable", "sync/atomic.CompareAndSwapInt32", "internal/race.Enable", "internal/race.Acquire", "(*internal/sync.Mutex).lockSlow", "internal/sync.runtime_canSpin", "internal/sync.runtime_doSpin", "internal/sync.throw", "internal/sync.runtime_nanotime", "internal/sync.runtime_SemacquireMutex", "sync/atomic.AddInt32", "(*internal/sync.Mutex).Unlock", "internal/race.ReleaseMerge", "(*internal/sync.Mutex).unlockSlow", "internal/sync.fatal", "internal/sync.runtime_Semrelease", "sync/atomic.StoreUint32"], unfollowed := true, recurses := true, apart := false, narrowed := true }
def KdfSaysUptoSaid : Prop := kdfSaysUptoRow.holds Try.pinned (OpenSpec.upto kdfSaysSpec)

/-- 'palanquinlaw3.KdfShorter', WHERE WHAT IT READS IS OF BULK AT MOST 1048576: true; the input reads as it did. -/
def kdfShorterUptoRow : OpenClaim := { program := "ytlapgccfgkokcaa", sum := "f11ef3b34252cfefa4daa8990d213f252b2b379613f0e965d8d82b0a1d1582cd", func := "palanquin/palanquinlaw3.KdfShorter", spec := "kdfShorter", inPlace := ["math.Float64bits", "math.Float64frombits", "sync/atomic.LoadUint32", "(*internal/sync.Mutex).Lock", "internal/race.Disable", "sync/atomic.CompareAndSwapInt32", "internal/race.Enable", "internal/race.Acquire", "(*internal/sync.Mutex).lockSlow", "internal/sync.runtime_canSpin", "internal/sync.runtime_doSpin", "internal/sync.throw", "internal/sync.runtime_nanotime", "internal/sync.runtime_SemacquireMutex", "sync/atomic.AddInt32", "(*internal/sync.Mutex).Unlock", "internal/race.ReleaseMerge", "(*internal/sync.Mutex).unlockSlow", "internal/sync.fatal", "internal/sync.runtime_Semrelease", "sync/atomic.StoreUint32"], unfollowed := true, recurses := true, apart := false, narrowed := true }
def KdfShorterUptoSaid : Prop := kdfShorterUptoRow.holds Try.pinned (OpenSpec.upto kdfShorterSpec)

/-- 'palanquinlaw3.KdfBlocks', WHERE WHAT IT READS IS OF BULK AT MOST 1048576: true; the input reads as it did. -/
def kdfBlocksUptoRow : OpenClaim := { program := "ytlapgccfgkokcaa", sum := "f11ef3b34252cfefa4daa8990d213f252b2b379613f0e965d8d82b0a1d1582cd", func := "palanquin/palanquinlaw3.KdfBlocks", spec := "kdfBlocks", inPlace := ["math.Float64bits", "math.Float64frombits", "sync/atomic.LoadUint32", "(*internal/sync.Mutex).Lock", "internal/race.Disable", "sync/atomic.CompareAndSwapInt32", "internal/race.Enable", "internal/race.Acquire", "(*internal/sync.Mutex).lockSlow", "internal/sync.runtime_canSpin", "internal/sync.runtime_doSpin", "internal/sync.throw", "internal/sync.runtime_nanotime", "internal/sync.runtime_SemacquireMutex", "sync/atomic.AddInt32", "(*internal/sync.Mutex).Unlock", "internal/race.ReleaseMerge", "(*internal/sync.Mutex).unlockSlow", "internal/sync.fatal", "internal/sync.runtime_Semrelease", "sync/atomic.StoreUint32"], unfollowed := true, recurses := true, apart := false, narrowed := true }
def KdfBlocksUptoSaid : Prop := kdfBlocksUptoRow.holds Try.pinned (OpenSpec.upto kdfBlocksSpec)

/-- 'palanquinlaw14.RatchetAfter', WHERE WHAT IT READS IS OF BULK AT MOST 1048576: true; the input reads as it did. -/
def ratchetAfterUptoRow : OpenClaim := { program := "ytlapgccfgkokcaa", sum := "f11ef3b34252cfefa4daa8990d213f252b2b379613f0e965d8d82b0a1d1582cd", func := "palanquin/palanquinlaw14.RatchetAfter", spec := "ratchetAfter", inPlace := ["math.Float64bits", "math.Float64frombits", "sync/atomic.LoadUint32", "(*internal/sync.Mutex).Lock", "internal/race.Disable", "sync/atomic.CompareAndSwapInt32", "internal/race.Enable", "internal/race.Acquire", "(*internal/sync.Mutex).lockSlow", "internal/sync.runtime_canSpin", "internal/sync.runtime_doSpin", "internal/sync.throw", "internal/sync.runtime_nanotime", "internal/sync.runtime_SemacquireMutex", "sync/atomic.AddInt32", "(*internal/sync.Mutex).Unlock", "internal/race.ReleaseMerge", "(*internal/sync.Mutex).unlockSlow", "internal/sync.fatal", "internal/sync.runtime_Semrelease", "sync/atomic.StoreUint32"], unfollowed := true, recurses := true, apart := false, narrowed := true }
def RatchetAfterUptoSaid : Prop := ratchetAfterUptoRow.holds Try.pinned (OpenSpec.upto ratchetAfterSpec)

/-- 'palanquinlaw14.RatchetParts', WHERE WHAT IT READS IS OF BULK AT MOST 1048576: true; the input reads as it did. -/
def ratchetPartsUptoRow : OpenClaim := { program := "ytlapgccfgkokcaa", sum := "f11ef3b34252cfefa4daa8990d213f252b2b379613f0e965d8d82b0a1d1582cd", func := "palanquin/palanquinlaw14.RatchetParts", spec := "ratchetParts", inPlace := ["math.Float64bits", "math.Float64frombits", "sync/atomic.LoadUint32", "(*internal/sync.Mutex).Lock", "internal/race.Disable", "sync/atomic.CompareAndSwapInt32", "internal/race.Enable", "internal/race.Acquire", "(*internal/sync.Mutex).lockSlow", "internal/sync.runtime_canSpin", "internal/sync.runtime_doSpin", "internal/sync.throw", "internal/sync.runtime_nanotime", "internal/sync.runtime_SemacquireMutex", "sync/atomic.AddInt32", "(*internal/sync.Mutex).Unlock", "internal/race.ReleaseMerge", "(*internal/sync.Mutex).unlockSlow", "internal/sync.fatal", "internal/sync.runtime_Semrelease", "sync/atomic.StoreUint32"], unfollowed := true, recurses := true, apart := false, narrowed := true }
def RatchetPartsUptoSaid : Prop := ratchetPartsUptoRow.holds Try.pinned (OpenSpec.upto ratchetPartsSpec)

/-- 'palanquinlaw14.RatchetKnown', WHERE WHAT IT READS IS OF BULK AT MOST 1048576: true; the input reads as it did. -/
def ratchetKnownUptoRow : OpenClaim := { program := "ytlapgccfgkokcaa", sum := "f11ef3b34252cfefa4daa8990d213f252b2b379613f0e965d8d82b0a1d1582cd", func := "palanquin/palanquinlaw14.RatchetKnown", spec := "ratchetKnown", inPlace := ["math.Float64bits", "math.Float64frombits", "sync/atomic.LoadUint32", "(*internal/sync.Mutex).Lock", "internal/race.Disable", "sync/atomic.CompareAndSwapInt32", "internal/race.Enable", "internal/race.Acquire", "(*internal/sync.Mutex).lockSlow", "internal/sync.runtime_canSpin", "internal/sync.runtime_doSpin", "internal/sync.throw", "internal/sync.runtime_nanotime", "internal/sync.runtime_SemacquireMutex", "sync/atomic.AddInt32", "(*internal/sync.Mutex).Unlock", "internal/race.ReleaseMerge", "(*internal/sync.Mutex).unlockSlow", "internal/sync.fatal", "internal/sync.runtime_Semrelease", "sync/atomic.StoreUint32"], unfollowed := true, recurses := true, apart := false, narrowed := true }
def RatchetKnownUptoSaid : Prop := ratchetKnownUptoRow.holds Try.pinned (OpenSpec.upto ratchetKnownSpec)

/-- 'palanquinlaw14.RatchetChain', WHERE WHAT IT READS IS OF BULK AT MOST 1048576: true; the input reads as it did. -/
def ratchetChainUptoRow : OpenClaim := { program := "ytlapgccfgkokcaa", sum := "f11ef3b34252cfefa4daa8990d213f252b2b379613f0e965d8d82b0a1d1582cd", func := "palanquin/palanquinlaw14.RatchetChain", spec := "ratchetChain", inPlace := ["math.Float64bits", "math.Float64frombits", "sync/atomic.LoadUint32", "(*internal/sync.Mutex).Lock", "internal/race.Disable", "sync/atomic.CompareAndSwapInt32", "internal/race.Enable", "internal/race.Acquire", "(*internal/sync.Mutex).lockSlow", "internal/sync.runtime_canSpin", "internal/sync.runtime_doSpin", "internal/sync.throw", "internal/sync.runtime_nanotime", "internal/sync.runtime_SemacquireMutex", "sync/atomic.AddInt32", "(*internal/sync.Mutex).Unlock", "internal/race.ReleaseMerge", "(*internal/sync.Mutex).unlockSlow", "internal/sync.fatal", "internal/sync.runtime_Semrelease", "sync/atomic.StoreUint32"], unfollowed := true, recurses := true, apart := false, narrowed := true }
def RatchetChainUptoSaid : Prop := ratchetChainUptoRow.holds Try.pinned (OpenSpec.upto ratchetChainSpec)

end Rows
end Go.Proofs.Ytlapgccfgkokcaa
