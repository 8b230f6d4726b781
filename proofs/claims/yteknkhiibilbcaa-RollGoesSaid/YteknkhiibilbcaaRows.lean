/-
  No cell of these rows narrows 'for every input' (looked for: loops, veiled, ifaces, maps, wideKeys, modest, calm, conditions, laid).
  DERIVED. THE GIVEN ROWS OF THIS SEAT. 6 by the template 'for every input the law returns true; each argument reads behind the call as it read before'; 0 by the template 'total and deterministic' (their statements: YteknkhiibilbcaaTotals.lean).
  GIVEN WITH THE SEED: the statements are not yours to turn. If you find one false, say at which input.
  Laid BY PROGRAM, IN A SANDBOX (cutbox-rows.mjs): the forced cells as the released guide's own fill.sh prints them over the translation 13e68548dcfcb581… (all of the seat's roots in one cut). By AI agents, Wed Nov 11 2026. No macro, syntax, notation, axiom, sorry.
-/
import Derived.Test.YteknkhiibilbcaaChecked
import GoSem.Claim
import GoSem.ClaimJoined
import GoSem.ClaimMapViews
import Derived.JoinedTies
import Derived.KernelRfl
namespace Go.Proofs.Yteknkhiibilbcaa
/- THE CELL 'sum', in the pinned program and in every row, IS THE sha256 OF THE DUMP (.gsa) THAT YteknkhiibilbcaaProg.lean LOADS. Nothing in Lean hashes anything: it is a label: what it is worth is what the hold of that sum in a sandbox is worth. -/
noncomputable def Try.pinned : Pinned := { name := "yteknkhiibilbcaa", sum := "13e68548dcfcb5819c3c2f021d0aac29d7210c30b1c1924acec2fcaaa5283a42", checked := Try.checked }
namespace Rows
def none {H : Type} : Left H := { results := [], args := [] }

/-- 'lighteragelaw04.RollWords': WHATEVER THE INPUT: true; the input reads as it did. -/
def rollWordsSpec : ChangeSpec := { name := "rollWords", fn := fun _ => fun
  | [d] => { results := [.lit (.bool true)], args := [d] }
  | _ => none }
def rollWordsRow : OpenClaim := { program := "yteknkhiibilbcaa", sum := "13e68548dcfcb5819c3c2f021d0aac29d7210c30b1c1924acec2fcaaa5283a42", func := "lighterage/lighteragelaw04.RollWords", spec := "rollWords", inPlace := ["sync/atomic.LoadUint32", "(*internal/sync.Mutex).Lock", "internal/race.Disable", "sync/atomic.CompareAndSwapInt32", "internal/race.Enable", "internal/race.Acquire", "(*internal/sync.Mutex).lockSlow", "internal/sync.runtime_canSpin", "internal/sync.runtime_doSpin", "internal/sync.throw", "internal/sync.runtime_nanotime", "internal/sync.runtime_SemacquireMutex", "sync/atomic.AddInt32", "(*internal/sync.Mutex).Unlock", "internal/race.ReleaseMerge", "(*internal/sync.Mutex).unlockSlow", "internal/sync.fatal", "internal/sync.runtime_Semrelease", "sync/atomic.StoreUint32"], unfollowed := true, recurses := true, apart := false }
def RollWordsSaid : Prop := rollWordsRow.holds Try.pinned (OpenSpec.ofChange rollWordsSpec)

/-- ITS FALSE NEIGHBOUR: 'it returns false'. Refute it at one input. -/
def rollWordsWrong : ChangeSpec := { name := "rollWords", fn := fun _ => fun
  | [d] => { results := [.lit (.bool false)], args := [d] }
  | _ => none }
def RollWordsWrongFalsely : Prop := rollWordsRow.holds Try.pinned (OpenSpec.ofChange rollWordsWrong)

/-- 'lighteragelaw04.RollHashes': WHATEVER THE INPUT: true; the input reads as it did. -/
def rollHashesSpec : ChangeSpec := { name := "rollHashes", fn := fun _ => fun
  | [d] => { results := [.lit (.bool true)], args := [d] }
  | _ => none }
def rollHashesRow : OpenClaim := { program := "yteknkhiibilbcaa", sum := "13e68548dcfcb5819c3c2f021d0aac29d7210c30b1c1924acec2fcaaa5283a42", func := "lighterage/lighteragelaw04.RollHashes", spec := "rollHashes", inPlace := ["sync/atomic.LoadUint32", "(*internal/sync.Mutex).Lock", "internal/race.Disable", "sync/atomic.CompareAndSwapInt32", "internal/race.Enable", "internal/race.Acquire", "(*internal/sync.Mutex).lockSlow", "internal/sync.runtime_canSpin", "internal/sync.runtime_doSpin", "internal/sync.throw", "internal/sync.runtime_nanotime", "internal/sync.runtime_SemacquireMutex", "sync/atomic.AddInt32", "(*internal/sync.Mutex).Unlock", "internal/race.ReleaseMerge", "(*internal/sync.Mutex).unlockSlow", "internal/sync.fatal", "internal/sync.runtime_Semrelease", "sync/atomic.StoreUint32"], unfollowed := true, recurses := true, apart := false }
def RollHashesSaid : Prop := rollHashesRow.holds Try.pinned (OpenSpec.ofChange rollHashesSpec)

/-- ITS FALSE NEIGHBOUR: 'it returns false'. Refute it at one input. -/
def rollHashesWrong : ChangeSpec := { name := "rollHashes", fn := fun _ => fun
  | [d] => { results := [.lit (.bool false)], args := [d] }
  | _ => none }
def RollHashesWrongFalsely : Prop := rollHashesRow.holds Try.pinned (OpenSpec.ofChange rollHashesWrong)

/-- 'lighteragelaw04.RollLast': WHATEVER THE INPUT: true; the input reads as it did. -/
def rollLastSpec : ChangeSpec := { name := "rollLast", fn := fun _ => fun
  | [d1, d2, d3, d4] => { results := [.lit (.bool true)], args := [d1, d2, d3, d4] }
  | _ => none }
def rollLastRow : OpenClaim := { program := "yteknkhiibilbcaa", sum := "13e68548dcfcb5819c3c2f021d0aac29d7210c30b1c1924acec2fcaaa5283a42", func := "lighterage/lighteragelaw04.RollLast", spec := "rollLast", inPlace := ["sync/atomic.LoadUint32", "(*internal/sync.Mutex).Lock", "internal/race.Disable", "sync/atomic.CompareAndSwapInt32", "internal/race.Enable", "internal/race.Acquire", "(*internal/sync.Mutex).lockSlow", "internal/sync.runtime_canSpin", "internal/sync.runtime_doSpin", "internal/sync.throw", "internal/sync.runtime_nanotime", "internal/sync.runtime_SemacquireMutex", "sync/atomic.AddInt32", "(*internal/sync.Mutex).Unlock", "internal/race.ReleaseMerge", "(*internal/sync.Mutex).unlockSlow", "internal/sync.fatal", "internal/sync.runtime_Semrelease", "sync/atomic.StoreUint32"], unfollowed := true, recurses := true, apart := false }
def RollLastSaid : Prop := rollLastRow.holds Try.pinned (OpenSpec.ofChange rollLastSpec)

/-- ITS FALSE NEIGHBOUR: 'it returns false'. Refute it at one input. -/
def rollLastWrong : ChangeSpec := { name := "rollLast", fn := fun _ => fun
  | [d1, d2, d3, d4] => { results := [.lit (.bool false)], args := [d1, d2, d3, d4] }
  | _ => none }
def RollLastWrongFalsely : Prop := rollLastRow.holds Try.pinned (OpenSpec.ofChange rollLastWrong)

/-- 'lighteragelaw04.RollApart': WHATEVER THE INPUT: true; the input reads as it did. -/
def rollApartSpec : ChangeSpec := { name := "rollApart", fn := fun _ => fun
  | [d1, d2] => { results := [.lit (.bool true)], args := [d1, d2] }
  | _ => none }
def rollApartRow : OpenClaim := { program := "yteknkhiibilbcaa", sum := "13e68548dcfcb5819c3c2f021d0aac29d7210c30b1c1924acec2fcaaa5283a42", func := "lighterage/lighteragelaw04.RollApart", spec := "rollApart", inPlace := ["sync/atomic.LoadUint32", "(*internal/sync.Mutex).Lock", "internal/race.Disable", "sync/atomic.CompareAndSwapInt32", "internal/race.Enable", "internal/race.Acquire", "(*internal/sync.Mutex).lockSlow", "internal/sync.runtime_canSpin", "internal/sync.runtime_doSpin", "internal/sync.throw", "internal/sync.runtime_nanotime", "internal/sync.runtime_SemacquireMutex", "sync/atomic.AddInt32", "(*internal/sync.Mutex).Unlock", "internal/race.ReleaseMerge", "(*internal/sync.Mutex).unlockSlow", "internal/sync.fatal", "internal/sync.runtime_Semrelease", "sync/atomic.StoreUint32"], unfollowed := true, recurses := true, apart := false }
def RollApartSaid : Prop := rollApartRow.holds Try.pinned (OpenSpec.ofChange rollApartSpec)

/-- ITS FALSE NEIGHBOUR: 'it returns false'. Refute it at one input. -/
def rollApartWrong : ChangeSpec := { name := "rollApart", fn := fun _ => fun
  | [d1, d2] => { results := [.lit (.bool false)], args := [d1, d2] }
  | _ => none }
def RollApartWrongFalsely : Prop := rollApartRow.holds Try.pinned (OpenSpec.ofChange rollApartWrong)

/-- 'lighteragelaw04.RollJoins': WHATEVER THE INPUT: true; the input reads as it did. -/
def rollJoinsSpec : ChangeSpec := { name := "rollJoins", fn := fun _ => fun
  | [d1, d2] => { results := [.lit (.bool true)], args := [d1, d2] }
  | _ => none }
def rollJoinsRow : OpenClaim := { program := "yteknkhiibilbcaa", sum := "13e68548dcfcb5819c3c2f021d0aac29d7210c30b1c1924acec2fcaaa5283a42", func := "lighterage/lighteragelaw04.RollJoins", spec := "rollJoins", inPlace := ["sync/atomic.LoadUint32", "(*internal/sync.Mutex).Lock", "internal/race.Disable", "sync/atomic.CompareAndSwapInt32", "internal/race.Enable", "internal/race.Acquire", "(*internal/sync.Mutex).lockSlow", "internal/sync.runtime_canSpin", "internal/sync.runtime_doSpin", "internal/sync.throw", "internal/sync.runtime_nanotime", "internal/sync.runtime_SemacquireMutex", "sync/atomic.AddInt32", "(*internal/sync.Mutex).Unlock", "internal/race.ReleaseMerge", "(*internal/sync.Mutex).unlockSlow", "internal/sync.fatal", "internal/sync.runtime_Semrelease", "sync/atomic.StoreUint32"], unfollowed := true, recurses := true, apart := false }
def RollJoinsSaid : Prop := rollJoinsRow.holds Try.pinned (OpenSpec.ofChange rollJoinsSpec)

/-- ITS FALSE NEIGHBOUR: 'it returns false'. Refute it at one input. -/
def rollJoinsWrong : ChangeSpec := { name := "rollJoins", fn := fun _ => fun
  | [d1, d2] => { results := [.lit (.bool false)], args := [d1, d2] }
  | _ => none }
def RollJoinsWrongFalsely : Prop := rollJoinsRow.holds Try.pinned (OpenSpec.ofChange rollJoinsWrong)

/-- 'lighteragelaw04.RollGoes': WHATEVER THE INPUT: true; the input reads as it did. -/
def rollGoesSpec : ChangeSpec := { name := "rollGoes", fn := fun _ => fun
  | [d1, d2] => { results := [.lit (.bool true)], args := [d1, d2] }
  | _ => none }
def rollGoesRow : OpenClaim := { program := "yteknkhiibilbcaa", sum := "13e68548dcfcb5819c3c2f021d0aac29d7210c30b1c1924acec2fcaaa5283a42", func := "lighterage/lighteragelaw04.RollGoes", spec := "rollGoes", inPlace := ["sync/atomic.LoadUint32", "(*internal/sync.Mutex).Lock", "internal/race.Disable", "sync/atomic.CompareAndSwapInt32", "internal/race.Enable", "internal/race.Acquire", "(*internal/sync.Mutex).lockSlow", "internal/sync.runtime_canSpin", "internal/sync.runtime_doSpin", "internal/sync.throw", "internal/sync.runtime_nanotime", "internal/sync.runtime_SemacquireMutex", "sync/atomic.AddInt32", "(*internal/sync.Mutex).Unlock", "internal/race.ReleaseMerge", "(*internal/sync.Mutex).unlockSlow", "internal/sync.fatal", "internal/sync.runtime_Semrelease", "sync/atomic.StoreUint32"], unfollowed := true, recurses := true, apart := false }
def RollGoesSaid : Prop := rollGoesRow.holds Try.pinned (OpenSpec.ofChange rollGoesSpec)

/-- ITS FALSE NEIGHBOUR: 'it returns false'. Refute it at one input. -/
def rollGoesWrong : ChangeSpec := { name := "rollGoes", fn := fun _ => fun
  | [d1, d2] => { results := [.lit (.bool false)], args := [d1, d2] }
  | _ => none }
def RollGoesWrongFalsely : Prop := rollGoesRow.holds Try.pinned (OpenSpec.ofChange rollGoesWrong)

/- THE SECOND FORM. 'bulk': how many values and letters a reading holds, each counted each time it is reached (what is shared counts as often as it is met; a slice's spare places count too). A statement '..UptoSaid' is the law's where the arguments, and the package variables that the reading takes, are together of bulk at most 1048576: NARROWER than '..Said'. Prove '..Said' where nothing that the law and all that it calls make is longer than what came in: it says more and counts as full. Else prove '..UptoSaid'. A law counts once. -/
mutual
def uptoBulk {H : Type} : DataW H → Nat
  | .lit (.string bytes) => bytes.length + 1
  | .lit _ => 1
  | .nil => 1
  | .ptr d => uptoBulk d + 1
  | .slice elems spare => uptoBulkAll elems + uptoBulkAll spare + 1
  | .agg parts => uptoBulkAll parts + 1
  | .iface _ d => uptoBulk d + 1
  | .map entries => uptoBulkEntries entries + 1
  | .held _ => 1
def uptoBulkAll {H : Type} : List (DataW H) → Nat
  | [] => 0
  | d :: r => uptoBulk d + uptoBulkAll r
def uptoBulkEntries {H : Type} : List (Lit × DataW H) → Nat
  | [] => 0
  | x :: r => uptoBulkEntry x + uptoBulkEntries r
def uptoBulkEntry {H : Type} : Lit × DataW H → Nat
  | (.string bytes, d) => bytes.length + uptoBulk d + 1
  | (_, d) => uptoBulk d + 1
 end
def uptoSmall : (H : Type) → List (DataW H) → Bool := fun _ ds => decide (uptoBulkAll ds ≤ 1048576)
def OpenSpec.upto (s : _root_.Go.ChangeSpec) : _root_.Go.OpenSpec := { _root_.Go.OpenSpec.ofChange s with cond := some uptoSmall }

/-- 'lighteragelaw04.RollWords', WHERE WHAT IT READS IS OF BULK AT MOST 1048576: true; the input reads as it did. -/
def rollWordsUptoRow : OpenClaim := { program := "yteknkhiibilbcaa", sum := "13e68548dcfcb5819c3c2f021d0aac29d7210c30b1c1924acec2fcaaa5283a42", func := "lighterage/lighteragelaw04.RollWords", spec := "rollWords", inPlace := ["sync/atomic.LoadUint32", "(*internal/sync.Mutex).Lock", "internal/race.Disable", "sync/atomic.CompareAndSwapInt32", "internal/race.Enable", "internal/race.Acquire", "(*internal/sync.Mutex).lockSlow", "internal/sync.runtime_canSpin", "internal/sync.runtime_doSpin", "internal/sync.throw", "internal/sync.runtime_nanotime", "internal/sync.runtime_SemacquireMutex", "sync/atomic.AddInt32", "(*internal/sync.Mutex).Unlock", "internal/race.ReleaseMerge", "(*internal/sync.Mutex).unlockSlow", "internal/sync.fatal", "internal/sync.runtime_Semrelease", "sync/atomic.StoreUint32"], unfollowed := true, recurses := true, apart := false, narrowed := true }
def RollWordsUptoSaid : Prop := rollWordsUptoRow.holds Try.pinned (OpenSpec.upto rollWordsSpec)

/-- 'lighteragelaw04.RollHashes', WHERE WHAT IT READS IS OF BULK AT MOST 1048576: true; the input reads as it did. -/
def rollHashesUptoRow : OpenClaim := { program := "yteknkhiibilbcaa", sum := "13e68548dcfcb5819c3c2f021d0aac29d7210c30b1c1924acec2fcaaa5283a42", func := "lighterage/lighteragelaw04.RollHashes", spec := "rollHashes", inPlace := ["sync/atomic.LoadUint32", "(*internal/sync.Mutex).Lock", "internal/race.Disable", "sync/atomic.CompareAndSwapInt32", "internal/race.Enable", "internal/race.Acquire", "(*internal/sync.Mutex).lockSlow", "internal/sync.runtime_canSpin", "internal/sync.runtime_doSpin", "internal/sync.throw", "internal/sync.runtime_nanotime", "internal/sync.runtime_SemacquireMutex", "sync/atomic.AddInt32", "(*internal/sync.Mutex).Unlock", "internal/race.ReleaseMerge", "(*internal/sync.Mutex).unlockSlow", "internal/sync.fatal", "internal/sync.runtime_Semrelease", "sync/atomic.StoreUint32"], unfollowed := true, recurses := true, apart := false, narrowed := true }
def RollHashesUptoSaid : Prop := rollHashesUptoRow.holds Try.pinned (OpenSpec.upto rollHashesSpec)

/-- 'lighteragelaw04.RollLast', WHERE WHAT IT READS IS OF BULK AT MOST 1048576: true; the input reads as it did. -/
def rollLastUptoRow : OpenClaim := { program := "yteknkhiibilbcaa", sum := "13e68548dcfcb5819c3c2f021d0aac29d7210c30b1c1924acec2fcaaa5283a42", func := "lighterage/lighteragelaw04.RollLast", spec := "rollLast", inPlace := ["sync/atomic.LoadUint32", "(*internal/sync.Mutex).Lock", "internal/race.Disable", "sync/atomic.CompareAndSwapInt32", "internal/race.Enable", "internal/race.Acquire", "(*internal/sync.Mutex).lockSlow", "internal/sync.runtime_canSpin", "internal/sync.runtime_doSpin", "internal/sync.throw", "internal/sync.runtime_nanotime", "internal/sync.runtime_SemacquireMutex", "sync/atomic.AddInt32", "(*internal/sync.Mutex).Unlock", "internal/race.ReleaseMerge", "(*internal/sync.Mutex).unlockSlow", "internal/sync.fatal", "internal/sync.runtime_Semrelease", "sync/atomic.StoreUint32"], unfollowed := true, recurses := true, apart := false, narrowed := true }
def RollLastUptoSaid : Prop := rollLastUptoRow.holds Try.pinned (OpenSpec.upto rollLastSpec)

/-- 'lighteragelaw04.RollApart', WHERE WHAT IT READS IS OF BULK AT MOST 1048576: true; the input reads as it did. -/
def rollApartUptoRow : OpenClaim := { program := "yteknkhiibilbcaa", sum := "13e68548dcfcb5819c3c2f021d0aac29d7210c30b1c1924acec2fcaaa5283a42", func := "lighterage/lighteragelaw04.RollApart", spec := "rollApart", inPlace := ["sync/atomic.LoadUint32", "(*internal/sync.Mutex).Lock", "internal/race.Disable", "sync/atomic.CompareAndSwapInt32", "internal/race.Enable", "internal/race.Acquire", "(*internal/sync.Mutex).lockSlow", "internal/sync.runtime_canSpin", "internal/sync.runtime_doSpin", "internal/sync.throw", "internal/sync.runtime_nanotime", "internal/sync.runtime_SemacquireMutex", "sync/atomic.AddInt32", "(*internal/sync.Mutex).Unlock", "internal/race.ReleaseMerge", "(*internal/sync.Mutex).unlockSlow", "internal/sync.fatal", "internal/sync.runtime_Semrelease", "sync/atomic.StoreUint32"], unfollowed := true, recurses := true, apart := false, narrowed := true }
def RollApartUptoSaid : Prop := rollApartUptoRow.holds Try.pinned (OpenSpec.upto rollApartSpec)

/-- 'lighteragelaw04.RollJoins', WHERE WHAT IT READS IS OF BULK AT MOST 1048576: true; the input reads as it did. -/
def rollJoinsUptoRow : OpenClaim := { program := "yteknkhiibilbcaa", sum := "13e68548dcfcb5819c3c2f021d0aac29d7210c30b1c1924acec2fcaaa5283a42", func := "lighterage/lighteragelaw04.RollJoins", spec := "rollJoins", inPlace := ["sync/atomic.LoadUint32", "(*internal/sync.Mutex).Lock", "internal/race.Disable", "sync/atomic.CompareAndSwapInt32", "internal/race.Enable", "internal/race.Acquire", "(*internal/sync.Mutex).lockSlow", "internal/sync.runtime_canSpin", "internal/sync.runtime_doSpin", "internal/sync.throw", "internal/sync.runtime_nanotime", "internal/sync.runtime_SemacquireMutex", "sync/atomic.AddInt32", "(*internal/sync.Mutex).Unlock", "internal/race.ReleaseMerge", "(*internal/sync.Mutex).unlockSlow", "internal/sync.fatal", "internal/sync.runtime_Semrelease", "sync/atomic.StoreUint32"], unfollowed := true, recurses := true, apart := false, narrowed := true }
def RollJoinsUptoSaid : Prop := rollJoinsUptoRow.holds Try.pinned (OpenSpec.upto rollJoinsSpec)

/-- 'lighteragelaw04.RollGoes', WHERE WHAT IT READS IS OF BULK AT MOST 1048576: true; the input reads as it did. -/
def rollGoesUptoRow : OpenClaim := { program := "yteknkhiibilbcaa", sum := "13e68548dcfcb5819c3c2f021d0aac29d7210c30b1c1924acec2fcaaa5283a42", func := "lighterage/lighteragelaw04.RollGoes", spec := "rollGoes", inPlace := ["sync/atomic.LoadUint32", "(*internal/sync.Mutex).Lock", "internal/race.Disable", "sync/atomic.CompareAndSwapInt32", "internal/race.Enable", "internal/race.Acquire", "(*internal/sync.Mutex).lockSlow", "internal/sync.runtime_canSpin", "internal/sync.runtime_doSpin", "internal/sync.throw", "internal/sync.runtime_nanotime", "internal/sync.runtime_SemacquireMutex", "sync/atomic.AddInt32", "(*internal/sync.Mutex).Unlock", "internal/race.ReleaseMerge", "(*internal/sync.Mutex).unlockSlow", "internal/sync.fatal", "internal/sync.runtime_Semrelease", "sync/atomic.StoreUint32"], unfollowed := true, recurses := true, apart := false, narrowed := true }
def RollGoesUptoSaid : Prop := rollGoesUptoRow.holds Try.pinned (OpenSpec.upto rollGoesSpec)

end Rows
end Go.Proofs.Yteknkhiibilbcaa
