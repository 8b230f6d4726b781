/-
  NARROWER THAN 'FOR EVERY INPUT', by the rows' own cells (each row's printed sentence says how): IndexGreat: laid · IndexMay: laid · IndexOf: laid · IndexSame: laid · IndexReads: laid · IndexRound: laid · IndexNames: laid.
  DERIVED. THE GIVEN ROWS OF THIS SEAT. 7 by the template 'for every input the law returns true; each argument reads behind the call as it read before'; 0 by the template 'total and deterministic' (their statements: YtdfahblgnbdndaaDoorTotals.lean).
  GIVEN WITH THE SEED: the statements are not yours to turn. If you find one false, say at which input.
  Laid BY PROGRAM, IN A SANDBOX (cutbox-rows.mjs): the forced cells as the released guide's own fill.sh prints them over the translation b948402770587ca0… (all of the seat's roots in one cut). By AI agents, Wed Nov 11 2026. No macro, syntax, notation, axiom, sorry.
-/
import Derived.Test.YtdfahblgnbdndaaDoorChecked
import GoSem.Claim
import GoSem.ClaimJoined
import GoSem.ClaimMapViews
import Derived.JoinedTies
import Derived.KernelRfl
namespace Go.Proofs.YtdfahblgnbdndaaDoor
/- THE CELL 'sum', in the pinned program and in every row, IS THE sha256 OF THE DUMP (.gsa) THAT YtdfahblgnbdndaaDoorProg.lean LOADS. Nothing in Lean hashes anything: it is a label: what it is worth is what the hold of that sum in a sandbox is worth. -/
noncomputable def Tryd.pinned : Pinned := { name := "ytdfahblgnbdndaadoor", sum := "b948402770587ca0c4650ca6c9ec4ce1bb2cae02475388e8e70a35dd05920c01", checked := Tryd.checked }
namespace Rows
def none {H : Type} : Left H := { results := [], args := [] }

/- WHAT THE LISTED PACKAGE-LEVEL VARIABLES READ AS WHEN THE CALL BEGINS. Each datum BY PROGRAM (the guide's laid-datum.mjs) off the statement by which the dump's own 'gosem.cut.vars' lays the variable. In a bare row this is a premise. The card (YtdfahblgnbdndaaDoorCards.lean) ties it to the program's text. -/
def laid_lighterage_sha_roots {H : Type} : DataW H := .agg [.lit (.int .u32 1116352408), .lit (.int .u32 1899447441), .lit (.int .u32 3049323471), .lit (.int .u32 3921009573), .lit (.int .u32 961987163), .lit (.int .u32 1508970993), .lit (.int .u32 2453635748), .lit (.int .u32 2870763221), .lit (.int .u32 3624381080), .lit (.int .u32 310598401), .lit (.int .u32 607225278), .lit (.int .u32 1426881987), .lit (.int .u32 1925078388), .lit (.int .u32 2162078206), .lit (.int .u32 2614888103), .lit (.int .u32 3248222580), .lit (.int .u32 3835390401), .lit (.int .u32 4022224774), .lit (.int .u32 264347078), .lit (.int .u32 604807628), .lit (.int .u32 770255983), .lit (.int .u32 1249150122), .lit (.int .u32 1555081692), .lit (.int .u32 1996064986), .lit (.int .u32 2554220882), .lit (.int .u32 2821834349), .lit (.int .u32 2952996808), .lit (.int .u32 3210313671), .lit (.int .u32 3336571891), .lit (.int .u32 3584528711), .lit (.int .u32 113926993), .lit (.int .u32 338241895), .lit (.int .u32 666307205), .lit (.int .u32 773529912), .lit (.int .u32 1294757372), .lit (.int .u32 1396182291), .lit (.int .u32 1695183700), .lit (.int .u32 1986661051), .lit (.int .u32 2177026350), .lit (.int .u32 2456956037), .lit (.int .u32 2730485921), .lit (.int .u32 2820302411), .lit (.int .u32 3259730800), .lit (.int .u32 3345764771), .lit (.int .u32 3516065817), .lit (.int .u32 3600352804), .lit (.int .u32 4094571909), .lit (.int .u32 275423344), .lit (.int .u32 430227734), .lit (.int .u32 506948616), .lit (.int .u32 659060556), .lit (.int .u32 883997877), .lit (.int .u32 958139571), .lit (.int .u32 1322822218), .lit (.int .u32 1537002063), .lit (.int .u32 1747873779), .lit (.int .u32 1955562222), .lit (.int .u32 2024104815), .lit (.int .u32 2227730452), .lit (.int .u32 2361852424), .lit (.int .u32 2428436474), .lit (.int .u32 2756734187), .lit (.int .u32 3204031479), .lit (.int .u32 3329325298)]

/-- 'lighteragelaw11.IndexGreat': WHATEVER THE INPUT: true; the input reads as it did. -/
def indexGreatSpec : ChangeSpec := { name := "indexGreat", fn := fun _ => fun
  | [d] => { results := [.lit (.bool true)], args := [d] }
  | _ => none }
def indexGreatRow : OpenClaim := { program := "ytdfahblgnbdndaadoor", sum := "b948402770587ca0c4650ca6c9ec4ce1bb2cae02475388e8e70a35dd05920c01", func := "lighterage/lighteragelaw11.IndexGreat", spec := "indexGreat", inPlace := ["sync/atomic.LoadUint32", "(*internal/sync.Mutex).Lock", "internal/race.Disable", "sync/atomic.CompareAndSwapInt32", "internal/race.Enable", "internal/race.Acquire", "(*internal/sync.Mutex).lockSlow", "internal/sync.runtime_canSpin", "internal/sync.runtime_doSpin", "internal/sync.throw", "internal/sync.runtime_nanotime", "internal/sync.runtime_SemacquireMutex", "sync/atomic.AddInt32", "(*internal/sync.Mutex).Unlock", "internal/race.ReleaseMerge", "(*internal/sync.Mutex).unlockSlow", "internal/sync.fatal", "internal/sync.runtime_Semrelease", "sync/atomic.StoreUint32"], unfollowed := true, recurses := true, named := ["lighterage/sha.roots"], apart := false, laid := [("lighterage/sha.roots", laid_lighterage_sha_roots)] }
def IndexGreatSaid : Prop := indexGreatRow.holds Tryd.pinned (OpenSpec.ofChange indexGreatSpec)

/-- ITS FALSE NEIGHBOUR: 'it returns false'. Refute it at one input. -/
def indexGreatWrong : ChangeSpec := { name := "indexGreat", fn := fun _ => fun
  | [d] => { results := [.lit (.bool false)], args := [d] }
  | _ => none }
def IndexGreatWrongFalsely : Prop := indexGreatRow.holds Tryd.pinned (OpenSpec.ofChange indexGreatWrong)

/-- 'lighteragelaw11.IndexMay': WHATEVER THE INPUT: true; the input reads as it did. -/
def indexMaySpec : ChangeSpec := { name := "indexMay", fn := fun _ => fun
  | [d1, d2, d3] => { results := [.lit (.bool true)], args := [d1, d2, d3] }
  | _ => none }
def indexMayRow : OpenClaim := { program := "ytdfahblgnbdndaadoor", sum := "b948402770587ca0c4650ca6c9ec4ce1bb2cae02475388e8e70a35dd05920c01", func := "lighterage/lighteragelaw11.IndexMay", spec := "indexMay", inPlace := ["sync/atomic.LoadUint32", "(*internal/sync.Mutex).Lock", "internal/race.Disable", "sync/atomic.CompareAndSwapInt32", "internal/race.Enable", "internal/race.Acquire", "(*internal/sync.Mutex).lockSlow", "internal/sync.runtime_canSpin", "internal/sync.runtime_doSpin", "internal/sync.throw", "internal/sync.runtime_nanotime", "internal/sync.runtime_SemacquireMutex", "sync/atomic.AddInt32", "(*internal/sync.Mutex).Unlock", "internal/race.ReleaseMerge", "(*internal/sync.Mutex).unlockSlow", "internal/sync.fatal", "internal/sync.runtime_Semrelease", "sync/atomic.StoreUint32"], unfollowed := true, recurses := true, named := ["lighterage/sha.roots"], apart := false, laid := [("lighterage/sha.roots", laid_lighterage_sha_roots)] }
def IndexMaySaid : Prop := indexMayRow.holds Tryd.pinned (OpenSpec.ofChange indexMaySpec)

/-- ITS FALSE NEIGHBOUR: 'it returns false'. Refute it at one input. -/
def indexMayWrong : ChangeSpec := { name := "indexMay", fn := fun _ => fun
  | [d1, d2, d3] => { results := [.lit (.bool false)], args := [d1, d2, d3] }
  | _ => none }
def IndexMayWrongFalsely : Prop := indexMayRow.holds Tryd.pinned (OpenSpec.ofChange indexMayWrong)

/-- 'lighteragelaw11.IndexOf': WHATEVER THE INPUT: true; the input reads as it did. -/
def indexOfSpec : ChangeSpec := { name := "indexOf", fn := fun _ => fun
  | [d1, d2, d3, d4] => { results := [.lit (.bool true)], args := [d1, d2, d3, d4] }
  | _ => none }
def indexOfRow : OpenClaim := { program := "ytdfahblgnbdndaadoor", sum := "b948402770587ca0c4650ca6c9ec4ce1bb2cae02475388e8e70a35dd05920c01", func := "lighterage/lighteragelaw11.IndexOf", spec := "indexOf", inPlace := ["sync/atomic.LoadUint32", "(*internal/sync.Mutex).Lock", "internal/race.Disable", "sync/atomic.CompareAndSwapInt32", "internal/race.Enable", "internal/race.Acquire", "(*internal/sync.Mutex).lockSlow", "internal/sync.runtime_canSpin", "internal/sync.runtime_doSpin", "internal/sync.throw", "internal/sync.runtime_nanotime", "internal/sync.runtime_SemacquireMutex", "sync/atomic.AddInt32", "(*internal/sync.Mutex).Unlock", "internal/race.ReleaseMerge", "(*internal/sync.Mutex).unlockSlow", "internal/sync.fatal", "internal/sync.runtime_Semrelease", "sync/atomic.StoreUint32"], unfollowed := true, recurses := true, named := ["lighterage/sha.roots"], apart := false, laid := [("lighterage/sha.roots", laid_lighterage_sha_roots)] }
def IndexOfSaid : Prop := indexOfRow.holds Tryd.pinned (OpenSpec.ofChange indexOfSpec)

/-- ITS FALSE NEIGHBOUR: 'it returns false'. Refute it at one input. -/
def indexOfWrong : ChangeSpec := { name := "indexOf", fn := fun _ => fun
  | [d1, d2, d3, d4] => { results := [.lit (.bool false)], args := [d1, d2, d3, d4] }
  | _ => none }
def IndexOfWrongFalsely : Prop := indexOfRow.holds Tryd.pinned (OpenSpec.ofChange indexOfWrong)

/-- 'lighteragelaw11.IndexSame': WHATEVER THE INPUT: true; the input reads as it did. -/
def indexSameSpec : ChangeSpec := { name := "indexSame", fn := fun _ => fun
  | [d1, d2] => { results := [.lit (.bool true)], args := [d1, d2] }
  | _ => none }
def indexSameRow : OpenClaim := { program := "ytdfahblgnbdndaadoor", sum := "b948402770587ca0c4650ca6c9ec4ce1bb2cae02475388e8e70a35dd05920c01", func := "lighterage/lighteragelaw11.IndexSame", spec := "indexSame", inPlace := ["sync/atomic.LoadUint32", "(*internal/sync.Mutex).Lock", "internal/race.Disable", "sync/atomic.CompareAndSwapInt32", "internal/race.Enable", "internal/race.Acquire", "(*internal/sync.Mutex).lockSlow", "internal/sync.runtime_canSpin", "internal/sync.runtime_doSpin", "internal/sync.throw", "internal/sync.runtime_nanotime", "internal/sync.runtime_SemacquireMutex", "sync/atomic.AddInt32", "(*internal/sync.Mutex).Unlock", "internal/race.ReleaseMerge", "(*internal/sync.Mutex).unlockSlow", "internal/sync.fatal", "internal/sync.runtime_Semrelease", "sync/atomic.StoreUint32"], unfollowed := true, recurses := true, named := ["lighterage/sha.roots"], apart := false, laid := [("lighterage/sha.roots", laid_lighterage_sha_roots)] }
def IndexSameSaid : Prop := indexSameRow.holds Tryd.pinned (OpenSpec.ofChange indexSameSpec)

/-- ITS FALSE NEIGHBOUR: 'it returns false'. Refute it at one input. -/
def indexSameWrong : ChangeSpec := { name := "indexSame", fn := fun _ => fun
  | [d1, d2] => { results := [.lit (.bool false)], args := [d1, d2] }
  | _ => none }
def IndexSameWrongFalsely : Prop := indexSameRow.holds Tryd.pinned (OpenSpec.ofChange indexSameWrong)

/-- 'lighteragelaw11.IndexReads': WHATEVER THE INPUT: true; the input reads as it did. -/
def indexReadsSpec : ChangeSpec := { name := "indexReads", fn := fun _ => fun
  | [d1, d2, d3, d4] => { results := [.lit (.bool true)], args := [d1, d2, d3, d4] }
  | _ => none }
def indexReadsRow : OpenClaim := { program := "ytdfahblgnbdndaadoor", sum := "b948402770587ca0c4650ca6c9ec4ce1bb2cae02475388e8e70a35dd05920c01", func := "lighterage/lighteragelaw11.IndexReads", spec := "indexReads", inPlace := ["sync/atomic.LoadUint32", "(*internal/sync.Mutex).Lock", "internal/race.Disable", "sync/atomic.CompareAndSwapInt32", "internal/race.Enable", "internal/race.Acquire", "(*internal/sync.Mutex).lockSlow", "internal/sync.runtime_canSpin", "internal/sync.runtime_doSpin", "internal/sync.throw", "internal/sync.runtime_nanotime", "internal/sync.runtime_SemacquireMutex", "sync/atomic.AddInt32", "(*internal/sync.Mutex).Unlock", "internal/race.ReleaseMerge", "(*internal/sync.Mutex).unlockSlow", "internal/sync.fatal", "internal/sync.runtime_Semrelease", "sync/atomic.StoreUint32"], unfollowed := true, recurses := true, named := ["lighterage/sha.roots"], apart := false, laid := [("lighterage/sha.roots", laid_lighterage_sha_roots)] }
def IndexReadsSaid : Prop := indexReadsRow.holds Tryd.pinned (OpenSpec.ofChange indexReadsSpec)

/-- ITS FALSE NEIGHBOUR: 'it returns false'. Refute it at one input. -/
def indexReadsWrong : ChangeSpec := { name := "indexReads", fn := fun _ => fun
  | [d1, d2, d3, d4] => { results := [.lit (.bool false)], args := [d1, d2, d3, d4] }
  | _ => none }
def IndexReadsWrongFalsely : Prop := indexReadsRow.holds Tryd.pinned (OpenSpec.ofChange indexReadsWrong)

/-- 'lighteragelaw11.IndexRound': WHATEVER THE INPUT: true; the input reads as it did. -/
def indexRoundSpec : ChangeSpec := { name := "indexRound", fn := fun _ => fun
  | [d1, d2] => { results := [.lit (.bool true)], args := [d1, d2] }
  | _ => none }
def indexRoundRow : OpenClaim := { program := "ytdfahblgnbdndaadoor", sum := "b948402770587ca0c4650ca6c9ec4ce1bb2cae02475388e8e70a35dd05920c01", func := "lighterage/lighteragelaw11.IndexRound", spec := "indexRound", inPlace := ["sync/atomic.LoadUint32", "(*internal/sync.Mutex).Lock", "internal/race.Disable", "sync/atomic.CompareAndSwapInt32", "internal/race.Enable", "internal/race.Acquire", "(*internal/sync.Mutex).lockSlow", "internal/sync.runtime_canSpin", "internal/sync.runtime_doSpin", "internal/sync.throw", "internal/sync.runtime_nanotime", "internal/sync.runtime_SemacquireMutex", "sync/atomic.AddInt32", "(*internal/sync.Mutex).Unlock", "internal/race.ReleaseMerge", "(*internal/sync.Mutex).unlockSlow", "internal/sync.fatal", "internal/sync.runtime_Semrelease", "sync/atomic.StoreUint32"], unfollowed := true, recurses := true, named := ["lighterage/sha.roots"], apart := false, laid := [("lighterage/sha.roots", laid_lighterage_sha_roots)] }
def IndexRoundSaid : Prop := indexRoundRow.holds Tryd.pinned (OpenSpec.ofChange indexRoundSpec)

/-- ITS FALSE NEIGHBOUR: 'it returns false'. Refute it at one input. -/
def indexRoundWrong : ChangeSpec := { name := "indexRound", fn := fun _ => fun
  | [d1, d2] => { results := [.lit (.bool false)], args := [d1, d2] }
  | _ => none }
def IndexRoundWrongFalsely : Prop := indexRoundRow.holds Tryd.pinned (OpenSpec.ofChange indexRoundWrong)

/-- 'lighteragelaw11.IndexNames': WHATEVER THE INPUT: true; the input reads as it did. -/
def indexNamesSpec : ChangeSpec := { name := "indexNames", fn := fun _ => fun
  | [d] => { results := [.lit (.bool true)], args := [d] }
  | _ => none }
def indexNamesRow : OpenClaim := { program := "ytdfahblgnbdndaadoor", sum := "b948402770587ca0c4650ca6c9ec4ce1bb2cae02475388e8e70a35dd05920c01", func := "lighterage/lighteragelaw11.IndexNames", spec := "indexNames", inPlace := ["internal/bytealg.Compare", "sync/atomic.LoadUint32", "(*internal/sync.Mutex).Lock", "internal/race.Disable", "sync/atomic.CompareAndSwapInt32", "internal/race.Enable", "internal/race.Acquire", "(*internal/sync.Mutex).lockSlow", "internal/sync.runtime_canSpin", "internal/sync.runtime_doSpin", "internal/sync.throw", "internal/sync.runtime_nanotime", "internal/sync.runtime_SemacquireMutex", "sync/atomic.AddInt32", "(*internal/sync.Mutex).Unlock", "internal/race.ReleaseMerge", "(*internal/sync.Mutex).unlockSlow", "internal/sync.fatal", "internal/sync.runtime_Semrelease", "sync/atomic.StoreUint32"], unfollowed := true, recurses := true, named := ["lighterage/sha.roots"], apart := false, laid := [("lighterage/sha.roots", laid_lighterage_sha_roots)] }
def IndexNamesSaid : Prop := indexNamesRow.holds Tryd.pinned (OpenSpec.ofChange indexNamesSpec)

/-- ITS FALSE NEIGHBOUR: 'it returns false'. Refute it at one input. -/
def indexNamesWrong : ChangeSpec := { name := "indexNames", fn := fun _ => fun
  | [d] => { results := [.lit (.bool false)], args := [d] }
  | _ => none }
def IndexNamesWrongFalsely : Prop := indexNamesRow.holds Tryd.pinned (OpenSpec.ofChange indexNamesWrong)

/- THE SECOND FORM. 'bulk': how many values and letters a reading holds, each counted each time it is reached (what is shared counts as often as it is met; a slice's spare places count too). A statement '..UptoSaid' is the law's where the arguments, and the package variables that the reading takes, are together of bulk at most 1048576: NARROWER than '..Said'. Prove '..Said' where nothing that the law and all that it calls make is longer than what came in: it says more and counts as full. Else prove '..UptoSaid'. A law counts once. -/
mutual
def uptoBulk {H : Type} : DataW H → Nat
  | .lit (.string bytes) => bytes.length + 1
  | .lit _ => 1
  | .nil => 1
  | .ptr d => uptoBulk d + 1
  | .slice elems spare => uptoBulkAll elems + uptoBulkAll spare + 1
  | .agg parts => uptoBulkAll parts + 1
  | .iface _ d => uptoBulk d + 1
  | .map entries => uptoBulkEntries entries + 1
  | .held _ => 1
def uptoBulkAll {H : Type} : List (DataW H) → Nat
  | [] => 0
  | d :: r => uptoBulk d + uptoBulkAll r
def uptoBulkEntries {H : Type} : List (Lit × DataW H) → Nat
  | [] => 0
  | x :: r => uptoBulkEntry x + uptoBulkEntries r
def uptoBulkEntry {H : Type} : Lit × DataW H → Nat
  | (.string bytes, d) => bytes.length + uptoBulk d + 1
  | (_, d) => uptoBulk d + 1
 end
def uptoSmall : (H : Type) → List (DataW H) → Bool := fun _ ds => decide (uptoBulkAll ds ≤ 1048576)
def OpenSpec.upto (s : _root_.Go.ChangeSpec) : _root_.Go.OpenSpec := { _root_.Go.OpenSpec.ofChange s with cond := some uptoSmall }

/-- 'lighteragelaw11.IndexGreat', WHERE WHAT IT READS IS OF BULK AT MOST 1048576: true; the input reads as it did. -/
def indexGreatUptoRow : OpenClaim := { program := "ytdfahblgnbdndaadoor", sum := "b948402770587ca0c4650ca6c9ec4ce1bb2cae02475388e8e70a35dd05920c01", func := "lighterage/lighteragelaw11.IndexGreat", spec := "indexGreat", inPlace := ["sync/atomic.LoadUint32", "(*internal/sync.Mutex).Lock", "internal/race.Disable", "sync/atomic.CompareAndSwapInt32", "internal/race.Enable", "internal/race.Acquire", "(*internal/sync.Mutex).lockSlow", "internal/sync.runtime_canSpin", "internal/sync.runtime_doSpin", "internal/sync.throw", "internal/sync.runtime_nanotime", "internal/sync.runtime_SemacquireMutex", "sync/atomic.AddInt32", "(*internal/sync.Mutex).Unlock", "internal/race.ReleaseMerge", "(*internal/sync.Mutex).unlockSlow", "internal/sync.fatal", "internal/sync.runtime_Semrelease", "sync/atomic.StoreUint32"], unfollowed := true, recurses := true, named := ["lighterage/sha.roots"], apart := false, laid := [("lighterage/sha.roots", laid_lighterage_sha_roots)], narrowed := true }
def IndexGreatUptoSaid : Prop := indexGreatUptoRow.holds Tryd.pinned (OpenSpec.upto indexGreatSpec)

/-- 'lighteragelaw11.IndexMay', WHERE WHAT IT READS IS OF BULK AT MOST 1048576: true; the input reads as it did. -/
def indexMayUptoRow : OpenClaim := { program := "ytdfahblgnbdndaadoor", sum := "b948402770587ca0c4650ca6c9ec4ce1bb2cae02475388e8e70a35dd05920c01", func := "lighterage/lighteragelaw11.IndexMay", spec := "indexMay", inPlace := ["sync/atomic.LoadUint32", "(*internal/sync.Mutex).Lock", "internal/race.Disable", "sync/atomic.CompareAndSwapInt32", "internal/race.Enable", "internal/race.Acquire", "(*internal/sync.Mutex).lockSlow", "internal/sync.runtime_canSpin", "internal/sync.runtime_doSpin", "internal/sync.throw", "internal/sync.runtime_nanotime", "internal/sync.runtime_SemacquireMutex", "sync/atomic.AddInt32", "(*internal/sync.Mutex).Unlock", "internal/race.ReleaseMerge", "(*internal/sync.Mutex).unlockSlow", "internal/sync.fatal", "internal/sync.runtime_Semrelease", "sync/atomic.StoreUint32"], unfollowed := true, recurses := true, named := ["lighterage/sha.roots"], apart := false, laid := [("lighterage/sha.roots", laid_lighterage_sha_roots)], narrowed := true }
def IndexMayUptoSaid : Prop := indexMayUptoRow.holds Tryd.pinned (OpenSpec.upto indexMaySpec)

/-- 'lighteragelaw11.IndexOf', WHERE WHAT IT READS IS OF BULK AT MOST 1048576: true; the input reads as it did. -/
def indexOfUptoRow : OpenClaim := { program := "ytdfahblgnbdndaadoor", sum := "b948402770587ca0c4650ca6c9ec4ce1bb2cae02475388e8e70a35dd05920c01", func := "lighterage/lighteragelaw11.IndexOf", spec := "indexOf", inPlace := ["sync/atomic.LoadUint32", "(*internal/sync.Mutex).Lock", "internal/race.Disable", "sync/atomic.CompareAndSwapInt32", "internal/race.Enable", "internal/race.Acquire", "(*internal/sync.Mutex).lockSlow", "internal/sync.runtime_canSpin", "internal/sync.runtime_doSpin", "internal/sync.throw", "internal/sync.runtime_nanotime", "internal/sync.runtime_SemacquireMutex", "sync/atomic.AddInt32", "(*internal/sync.Mutex).Unlock", "internal/race.ReleaseMerge", "(*internal/sync.Mutex).unlockSlow", "internal/sync.fatal", "internal/sync.runtime_Semrelease", "sync/atomic.StoreUint32"], unfollowed := true, recurses := true, named := ["lighterage/sha.roots"], apart := false, laid := [("lighterage/sha.roots", laid_lighterage_sha_roots)], narrowed := true }
def IndexOfUptoSaid : Prop := indexOfUptoRow.holds Tryd.pinned (OpenSpec.upto indexOfSpec)

/-- 'lighteragelaw11.IndexSame', WHERE WHAT IT READS IS OF BULK AT MOST 1048576: true; the input reads as it did. -/
def indexSameUptoRow : OpenClaim := { program := "ytdfahblgnbdndaadoor", sum := "b948402770587ca0c4650ca6c9ec4ce1bb2cae02475388e8e70a35dd05920c01", func := "lighterage/lighteragelaw11.IndexSame", spec := "indexSame", inPlace := ["sync/atomic.LoadUint32", "(*internal/sync.Mutex).Lock", "internal/race.Disable", "sync/atomic.CompareAndSwapInt32", "internal/race.Enable", "internal/race.Acquire", "(*internal/sync.Mutex).lockSlow", "internal/sync.runtime_canSpin", "internal/sync.runtime_doSpin", "internal/sync.throw", "internal/sync.runtime_nanotime", "internal/sync.runtime_SemacquireMutex", "sync/atomic.AddInt32", "(*internal/sync.Mutex).Unlock", "internal/race.ReleaseMerge", "(*internal/sync.Mutex).unlockSlow", "internal/sync.fatal", "internal/sync.runtime_Semrelease", "sync/atomic.StoreUint32"], unfollowed := true, recurses := true, named := ["lighterage/sha.roots"], apart := false, laid := [("lighterage/sha.roots", laid_lighterage_sha_roots)], narrowed := true }
def IndexSameUptoSaid : Prop := indexSameUptoRow.holds Tryd.pinned (OpenSpec.upto indexSameSpec)

/-- 'lighteragelaw11.IndexReads', WHERE WHAT IT READS IS OF BULK AT MOST 1048576: true; the input reads as it did. -/
def indexReadsUptoRow : OpenClaim := { program := "ytdfahblgnbdndaadoor", sum := "b948402770587ca0c4650ca6c9ec4ce1bb2cae02475388e8e70a35dd05920c01", func := "lighterage/lighteragelaw11.IndexReads", spec := "indexReads", inPlace := ["sync/atomic.LoadUint32", "(*internal/sync.Mutex).Lock", "internal/race.Disable", "sync/atomic.CompareAndSwapInt32", "internal/race.Enable", "internal/race.Acquire", "(*internal/sync.Mutex).lockSlow", "internal/sync.runtime_canSpin", "internal/sync.runtime_doSpin", "internal/sync.throw", "internal/sync.runtime_nanotime", "internal/sync.runtime_SemacquireMutex", "sync/atomic.AddInt32", "(*internal/sync.Mutex).Unlock", "internal/race.ReleaseMerge", "(*internal/sync.Mutex).unlockSlow", "internal/sync.fatal", "internal/sync.runtime_Semrelease", "sync/atomic.StoreUint32"], unfollowed := true, recurses := true, named := ["lighterage/sha.roots"], apart := false, laid := [("lighterage/sha.roots", laid_lighterage_sha_roots)], narrowed := true }
def IndexReadsUptoSaid : Prop := indexReadsUptoRow.holds Tryd.pinned (OpenSpec.upto indexReadsSpec)

/-- 'lighteragelaw11.IndexRound', WHERE WHAT IT READS IS OF BULK AT MOST 1048576: true; the input reads as it did. -/
def indexRoundUptoRow : OpenClaim := { program := "ytdfahblgnbdndaadoor", sum := "b948402770587ca0c4650ca6c9ec4ce1bb2cae02475388e8e70a35dd05920c01", func := "lighterage/lighteragelaw11.IndexRound", spec := "indexRound", inPlace := ["sync/atomic.LoadUint32", "(*internal/sync.Mutex).Lock", "internal/race.Disable", "sync/atomic.CompareAndSwapInt32", "internal/race.Enable", "internal/race.Acquire", "(*internal/sync.Mutex).lockSlow", "internal/sync.runtime_canSpin", "internal/sync.runtime_doSpin", "internal/sync.throw", "internal/sync.runtime_nanotime", "internal/sync.runtime_SemacquireMutex", "sync/atomic.AddInt32", "(*internal/sync.Mutex).Unlock", "internal/race.ReleaseMerge", "(*internal/sync.Mutex).unlockSlow", "internal/sync.fatal", "internal/sync.runtime_Semrelease", "sync/atomic.StoreUint32"], unfollowed := true, recurses := true, named := ["lighterage/sha.roots"], apart := false, laid := [("lighterage/sha.roots", laid_lighterage_sha_roots)], narrowed := true }
def IndexRoundUptoSaid : Prop := indexRoundUptoRow.holds Tryd.pinned (OpenSpec.upto indexRoundSpec)

/-- 'lighteragelaw11.IndexNames', WHERE WHAT IT READS IS OF BULK AT MOST 1048576: true; the input reads as it did. -/
def indexNamesUptoRow : OpenClaim := { program := "ytdfahblgnbdndaadoor", sum := "b948402770587ca0c4650ca6c9ec4ce1bb2cae02475388e8e70a35dd05920c01", func := "lighterage/lighteragelaw11.IndexNames", spec := "indexNames", inPlace := ["internal/bytealg.Compare", "sync/atomic.LoadUint32", "(*internal/sync.Mutex).Lock", "internal/race.Disable", "sync/atomic.CompareAndSwapInt32", "internal/race.Enable", "internal/race.Acquire", "(*internal/sync.Mutex).lockSlow", "internal/sync.runtime_canSpin", "internal/sync.runtime_doSpin", "internal/sync.throw", "internal/sync.runtime_nanotime", "internal/sync.runtime_SemacquireMutex", "sync/atomic.AddInt32", "(*internal/sync.Mutex).Unlock", "internal/race.ReleaseMerge", "(*internal/sync.Mutex).unlockSlow", "internal/sync.fatal", "internal/sync.runtime_Semrelease", "sync/atomic.StoreUint32"], unfollowed := true, recurses := true, named := ["lighterage/sha.roots"], apart := false, laid := [("lighterage/sha.roots", laid_lighterage_sha_roots)], narrowed := true }
def IndexNamesUptoSaid : Prop := indexNamesUptoRow.holds Tryd.pinned (OpenSpec.upto indexNamesSpec)

end Rows
end Go.Proofs.YtdfahblgnbdndaaDoor
