/-
  No cell of these rows narrows 'for every input' (looked for: loops, veiled, ifaces, maps, wideKeys, modest, calm, conditions, laid).
  DERIVED. THE GIVEN ROWS OF THIS SEAT. 6 by the template 'for every input the law returns true; each argument reads behind the call as it read before'; 0 by the template 'total and deterministic' (their statements: YtjofeklfpobemaaTotals.lean).
  GIVEN WITH THE SEED: the statements are not yours to turn. If you find one false, say at which input.
  Laid BY PROGRAM, IN A SANDBOX (cutbox-rows.mjs): the forced cells as the released guide's own fill.sh prints them over the translation e2008d0b032bb12c… (all of the seat's roots in one cut). By AI agents, Wed Nov 11 2026. No macro, syntax, notation, axiom, sorry.
-/
import Derived.Test.YtjofeklfpobemaaChecked
import GoSem.Claim
import GoSem.ClaimJoined
import GoSem.ClaimMapViews
import Derived.JoinedTies
import Derived.KernelRfl
namespace Go.Proofs.Ytjofeklfpobemaa
/- THE CELL 'sum', in the pinned program and in every row, IS THE sha256 OF THE DUMP (.gsa) THAT YtjofeklfpobemaaProg.lean LOADS. Nothing in Lean hashes anything: it is a label: what it is worth is what the hold of that sum in a sandbox is worth. -/
noncomputable def Try.pinned : Pinned := { name := "ytjofeklfpobemaa", sum := "e2008d0b032bb12cafc579a4af0e37e0677d269bc71e2cffdf8ba49a95a3d73e", checked := Try.checked }
namespace Rows
def none {H : Type} : Left H := { results := [], args := [] }

/-- 'lighteragelaw03.CrcSums': WHATEVER THE INPUT: true; the input reads as it did. -/
def crcSumsSpec : ChangeSpec := { name := "crcSums", fn := fun _ => fun
  | [d1, d2] => { results := [.lit (.bool true)], args := [d1, d2] }
  | _ => none }
def crcSumsRow : OpenClaim := { program := "ytjofeklfpobemaa", sum := "e2008d0b032bb12cafc579a4af0e37e0677d269bc71e2cffdf8ba49a95a3d73e", func := "lighterage/lighteragelaw03.CrcSums", spec := "crcSums", unfollowed := true, recurses := true, apart := false }
def CrcSumsSaid : Prop := crcSumsRow.holds Try.pinned (OpenSpec.ofChange crcSumsSpec)

/-- ITS FALSE NEIGHBOUR: 'it returns false'. Refute it at one input. -/
def crcSumsWrong : ChangeSpec := { name := "crcSums", fn := fun _ => fun
  | [d1, d2] => { results := [.lit (.bool false)], args := [d1, d2] }
  | _ => none }
def CrcSumsWrongFalsely : Prop := crcSumsRow.holds Try.pinned (OpenSpec.ofChange crcSumsWrong)

/-- 'lighteragelaw03.CrcDiffers': WHATEVER THE INPUT: true; the input reads as it did. -/
def crcDiffersSpec : ChangeSpec := { name := "crcDiffers", fn := fun _ => fun
  | [d1, d2, d3] => { results := [.lit (.bool true)], args := [d1, d2, d3] }
  | _ => none }
def crcDiffersRow : OpenClaim := { program := "ytjofeklfpobemaa", sum := "e2008d0b032bb12cafc579a4af0e37e0677d269bc71e2cffdf8ba49a95a3d73e", func := "lighterage/lighteragelaw03.CrcDiffers", spec := "crcDiffers", unfollowed := true, recurses := true, apart := false }
def CrcDiffersSaid : Prop := crcDiffersRow.holds Try.pinned (OpenSpec.ofChange crcDiffersSpec)

/-- ITS FALSE NEIGHBOUR: 'it returns false'. Refute it at one input. -/
def crcDiffersWrong : ChangeSpec := { name := "crcDiffers", fn := fun _ => fun
  | [d1, d2, d3] => { results := [.lit (.bool false)], args := [d1, d2, d3] }
  | _ => none }
def CrcDiffersWrongFalsely : Prop := crcDiffersRow.holds Try.pinned (OpenSpec.ofChange crcDiffersWrong)

/-- 'lighteragelaw03.CrcJoins': WHATEVER THE INPUT: true; the input reads as it did. -/
def crcJoinsSpec : ChangeSpec := { name := "crcJoins", fn := fun _ => fun
  | [d1, d2] => { results := [.lit (.bool true)], args := [d1, d2] }
  | _ => none }
def crcJoinsRow : OpenClaim := { program := "ytjofeklfpobemaa", sum := "e2008d0b032bb12cafc579a4af0e37e0677d269bc71e2cffdf8ba49a95a3d73e", func := "lighterage/lighteragelaw03.CrcJoins", spec := "crcJoins", unfollowed := true, recurses := true, apart := false }
def CrcJoinsSaid : Prop := crcJoinsRow.holds Try.pinned (OpenSpec.ofChange crcJoinsSpec)

/-- ITS FALSE NEIGHBOUR: 'it returns false'. Refute it at one input. -/
def crcJoinsWrong : ChangeSpec := { name := "crcJoins", fn := fun _ => fun
  | [d1, d2] => { results := [.lit (.bool false)], args := [d1, d2] }
  | _ => none }
def CrcJoinsWrongFalsely : Prop := crcJoinsRow.holds Try.pinned (OpenSpec.ofChange crcJoinsWrong)

/-- 'lighteragelaw03.CrcChains': WHATEVER THE INPUT: true; the input reads as it did. -/
def crcChainsSpec : ChangeSpec := { name := "crcChains", fn := fun _ => fun
  | [d1, d2, d3] => { results := [.lit (.bool true)], args := [d1, d2, d3] }
  | _ => none }
def crcChainsRow : OpenClaim := { program := "ytjofeklfpobemaa", sum := "e2008d0b032bb12cafc579a4af0e37e0677d269bc71e2cffdf8ba49a95a3d73e", func := "lighterage/lighteragelaw03.CrcChains", spec := "crcChains", unfollowed := true, recurses := true, apart := false }
def CrcChainsSaid : Prop := crcChainsRow.holds Try.pinned (OpenSpec.ofChange crcChainsSpec)

/-- ITS FALSE NEIGHBOUR: 'it returns false'. Refute it at one input. -/
def crcChainsWrong : ChangeSpec := { name := "crcChains", fn := fun _ => fun
  | [d1, d2, d3] => { results := [.lit (.bool false)], args := [d1, d2, d3] }
  | _ => none }
def CrcChainsWrongFalsely : Prop := crcChainsRow.holds Try.pinned (OpenSpec.ofChange crcChainsWrong)

/-- 'lighteragelaw03.CrcTakes': WHATEVER THE INPUT: true; the input reads as it did. -/
def crcTakesSpec : ChangeSpec := { name := "crcTakes", fn := fun _ => fun
  | [d1, d2, d3] => { results := [.lit (.bool true)], args := [d1, d2, d3] }
  | _ => none }
def crcTakesRow : OpenClaim := { program := "ytjofeklfpobemaa", sum := "e2008d0b032bb12cafc579a4af0e37e0677d269bc71e2cffdf8ba49a95a3d73e", func := "lighterage/lighteragelaw03.CrcTakes", spec := "crcTakes", unfollowed := true, recurses := true, apart := false }
def CrcTakesSaid : Prop := crcTakesRow.holds Try.pinned (OpenSpec.ofChange crcTakesSpec)

/-- ITS FALSE NEIGHBOUR: 'it returns false'. Refute it at one input. -/
def crcTakesWrong : ChangeSpec := { name := "crcTakes", fn := fun _ => fun
  | [d1, d2, d3] => { results := [.lit (.bool false)], args := [d1, d2, d3] }
  | _ => none }
def CrcTakesWrongFalsely : Prop := crcTakesRow.holds Try.pinned (OpenSpec.ofChange crcTakesWrong)

/-- 'lighteragelaw03.CrcTurns': WHATEVER THE INPUT: true; the input reads as it did. -/
def crcTurnsSpec : ChangeSpec := { name := "crcTurns", fn := fun _ => fun
  | [d1, d2, d3] => { results := [.lit (.bool true)], args := [d1, d2, d3] }
  | _ => none }
def crcTurnsRow : OpenClaim := { program := "ytjofeklfpobemaa", sum := "e2008d0b032bb12cafc579a4af0e37e0677d269bc71e2cffdf8ba49a95a3d73e", func := "lighterage/lighteragelaw03.CrcTurns", spec := "crcTurns", unfollowed := true, recurses := true, apart := false }
def CrcTurnsSaid : Prop := crcTurnsRow.holds Try.pinned (OpenSpec.ofChange crcTurnsSpec)

/-- ITS FALSE NEIGHBOUR: 'it returns false'. Refute it at one input. -/
def crcTurnsWrong : ChangeSpec := { name := "crcTurns", fn := fun _ => fun
  | [d1, d2, d3] => { results := [.lit (.bool false)], args := [d1, d2, d3] }
  | _ => none }
def CrcTurnsWrongFalsely : Prop := crcTurnsRow.holds Try.pinned (OpenSpec.ofChange crcTurnsWrong)

/- THE SECOND FORM. 'bulk': how many values and letters a reading holds, each counted each time it is reached (what is shared counts as often as it is met; a slice's spare places count too). A statement '..UptoSaid' is the law's where the arguments, and the package variables that the reading takes, are together of bulk at most 1048576: NARROWER than '..Said'. Prove '..Said' where nothing that the law and all that it calls make is longer than what came in: it says more and counts as full. Else prove '..UptoSaid'. A law counts once. -/
mutual
def uptoBulk {H : Type} : DataW H → Nat
  | .lit (.string bytes) => bytes.length + 1
  | .lit _ => 1
  | .nil => 1
  | .ptr d => uptoBulk d + 1
  | .slice elems spare => uptoBulkAll elems + uptoBulkAll spare + 1
  | .agg parts => uptoBulkAll parts + 1
  | .iface _ d => uptoBulk d + 1
  | .map entries => uptoBulkEntries entries + 1
  | .held _ => 1
def uptoBulkAll {H : Type} : List (DataW H) → Nat
  | [] => 0
  | d :: r => uptoBulk d + uptoBulkAll r
def uptoBulkEntries {H : Type} : List (Lit × DataW H) → Nat
  | [] => 0
  | x :: r => uptoBulkEntry x + uptoBulkEntries r
def uptoBulkEntry {H : Type} : Lit × DataW H → Nat
  | (.string bytes, d) => bytes.length + uptoBulk d + 1
  | (_, d) => uptoBulk d + 1
 end
def uptoSmall : (H : Type) → List (DataW H) → Bool := fun _ ds => decide (uptoBulkAll ds ≤ 1048576)
def OpenSpec.upto (s : _root_.Go.ChangeSpec) : _root_.Go.OpenSpec := { _root_.Go.OpenSpec.ofChange s with cond := some uptoSmall }

/-- 'lighteragelaw03.CrcSums', WHERE WHAT IT READS IS OF BULK AT MOST 1048576: true; the input reads as it did. -/
def crcSumsUptoRow : OpenClaim := { program := "ytjofeklfpobemaa", sum := "e2008d0b032bb12cafc579a4af0e37e0677d269bc71e2cffdf8ba49a95a3d73e", func := "lighterage/lighteragelaw03.CrcSums", spec := "crcSums", unfollowed := true, recurses := true, apart := false, narrowed := true }
def CrcSumsUptoSaid : Prop := crcSumsUptoRow.holds Try.pinned (OpenSpec.upto crcSumsSpec)

/-- 'lighteragelaw03.CrcDiffers', WHERE WHAT IT READS IS OF BULK AT MOST 1048576: true; the input reads as it did. -/
def crcDiffersUptoRow : OpenClaim := { program := "ytjofeklfpobemaa", sum := "e2008d0b032bb12cafc579a4af0e37e0677d269bc71e2cffdf8ba49a95a3d73e", func := "lighterage/lighteragelaw03.CrcDiffers", spec := "crcDiffers", unfollowed := true, recurses := true, apart := false, narrowed := true }
def CrcDiffersUptoSaid : Prop := crcDiffersUptoRow.holds Try.pinned (OpenSpec.upto crcDiffersSpec)

/-- 'lighteragelaw03.CrcJoins', WHERE WHAT IT READS IS OF BULK AT MOST 1048576: true; the input reads as it did. -/
def crcJoinsUptoRow : OpenClaim := { program := "ytjofeklfpobemaa", sum := "e2008d0b032bb12cafc579a4af0e37e0677d269bc71e2cffdf8ba49a95a3d73e", func := "lighterage/lighteragelaw03.CrcJoins", spec := "crcJoins", unfollowed := true, recurses := true, apart := false, narrowed := true }
def CrcJoinsUptoSaid : Prop := crcJoinsUptoRow.holds Try.pinned (OpenSpec.upto crcJoinsSpec)

/-- 'lighteragelaw03.CrcChains', WHERE WHAT IT READS IS OF BULK AT MOST 1048576: true; the input reads as it did. -/
def crcChainsUptoRow : OpenClaim := { program := "ytjofeklfpobemaa", sum := "e2008d0b032bb12cafc579a4af0e37e0677d269bc71e2cffdf8ba49a95a3d73e", func := "lighterage/lighteragelaw03.CrcChains", spec := "crcChains", unfollowed := true, recurses := true, apart := false, narrowed := true }
def CrcChainsUptoSaid : Prop := crcChainsUptoRow.holds Try.pinned (OpenSpec.upto crcChainsSpec)

/-- 'lighteragelaw03.CrcTakes', WHERE WHAT IT READS IS OF BULK AT MOST 1048576: true; the input reads as it did. -/
def crcTakesUptoRow : OpenClaim := { program := "ytjofeklfpobemaa", sum := "e2008d0b032bb12cafc579a4af0e37e0677d269bc71e2cffdf8ba49a95a3d73e", func := "lighterage/lighteragelaw03.CrcTakes", spec := "crcTakes", unfollowed := true, recurses := true, apart := false, narrowed := true }
def CrcTakesUptoSaid : Prop := crcTakesUptoRow.holds Try.pinned (OpenSpec.upto crcTakesSpec)

/-- 'lighteragelaw03.CrcTurns', WHERE WHAT IT READS IS OF BULK AT MOST 1048576: true; the input reads as it did. -/
def crcTurnsUptoRow : OpenClaim := { program := "ytjofeklfpobemaa", sum := "e2008d0b032bb12cafc579a4af0e37e0677d269bc71e2cffdf8ba49a95a3d73e", func := "lighterage/lighteragelaw03.CrcTurns", spec := "crcTurns", unfollowed := true, recurses := true, apart := false, narrowed := true }
def CrcTurnsUptoSaid : Prop := crcTurnsUptoRow.holds Try.pinned (OpenSpec.upto crcTurnsSpec)

end Rows
end Go.Proofs.Ytjofeklfpobemaa
