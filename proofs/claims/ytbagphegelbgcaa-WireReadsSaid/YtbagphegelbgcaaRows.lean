/-
  No cell of these rows narrows 'for every input' (looked for: loops, veiled, ifaces, maps, wideKeys, modest, calm, conditions, laid).
  DERIVED. THE GIVEN ROWS OF THIS SEAT. 6 by the template 'for every input the law returns true; each argument reads behind the call as it read before'; 0 by the template 'total and deterministic' (their statements: YtbagphegelbgcaaTotals.lean).
  GIVEN WITH THE SEED: the statements are not yours to turn. If you find one false, say at which input.
  Laid BY PROGRAM, IN A SANDBOX (cutbox-rows.mjs): the forced cells as the released guide's own fill.sh prints them over the translation a6c1cba5c5775d0a… (all of the seat's roots in one cut). By AI agents, Wed Nov 11 2026. No macro, syntax, notation, axiom, sorry.
-/
import Derived.Test.YtbagphegelbgcaaChecked
import GoSem.Claim
import GoSem.ClaimJoined
import GoSem.ClaimMapViews
import Derived.JoinedTies
import Derived.KernelRfl
namespace Go.Proofs.Ytbagphegelbgcaa
/- THE CELL 'sum', in the pinned program and in every row, IS THE sha256 OF THE DUMP (.gsa) THAT YtbagphegelbgcaaProg.lean LOADS. Nothing in Lean hashes anything: it is a label: what it is worth is what the hold of that sum in a sandbox is worth. -/
noncomputable def Try.pinned : Pinned := { name := "ytbagphegelbgcaa", sum := "a6c1cba5c5775d0a91f774232285b574d11805921a22fb2c5e8edd7fb442c6f2", checked := Try.checked }
namespace Rows
def none {H : Type} : Left H := { results := [], args := [] }

/-- 'lighteragelaw18.WireMay': WHATEVER THE INPUT: true; the input reads as it did. -/
def wireMaySpec : ChangeSpec := { name := "wireMay", fn := fun _ => fun
  | [d1, d2, d3, d4] => { results := [.lit (.bool true)], args := [d1, d2, d3, d4] }
  | _ => none }
def wireMayRow : OpenClaim := { program := "ytbagphegelbgcaa", sum := "a6c1cba5c5775d0a91f774232285b574d11805921a22fb2c5e8edd7fb442c6f2", func := "lighterage/lighteragelaw18.WireMay", spec := "wireMay", unfollowed := true, recurses := true, apart := false }
def WireMaySaid : Prop := wireMayRow.holds Try.pinned (OpenSpec.ofChange wireMaySpec)

/-- ITS FALSE NEIGHBOUR: 'it returns false'. Refute it at one input. -/
def wireMayWrong : ChangeSpec := { name := "wireMay", fn := fun _ => fun
  | [d1, d2, d3, d4] => { results := [.lit (.bool false)], args := [d1, d2, d3, d4] }
  | _ => none }
def WireMayWrongFalsely : Prop := wireMayRow.holds Try.pinned (OpenSpec.ofChange wireMayWrong)

/-- 'lighteragelaw18.WireSame': WHATEVER THE INPUT: true; the input reads as it did. -/
def wireSameSpec : ChangeSpec := { name := "wireSame", fn := fun _ => fun
  | [d1, d2] => { results := [.lit (.bool true)], args := [d1, d2] }
  | _ => none }
def wireSameRow : OpenClaim := { program := "ytbagphegelbgcaa", sum := "a6c1cba5c5775d0a91f774232285b574d11805921a22fb2c5e8edd7fb442c6f2", func := "lighterage/lighteragelaw18.WireSame", spec := "wireSame", unfollowed := true, recurses := true, apart := false }
def WireSameSaid : Prop := wireSameRow.holds Try.pinned (OpenSpec.ofChange wireSameSpec)

/-- ITS FALSE NEIGHBOUR: 'it returns false'. Refute it at one input. -/
def wireSameWrong : ChangeSpec := { name := "wireSame", fn := fun _ => fun
  | [d1, d2] => { results := [.lit (.bool false)], args := [d1, d2] }
  | _ => none }
def WireSameWrongFalsely : Prop := wireSameRow.holds Try.pinned (OpenSpec.ofChange wireSameWrong)

/-- 'lighteragelaw18.WireAnswers': WHATEVER THE INPUT: true; the input reads as it did. -/
def wireAnswersSpec : ChangeSpec := { name := "wireAnswers", fn := fun _ => fun
  | [d1, d2, d3] => { results := [.lit (.bool true)], args := [d1, d2, d3] }
  | _ => none }
def wireAnswersRow : OpenClaim := { program := "ytbagphegelbgcaa", sum := "a6c1cba5c5775d0a91f774232285b574d11805921a22fb2c5e8edd7fb442c6f2", func := "lighterage/lighteragelaw18.WireAnswers", spec := "wireAnswers", unfollowed := true, recurses := true, apart := false }
def WireAnswersSaid : Prop := wireAnswersRow.holds Try.pinned (OpenSpec.ofChange wireAnswersSpec)

/-- ITS FALSE NEIGHBOUR: 'it returns false'. Refute it at one input. -/
def wireAnswersWrong : ChangeSpec := { name := "wireAnswers", fn := fun _ => fun
  | [d1, d2, d3] => { results := [.lit (.bool false)], args := [d1, d2, d3] }
  | _ => none }
def WireAnswersWrongFalsely : Prop := wireAnswersRow.holds Try.pinned (OpenSpec.ofChange wireAnswersWrong)

/-- 'lighteragelaw18.WireReads': WHATEVER THE INPUT: true; the input reads as it did. -/
def wireReadsSpec : ChangeSpec := { name := "wireReads", fn := fun _ => fun
  | [d1, d2, d3, d4] => { results := [.lit (.bool true)], args := [d1, d2, d3, d4] }
  | _ => none }
def wireReadsRow : OpenClaim := { program := "ytbagphegelbgcaa", sum := "a6c1cba5c5775d0a91f774232285b574d11805921a22fb2c5e8edd7fb442c6f2", func := "lighterage/lighteragelaw18.WireReads", spec := "wireReads", unfollowed := true, recurses := true, apart := false }
def WireReadsSaid : Prop := wireReadsRow.holds Try.pinned (OpenSpec.ofChange wireReadsSpec)

/-- ITS FALSE NEIGHBOUR: 'it returns false'. Refute it at one input. -/
def wireReadsWrong : ChangeSpec := { name := "wireReads", fn := fun _ => fun
  | [d1, d2, d3, d4] => { results := [.lit (.bool false)], args := [d1, d2, d3, d4] }
  | _ => none }
def WireReadsWrongFalsely : Prop := wireReadsRow.holds Try.pinned (OpenSpec.ofChange wireReadsWrong)

/-- 'lighteragelaw18.WireRound': WHATEVER THE INPUT: true; the input reads as it did. -/
def wireRoundSpec : ChangeSpec := { name := "wireRound", fn := fun _ => fun
  | [d1, d2, d3] => { results := [.lit (.bool true)], args := [d1, d2, d3] }
  | _ => none }
def wireRoundRow : OpenClaim := { program := "ytbagphegelbgcaa", sum := "a6c1cba5c5775d0a91f774232285b574d11805921a22fb2c5e8edd7fb442c6f2", func := "lighterage/lighteragelaw18.WireRound", spec := "wireRound", unfollowed := true, recurses := true, apart := false }
def WireRoundSaid : Prop := wireRoundRow.holds Try.pinned (OpenSpec.ofChange wireRoundSpec)

/-- ITS FALSE NEIGHBOUR: 'it returns false'. Refute it at one input. -/
def wireRoundWrong : ChangeSpec := { name := "wireRound", fn := fun _ => fun
  | [d1, d2, d3] => { results := [.lit (.bool false)], args := [d1, d2, d3] }
  | _ => none }
def WireRoundWrongFalsely : Prop := wireRoundRow.holds Try.pinned (OpenSpec.ofChange wireRoundWrong)

/-- 'lighteragelaw18.WireSizes': WHATEVER THE INPUT: true; the input reads as it did. -/
def wireSizesSpec : ChangeSpec := { name := "wireSizes", fn := fun _ => fun
  | [d1, d2, d3, d4] => { results := [.lit (.bool true)], args := [d1, d2, d3, d4] }
  | _ => none }
def wireSizesRow : OpenClaim := { program := "ytbagphegelbgcaa", sum := "a6c1cba5c5775d0a91f774232285b574d11805921a22fb2c5e8edd7fb442c6f2", func := "lighterage/lighteragelaw18.WireSizes", spec := "wireSizes", unfollowed := true, recurses := true, apart := false }
def WireSizesSaid : Prop := wireSizesRow.holds Try.pinned (OpenSpec.ofChange wireSizesSpec)

/-- ITS FALSE NEIGHBOUR: 'it returns false'. Refute it at one input. -/
def wireSizesWrong : ChangeSpec := { name := "wireSizes", fn := fun _ => fun
  | [d1, d2, d3, d4] => { results := [.lit (.bool false)], args := [d1, d2, d3, d4] }
  | _ => none }
def WireSizesWrongFalsely : Prop := wireSizesRow.holds Try.pinned (OpenSpec.ofChange wireSizesWrong)

/- THE SECOND FORM. 'bulk': how many values and letters a reading holds, each counted each time it is reached (what is shared counts as often as it is met; a slice's spare places count too). A statement '..UptoSaid' is the law's where the arguments, and the package variables that the reading takes, are together of bulk at most 1048576: NARROWER than '..Said'. Prove '..Said' where nothing that the law and all that it calls make is longer than what came in: it says more and counts as full. Else prove '..UptoSaid'. A law counts once. -/
mutual
def uptoBulk {H : Type} : DataW H → Nat
  | .lit (.string bytes) => bytes.length + 1
  | .lit _ => 1
  | .nil => 1
  | .ptr d => uptoBulk d + 1
  | .slice elems spare => uptoBulkAll elems + uptoBulkAll spare + 1
  | .agg parts => uptoBulkAll parts + 1
  | .iface _ d => uptoBulk d + 1
  | .map entries => uptoBulkEntries entries + 1
  | .held _ => 1
def uptoBulkAll {H : Type} : List (DataW H) → Nat
  | [] => 0
  | d :: r => uptoBulk d + uptoBulkAll r
def uptoBulkEntries {H : Type} : List (Lit × DataW H) → Nat
  | [] => 0
  | x :: r => uptoBulkEntry x + uptoBulkEntries r
def uptoBulkEntry {H : Type} : Lit × DataW H → Nat
  | (.string bytes, d) => bytes.length + uptoBulk d + 1
  | (_, d) => uptoBulk d + 1
 end
def uptoSmall : (H : Type) → List (DataW H) → Bool := fun _ ds => decide (uptoBulkAll ds ≤ 1048576)
def OpenSpec.upto (s : _root_.Go.ChangeSpec) : _root_.Go.OpenSpec := { _root_.Go.OpenSpec.ofChange s with cond := some uptoSmall }

/-- 'lighteragelaw18.WireMay', WHERE WHAT IT READS IS OF BULK AT MOST 1048576: true; the input reads as it did. -/
def wireMayUptoRow : OpenClaim := { program := "ytbagphegelbgcaa", sum := "a6c1cba5c5775d0a91f774232285b574d11805921a22fb2c5e8edd7fb442c6f2", func := "lighterage/lighteragelaw18.WireMay", spec := "wireMay", unfollowed := true, recurses := true, apart := false, narrowed := true }
def WireMayUptoSaid : Prop := wireMayUptoRow.holds Try.pinned (OpenSpec.upto wireMaySpec)

/-- 'lighteragelaw18.WireSame', WHERE WHAT IT READS IS OF BULK AT MOST 1048576: true; the input reads as it did. -/
def wireSameUptoRow : OpenClaim := { program := "ytbagphegelbgcaa", sum := "a6c1cba5c5775d0a91f774232285b574d11805921a22fb2c5e8edd7fb442c6f2", func := "lighterage/lighteragelaw18.WireSame", spec := "wireSame", unfollowed := true, recurses := true, apart := false, narrowed := true }
def WireSameUptoSaid : Prop := wireSameUptoRow.holds Try.pinned (OpenSpec.upto wireSameSpec)

/-- 'lighteragelaw18.WireAnswers', WHERE WHAT IT READS IS OF BULK AT MOST 1048576: true; the input reads as it did. -/
def wireAnswersUptoRow : OpenClaim := { program := "ytbagphegelbgcaa", sum := "a6c1cba5c5775d0a91f774232285b574d11805921a22fb2c5e8edd7fb442c6f2", func := "lighterage/lighteragelaw18.WireAnswers", spec := "wireAnswers", unfollowed := true, recurses := true, apart := false, narrowed := true }
def WireAnswersUptoSaid : Prop := wireAnswersUptoRow.holds Try.pinned (OpenSpec.upto wireAnswersSpec)

/-- 'lighteragelaw18.WireReads', WHERE WHAT IT READS IS OF BULK AT MOST 1048576: true; the input reads as it did. -/
def wireReadsUptoRow : OpenClaim := { program := "ytbagphegelbgcaa", sum := "a6c1cba5c5775d0a91f774232285b574d11805921a22fb2c5e8edd7fb442c6f2", func := "lighterage/lighteragelaw18.WireReads", spec := "wireReads", unfollowed := true, recurses := true, apart := false, narrowed := true }
def WireReadsUptoSaid : Prop := wireReadsUptoRow.holds Try.pinned (OpenSpec.upto wireReadsSpec)

/-- 'lighteragelaw18.WireRound', WHERE WHAT IT READS IS OF BULK AT MOST 1048576: true; the input reads as it did. -/
def wireRoundUptoRow : OpenClaim := { program := "ytbagphegelbgcaa", sum := "a6c1cba5c5775d0a91f774232285b574d11805921a22fb2c5e8edd7fb442c6f2", func := "lighterage/lighteragelaw18.WireRound", spec := "wireRound", unfollowed := true, recurses := true, apart := false, narrowed := true }
def WireRoundUptoSaid : Prop := wireRoundUptoRow.holds Try.pinned (OpenSpec.upto wireRoundSpec)

/-- 'lighteragelaw18.WireSizes', WHERE WHAT IT READS IS OF BULK AT MOST 1048576: true; the input reads as it did. -/
def wireSizesUptoRow : OpenClaim := { program := "ytbagphegelbgcaa", sum := "a6c1cba5c5775d0a91f774232285b574d11805921a22fb2c5e8edd7fb442c6f2", func := "lighterage/lighteragelaw18.WireSizes", spec := "wireSizes", unfollowed := true, recurses := true, apart := false, narrowed := true }
def WireSizesUptoSaid : Prop := wireSizesUptoRow.holds Try.pinned (OpenSpec.upto wireSizesSpec)

end Rows
end Go.Proofs.Ytbagphegelbgcaa
