/-
  No cell of these rows narrows 'for every input' (looked for: loops, veiled, ifaces, maps, wideKeys, modest, calm, conditions, laid).
  DERIVED. THE GIVEN ROWS OF THIS SEAT. 5 by the template 'for every input the law returns true; each argument reads behind the call as it read before'; 0 by the template 'total and deterministic' (their statements: YtcbcoaafdggniaaTotals.lean).
  GIVEN WITH THE SEED: the statements are not yours to turn. If you find one false, say at which input.
  Laid BY PROGRAM, IN A SANDBOX (cutbox-rows.mjs): the forced cells as the released guide's own fill.sh prints them over the translation 6ab0f8976e9abf5e… (all of the seat's roots in one cut). By AI agents, Wed Nov 11 2026. No macro, syntax, notation, axiom, sorry.
-/
import Derived.Test.YtcbcoaafdggniaaChecked
import GoSem.Claim
import GoSem.ClaimJoined
import GoSem.ClaimMapViews
import Derived.JoinedTies
import Derived.KernelRfl
namespace Go.Proofs.Ytcbcoaafdggniaa
/- THE CELL 'sum', in the pinned program and in every row, IS THE sha256 OF THE DUMP (.gsa) THAT YtcbcoaafdggniaaProg.lean LOADS. Nothing in Lean hashes anything: it is a label: what it is worth is what the hold of that sum in a sandbox is worth. -/
noncomputable def Try.pinned : Pinned := { name := "ytcbcoaafdggniaa", sum := "6ab0f8976e9abf5eacc2c724a87a780761dbd8eb20b796f9acd81b9ce7de7efb", checked := Try.checked }
namespace Rows
def none {H : Type} : Left H := { results := [], args := [] }

/-- 'lighteragelaw06.FrameSeals': WHATEVER THE INPUT: true; the input reads as it did. -/
def frameSealsSpec : ChangeSpec := { name := "frameSeals", fn := fun _ => fun
  | [d1, d2] => { results := [.lit (.bool true)], args := [d1, d2] }
  | _ => none }
def frameSealsRow : OpenClaim := { program := "ytcbcoaafdggniaa", sum := "6ab0f8976e9abf5eacc2c724a87a780761dbd8eb20b796f9acd81b9ce7de7efb", func := "lighterage/lighteragelaw06.FrameSeals", spec := "frameSeals", unfollowed := true, recurses := true, plainKeys := false, apart := false }
def FrameSealsSaid : Prop := frameSealsRow.holds Try.pinned (OpenSpec.ofChange frameSealsSpec)

/-- ITS FALSE NEIGHBOUR: 'it returns false'. Refute it at one input. -/
def frameSealsWrong : ChangeSpec := { name := "frameSeals", fn := fun _ => fun
  | [d1, d2] => { results := [.lit (.bool false)], args := [d1, d2] }
  | _ => none }
def FrameSealsWrongFalsely : Prop := frameSealsRow.holds Try.pinned (OpenSpec.ofChange frameSealsWrong)

/-- 'lighteragelaw06.FrameOpens': WHATEVER THE INPUT: true; the input reads as it did. -/
def frameOpensSpec : ChangeSpec := { name := "frameOpens", fn := fun _ => fun
  | [d1, d2, d3, d4, d5] => { results := [.lit (.bool true)], args := [d1, d2, d3, d4, d5] }
  | _ => none }
def frameOpensRow : OpenClaim := { program := "ytcbcoaafdggniaa", sum := "6ab0f8976e9abf5eacc2c724a87a780761dbd8eb20b796f9acd81b9ce7de7efb", func := "lighterage/lighteragelaw06.FrameOpens", spec := "frameOpens", unfollowed := true, recurses := true, plainKeys := false, apart := false }
def FrameOpensSaid : Prop := frameOpensRow.holds Try.pinned (OpenSpec.ofChange frameOpensSpec)

/-- ITS FALSE NEIGHBOUR: 'it returns false'. Refute it at one input. -/
def frameOpensWrong : ChangeSpec := { name := "frameOpens", fn := fun _ => fun
  | [d1, d2, d3, d4, d5] => { results := [.lit (.bool false)], args := [d1, d2, d3, d4, d5] }
  | _ => none }
def FrameOpensWrongFalsely : Prop := frameOpensRow.holds Try.pinned (OpenSpec.ofChange frameOpensWrong)

/-- 'lighteragelaw06.FrameOthers': WHATEVER THE INPUT: true; the input reads as it did. -/
def frameOthersSpec : ChangeSpec := { name := "frameOthers", fn := fun _ => fun
  | [d] => { results := [.lit (.bool true)], args := [d] }
  | _ => none }
def frameOthersRow : OpenClaim := { program := "ytcbcoaafdggniaa", sum := "6ab0f8976e9abf5eacc2c724a87a780761dbd8eb20b796f9acd81b9ce7de7efb", func := "lighterage/lighteragelaw06.FrameOthers", spec := "frameOthers", unfollowed := true, recurses := true, plainKeys := false, apart := false }
def FrameOthersSaid : Prop := frameOthersRow.holds Try.pinned (OpenSpec.ofChange frameOthersSpec)

/-- ITS FALSE NEIGHBOUR: 'it returns false'. Refute it at one input. -/
def frameOthersWrong : ChangeSpec := { name := "frameOthers", fn := fun _ => fun
  | [d] => { results := [.lit (.bool false)], args := [d] }
  | _ => none }
def FrameOthersWrongFalsely : Prop := frameOthersRow.holds Try.pinned (OpenSpec.ofChange frameOthersWrong)

/-- 'lighteragelaw06.FrameMost': WHATEVER THE INPUT: true; the input reads as it did. -/
def frameMostSpec : ChangeSpec := { name := "frameMost", fn := fun _ => fun
  | [d1, d2] => { results := [.lit (.bool true)], args := [d1, d2] }
  | _ => none }
def frameMostRow : OpenClaim := { program := "ytcbcoaafdggniaa", sum := "6ab0f8976e9abf5eacc2c724a87a780761dbd8eb20b796f9acd81b9ce7de7efb", func := "lighterage/lighteragelaw06.FrameMost", spec := "frameMost", unfollowed := true, recurses := true, plainKeys := false, apart := false }
def FrameMostSaid : Prop := frameMostRow.holds Try.pinned (OpenSpec.ofChange frameMostSpec)

/-- ITS FALSE NEIGHBOUR: 'it returns false'. Refute it at one input. -/
def frameMostWrong : ChangeSpec := { name := "frameMost", fn := fun _ => fun
  | [d1, d2] => { results := [.lit (.bool false)], args := [d1, d2] }
  | _ => none }
def FrameMostWrongFalsely : Prop := frameMostRow.holds Try.pinned (OpenSpec.ofChange frameMostWrong)

/-- 'lighteragelaw06.FrameTurns': WHATEVER THE INPUT: true; the input reads as it did. -/
def frameTurnsSpec : ChangeSpec := { name := "frameTurns", fn := fun _ => fun
  | [d1, d2, d3] => { results := [.lit (.bool true)], args := [d1, d2, d3] }
  | _ => none }
def frameTurnsRow : OpenClaim := { program := "ytcbcoaafdggniaa", sum := "6ab0f8976e9abf5eacc2c724a87a780761dbd8eb20b796f9acd81b9ce7de7efb", func := "lighterage/lighteragelaw06.FrameTurns", spec := "frameTurns", unfollowed := true, recurses := true, plainKeys := false, apart := false }
def FrameTurnsSaid : Prop := frameTurnsRow.holds Try.pinned (OpenSpec.ofChange frameTurnsSpec)

/-- ITS FALSE NEIGHBOUR: 'it returns false'. Refute it at one input. -/
def frameTurnsWrong : ChangeSpec := { name := "frameTurns", fn := fun _ => fun
  | [d1, d2, d3] => { results := [.lit (.bool false)], args := [d1, d2, d3] }
  | _ => none }
def FrameTurnsWrongFalsely : Prop := frameTurnsRow.holds Try.pinned (OpenSpec.ofChange frameTurnsWrong)

/- THE SECOND FORM. 'bulk': how many values and letters a reading holds, each counted each time it is reached (what is shared counts as often as it is met; a slice's spare places count too). A statement '..UptoSaid' is the law's where the arguments, and the package variables that the reading takes, are together of bulk at most 1048576: NARROWER than '..Said'. Prove '..Said' where nothing that the law and all that it calls make is longer than what came in: it says more and counts as full. Else prove '..UptoSaid'. A law counts once. -/
mutual
def uptoBulk {H : Type} : DataW H → Nat
  | .lit (.string bytes) => bytes.length + 1
  | .lit _ => 1
  | .nil => 1
  | .ptr d => uptoBulk d + 1
  | .slice elems spare => uptoBulkAll elems + uptoBulkAll spare + 1
  | .agg parts => uptoBulkAll parts + 1
  | .iface _ d => uptoBulk d + 1
  | .map entries => uptoBulkEntries entries + 1
  | .held _ => 1
def uptoBulkAll {H : Type} : List (DataW H) → Nat
  | [] => 0
  | d :: r => uptoBulk d + uptoBulkAll r
def uptoBulkEntries {H : Type} : List (Lit × DataW H) → Nat
  | [] => 0
  | x :: r => uptoBulkEntry x + uptoBulkEntries r
def uptoBulkEntry {H : Type} : Lit × DataW H → Nat
  | (.string bytes, d) => bytes.length + uptoBulk d + 1
  | (_, d) => uptoBulk d + 1
 end
def uptoSmall : (H : Type) → List (DataW H) → Bool := fun _ ds => decide (uptoBulkAll ds ≤ 1048576)
def OpenSpec.upto (s : _root_.Go.ChangeSpec) : _root_.Go.OpenSpec := { _root_.Go.OpenSpec.ofChange s with cond := some uptoSmall }

/-- 'lighteragelaw06.FrameSeals', WHERE WHAT IT READS IS OF BULK AT MOST 1048576: true; the input reads as it did. -/
def frameSealsUptoRow : OpenClaim := { program := "ytcbcoaafdggniaa", sum := "6ab0f8976e9abf5eacc2c724a87a780761dbd8eb20b796f9acd81b9ce7de7efb", func := "lighterage/lighteragelaw06.FrameSeals", spec := "frameSeals", unfollowed := true, recurses := true, plainKeys := false, apart := false, narrowed := true }
def FrameSealsUptoSaid : Prop := frameSealsUptoRow.holds Try.pinned (OpenSpec.upto frameSealsSpec)

/-- 'lighteragelaw06.FrameOpens', WHERE WHAT IT READS IS OF BULK AT MOST 1048576: true; the input reads as it did. -/
def frameOpensUptoRow : OpenClaim := { program := "ytcbcoaafdggniaa", sum := "6ab0f8976e9abf5eacc2c724a87a780761dbd8eb20b796f9acd81b9ce7de7efb", func := "lighterage/lighteragelaw06.FrameOpens", spec := "frameOpens", unfollowed := true, recurses := true, plainKeys := false, apart := false, narrowed := true }
def FrameOpensUptoSaid : Prop := frameOpensUptoRow.holds Try.pinned (OpenSpec.upto frameOpensSpec)

/-- 'lighteragelaw06.FrameOthers', WHERE WHAT IT READS IS OF BULK AT MOST 1048576: true; the input reads as it did. -/
def frameOthersUptoRow : OpenClaim := { program := "ytcbcoaafdggniaa", sum := "6ab0f8976e9abf5eacc2c724a87a780761dbd8eb20b796f9acd81b9ce7de7efb", func := "lighterage/lighteragelaw06.FrameOthers", spec := "frameOthers", unfollowed := true, recurses := true, plainKeys := false, apart := false, narrowed := true }
def FrameOthersUptoSaid : Prop := frameOthersUptoRow.holds Try.pinned (OpenSpec.upto frameOthersSpec)

/-- 'lighteragelaw06.FrameMost', WHERE WHAT IT READS IS OF BULK AT MOST 1048576: true; the input reads as it did. -/
def frameMostUptoRow : OpenClaim := { program := "ytcbcoaafdggniaa", sum := "6ab0f8976e9abf5eacc2c724a87a780761dbd8eb20b796f9acd81b9ce7de7efb", func := "lighterage/lighteragelaw06.FrameMost", spec := "frameMost", unfollowed := true, recurses := true, plainKeys := false, apart := false, narrowed := true }
def FrameMostUptoSaid : Prop := frameMostUptoRow.holds Try.pinned (OpenSpec.upto frameMostSpec)

/-- 'lighteragelaw06.FrameTurns', WHERE WHAT IT READS IS OF BULK AT MOST 1048576: true; the input reads as it did. -/
def frameTurnsUptoRow : OpenClaim := { program := "ytcbcoaafdggniaa", sum := "6ab0f8976e9abf5eacc2c724a87a780761dbd8eb20b796f9acd81b9ce7de7efb", func := "lighterage/lighteragelaw06.FrameTurns", spec := "frameTurns", unfollowed := true, recurses := true, plainKeys := false, apart := false, narrowed := true }
def FrameTurnsUptoSaid : Prop := frameTurnsUptoRow.holds Try.pinned (OpenSpec.upto frameTurnsSpec)

end Rows
end Go.Proofs.Ytcbcoaafdggniaa
