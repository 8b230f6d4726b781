/-
  No cell of these rows narrows 'for every input' (looked for: loops, veiled, ifaces, maps, wideKeys, modest, calm, conditions, laid).
  DERIVED. THE GIVEN ROWS OF THIS SEAT. 6 by the template 'for every input the law returns true; each argument reads behind the call as it read before'; 0 by the template 'total and deterministic' (their statements: YtnohkhaagkkhjaaTotals.lean).
  GIVEN WITH THE SEED: the statements are not yours to turn. If you find one false, say at which input.
  Laid BY PROGRAM, IN A SANDBOX (cutbox-rows.mjs): the forced cells as the released guide's own fill.sh prints them over the translation 3930210e3132a861… (all of the seat's roots in one cut). By AI agents, Wed Nov 11 2026. No macro, syntax, notation, axiom, sorry.
-/
import Derived.Test.YtnohkhaagkkhjaaChecked
import GoSem.Claim
import GoSem.ClaimJoined
import GoSem.ClaimMapViews
import Derived.JoinedTies
import Derived.KernelRfl
namespace Go.Proofs.Ytnohkhaagkkhjaa
/- THE CELL 'sum', in the pinned program and in every row, IS THE sha256 OF THE DUMP (.gsa) THAT YtnohkhaagkkhjaaProg.lean LOADS. Nothing in Lean hashes anything: it is a label: what it is worth is what the hold of that sum in a sandbox is worth. -/
noncomputable def Try.pinned : Pinned := { name := "ytnohkhaagkkhjaa", sum := "3930210e3132a861ca9af10b25766c9c783b18d734d7db2df21aa53e213a1dfa", checked := Try.checked }
namespace Rows
def none {H : Type} : Left H := { results := [], args := [] }

/-- 'lighteragelaw05.LzMatches': WHATEVER THE INPUT: true; the input reads as it did. -/
def lzMatchesSpec : ChangeSpec := { name := "lzMatches", fn := fun _ => fun
  | [d1, d2, d3] => { results := [.lit (.bool true)], args := [d1, d2, d3] }
  | _ => none }
def lzMatchesRow : OpenClaim := { program := "ytnohkhaagkkhjaa", sum := "3930210e3132a861ca9af10b25766c9c783b18d734d7db2df21aa53e213a1dfa", func := "lighterage/lighteragelaw05.LzMatches", spec := "lzMatches", unfollowed := true, recurses := true, plainKeys := false, apart := false }
def LzMatchesSaid : Prop := lzMatchesRow.holds Try.pinned (OpenSpec.ofChange lzMatchesSpec)

/-- ITS FALSE NEIGHBOUR: 'it returns false'. Refute it at one input. -/
def lzMatchesWrong : ChangeSpec := { name := "lzMatches", fn := fun _ => fun
  | [d1, d2, d3] => { results := [.lit (.bool false)], args := [d1, d2, d3] }
  | _ => none }
def LzMatchesWrongFalsely : Prop := lzMatchesRow.holds Try.pinned (OpenSpec.ofChange lzMatchesWrong)

/-- 'lighteragelaw05.LzPacks': WHATEVER THE INPUT: true; the input reads as it did. -/
def lzPacksSpec : ChangeSpec := { name := "lzPacks", fn := fun _ => fun
  | [d1, d2] => { results := [.lit (.bool true)], args := [d1, d2] }
  | _ => none }
def lzPacksRow : OpenClaim := { program := "ytnohkhaagkkhjaa", sum := "3930210e3132a861ca9af10b25766c9c783b18d734d7db2df21aa53e213a1dfa", func := "lighterage/lighteragelaw05.LzPacks", spec := "lzPacks", unfollowed := true, recurses := true, plainKeys := false, apart := false }
def LzPacksSaid : Prop := lzPacksRow.holds Try.pinned (OpenSpec.ofChange lzPacksSpec)

/-- ITS FALSE NEIGHBOUR: 'it returns false'. Refute it at one input. -/
def lzPacksWrong : ChangeSpec := { name := "lzPacks", fn := fun _ => fun
  | [d1, d2] => { results := [.lit (.bool false)], args := [d1, d2] }
  | _ => none }
def LzPacksWrongFalsely : Prop := lzPacksRow.holds Try.pinned (OpenSpec.ofChange lzPacksWrong)

/-- 'lighteragelaw05.LzMost': WHATEVER THE INPUT: true; the input reads as it did. -/
def lzMostSpec : ChangeSpec := { name := "lzMost", fn := fun _ => fun
  | [d1, d2] => { results := [.lit (.bool true)], args := [d1, d2] }
  | _ => none }
def lzMostRow : OpenClaim := { program := "ytnohkhaagkkhjaa", sum := "3930210e3132a861ca9af10b25766c9c783b18d734d7db2df21aa53e213a1dfa", func := "lighterage/lighteragelaw05.LzMost", spec := "lzMost", unfollowed := true, recurses := true, plainKeys := false, apart := false }
def LzMostSaid : Prop := lzMostRow.holds Try.pinned (OpenSpec.ofChange lzMostSpec)

/-- ITS FALSE NEIGHBOUR: 'it returns false'. Refute it at one input. -/
def lzMostWrong : ChangeSpec := { name := "lzMost", fn := fun _ => fun
  | [d1, d2] => { results := [.lit (.bool false)], args := [d1, d2] }
  | _ => none }
def LzMostWrongFalsely : Prop := lzMostRow.holds Try.pinned (OpenSpec.ofChange lzMostWrong)

/-- 'lighteragelaw05.LzLiterals': WHATEVER THE INPUT: true; the input reads as it did. -/
def lzLiteralsSpec : ChangeSpec := { name := "lzLiterals", fn := fun _ => fun
  | [d1, d2, d3, d4] => { results := [.lit (.bool true)], args := [d1, d2, d3, d4] }
  | _ => none }
def lzLiteralsRow : OpenClaim := { program := "ytnohkhaagkkhjaa", sum := "3930210e3132a861ca9af10b25766c9c783b18d734d7db2df21aa53e213a1dfa", func := "lighterage/lighteragelaw05.LzLiterals", spec := "lzLiterals", unfollowed := true, recurses := true, plainKeys := false, apart := false }
def LzLiteralsSaid : Prop := lzLiteralsRow.holds Try.pinned (OpenSpec.ofChange lzLiteralsSpec)

/-- ITS FALSE NEIGHBOUR: 'it returns false'. Refute it at one input. -/
def lzLiteralsWrong : ChangeSpec := { name := "lzLiterals", fn := fun _ => fun
  | [d1, d2, d3, d4] => { results := [.lit (.bool false)], args := [d1, d2, d3, d4] }
  | _ => none }
def LzLiteralsWrongFalsely : Prop := lzLiteralsRow.holds Try.pinned (OpenSpec.ofChange lzLiteralsWrong)

/-- 'lighteragelaw05.LzUnpacks': WHATEVER THE INPUT: true; the input reads as it did. -/
def lzUnpacksSpec : ChangeSpec := { name := "lzUnpacks", fn := fun _ => fun
  | [d1, d2, d3, d4, d5] => { results := [.lit (.bool true)], args := [d1, d2, d3, d4, d5] }
  | _ => none }
def lzUnpacksRow : OpenClaim := { program := "ytnohkhaagkkhjaa", sum := "3930210e3132a861ca9af10b25766c9c783b18d734d7db2df21aa53e213a1dfa", func := "lighterage/lighteragelaw05.LzUnpacks", spec := "lzUnpacks", unfollowed := true, recurses := true, plainKeys := false, apart := false }
def LzUnpacksSaid : Prop := lzUnpacksRow.holds Try.pinned (OpenSpec.ofChange lzUnpacksSpec)

/-- ITS FALSE NEIGHBOUR: 'it returns false'. Refute it at one input. -/
def lzUnpacksWrong : ChangeSpec := { name := "lzUnpacks", fn := fun _ => fun
  | [d1, d2, d3, d4, d5] => { results := [.lit (.bool false)], args := [d1, d2, d3, d4, d5] }
  | _ => none }
def LzUnpacksWrongFalsely : Prop := lzUnpacksRow.holds Try.pinned (OpenSpec.ofChange lzUnpacksWrong)

/-- 'lighteragelaw05.LzRuns': WHATEVER THE INPUT: true; the input reads as it did. -/
def lzRunsSpec : ChangeSpec := { name := "lzRuns", fn := fun _ => fun
  | [d1, d2] => { results := [.lit (.bool true)], args := [d1, d2] }
  | _ => none }
def lzRunsRow : OpenClaim := { program := "ytnohkhaagkkhjaa", sum := "3930210e3132a861ca9af10b25766c9c783b18d734d7db2df21aa53e213a1dfa", func := "lighterage/lighteragelaw05.LzRuns", spec := "lzRuns", unfollowed := true, recurses := true, plainKeys := false, apart := false }
def LzRunsSaid : Prop := lzRunsRow.holds Try.pinned (OpenSpec.ofChange lzRunsSpec)

/-- ITS FALSE NEIGHBOUR: 'it returns false'. Refute it at one input. -/
def lzRunsWrong : ChangeSpec := { name := "lzRuns", fn := fun _ => fun
  | [d1, d2] => { results := [.lit (.bool false)], args := [d1, d2] }
  | _ => none }
def LzRunsWrongFalsely : Prop := lzRunsRow.holds Try.pinned (OpenSpec.ofChange lzRunsWrong)

/- THE SECOND FORM. 'bulk': how many values and letters a reading holds, each counted each time it is reached (what is shared counts as often as it is met; a slice's spare places count too). A statement '..UptoSaid' is the law's where the arguments, and the package variables that the reading takes, are together of bulk at most 1048576: NARROWER than '..Said'. Prove '..Said' where nothing that the law and all that it calls make is longer than what came in: it says more and counts as full. Else prove '..UptoSaid'. A law counts once. -/
mutual
def uptoBulk {H : Type} : DataW H → Nat
  | .lit (.string bytes) => bytes.length + 1
  | .lit _ => 1
  | .nil => 1
  | .ptr d => uptoBulk d + 1
  | .slice elems spare => uptoBulkAll elems + uptoBulkAll spare + 1
  | .agg parts => uptoBulkAll parts + 1
  | .iface _ d => uptoBulk d + 1
  | .map entries => uptoBulkEntries entries + 1
  | .held _ => 1
def uptoBulkAll {H : Type} : List (DataW H) → Nat
  | [] => 0
  | d :: r => uptoBulk d + uptoBulkAll r
def uptoBulkEntries {H : Type} : List (Lit × DataW H) → Nat
  | [] => 0
  | x :: r => uptoBulkEntry x + uptoBulkEntries r
def uptoBulkEntry {H : Type} : Lit × DataW H → Nat
  | (.string bytes, d) => bytes.length + uptoBulk d + 1
  | (_, d) => uptoBulk d + 1
 end
def uptoSmall : (H : Type) → List (DataW H) → Bool := fun _ ds => decide (uptoBulkAll ds ≤ 1048576)
def OpenSpec.upto (s : _root_.Go.ChangeSpec) : _root_.Go.OpenSpec := { _root_.Go.OpenSpec.ofChange s with cond := some uptoSmall }

/-- 'lighteragelaw05.LzMatches', WHERE WHAT IT READS IS OF BULK AT MOST 1048576: true; the input reads as it did. -/
def lzMatchesUptoRow : OpenClaim := { program := "ytnohkhaagkkhjaa", sum := "3930210e3132a861ca9af10b25766c9c783b18d734d7db2df21aa53e213a1dfa", func := "lighterage/lighteragelaw05.LzMatches", spec := "lzMatches", unfollowed := true, recurses := true, plainKeys := false, apart := false, narrowed := true }
def LzMatchesUptoSaid : Prop := lzMatchesUptoRow.holds Try.pinned (OpenSpec.upto lzMatchesSpec)

/-- 'lighteragelaw05.LzPacks', WHERE WHAT IT READS IS OF BULK AT MOST 1048576: true; the input reads as it did. -/
def lzPacksUptoRow : OpenClaim := { program := "ytnohkhaagkkhjaa", sum := "3930210e3132a861ca9af10b25766c9c783b18d734d7db2df21aa53e213a1dfa", func := "lighterage/lighteragelaw05.LzPacks", spec := "lzPacks", unfollowed := true, recurses := true, plainKeys := false, apart := false, narrowed := true }
def LzPacksUptoSaid : Prop := lzPacksUptoRow.holds Try.pinned (OpenSpec.upto lzPacksSpec)

/-- 'lighteragelaw05.LzMost', WHERE WHAT IT READS IS OF BULK AT MOST 1048576: true; the input reads as it did. -/
def lzMostUptoRow : OpenClaim := { program := "ytnohkhaagkkhjaa", sum := "3930210e3132a861ca9af10b25766c9c783b18d734d7db2df21aa53e213a1dfa", func := "lighterage/lighteragelaw05.LzMost", spec := "lzMost", unfollowed := true, recurses := true, plainKeys := false, apart := false, narrowed := true }
def LzMostUptoSaid : Prop := lzMostUptoRow.holds Try.pinned (OpenSpec.upto lzMostSpec)

/-- 'lighteragelaw05.LzLiterals', WHERE WHAT IT READS IS OF BULK AT MOST 1048576: true; the input reads as it did. -/
def lzLiteralsUptoRow : OpenClaim := { program := "ytnohkhaagkkhjaa", sum := "3930210e3132a861ca9af10b25766c9c783b18d734d7db2df21aa53e213a1dfa", func := "lighterage/lighteragelaw05.LzLiterals", spec := "lzLiterals", unfollowed := true, recurses := true, plainKeys := false, apart := false, narrowed := true }
def LzLiteralsUptoSaid : Prop := lzLiteralsUptoRow.holds Try.pinned (OpenSpec.upto lzLiteralsSpec)

/-- 'lighteragelaw05.LzUnpacks', WHERE WHAT IT READS IS OF BULK AT MOST 1048576: true; the input reads as it did. -/
def lzUnpacksUptoRow : OpenClaim := { program := "ytnohkhaagkkhjaa", sum := "3930210e3132a861ca9af10b25766c9c783b18d734d7db2df21aa53e213a1dfa", func := "lighterage/lighteragelaw05.LzUnpacks", spec := "lzUnpacks", unfollowed := true, recurses := true, plainKeys := false, apart := false, narrowed := true }
def LzUnpacksUptoSaid : Prop := lzUnpacksUptoRow.holds Try.pinned (OpenSpec.upto lzUnpacksSpec)

/-- 'lighteragelaw05.LzRuns', WHERE WHAT IT READS IS OF BULK AT MOST 1048576: true; the input reads as it did. -/
def lzRunsUptoRow : OpenClaim := { program := "ytnohkhaagkkhjaa", sum := "3930210e3132a861ca9af10b25766c9c783b18d734d7db2df21aa53e213a1dfa", func := "lighterage/lighteragelaw05.LzRuns", spec := "lzRuns", unfollowed := true, recurses := true, plainKeys := false, apart := false, narrowed := true }
def LzRunsUptoSaid : Prop := lzRunsUptoRow.holds Try.pinned (OpenSpec.upto lzRunsSpec)

end Rows
end Go.Proofs.Ytnohkhaagkkhjaa
