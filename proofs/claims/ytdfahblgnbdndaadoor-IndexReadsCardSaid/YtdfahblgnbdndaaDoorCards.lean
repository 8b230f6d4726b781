/-
  DERIVED. GIVEN WITH THE SEED: THE CARDS: each row of YtdfahblgnbdndaaDoorRows.lean that lists a variable, with what it lists TIED to the program's text (the seventh form; the later family's looks); each row that meets fmt, with fmt's text TOLD by the authors' own Lean function (tested against real Go, not proved from fmt's source: count such statements apart). THE CARD IS WHAT COUNTS. Prove the row's statement (the work); the ties are given (YtdfahblgnbdndaaDoorTie.lean); close each card by the builder's one call (the guide's Derived/Test/ToyasCard.lean, 'card_holds'). Laid BY PROGRAM, IN A SANDBOX (cutbox-door.mjs). By AI agents, Wed Nov 11 2026. No macro, syntax, notation, axiom, sorry.
-/
import Derived.Test.YtdfahblgnbdndaaDoorRows
import GoSem.ClaimSeven
namespace Go.Proofs.YtdfahblgnbdndaaDoor
namespace Rows

/-- THE TIED CARD OF 'lighteragelaw11.IndexGreat'. -/
def indexGreatCard : Claim7 := { stood := { row := indexGreatRow, standIns := [], harness := (true, "cc1fb427eff9c00970e93ccaff9384905f5af2b5e5e6c46ff96964e0c7673871"), looks := false }, kinds := [], alts := [], laidByText := true, laidKinds := [.data], laidTests := true, laidLooks := .later }
def IndexGreatCardSaid : Prop := Claim7.holds Tryd.pinned (.plain (OpenSpec.ofChange indexGreatSpec)) indexGreatCard

/-- THE TIED CARD OF 'lighteragelaw11.IndexMay'. -/
def indexMayCard : Claim7 := { stood := { row := indexMayRow, standIns := [], harness := (true, "cc1fb427eff9c00970e93ccaff9384905f5af2b5e5e6c46ff96964e0c7673871"), looks := false }, kinds := [], alts := [], laidByText := true, laidKinds := [.data], laidTests := true, laidLooks := .later }
def IndexMayCardSaid : Prop := Claim7.holds Tryd.pinned (.plain (OpenSpec.ofChange indexMaySpec)) indexMayCard

/-- THE TIED CARD OF 'lighteragelaw11.IndexOf'. -/
def indexOfCard : Claim7 := { stood := { row := indexOfRow, standIns := [], harness := (true, "cc1fb427eff9c00970e93ccaff9384905f5af2b5e5e6c46ff96964e0c7673871"), looks := false }, kinds := [], alts := [], laidByText := true, laidKinds := [.data], laidTests := true, laidLooks := .later }
def IndexOfCardSaid : Prop := Claim7.holds Tryd.pinned (.plain (OpenSpec.ofChange indexOfSpec)) indexOfCard

/-- THE TIED CARD OF 'lighteragelaw11.IndexSame'. -/
def indexSameCard : Claim7 := { stood := { row := indexSameRow, standIns := [], harness := (true, "cc1fb427eff9c00970e93ccaff9384905f5af2b5e5e6c46ff96964e0c7673871"), looks := false }, kinds := [], alts := [], laidByText := true, laidKinds := [.data], laidTests := true, laidLooks := .later }
def IndexSameCardSaid : Prop := Claim7.holds Tryd.pinned (.plain (OpenSpec.ofChange indexSameSpec)) indexSameCard

/-- THE TIED CARD OF 'lighteragelaw11.IndexReads'. -/
def indexReadsCard : Claim7 := { stood := { row := indexReadsRow, standIns := [], harness := (true, "cc1fb427eff9c00970e93ccaff9384905f5af2b5e5e6c46ff96964e0c7673871"), looks := false }, kinds := [], alts := [], laidByText := true, laidKinds := [.data], laidTests := true, laidLooks := .later }
def IndexReadsCardSaid : Prop := Claim7.holds Tryd.pinned (.plain (OpenSpec.ofChange indexReadsSpec)) indexReadsCard

/-- THE TIED CARD OF 'lighteragelaw11.IndexRound'. -/
def indexRoundCard : Claim7 := { stood := { row := indexRoundRow, standIns := [], harness := (true, "cc1fb427eff9c00970e93ccaff9384905f5af2b5e5e6c46ff96964e0c7673871"), looks := false }, kinds := [], alts := [], laidByText := true, laidKinds := [.data], laidTests := true, laidLooks := .later }
def IndexRoundCardSaid : Prop := Claim7.holds Tryd.pinned (.plain (OpenSpec.ofChange indexRoundSpec)) indexRoundCard

/-- THE TIED CARD OF 'lighteragelaw11.IndexNames'. -/
def indexNamesCard : Claim7 := { stood := { row := indexNamesRow, standIns := [], harness := (true, "cc1fb427eff9c00970e93ccaff9384905f5af2b5e5e6c46ff96964e0c7673871"), looks := false }, kinds := [], alts := [], laidByText := true, laidKinds := [.data], laidTests := true, laidLooks := .later }
def IndexNamesCardSaid : Prop := Claim7.holds Tryd.pinned (.plain (OpenSpec.ofChange indexNamesSpec)) indexNamesCard

/-- THE SECOND FORM's CARD OF 'lighteragelaw11.IndexGreat'. -/
def indexGreatUptoCard : Claim7 := { stood := { row := indexGreatUptoRow, standIns := [], harness := (true, "cc1fb427eff9c00970e93ccaff9384905f5af2b5e5e6c46ff96964e0c7673871"), looks := false }, kinds := [], alts := [], laidByText := true, laidKinds := [.data], laidTests := true, laidLooks := .later }
def IndexGreatUptoCardSaid : Prop := Claim7.holds Tryd.pinned (.plain (OpenSpec.upto indexGreatSpec)) indexGreatUptoCard

/-- THE SECOND FORM's CARD OF 'lighteragelaw11.IndexMay'. -/
def indexMayUptoCard : Claim7 := { stood := { row := indexMayUptoRow, standIns := [], harness := (true, "cc1fb427eff9c00970e93ccaff9384905f5af2b5e5e6c46ff96964e0c7673871"), looks := false }, kinds := [], alts := [], laidByText := true, laidKinds := [.data], laidTests := true, laidLooks := .later }
def IndexMayUptoCardSaid : Prop := Claim7.holds Tryd.pinned (.plain (OpenSpec.upto indexMaySpec)) indexMayUptoCard

/-- THE SECOND FORM's CARD OF 'lighteragelaw11.IndexOf'. -/
def indexOfUptoCard : Claim7 := { stood := { row := indexOfUptoRow, standIns := [], harness := (true, "cc1fb427eff9c00970e93ccaff9384905f5af2b5e5e6c46ff96964e0c7673871"), looks := false }, kinds := [], alts := [], laidByText := true, laidKinds := [.data], laidTests := true, laidLooks := .later }
def IndexOfUptoCardSaid : Prop := Claim7.holds Tryd.pinned (.plain (OpenSpec.upto indexOfSpec)) indexOfUptoCard

/-- THE SECOND FORM's CARD OF 'lighteragelaw11.IndexSame'. -/
def indexSameUptoCard : Claim7 := { stood := { row := indexSameUptoRow, standIns := [], harness := (true, "cc1fb427eff9c00970e93ccaff9384905f5af2b5e5e6c46ff96964e0c7673871"), looks := false }, kinds := [], alts := [], laidByText := true, laidKinds := [.data], laidTests := true, laidLooks := .later }
def IndexSameUptoCardSaid : Prop := Claim7.holds Tryd.pinned (.plain (OpenSpec.upto indexSameSpec)) indexSameUptoCard

/-- THE SECOND FORM's CARD OF 'lighteragelaw11.IndexReads'. -/
def indexReadsUptoCard : Claim7 := { stood := { row := indexReadsUptoRow, standIns := [], harness := (true, "cc1fb427eff9c00970e93ccaff9384905f5af2b5e5e6c46ff96964e0c7673871"), looks := false }, kinds := [], alts := [], laidByText := true, laidKinds := [.data], laidTests := true, laidLooks := .later }
def IndexReadsUptoCardSaid : Prop := Claim7.holds Tryd.pinned (.plain (OpenSpec.upto indexReadsSpec)) indexReadsUptoCard

/-- THE SECOND FORM's CARD OF 'lighteragelaw11.IndexRound'. -/
def indexRoundUptoCard : Claim7 := { stood := { row := indexRoundUptoRow, standIns := [], harness := (true, "cc1fb427eff9c00970e93ccaff9384905f5af2b5e5e6c46ff96964e0c7673871"), looks := false }, kinds := [], alts := [], laidByText := true, laidKinds := [.data], laidTests := true, laidLooks := .later }
def IndexRoundUptoCardSaid : Prop := Claim7.holds Tryd.pinned (.plain (OpenSpec.upto indexRoundSpec)) indexRoundUptoCard

/-- THE SECOND FORM's CARD OF 'lighteragelaw11.IndexNames'. -/
def indexNamesUptoCard : Claim7 := { stood := { row := indexNamesUptoRow, standIns := [], harness := (true, "cc1fb427eff9c00970e93ccaff9384905f5af2b5e5e6c46ff96964e0c7673871"), looks := false }, kinds := [], alts := [], laidByText := true, laidKinds := [.data], laidTests := true, laidLooks := .later }
def IndexNamesUptoCardSaid : Prop := Claim7.holds Tryd.pinned (.plain (OpenSpec.upto indexNamesSpec)) indexNamesUptoCard
end Rows
end Go.Proofs.YtdfahblgnbdndaaDoor
