/-
  DERIVED. GIVEN WITH THE SEED: THE CARDS: each row of YtnfbficpodnglaaDoorRows.lean that lists a variable, with what it lists TIED to the program's text (the seventh form; the later family's looks); each row that meets fmt, with fmt's text TOLD by the authors' own Lean function (tested against real Go, not proved from fmt's source: count such statements apart). THE CARD IS WHAT COUNTS. Prove the row's statement (the work); the ties are given (YtnfbficpodnglaaDoorTie.lean); close each card by the builder's one call (the guide's Derived/Test/ToyasCard.lean, 'card_holds'). Laid BY PROGRAM, IN A SANDBOX (cutbox-door.mjs). By AI agents, Wed Nov 11 2026. No macro, syntax, notation, axiom, sorry.
-/
import Derived.Test.YtnfbficpodnglaaDoorRows
import GoSem.ClaimSeven
namespace Go.Proofs.YtnfbficpodnglaaDoor
namespace Rows

/-- THE TIED CARD OF 'lighteragelaw02.ShaSums'. -/
def shaSumsCard : Claim7 := { stood := { row := shaSumsRow, standIns := [], harness := (true, "0a9d8b0e90b67fb7b577e2b805bd057da4eecc21e59bbb5b56464f13ca2c85ab"), looks := false }, kinds := [], alts := [], laidByText := true, laidKinds := [.data], laidTests := true, laidLooks := .later }
def ShaSumsCardSaid : Prop := Claim7.holds Tryd.pinned (.plain (OpenSpec.ofChange shaSumsSpec)) shaSumsCard

/-- THE TIED CARD OF 'lighteragelaw02.ShaLengths'. -/
def shaLengthsCard : Claim7 := { stood := { row := shaLengthsRow, standIns := [], harness := (true, "0a9d8b0e90b67fb7b577e2b805bd057da4eecc21e59bbb5b56464f13ca2c85ab"), looks := false }, kinds := [], alts := [], laidByText := true, laidKinds := [.data], laidTests := true, laidLooks := .later }
def ShaLengthsCardSaid : Prop := Claim7.holds Tryd.pinned (.plain (OpenSpec.ofChange shaLengthsSpec)) shaLengthsCard

/-- THE TIED CARD OF 'lighteragelaw02.ShaOwns'. -/
def shaOwnsCard : Claim7 := { stood := { row := shaOwnsRow, standIns := [], harness := (true, "0a9d8b0e90b67fb7b577e2b805bd057da4eecc21e59bbb5b56464f13ca2c85ab"), looks := false }, kinds := [], alts := [], laidByText := true, laidKinds := [.data], laidTests := true, laidLooks := .later }
def ShaOwnsCardSaid : Prop := Claim7.holds Tryd.pinned (.plain (OpenSpec.ofChange shaOwnsSpec)) shaOwnsCard

/-- THE TIED CARD OF 'lighteragelaw02.ShaPieces'. -/
def shaPiecesCard : Claim7 := { stood := { row := shaPiecesRow, standIns := [], harness := (true, "0a9d8b0e90b67fb7b577e2b805bd057da4eecc21e59bbb5b56464f13ca2c85ab"), looks := false }, kinds := [], alts := [], laidByText := true, laidKinds := [.data], laidTests := true, laidLooks := .later }
def ShaPiecesCardSaid : Prop := Claim7.holds Tryd.pinned (.plain (OpenSpec.ofChange shaPiecesSpec)) shaPiecesCard

/-- THE TIED CARD OF 'lighteragelaw02.ShaClones'. -/
def shaClonesCard : Claim7 := { stood := { row := shaClonesRow, standIns := [], harness := (true, "0a9d8b0e90b67fb7b577e2b805bd057da4eecc21e59bbb5b56464f13ca2c85ab"), looks := false }, kinds := [], alts := [], laidByText := true, laidKinds := [.data], laidTests := true, laidLooks := .later }
def ShaClonesCardSaid : Prop := Claim7.holds Tryd.pinned (.plain (OpenSpec.ofChange shaClonesSpec)) shaClonesCard

/-- THE SECOND FORM's CARD OF 'lighteragelaw02.ShaSums'. -/
def shaSumsUptoCard : Claim7 := { stood := { row := shaSumsUptoRow, standIns := [], harness := (true, "0a9d8b0e90b67fb7b577e2b805bd057da4eecc21e59bbb5b56464f13ca2c85ab"), looks := false }, kinds := [], alts := [], laidByText := true, laidKinds := [.data], laidTests := true, laidLooks := .later }
def ShaSumsUptoCardSaid : Prop := Claim7.holds Tryd.pinned (.plain (OpenSpec.upto shaSumsSpec)) shaSumsUptoCard

/-- THE SECOND FORM's CARD OF 'lighteragelaw02.ShaLengths'. -/
def shaLengthsUptoCard : Claim7 := { stood := { row := shaLengthsUptoRow, standIns := [], harness := (true, "0a9d8b0e90b67fb7b577e2b805bd057da4eecc21e59bbb5b56464f13ca2c85ab"), looks := false }, kinds := [], alts := [], laidByText := true, laidKinds := [.data], laidTests := true, laidLooks := .later }
def ShaLengthsUptoCardSaid : Prop := Claim7.holds Tryd.pinned (.plain (OpenSpec.upto shaLengthsSpec)) shaLengthsUptoCard

/-- THE SECOND FORM's CARD OF 'lighteragelaw02.ShaOwns'. -/
def shaOwnsUptoCard : Claim7 := { stood := { row := shaOwnsUptoRow, standIns := [], harness := (true, "0a9d8b0e90b67fb7b577e2b805bd057da4eecc21e59bbb5b56464f13ca2c85ab"), looks := false }, kinds := [], alts := [], laidByText := true, laidKinds := [.data], laidTests := true, laidLooks := .later }
def ShaOwnsUptoCardSaid : Prop := Claim7.holds Tryd.pinned (.plain (OpenSpec.upto shaOwnsSpec)) shaOwnsUptoCard

/-- THE SECOND FORM's CARD OF 'lighteragelaw02.ShaPieces'. -/
def shaPiecesUptoCard : Claim7 := { stood := { row := shaPiecesUptoRow, standIns := [], harness := (true, "0a9d8b0e90b67fb7b577e2b805bd057da4eecc21e59bbb5b56464f13ca2c85ab"), looks := false }, kinds := [], alts := [], laidByText := true, laidKinds := [.data], laidTests := true, laidLooks := .later }
def ShaPiecesUptoCardSaid : Prop := Claim7.holds Tryd.pinned (.plain (OpenSpec.upto shaPiecesSpec)) shaPiecesUptoCard

/-- THE SECOND FORM's CARD OF 'lighteragelaw02.ShaClones'. -/
def shaClonesUptoCard : Claim7 := { stood := { row := shaClonesUptoRow, standIns := [], harness := (true, "0a9d8b0e90b67fb7b577e2b805bd057da4eecc21e59bbb5b56464f13ca2c85ab"), looks := false }, kinds := [], alts := [], laidByText := true, laidKinds := [.data], laidTests := true, laidLooks := .later }
def ShaClonesUptoCardSaid : Prop := Claim7.holds Tryd.pinned (.plain (OpenSpec.upto shaClonesSpec)) shaClonesUptoCard
end Rows
end Go.Proofs.YtnfbficpodnglaaDoor
