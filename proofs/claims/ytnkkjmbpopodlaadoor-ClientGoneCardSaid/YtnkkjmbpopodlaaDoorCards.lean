/-
  DERIVED. GIVEN WITH THE SEED: THE CARDS: each row of YtnkkjmbpopodlaaDoorRows.lean that lists a variable, with what it lists TIED to the program's text (the seventh form; the later family's looks); each row that meets fmt, with fmt's text TOLD by the authors' own Lean function (tested against real Go, not proved from fmt's source: count such statements apart). THE CARD IS WHAT COUNTS. Prove the row's statement (the work); the ties are given (YtnkkjmbpopodlaaDoorTie.lean); close each card by the builder's one call (the guide's Derived/Test/ToyasCard.lean, 'card_holds'). Laid BY PROGRAM, IN A SANDBOX (cutbox-door.mjs). By AI agents, Wed Nov 11 2026. No macro, syntax, notation, axiom, sorry.
-/
import Derived.Test.YtnkkjmbpopodlaaDoorRows
import GoSem.ClaimSeven
namespace Go.Proofs.YtnkkjmbpopodlaaDoor
namespace Rows

/-- THE TIED CARD OF 'lighteragelaw21.ClientTakes'. -/
def clientTakesCard : Claim7 := { stood := { row := clientTakesRow, standIns := [], harness := (true, "294f118be415f0a5e5a7fed27c8b4108298b1de952448917df888796c08bcc59"), looks := true }, kinds := [], alts := [], laidByText := true, laidKinds := [.data], laidTests := true, laidLooks := .later }
def ClientTakesCardSaid : Prop := Claim7.holds Tryd.pinned (.plain (OpenSpec.ofChange clientTakesSpec)) clientTakesCard

/-- THE TIED CARD OF 'lighteragelaw21.ClientGone'. -/
def clientGoneCard : Claim7 := { stood := { row := clientGoneRow, standIns := [], harness := (true, "294f118be415f0a5e5a7fed27c8b4108298b1de952448917df888796c08bcc59"), looks := true }, kinds := [], alts := [], laidByText := true, laidKinds := [.data], laidTests := true, laidLooks := .later }
def ClientGoneCardSaid : Prop := Claim7.holds Tryd.pinned (.plain (OpenSpec.ofChange clientGoneSpec)) clientGoneCard

/-- THE TIED CARD OF 'lighteragelaw21.ClientPlays'. -/
def clientPlaysCard : Claim7 := { stood := { row := clientPlaysRow, standIns := [], harness := (true, "294f118be415f0a5e5a7fed27c8b4108298b1de952448917df888796c08bcc59"), looks := true }, kinds := [], alts := [], laidByText := true, laidKinds := [.data], laidTests := true, laidLooks := .later }
def ClientPlaysCardSaid : Prop := Claim7.holds Tryd.pinned (.plain (OpenSpec.ofChange clientPlaysSpec)) clientPlaysCard

/-- THE TIED CARD OF 'lighteragelaw21.ClientBounds'. -/
def clientBoundsCard : Claim7 := { stood := { row := clientBoundsRow, standIns := [], harness := (true, "294f118be415f0a5e5a7fed27c8b4108298b1de952448917df888796c08bcc59"), looks := true }, kinds := [], alts := [], laidByText := true, laidKinds := [.data], laidTests := true, laidLooks := .later }
def ClientBoundsCardSaid : Prop := Claim7.holds Tryd.pinned (.plain (OpenSpec.ofChange clientBoundsSpec)) clientBoundsCard

/-- THE TIED CARD OF 'lighteragelaw21.ClientFetches'. -/
def clientFetchesCard : Claim7 := { stood := { row := clientFetchesRow, standIns := [], harness := (true, "294f118be415f0a5e5a7fed27c8b4108298b1de952448917df888796c08bcc59"), looks := true }, kinds := [], alts := [], laidByText := true, laidKinds := [.data], laidTests := true, laidLooks := .later }
def ClientFetchesCardSaid : Prop := Claim7.holds Tryd.pinned (.plain (OpenSpec.ofChange clientFetchesSpec)) clientFetchesCard

/-- THE SECOND FORM's CARD OF 'lighteragelaw21.ClientTakes'. -/
def clientTakesUptoCard : Claim7 := { stood := { row := clientTakesUptoRow, standIns := [], harness := (true, "294f118be415f0a5e5a7fed27c8b4108298b1de952448917df888796c08bcc59"), looks := true }, kinds := [], alts := [], laidByText := true, laidKinds := [.data], laidTests := true, laidLooks := .later }
def ClientTakesUptoCardSaid : Prop := Claim7.holds Tryd.pinned (.plain (OpenSpec.upto clientTakesSpec)) clientTakesUptoCard

/-- THE SECOND FORM's CARD OF 'lighteragelaw21.ClientGone'. -/
def clientGoneUptoCard : Claim7 := { stood := { row := clientGoneUptoRow, standIns := [], harness := (true, "294f118be415f0a5e5a7fed27c8b4108298b1de952448917df888796c08bcc59"), looks := true }, kinds := [], alts := [], laidByText := true, laidKinds := [.data], laidTests := true, laidLooks := .later }
def ClientGoneUptoCardSaid : Prop := Claim7.holds Tryd.pinned (.plain (OpenSpec.upto clientGoneSpec)) clientGoneUptoCard

/-- THE SECOND FORM's CARD OF 'lighteragelaw21.ClientPlays'. -/
def clientPlaysUptoCard : Claim7 := { stood := { row := clientPlaysUptoRow, standIns := [], harness := (true, "294f118be415f0a5e5a7fed27c8b4108298b1de952448917df888796c08bcc59"), looks := true }, kinds := [], alts := [], laidByText := true, laidKinds := [.data], laidTests := true, laidLooks := .later }
def ClientPlaysUptoCardSaid : Prop := Claim7.holds Tryd.pinned (.plain (OpenSpec.upto clientPlaysSpec)) clientPlaysUptoCard

/-- THE SECOND FORM's CARD OF 'lighteragelaw21.ClientBounds'. -/
def clientBoundsUptoCard : Claim7 := { stood := { row := clientBoundsUptoRow, standIns := [], harness := (true, "294f118be415f0a5e5a7fed27c8b4108298b1de952448917df888796c08bcc59"), looks := true }, kinds := [], alts := [], laidByText := true, laidKinds := [.data], laidTests := true, laidLooks := .later }
def ClientBoundsUptoCardSaid : Prop := Claim7.holds Tryd.pinned (.plain (OpenSpec.upto clientBoundsSpec)) clientBoundsUptoCard

/-- THE SECOND FORM's CARD OF 'lighteragelaw21.ClientFetches'. -/
def clientFetchesUptoCard : Claim7 := { stood := { row := clientFetchesUptoRow, standIns := [], harness := (true, "294f118be415f0a5e5a7fed27c8b4108298b1de952448917df888796c08bcc59"), looks := true }, kinds := [], alts := [], laidByText := true, laidKinds := [.data], laidTests := true, laidLooks := .later }
def ClientFetchesUptoCardSaid : Prop := Claim7.holds Tryd.pinned (.plain (OpenSpec.upto clientFetchesSpec)) clientFetchesUptoCard
end Rows
end Go.Proofs.YtnkkjmbpopodlaaDoor
