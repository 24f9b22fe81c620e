/-
  DERIVED. GIVEN WITH THE SEED: THE CARDS: each row of YtncgigapgklhcaaGreatDoorRows.lean that lists a variable, with what it lists TIED to the program's text (the seventh form; the later family's looks); each row that meets fmt, with fmt's text TOLD by the authors' own Lean function (tested against real Go, not proved from fmt's source: count such statements apart). THE CARD IS WHAT COUNTS. Prove the row's statement (the work); the ties are given (YtncgigapgklhcaaGreatDoorTie.lean); close each card by the builder's one call (the guide's Derived/Test/ToyasCard.lean, 'card_holds'). Laid BY PROGRAM, IN A SANDBOX (cutbox-door.mjs). By AI agents, Wed Nov 11 2026. No macro, syntax, notation, axiom, sorry.
-/
import Derived.Test.YtncgigapgklhcaaGreatDoorRows
import GoSem.ClaimSeven
namespace Go.Proofs.YtncgigapgklhcaaGreatDoor
namespace Rows

/-- THE TIED CARD OF 'vizardlaw18.AdmAddress'. -/
def admAddressCard : Claim7 := { stood := { row := admAddressRow, standIns := [], harness := (true, "93e1f0098c982e5165a5606bcd6091ce2e604547a4bd02940e851a940981b1b6"), looks := true }, kinds := [], alts := [], laidByText := true, laidKinds := [.data], laidTests := true, laidLooks := .later }
def AdmAddressCardSaid : Prop := Claim7.holds Tryz.pinned (.plain (OpenSpec.ofChange admAddressSpec)) admAddressCard

/-- THE TIED CARD OF 'vizardlaw18.AdmNil'. -/
def admNilCard : Claim7 := { stood := { row := admNilRow, standIns := [], harness := (true, "93e1f0098c982e5165a5606bcd6091ce2e604547a4bd02940e851a940981b1b6"), looks := true }, kinds := [], alts := [], laidByText := true, laidKinds := [.data], laidTests := true, laidLooks := .later }
def AdmNilCardSaid : Prop := Claim7.holds Tryz.pinned (.plain (OpenSpec.ofChange admNilSpec)) admNilCard

/-- THE TIED CARD OF 'vizardlaw18.AdmPieces'. -/
def admPiecesCard : Claim7 := { stood := { row := admPiecesRow, standIns := [], harness := (true, "93e1f0098c982e5165a5606bcd6091ce2e604547a4bd02940e851a940981b1b6"), looks := true }, kinds := [], alts := [], laidByText := true, laidKinds := [.data], laidTests := true, laidLooks := .later }
def AdmPiecesCardSaid : Prop := Claim7.holds Tryz.pinned (.plain (OpenSpec.ofChange admPiecesSpec)) admPiecesCard

/-- THE TIED CARD OF 'vizardlaw18.AdmFolds'. -/
def admFoldsCard : Claim7 := { stood := { row := admFoldsRow, standIns := [], harness := (true, "93e1f0098c982e5165a5606bcd6091ce2e604547a4bd02940e851a940981b1b6"), looks := true }, kinds := [], alts := [], laidByText := true, laidKinds := [.data], laidTests := true, laidLooks := .later }
def AdmFoldsCardSaid : Prop := Claim7.holds Tryz.pinned (.plain (OpenSpec.ofChange admFoldsSpec)) admFoldsCard

/-- THE TIED CARD OF 'vizardlaw18.AdmGuards'. -/
def admGuardsCard : Claim7 := { stood := { row := admGuardsRow, standIns := [], harness := (true, "93e1f0098c982e5165a5606bcd6091ce2e604547a4bd02940e851a940981b1b6"), looks := true }, kinds := [], alts := [], laidByText := true, laidKinds := [.data], laidTests := true, laidLooks := .later }
def AdmGuardsCardSaid : Prop := Claim7.holds Tryz.pinned (.plain (OpenSpec.ofChange admGuardsSpec)) admGuardsCard

/-- THE TIED CARD OF 'vizardlaw18.AdmPlays'. -/
def admPlaysCard : Claim7 := { stood := { row := admPlaysRow, standIns := [], harness := (true, "93e1f0098c982e5165a5606bcd6091ce2e604547a4bd02940e851a940981b1b6"), looks := true }, kinds := [], alts := [], laidByText := true, laidKinds := [.data], laidTests := true, laidLooks := .later }
def AdmPlaysCardSaid : Prop := Claim7.holds Tryz.pinned (.plain (OpenSpec.ofChange admPlaysSpec)) admPlaysCard

/-- THE TIED CARD OF 'vizardlaw18.AdmResets'. -/
def admResetsCard : Claim7 := { stood := { row := admResetsRow, standIns := [], harness := (true, "93e1f0098c982e5165a5606bcd6091ce2e604547a4bd02940e851a940981b1b6"), looks := true }, kinds := [], alts := [], laidByText := true, laidKinds := [.data], laidTests := true, laidLooks := .later }
def AdmResetsCardSaid : Prop := Claim7.holds Tryz.pinned (.plain (OpenSpec.ofChange admResetsSpec)) admResetsCard

/-- THE SECOND FORM's CARD OF 'vizardlaw18.AdmAddress'. -/
def admAddressUptoCard : Claim7 := { stood := { row := admAddressUptoRow, standIns := [], harness := (true, "93e1f0098c982e5165a5606bcd6091ce2e604547a4bd02940e851a940981b1b6"), looks := true }, kinds := [], alts := [], laidByText := true, laidKinds := [.data], laidTests := true, laidLooks := .later }
def AdmAddressUptoCardSaid : Prop := Claim7.holds Tryz.pinned (.plain (OpenSpec.upto admAddressSpec)) admAddressUptoCard

/-- THE SECOND FORM's CARD OF 'vizardlaw18.AdmNil'. -/
def admNilUptoCard : Claim7 := { stood := { row := admNilUptoRow, standIns := [], harness := (true, "93e1f0098c982e5165a5606bcd6091ce2e604547a4bd02940e851a940981b1b6"), looks := true }, kinds := [], alts := [], laidByText := true, laidKinds := [.data], laidTests := true, laidLooks := .later }
def AdmNilUptoCardSaid : Prop := Claim7.holds Tryz.pinned (.plain (OpenSpec.upto admNilSpec)) admNilUptoCard

/-- THE SECOND FORM's CARD OF 'vizardlaw18.AdmPieces'. -/
def admPiecesUptoCard : Claim7 := { stood := { row := admPiecesUptoRow, standIns := [], harness := (true, "93e1f0098c982e5165a5606bcd6091ce2e604547a4bd02940e851a940981b1b6"), looks := true }, kinds := [], alts := [], laidByText := true, laidKinds := [.data], laidTests := true, laidLooks := .later }
def AdmPiecesUptoCardSaid : Prop := Claim7.holds Tryz.pinned (.plain (OpenSpec.upto admPiecesSpec)) admPiecesUptoCard

/-- THE SECOND FORM's CARD OF 'vizardlaw18.AdmFolds'. -/
def admFoldsUptoCard : Claim7 := { stood := { row := admFoldsUptoRow, standIns := [], harness := (true, "93e1f0098c982e5165a5606bcd6091ce2e604547a4bd02940e851a940981b1b6"), looks := true }, kinds := [], alts := [], laidByText := true, laidKinds := [.data], laidTests := true, laidLooks := .later }
def AdmFoldsUptoCardSaid : Prop := Claim7.holds Tryz.pinned (.plain (OpenSpec.upto admFoldsSpec)) admFoldsUptoCard

/-- THE SECOND FORM's CARD OF 'vizardlaw18.AdmGuards'. -/
def admGuardsUptoCard : Claim7 := { stood := { row := admGuardsUptoRow, standIns := [], harness := (true, "93e1f0098c982e5165a5606bcd6091ce2e604547a4bd02940e851a940981b1b6"), looks := true }, kinds := [], alts := [], laidByText := true, laidKinds := [.data], laidTests := true, laidLooks := .later }
def AdmGuardsUptoCardSaid : Prop := Claim7.holds Tryz.pinned (.plain (OpenSpec.upto admGuardsSpec)) admGuardsUptoCard

/-- THE SECOND FORM's CARD OF 'vizardlaw18.AdmPlays'. -/
def admPlaysUptoCard : Claim7 := { stood := { row := admPlaysUptoRow, standIns := [], harness := (true, "93e1f0098c982e5165a5606bcd6091ce2e604547a4bd02940e851a940981b1b6"), looks := true }, kinds := [], alts := [], laidByText := true, laidKinds := [.data], laidTests := true, laidLooks := .later }
def AdmPlaysUptoCardSaid : Prop := Claim7.holds Tryz.pinned (.plain (OpenSpec.upto admPlaysSpec)) admPlaysUptoCard

/-- THE SECOND FORM's CARD OF 'vizardlaw18.AdmResets'. -/
def admResetsUptoCard : Claim7 := { stood := { row := admResetsUptoRow, standIns := [], harness := (true, "93e1f0098c982e5165a5606bcd6091ce2e604547a4bd02940e851a940981b1b6"), looks := true }, kinds := [], alts := [], laidByText := true, laidKinds := [.data], laidTests := true, laidLooks := .later }
def AdmResetsUptoCardSaid : Prop := Claim7.holds Tryz.pinned (.plain (OpenSpec.upto admResetsSpec)) admResetsUptoCard
end Rows
end Go.Proofs.YtncgigapgklhcaaGreatDoor
