/-
  DERIVED. GIVEN WITH THE SEED: THE CARDS: each row of YteoeooijpjehpaaGreatDoorRows.lean that lists a variable, with what it lists TIED to the program's text (the seventh form; the later family's looks); each row that meets fmt, with fmt's text TOLD by the authors' own Lean function (tested against real Go, not proved from fmt's source: count such statements apart). THE CARD IS WHAT COUNTS. Prove the row's statement (the work); the ties are given (YteoeooijpjehpaaGreatDoorTie.lean); close each card by the builder's one call (the guide's Derived/Test/ToyasCard.lean, 'card_holds'). Laid BY PROGRAM, IN A SANDBOX (cutbox-door.mjs). By AI agents, Wed Nov 11 2026. No macro, syntax, notation, axiom, sorry.
-/
import Derived.Test.YteoeooijpjehpaaGreatDoorRows
import GoSem.ClaimSeven
namespace Go.Proofs.YteoeooijpjehpaaGreatDoor
namespace Rows

/-- THE TIED CARD OF 'vizardlaw17.WyseNil'. -/
def wyseNilCard : Claim7 := { stood := { row := wyseNilRow, standIns := [], harness := (true, "6460d2b6acbd4aa2d09687d914197df4977e0b87b2a13ad289f11abdc772c491"), looks := true }, kinds := [], alts := [], laidByText := true, laidKinds := [.data, .data, .data, .data, .sentinel, .sentinel, .data, .pinned], laidTests := true, laidLooks := .later }
def WyseNilCardSaid : Prop := Claim7.holds Tryz.pinned (.plain (OpenSpec.ofChange wyseNilSpec)) wyseNilCard

/-- THE TIED CARD OF 'vizardlaw17.WyseGuards'. -/
def wyseGuardsCard : Claim7 := { stood := { row := wyseGuardsRow, standIns := [], harness := (true, "6460d2b6acbd4aa2d09687d914197df4977e0b87b2a13ad289f11abdc772c491"), looks := true }, kinds := [], alts := [], laidByText := true, laidKinds := [.data, .data, .data, .data, .sentinel, .sentinel, .data, .pinned], laidTests := true, laidLooks := .later }
def WyseGuardsCardSaid : Prop := Claim7.holds Tryz.pinned (.plain (OpenSpec.ofChange wyseGuardsSpec)) wyseGuardsCard

/-- THE TIED CARD OF 'vizardlaw17.WysePieces'. -/
def wysePiecesCard : Claim7 := { stood := { row := wysePiecesRow, standIns := [], harness := (true, "6460d2b6acbd4aa2d09687d914197df4977e0b87b2a13ad289f11abdc772c491"), looks := true }, kinds := [], alts := [], laidByText := true, laidKinds := [.data, .data, .data, .data, .sentinel, .sentinel, .data, .pinned], laidTests := true, laidLooks := .later }
def WysePiecesCardSaid : Prop := Claim7.holds Tryz.pinned (.plain (OpenSpec.ofChange wysePiecesSpec)) wysePiecesCard

/-- THE TIED CARD OF 'vizardlaw17.WyseAddress'. -/
def wyseAddressCard : Claim7 := { stood := { row := wyseAddressRow, standIns := [], harness := (true, "6460d2b6acbd4aa2d09687d914197df4977e0b87b2a13ad289f11abdc772c491"), looks := true }, kinds := [], alts := [], laidByText := true, laidKinds := [.data, .data, .data, .data, .sentinel, .sentinel, .data, .pinned], laidTests := true, laidLooks := .later }
def WyseAddressCardSaid : Prop := Claim7.holds Tryz.pinned (.plain (OpenSpec.ofChange wyseAddressSpec)) wyseAddressCard

/-- THE TIED CARD OF 'vizardlaw17.WyseResets'. -/
def wyseResetsCard : Claim7 := { stood := { row := wyseResetsRow, standIns := [], harness := (true, "6460d2b6acbd4aa2d09687d914197df4977e0b87b2a13ad289f11abdc772c491"), looks := true }, kinds := [], alts := [], laidByText := true, laidKinds := [.data, .data, .data, .data, .sentinel, .sentinel, .data, .pinned], laidTests := true, laidLooks := .later }
def WyseResetsCardSaid : Prop := Claim7.holds Tryz.pinned (.plain (OpenSpec.ofChange wyseResetsSpec)) wyseResetsCard

/-- THE TIED CARD OF 'vizardlaw17.WysePlays'. -/
def wysePlaysCard : Claim7 := { stood := { row := wysePlaysRow, standIns := [], harness := (true, "6460d2b6acbd4aa2d09687d914197df4977e0b87b2a13ad289f11abdc772c491"), looks := true }, kinds := [], alts := [], laidByText := true, laidKinds := [.data, .data, .data, .data, .sentinel, .sentinel, .data, .pinned], laidTests := true, laidLooks := .later }
def WysePlaysCardSaid : Prop := Claim7.holds Tryz.pinned (.plain (OpenSpec.ofChange wysePlaysSpec)) wysePlaysCard

/-- THE SECOND FORM's CARD OF 'vizardlaw17.WyseNil'. -/
def wyseNilUptoCard : Claim7 := { stood := { row := wyseNilUptoRow, standIns := [], harness := (true, "6460d2b6acbd4aa2d09687d914197df4977e0b87b2a13ad289f11abdc772c491"), looks := true }, kinds := [], alts := [], laidByText := true, laidKinds := [.data, .data, .data, .data, .sentinel, .sentinel, .data, .pinned], laidTests := true, laidLooks := .later }
def WyseNilUptoCardSaid : Prop := Claim7.holds Tryz.pinned (.plain (OpenSpec.upto wyseNilSpec)) wyseNilUptoCard

/-- THE SECOND FORM's CARD OF 'vizardlaw17.WyseGuards'. -/
def wyseGuardsUptoCard : Claim7 := { stood := { row := wyseGuardsUptoRow, standIns := [], harness := (true, "6460d2b6acbd4aa2d09687d914197df4977e0b87b2a13ad289f11abdc772c491"), looks := true }, kinds := [], alts := [], laidByText := true, laidKinds := [.data, .data, .data, .data, .sentinel, .sentinel, .data, .pinned], laidTests := true, laidLooks := .later }
def WyseGuardsUptoCardSaid : Prop := Claim7.holds Tryz.pinned (.plain (OpenSpec.upto wyseGuardsSpec)) wyseGuardsUptoCard

/-- THE SECOND FORM's CARD OF 'vizardlaw17.WysePieces'. -/
def wysePiecesUptoCard : Claim7 := { stood := { row := wysePiecesUptoRow, standIns := [], harness := (true, "6460d2b6acbd4aa2d09687d914197df4977e0b87b2a13ad289f11abdc772c491"), looks := true }, kinds := [], alts := [], laidByText := true, laidKinds := [.data, .data, .data, .data, .sentinel, .sentinel, .data, .pinned], laidTests := true, laidLooks := .later }
def WysePiecesUptoCardSaid : Prop := Claim7.holds Tryz.pinned (.plain (OpenSpec.upto wysePiecesSpec)) wysePiecesUptoCard

/-- THE SECOND FORM's CARD OF 'vizardlaw17.WyseAddress'. -/
def wyseAddressUptoCard : Claim7 := { stood := { row := wyseAddressUptoRow, standIns := [], harness := (true, "6460d2b6acbd4aa2d09687d914197df4977e0b87b2a13ad289f11abdc772c491"), looks := true }, kinds := [], alts := [], laidByText := true, laidKinds := [.data, .data, .data, .data, .sentinel, .sentinel, .data, .pinned], laidTests := true, laidLooks := .later }
def WyseAddressUptoCardSaid : Prop := Claim7.holds Tryz.pinned (.plain (OpenSpec.upto wyseAddressSpec)) wyseAddressUptoCard

/-- THE SECOND FORM's CARD OF 'vizardlaw17.WyseResets'. -/
def wyseResetsUptoCard : Claim7 := { stood := { row := wyseResetsUptoRow, standIns := [], harness := (true, "6460d2b6acbd4aa2d09687d914197df4977e0b87b2a13ad289f11abdc772c491"), looks := true }, kinds := [], alts := [], laidByText := true, laidKinds := [.data, .data, .data, .data, .sentinel, .sentinel, .data, .pinned], laidTests := true, laidLooks := .later }
def WyseResetsUptoCardSaid : Prop := Claim7.holds Tryz.pinned (.plain (OpenSpec.upto wyseResetsSpec)) wyseResetsUptoCard

/-- THE SECOND FORM's CARD OF 'vizardlaw17.WysePlays'. -/
def wysePlaysUptoCard : Claim7 := { stood := { row := wysePlaysUptoRow, standIns := [], harness := (true, "6460d2b6acbd4aa2d09687d914197df4977e0b87b2a13ad289f11abdc772c491"), looks := true }, kinds := [], alts := [], laidByText := true, laidKinds := [.data, .data, .data, .data, .sentinel, .sentinel, .data, .pinned], laidTests := true, laidLooks := .later }
def WysePlaysUptoCardSaid : Prop := Claim7.holds Tryz.pinned (.plain (OpenSpec.upto wysePlaysSpec)) wysePlaysUptoCard
end Rows
end Go.Proofs.YteoeooijpjehpaaGreatDoor
