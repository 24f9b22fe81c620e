/-
  DERIVED. GIVEN WITH THE SEED: THE CARDS: each row of YtfbioigghfjhbaaGreatDoorRows.lean that lists a variable, with what it lists TIED to the program's text (the seventh form; the later family's looks); each row that meets fmt, with fmt's text TOLD by the authors' own Lean function (tested against real Go, not proved from fmt's source: count such statements apart). THE CARD IS WHAT COUNTS. Prove the row's statement (the work); the ties are given (YtfbioigghfjhbaaGreatDoorTie.lean); close each card by the builder's one call (the guide's Derived/Test/ToyasCard.lean, 'card_holds'). Laid BY PROGRAM, IN A SANDBOX (cutbox-door.mjs). By AI agents, Wed Nov 11 2026. No macro, syntax, notation, axiom, sorry.
-/
import Derived.Test.YtfbioigghfjhbaaGreatDoorRows
import GoSem.ClaimSeven
namespace Go.Proofs.YtfbioigghfjhbaaGreatDoor
namespace Rows

/-- THE TIED CARD OF 'vizardlaw23.ScriptsNil'. -/
def scriptsNilCard : Claim7 := { stood := { row := scriptsNilRow, standIns := [], harness := (true, "ebef9f66eab5d00b2d574eda3174af54ddfdca91aba06704f49076c5cd65268e"), looks := true }, kinds := [], alts := [], laidByText := true, laidKinds := [.data, .data, .data, .data], laidTests := true, laidLooks := .later }
def ScriptsNilCardSaid : Prop := Claim7.holds Tryz.pinned (.plain (OpenSpec.ofChange scriptsNilSpec)) scriptsNilCard

/-- THE SECOND FORM's CARD OF 'vizardlaw23.ScriptsNil'. -/
def scriptsNilUptoCard : Claim7 := { stood := { row := scriptsNilUptoRow, standIns := [], harness := (true, "ebef9f66eab5d00b2d574eda3174af54ddfdca91aba06704f49076c5cd65268e"), looks := true }, kinds := [], alts := [], laidByText := true, laidKinds := [.data, .data, .data, .data], laidTests := true, laidLooks := .later }
def ScriptsNilUptoCardSaid : Prop := Claim7.holds Tryz.pinned (.plain (OpenSpec.upto scriptsNilSpec)) scriptsNilUptoCard
end Rows
end Go.Proofs.YtfbioigghfjhbaaGreatDoor
