/-
  DERIVED. GIVEN WITH THE SEED: THE CARDS: each row of YtbnkfiaggehmgaaGreatDoorRows.lean that lists a variable, with what it lists TIED to the program's text (the seventh form; the later family's looks); each row that meets fmt, with fmt's text TOLD by the authors' own Lean function (tested against real Go, not proved from fmt's source: count such statements apart). THE CARD IS WHAT COUNTS. Prove the row's statement (the work); the ties are given (YtbnkfiaggehmgaaGreatDoorTie.lean); close each card by the builder's one call (the guide's Derived/Test/ToyasCard.lean, 'card_holds'). Laid BY PROGRAM, IN A SANDBOX (cutbox-door.mjs). By AI agents, Wed Nov 11 2026. No macro, syntax, notation, axiom, sorry.
-/
import Derived.Test.YtbnkfiaggehmgaaGreatDoorRows
import GoSem.ClaimSeven
namespace Go.Proofs.YtbnkfiaggehmgaaGreatDoor
namespace Rows

/-- THE TIED CARD OF 'vizardlaw09.ScreenCursor'. -/
def screenCursorCard : Claim7 := { stood := { row := screenCursorRow, standIns := [], harness := (true, "d4742b645c6fa6bb1db6a7f409ee80625f3e0451e9ef93d34d0ee3bfaf0d511b"), looks := true }, kinds := [], alts := [], laidByText := true, laidKinds := [.data], laidTests := true, laidLooks := .later }
def ScreenCursorCardSaid : Prop := Claim7.holds Tryz.pinned (.plain (OpenSpec.ofChange screenCursorSpec)) screenCursorCard

/-- THE TIED CARD OF 'vizardlaw09.ScreenPlays'. -/
def screenPlaysCard : Claim7 := { stood := { row := screenPlaysRow, standIns := [], harness := (true, "d4742b645c6fa6bb1db6a7f409ee80625f3e0451e9ef93d34d0ee3bfaf0d511b"), looks := true }, kinds := [], alts := [], laidByText := true, laidKinds := [.data], laidTests := true, laidLooks := .later }
def ScreenPlaysCardSaid : Prop := Claim7.holds Tryz.pinned (.plain (OpenSpec.ofChange screenPlaysSpec)) screenPlaysCard

/-- THE TIED CARD OF 'vizardlaw09.ScreenGuards'. -/
def screenGuardsCard : Claim7 := { stood := { row := screenGuardsRow, standIns := [], harness := (true, "d4742b645c6fa6bb1db6a7f409ee80625f3e0451e9ef93d34d0ee3bfaf0d511b"), looks := true }, kinds := [], alts := [], laidByText := true, laidKinds := [.data], laidTests := true, laidLooks := .later }
def ScreenGuardsCardSaid : Prop := Claim7.holds Tryz.pinned (.plain (OpenSpec.ofChange screenGuardsSpec)) screenGuardsCard

/-- THE TIED CARD OF 'vizardlaw09.ScreenMoves'. -/
def screenMovesCard : Claim7 := { stood := { row := screenMovesRow, standIns := [], harness := (true, "d4742b645c6fa6bb1db6a7f409ee80625f3e0451e9ef93d34d0ee3bfaf0d511b"), looks := true }, kinds := [], alts := [], laidByText := true, laidKinds := [.data], laidTests := true, laidLooks := .later }
def ScreenMovesCardSaid : Prop := Claim7.holds Tryz.pinned (.plain (OpenSpec.ofChange screenMovesSpec)) screenMovesCard

/-- THE TIED CARD OF 'vizardlaw09.ScreenCopies'. -/
def screenCopiesCard : Claim7 := { stood := { row := screenCopiesRow, standIns := [], harness := (true, "d4742b645c6fa6bb1db6a7f409ee80625f3e0451e9ef93d34d0ee3bfaf0d511b"), looks := true }, kinds := [], alts := [], laidByText := true, laidKinds := [.data], laidTests := true, laidLooks := .later }
def ScreenCopiesCardSaid : Prop := Claim7.holds Tryz.pinned (.plain (OpenSpec.ofChange screenCopiesSpec)) screenCopiesCard

/-- THE TIED CARD OF 'vizardlaw09.ScreenFeeds'. -/
def screenFeedsCard : Claim7 := { stood := { row := screenFeedsRow, standIns := [], harness := (true, "d4742b645c6fa6bb1db6a7f409ee80625f3e0451e9ef93d34d0ee3bfaf0d511b"), looks := true }, kinds := [], alts := [], laidByText := true, laidKinds := [.data], laidTests := true, laidLooks := .later }
def ScreenFeedsCardSaid : Prop := Claim7.holds Tryz.pinned (.plain (OpenSpec.ofChange screenFeedsSpec)) screenFeedsCard

/-- THE TIED CARD OF 'vizardlaw09.ScreenNil'. -/
def screenNilCard : Claim7 := { stood := { row := screenNilRow, standIns := [], harness := (true, "d4742b645c6fa6bb1db6a7f409ee80625f3e0451e9ef93d34d0ee3bfaf0d511b"), looks := true }, kinds := [], alts := [], laidByText := true, laidKinds := [.data], laidTests := true, laidLooks := .later }
def ScreenNilCardSaid : Prop := Claim7.holds Tryz.pinned (.plain (OpenSpec.ofChange screenNilSpec)) screenNilCard

/-- THE TIED CARD OF 'vizardlaw09.ScreenGrows'. -/
def screenGrowsCard : Claim7 := { stood := { row := screenGrowsRow, standIns := [], harness := (true, "d4742b645c6fa6bb1db6a7f409ee80625f3e0451e9ef93d34d0ee3bfaf0d511b"), looks := true }, kinds := [], alts := [], laidByText := true, laidKinds := [.data], laidTests := true, laidLooks := .later }
def ScreenGrowsCardSaid : Prop := Claim7.holds Tryz.pinned (.plain (OpenSpec.ofChange screenGrowsSpec)) screenGrowsCard

/-- THE SECOND FORM's CARD OF 'vizardlaw09.ScreenCursor'. -/
def screenCursorUptoCard : Claim7 := { stood := { row := screenCursorUptoRow, standIns := [], harness := (true, "d4742b645c6fa6bb1db6a7f409ee80625f3e0451e9ef93d34d0ee3bfaf0d511b"), looks := true }, kinds := [], alts := [], laidByText := true, laidKinds := [.data], laidTests := true, laidLooks := .later }
def ScreenCursorUptoCardSaid : Prop := Claim7.holds Tryz.pinned (.plain (OpenSpec.upto screenCursorSpec)) screenCursorUptoCard

/-- THE SECOND FORM's CARD OF 'vizardlaw09.ScreenPlays'. -/
def screenPlaysUptoCard : Claim7 := { stood := { row := screenPlaysUptoRow, standIns := [], harness := (true, "d4742b645c6fa6bb1db6a7f409ee80625f3e0451e9ef93d34d0ee3bfaf0d511b"), looks := true }, kinds := [], alts := [], laidByText := true, laidKinds := [.data], laidTests := true, laidLooks := .later }
def ScreenPlaysUptoCardSaid : Prop := Claim7.holds Tryz.pinned (.plain (OpenSpec.upto screenPlaysSpec)) screenPlaysUptoCard

/-- THE SECOND FORM's CARD OF 'vizardlaw09.ScreenGuards'. -/
def screenGuardsUptoCard : Claim7 := { stood := { row := screenGuardsUptoRow, standIns := [], harness := (true, "d4742b645c6fa6bb1db6a7f409ee80625f3e0451e9ef93d34d0ee3bfaf0d511b"), looks := true }, kinds := [], alts := [], laidByText := true, laidKinds := [.data], laidTests := true, laidLooks := .later }
def ScreenGuardsUptoCardSaid : Prop := Claim7.holds Tryz.pinned (.plain (OpenSpec.upto screenGuardsSpec)) screenGuardsUptoCard

/-- THE SECOND FORM's CARD OF 'vizardlaw09.ScreenMoves'. -/
def screenMovesUptoCard : Claim7 := { stood := { row := screenMovesUptoRow, standIns := [], harness := (true, "d4742b645c6fa6bb1db6a7f409ee80625f3e0451e9ef93d34d0ee3bfaf0d511b"), looks := true }, kinds := [], alts := [], laidByText := true, laidKinds := [.data], laidTests := true, laidLooks := .later }
def ScreenMovesUptoCardSaid : Prop := Claim7.holds Tryz.pinned (.plain (OpenSpec.upto screenMovesSpec)) screenMovesUptoCard

/-- THE SECOND FORM's CARD OF 'vizardlaw09.ScreenCopies'. -/
def screenCopiesUptoCard : Claim7 := { stood := { row := screenCopiesUptoRow, standIns := [], harness := (true, "d4742b645c6fa6bb1db6a7f409ee80625f3e0451e9ef93d34d0ee3bfaf0d511b"), looks := true }, kinds := [], alts := [], laidByText := true, laidKinds := [.data], laidTests := true, laidLooks := .later }
def ScreenCopiesUptoCardSaid : Prop := Claim7.holds Tryz.pinned (.plain (OpenSpec.upto screenCopiesSpec)) screenCopiesUptoCard

/-- THE SECOND FORM's CARD OF 'vizardlaw09.ScreenFeeds'. -/
def screenFeedsUptoCard : Claim7 := { stood := { row := screenFeedsUptoRow, standIns := [], harness := (true, "d4742b645c6fa6bb1db6a7f409ee80625f3e0451e9ef93d34d0ee3bfaf0d511b"), looks := true }, kinds := [], alts := [], laidByText := true, laidKinds := [.data], laidTests := true, laidLooks := .later }
def ScreenFeedsUptoCardSaid : Prop := Claim7.holds Tryz.pinned (.plain (OpenSpec.upto screenFeedsSpec)) screenFeedsUptoCard

/-- THE SECOND FORM's CARD OF 'vizardlaw09.ScreenNil'. -/
def screenNilUptoCard : Claim7 := { stood := { row := screenNilUptoRow, standIns := [], harness := (true, "d4742b645c6fa6bb1db6a7f409ee80625f3e0451e9ef93d34d0ee3bfaf0d511b"), looks := true }, kinds := [], alts := [], laidByText := true, laidKinds := [.data], laidTests := true, laidLooks := .later }
def ScreenNilUptoCardSaid : Prop := Claim7.holds Tryz.pinned (.plain (OpenSpec.upto screenNilSpec)) screenNilUptoCard

/-- THE SECOND FORM's CARD OF 'vizardlaw09.ScreenGrows'. -/
def screenGrowsUptoCard : Claim7 := { stood := { row := screenGrowsUptoRow, standIns := [], harness := (true, "d4742b645c6fa6bb1db6a7f409ee80625f3e0451e9ef93d34d0ee3bfaf0d511b"), looks := true }, kinds := [], alts := [], laidByText := true, laidKinds := [.data], laidTests := true, laidLooks := .later }
def ScreenGrowsUptoCardSaid : Prop := Claim7.holds Tryz.pinned (.plain (OpenSpec.upto screenGrowsSpec)) screenGrowsUptoCard
end Rows
end Go.Proofs.YtbnkfiaggehmgaaGreatDoor
