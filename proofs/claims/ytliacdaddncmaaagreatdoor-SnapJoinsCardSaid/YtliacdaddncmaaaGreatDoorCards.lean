/-
  DERIVED. GIVEN WITH THE SEED: THE CARDS: each row of YtliacdaddncmaaaGreatDoorRows.lean that lists a variable, with what it lists TIED to the program's text (the seventh form; the later family's looks); each row that meets fmt, with fmt's text TOLD by the authors' own Lean function (tested against real Go, not proved from fmt's source: count such statements apart). THE CARD IS WHAT COUNTS. Prove the row's statement (the work); the ties are given (YtliacdaddncmaaaGreatDoorTie.lean); close each card by the builder's one call (the guide's Derived/Test/ToyasCard.lean, 'card_holds'). Laid BY PROGRAM, IN A SANDBOX (cutbox-door.mjs). By AI agents, Wed Nov 11 2026. No macro, syntax, notation, axiom, sorry.
-/
import Derived.Test.YtliacdaddncmaaaGreatDoorRows
import GoSem.ClaimSeven
namespace Go.Proofs.YtliacdaddncmaaaGreatDoor
namespace Rows

/-- THE TIED CARD OF 'vizardlaw21.SnapNil'. -/
def snapNilCard : Claim7 := { stood := { row := snapNilRow, standIns := [], harness := (true, "00b2eb73af58f2cf31d9457b96aba6a98c664c1e018ba36a09e7a6ceedea442a"), looks := true }, kinds := [], alts := [], laidByText := true, laidKinds := [.data, .data, .data, .data, .data], laidTests := true, laidLooks := .later }
def SnapNilCardSaid : Prop := Claim7.holds Tryz.pinned (.plain (OpenSpec.ofChange snapNilSpec)) snapNilCard

/-- THE TIED CARD OF 'vizardlaw21.SnapOwn'. -/
def snapOwnCard : Claim7 := { stood := { row := snapOwnRow, standIns := [], harness := (true, "00b2eb73af58f2cf31d9457b96aba6a98c664c1e018ba36a09e7a6ceedea442a"), looks := true }, kinds := [], alts := [], laidByText := true, laidKinds := [.data, .data, .data, .data, .data], laidTests := true, laidLooks := .later }
def SnapOwnCardSaid : Prop := Claim7.holds Tryz.pinned (.plain (OpenSpec.ofChange snapOwnSpec)) snapOwnCard

/-- THE TIED CARD OF 'vizardlaw21.SnapJoins'. -/
def snapJoinsCard : Claim7 := { stood := { row := snapJoinsRow, standIns := [], harness := (true, "00b2eb73af58f2cf31d9457b96aba6a98c664c1e018ba36a09e7a6ceedea442a"), looks := true }, kinds := [], alts := [], laidByText := true, laidKinds := [.data, .data, .data, .data, .data], laidTests := true, laidLooks := .later }
def SnapJoinsCardSaid : Prop := Claim7.holds Tryz.pinned (.plain (OpenSpec.ofChange snapJoinsSpec)) snapJoinsCard

/-- THE SECOND FORM's CARD OF 'vizardlaw21.SnapNil'. -/
def snapNilUptoCard : Claim7 := { stood := { row := snapNilUptoRow, standIns := [], harness := (true, "00b2eb73af58f2cf31d9457b96aba6a98c664c1e018ba36a09e7a6ceedea442a"), looks := true }, kinds := [], alts := [], laidByText := true, laidKinds := [.data, .data, .data, .data, .data], laidTests := true, laidLooks := .later }
def SnapNilUptoCardSaid : Prop := Claim7.holds Tryz.pinned (.plain (OpenSpec.upto snapNilSpec)) snapNilUptoCard

/-- THE SECOND FORM's CARD OF 'vizardlaw21.SnapOwn'. -/
def snapOwnUptoCard : Claim7 := { stood := { row := snapOwnUptoRow, standIns := [], harness := (true, "00b2eb73af58f2cf31d9457b96aba6a98c664c1e018ba36a09e7a6ceedea442a"), looks := true }, kinds := [], alts := [], laidByText := true, laidKinds := [.data, .data, .data, .data, .data], laidTests := true, laidLooks := .later }
def SnapOwnUptoCardSaid : Prop := Claim7.holds Tryz.pinned (.plain (OpenSpec.upto snapOwnSpec)) snapOwnUptoCard

/-- THE SECOND FORM's CARD OF 'vizardlaw21.SnapJoins'. -/
def snapJoinsUptoCard : Claim7 := { stood := { row := snapJoinsUptoRow, standIns := [], harness := (true, "00b2eb73af58f2cf31d9457b96aba6a98c664c1e018ba36a09e7a6ceedea442a"), looks := true }, kinds := [], alts := [], laidByText := true, laidKinds := [.data, .data, .data, .data, .data], laidTests := true, laidLooks := .later }
def SnapJoinsUptoCardSaid : Prop := Claim7.holds Tryz.pinned (.plain (OpenSpec.upto snapJoinsSpec)) snapJoinsUptoCard
end Rows
end Go.Proofs.YtliacdaddncmaaaGreatDoor
