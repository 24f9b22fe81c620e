/-
  DERIVED. GIVEN WITH THE SEED: THE CARDS: each row of YtmgeghoalmonoaaGreatDoorRows.lean that lists a variable, with what it lists TIED to the program's text (the seventh form; the later family's looks); each row that meets fmt, with fmt's text TOLD by the authors' own Lean function (tested against real Go, not proved from fmt's source: count such statements apart). THE CARD IS WHAT COUNTS. Prove the row's statement (the work); the ties are given (YtmgeghoalmonoaaGreatDoorTie.lean); close each card by the builder's one call (the guide's Derived/Test/ToyasCard.lean, 'card_holds'). Laid BY PROGRAM, IN A SANDBOX (cutbox-door.mjs). By AI agents, Wed Nov 11 2026. No macro, syntax, notation, axiom, sorry.
-/
import Derived.Test.YtmgeghoalmonoaaGreatDoorRows
import GoSem.ClaimSeven
namespace Go.Proofs.YtmgeghoalmonoaaGreatDoor
namespace Rows

/-- THE TIED CARD OF 'vizardlaw15.AnsiReports'. -/
def ansiReportsCard : Claim7 := { stood := { row := ansiReportsRow, standIns := [], harness := (true, "f82bc587e86f9a206f0de6c36cef4ab83a0ce269d0ef2026b30fe2a7fa32e52f"), looks := true }, kinds := [], alts := [], laidByText := true, laidKinds := [.data, .data, .data, .sentinel, .sentinel, .data], laidTests := true, laidLooks := .later }
def AnsiReportsCardSaid : Prop := Claim7.holds Tryz.pinned (.plain (OpenSpec.ofChange ansiReportsSpec)) ansiReportsCard

/-- THE TIED CARD OF 'vizardlaw15.AnsiSaves'. -/
def ansiSavesCard : Claim7 := { stood := { row := ansiSavesRow, standIns := [], harness := (true, "f82bc587e86f9a206f0de6c36cef4ab83a0ce269d0ef2026b30fe2a7fa32e52f"), looks := true }, kinds := [], alts := [], laidByText := true, laidKinds := [.data, .data, .data, .sentinel, .sentinel, .data], laidTests := true, laidLooks := .later }
def AnsiSavesCardSaid : Prop := Claim7.holds Tryz.pinned (.plain (OpenSpec.ofChange ansiSavesSpec)) ansiSavesCard

/-- THE TIED CARD OF 'vizardlaw15.AnsiBounds'. -/
def ansiBoundsCard : Claim7 := { stood := { row := ansiBoundsRow, standIns := [], harness := (true, "f82bc587e86f9a206f0de6c36cef4ab83a0ce269d0ef2026b30fe2a7fa32e52f"), looks := true }, kinds := [], alts := [], laidByText := true, laidKinds := [.data, .data, .data, .sentinel, .sentinel, .data], laidTests := true, laidLooks := .later }
def AnsiBoundsCardSaid : Prop := Claim7.holds Tryz.pinned (.plain (OpenSpec.ofChange ansiBoundsSpec)) ansiBoundsCard

/-- THE TIED CARD OF 'vizardlaw15.AnsiNil'. -/
def ansiNilCard : Claim7 := { stood := { row := ansiNilRow, standIns := [], harness := (true, "f82bc587e86f9a206f0de6c36cef4ab83a0ce269d0ef2026b30fe2a7fa32e52f"), looks := true }, kinds := [], alts := [], laidByText := true, laidKinds := [.data, .data, .data, .sentinel, .sentinel, .data], laidTests := true, laidLooks := .later }
def AnsiNilCardSaid : Prop := Claim7.holds Tryz.pinned (.plain (OpenSpec.ofChange ansiNilSpec)) ansiNilCard

/-- THE SECOND FORM's CARD OF 'vizardlaw15.AnsiReports'. -/
def ansiReportsUptoCard : Claim7 := { stood := { row := ansiReportsUptoRow, standIns := [], harness := (true, "f82bc587e86f9a206f0de6c36cef4ab83a0ce269d0ef2026b30fe2a7fa32e52f"), looks := true }, kinds := [], alts := [], laidByText := true, laidKinds := [.data, .data, .data, .sentinel, .sentinel, .data], laidTests := true, laidLooks := .later }
def AnsiReportsUptoCardSaid : Prop := Claim7.holds Tryz.pinned (.plain (OpenSpec.upto ansiReportsSpec)) ansiReportsUptoCard

/-- THE SECOND FORM's CARD OF 'vizardlaw15.AnsiSaves'. -/
def ansiSavesUptoCard : Claim7 := { stood := { row := ansiSavesUptoRow, standIns := [], harness := (true, "f82bc587e86f9a206f0de6c36cef4ab83a0ce269d0ef2026b30fe2a7fa32e52f"), looks := true }, kinds := [], alts := [], laidByText := true, laidKinds := [.data, .data, .data, .sentinel, .sentinel, .data], laidTests := true, laidLooks := .later }
def AnsiSavesUptoCardSaid : Prop := Claim7.holds Tryz.pinned (.plain (OpenSpec.upto ansiSavesSpec)) ansiSavesUptoCard

/-- THE SECOND FORM's CARD OF 'vizardlaw15.AnsiBounds'. -/
def ansiBoundsUptoCard : Claim7 := { stood := { row := ansiBoundsUptoRow, standIns := [], harness := (true, "f82bc587e86f9a206f0de6c36cef4ab83a0ce269d0ef2026b30fe2a7fa32e52f"), looks := true }, kinds := [], alts := [], laidByText := true, laidKinds := [.data, .data, .data, .sentinel, .sentinel, .data], laidTests := true, laidLooks := .later }
def AnsiBoundsUptoCardSaid : Prop := Claim7.holds Tryz.pinned (.plain (OpenSpec.upto ansiBoundsSpec)) ansiBoundsUptoCard

/-- THE SECOND FORM's CARD OF 'vizardlaw15.AnsiNil'. -/
def ansiNilUptoCard : Claim7 := { stood := { row := ansiNilUptoRow, standIns := [], harness := (true, "f82bc587e86f9a206f0de6c36cef4ab83a0ce269d0ef2026b30fe2a7fa32e52f"), looks := true }, kinds := [], alts := [], laidByText := true, laidKinds := [.data, .data, .data, .sentinel, .sentinel, .data], laidTests := true, laidLooks := .later }
def AnsiNilUptoCardSaid : Prop := Claim7.holds Tryz.pinned (.plain (OpenSpec.upto ansiNilSpec)) ansiNilUptoCard
end Rows
end Go.Proofs.YtmgeghoalmonoaaGreatDoor
