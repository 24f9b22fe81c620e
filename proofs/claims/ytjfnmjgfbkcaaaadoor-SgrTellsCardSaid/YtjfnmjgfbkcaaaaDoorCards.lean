/-
  DERIVED. GIVEN WITH THE SEED: THE CARDS: each row of YtjfnmjgfbkcaaaaDoorRows.lean that lists a variable, with what it lists TIED to the program's text (the seventh form; the later family's looks); each row that meets fmt, with fmt's text TOLD by the authors' own Lean function (tested against real Go, not proved from fmt's source: count such statements apart). THE CARD IS WHAT COUNTS. Prove the row's statement (the work); the ties are given (YtjfnmjgfbkcaaaaDoorTie.lean); close each card by the builder's one call (the guide's Derived/Test/ToyasCard.lean, 'card_holds'). Laid BY PROGRAM, IN A SANDBOX (cutbox-door.mjs). By AI agents, Wed Nov 11 2026. No macro, syntax, notation, axiom, sorry.
-/
import Derived.Test.YtjfnmjgfbkcaaaaDoorRows
import GoSem.ClaimSeven
namespace Go.Proofs.YtjfnmjgfbkcaaaaDoor
namespace Rows

/-- THE TIED CARD OF 'vizardlaw13.SgrApplies'. -/
def sgrAppliesCard : Claim7 := { stood := { row := sgrAppliesRow, standIns := [], harness := (true, "891179a313ca2a4f6ed48d409236a7fbe896a92e8450469e30aa72e56ff7b15d"), looks := false }, kinds := [], alts := [], laidByText := true, laidKinds := [.data, .data, .data], laidTests := true, laidLooks := .later }
def SgrAppliesCardSaid : Prop := Claim7.holds Tryd.pinned (.plain (OpenSpec.ofChange sgrAppliesSpec)) sgrAppliesCard

/-- THE TIED CARD OF 'vizardlaw13.SgrBack'. -/
def sgrBackCard : Claim7 := { stood := { row := sgrBackRow, standIns := [], harness := (true, "891179a313ca2a4f6ed48d409236a7fbe896a92e8450469e30aa72e56ff7b15d"), looks := false }, kinds := [], alts := [], laidByText := true, laidKinds := [.data, .data, .data], laidTests := true, laidLooks := .later }
def SgrBackCardSaid : Prop := Claim7.holds Tryd.pinned (.plain (OpenSpec.ofChange sgrBackSpec)) sgrBackCard

/-- THE TIED CARD OF 'vizardlaw13.SgrParts'. -/
def sgrPartsCard : Claim7 := { stood := { row := sgrPartsRow, standIns := [], harness := (true, "891179a313ca2a4f6ed48d409236a7fbe896a92e8450469e30aa72e56ff7b15d"), looks := false }, kinds := [], alts := [], laidByText := true, laidKinds := [.data, .data, .data], laidTests := true, laidLooks := .later }
def SgrPartsCardSaid : Prop := Claim7.holds Tryd.pinned (.plain (OpenSpec.ofChange sgrPartsSpec)) sgrPartsCard

/-- THE TIED CARD OF 'vizardlaw13.SgrTwice'. -/
def sgrTwiceCard : Claim7 := { stood := { row := sgrTwiceRow, standIns := [], harness := (true, "891179a313ca2a4f6ed48d409236a7fbe896a92e8450469e30aa72e56ff7b15d"), looks := false }, kinds := [], alts := [], laidByText := true, laidKinds := [.data, .data, .data], laidTests := true, laidLooks := .later }
def SgrTwiceCardSaid : Prop := Claim7.holds Tryd.pinned (.plain (OpenSpec.ofChange sgrTwiceSpec)) sgrTwiceCard

/-- THE TIED CARD OF 'vizardlaw13.SgrTells'. -/
def sgrTellsCard : Claim7 := { stood := { row := sgrTellsRow, standIns := [], harness := (true, "891179a313ca2a4f6ed48d409236a7fbe896a92e8450469e30aa72e56ff7b15d"), looks := false }, kinds := [], alts := [], laidByText := true, laidKinds := [.data, .data, .data], laidTests := true, laidLooks := .later }
def SgrTellsCardSaid : Prop := Claim7.holds Tryd.pinned (.plain (OpenSpec.ofChange sgrTellsSpec)) sgrTellsCard

/-- THE TIED CARD OF 'vizardlaw13.SgrReverse'. -/
def sgrReverseCard : Claim7 := { stood := { row := sgrReverseRow, standIns := [], harness := (true, "891179a313ca2a4f6ed48d409236a7fbe896a92e8450469e30aa72e56ff7b15d"), looks := false }, kinds := [], alts := [], laidByText := true, laidKinds := [.data, .data, .data], laidTests := true, laidLooks := .later }
def SgrReverseCardSaid : Prop := Claim7.holds Tryd.pinned (.plain (OpenSpec.ofChange sgrReverseSpec)) sgrReverseCard

/-- THE TIED CARD OF 'vizardlaw13.SgrNumbers'. -/
def sgrNumbersCard : Claim7 := { stood := { row := sgrNumbersRow, standIns := [], harness := (true, "891179a313ca2a4f6ed48d409236a7fbe896a92e8450469e30aa72e56ff7b15d"), looks := false }, kinds := [], alts := [], laidByText := true, laidKinds := [.data, .data, .data], laidTests := true, laidLooks := .later }
def SgrNumbersCardSaid : Prop := Claim7.holds Tryd.pinned (.plain (OpenSpec.ofChange sgrNumbersSpec)) sgrNumbersCard

/-- THE SECOND FORM's CARD OF 'vizardlaw13.SgrApplies'. -/
def sgrAppliesUptoCard : Claim7 := { stood := { row := sgrAppliesUptoRow, standIns := [], harness := (true, "891179a313ca2a4f6ed48d409236a7fbe896a92e8450469e30aa72e56ff7b15d"), looks := false }, kinds := [], alts := [], laidByText := true, laidKinds := [.data, .data, .data], laidTests := true, laidLooks := .later }
def SgrAppliesUptoCardSaid : Prop := Claim7.holds Tryd.pinned (.plain (OpenSpec.upto sgrAppliesSpec)) sgrAppliesUptoCard

/-- THE SECOND FORM's CARD OF 'vizardlaw13.SgrBack'. -/
def sgrBackUptoCard : Claim7 := { stood := { row := sgrBackUptoRow, standIns := [], harness := (true, "891179a313ca2a4f6ed48d409236a7fbe896a92e8450469e30aa72e56ff7b15d"), looks := false }, kinds := [], alts := [], laidByText := true, laidKinds := [.data, .data, .data], laidTests := true, laidLooks := .later }
def SgrBackUptoCardSaid : Prop := Claim7.holds Tryd.pinned (.plain (OpenSpec.upto sgrBackSpec)) sgrBackUptoCard

/-- THE SECOND FORM's CARD OF 'vizardlaw13.SgrParts'. -/
def sgrPartsUptoCard : Claim7 := { stood := { row := sgrPartsUptoRow, standIns := [], harness := (true, "891179a313ca2a4f6ed48d409236a7fbe896a92e8450469e30aa72e56ff7b15d"), looks := false }, kinds := [], alts := [], laidByText := true, laidKinds := [.data, .data, .data], laidTests := true, laidLooks := .later }
def SgrPartsUptoCardSaid : Prop := Claim7.holds Tryd.pinned (.plain (OpenSpec.upto sgrPartsSpec)) sgrPartsUptoCard

/-- THE SECOND FORM's CARD OF 'vizardlaw13.SgrTwice'. -/
def sgrTwiceUptoCard : Claim7 := { stood := { row := sgrTwiceUptoRow, standIns := [], harness := (true, "891179a313ca2a4f6ed48d409236a7fbe896a92e8450469e30aa72e56ff7b15d"), looks := false }, kinds := [], alts := [], laidByText := true, laidKinds := [.data, .data, .data], laidTests := true, laidLooks := .later }
def SgrTwiceUptoCardSaid : Prop := Claim7.holds Tryd.pinned (.plain (OpenSpec.upto sgrTwiceSpec)) sgrTwiceUptoCard

/-- THE SECOND FORM's CARD OF 'vizardlaw13.SgrTells'. -/
def sgrTellsUptoCard : Claim7 := { stood := { row := sgrTellsUptoRow, standIns := [], harness := (true, "891179a313ca2a4f6ed48d409236a7fbe896a92e8450469e30aa72e56ff7b15d"), looks := false }, kinds := [], alts := [], laidByText := true, laidKinds := [.data, .data, .data], laidTests := true, laidLooks := .later }
def SgrTellsUptoCardSaid : Prop := Claim7.holds Tryd.pinned (.plain (OpenSpec.upto sgrTellsSpec)) sgrTellsUptoCard

/-- THE SECOND FORM's CARD OF 'vizardlaw13.SgrReverse'. -/
def sgrReverseUptoCard : Claim7 := { stood := { row := sgrReverseUptoRow, standIns := [], harness := (true, "891179a313ca2a4f6ed48d409236a7fbe896a92e8450469e30aa72e56ff7b15d"), looks := false }, kinds := [], alts := [], laidByText := true, laidKinds := [.data, .data, .data], laidTests := true, laidLooks := .later }
def SgrReverseUptoCardSaid : Prop := Claim7.holds Tryd.pinned (.plain (OpenSpec.upto sgrReverseSpec)) sgrReverseUptoCard

/-- THE SECOND FORM's CARD OF 'vizardlaw13.SgrNumbers'. -/
def sgrNumbersUptoCard : Claim7 := { stood := { row := sgrNumbersUptoRow, standIns := [], harness := (true, "891179a313ca2a4f6ed48d409236a7fbe896a92e8450469e30aa72e56ff7b15d"), looks := false }, kinds := [], alts := [], laidByText := true, laidKinds := [.data, .data, .data], laidTests := true, laidLooks := .later }
def SgrNumbersUptoCardSaid : Prop := Claim7.holds Tryd.pinned (.plain (OpenSpec.upto sgrNumbersSpec)) sgrNumbersUptoCard
end Rows
end Go.Proofs.YtjfnmjgfbkcaaaaDoor
