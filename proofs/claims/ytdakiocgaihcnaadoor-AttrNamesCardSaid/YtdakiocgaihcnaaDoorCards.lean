/-
  DERIVED. GIVEN WITH THE SEED: THE CARDS: each row of YtdakiocgaihcnaaDoorRows.lean that lists a variable, with what it lists TIED to the program's text (the seventh form; the later family's looks); each row that meets fmt, with fmt's text TOLD by the authors' own Lean function (tested against real Go, not proved from fmt's source: count such statements apart). THE CARD IS WHAT COUNTS. Prove the row's statement (the work); the ties are given (YtdakiocgaihcnaaDoorTie.lean); close each card by the builder's one call (the guide's Derived/Test/ToyasCard.lean, 'card_holds'). Laid BY PROGRAM, IN A SANDBOX (cutbox-door.mjs). By AI agents, Wed Nov 11 2026. No macro, syntax, notation, axiom, sorry.
-/
import Derived.Test.YtdakiocgaihcnaaDoorRows
import GoSem.ClaimSeven
namespace Go.Proofs.YtdakiocgaihcnaaDoor
namespace Rows

/-- THE TIED CARD OF 'vizardlaw03.AttrPaints'. -/
def attrPaintsCard : Claim7 := { stood := { row := attrPaintsRow, standIns := [], harness := (true, "3082d534a2ff3bb36f35d69bf54523ba76b61ed83a907a7036111d346bc9e4b3"), looks := false }, kinds := [], alts := [], laidByText := true, laidKinds := [.data], laidTests := true, laidLooks := .later }
def AttrPaintsCardSaid : Prop := Claim7.holds Tryd.pinned (.plain (OpenSpec.ofChange attrPaintsSpec)) attrPaintsCard

/-- THE TIED CARD OF 'vizardlaw03.AttrApart'. -/
def attrApartCard : Claim7 := { stood := { row := attrApartRow, standIns := [], harness := (true, "3082d534a2ff3bb36f35d69bf54523ba76b61ed83a907a7036111d346bc9e4b3"), looks := false }, kinds := [], alts := [], laidByText := true, laidKinds := [.data], laidTests := true, laidLooks := .later }
def AttrApartCardSaid : Prop := Claim7.holds Tryd.pinned (.plain (OpenSpec.ofChange attrApartSpec)) attrApartCard

/-- THE TIED CARD OF 'vizardlaw03.AttrKeeps'. -/
def attrKeepsCard : Claim7 := { stood := { row := attrKeepsRow, standIns := [], harness := (true, "3082d534a2ff3bb36f35d69bf54523ba76b61ed83a907a7036111d346bc9e4b3"), looks := false }, kinds := [], alts := [], laidByText := true, laidKinds := [.data], laidTests := true, laidLooks := .later }
def AttrKeepsCardSaid : Prop := Claim7.holds Tryd.pinned (.plain (OpenSpec.ofChange attrKeepsSpec)) attrKeepsCard

/-- THE TIED CARD OF 'vizardlaw03.AttrNames'. -/
def attrNamesCard : Claim7 := { stood := { row := attrNamesRow, standIns := [], harness := (true, "3082d534a2ff3bb36f35d69bf54523ba76b61ed83a907a7036111d346bc9e4b3"), looks := false }, kinds := [], alts := [], laidByText := true, laidKinds := [.data, .data, .pinned], laidTests := true, laidLooks := .later }
def AttrNamesCardSaid : Prop := Claim7.holds Tryd.pinned (.plain (OpenSpec.ofChange attrNamesSpec)) attrNamesCard

/-- THE TIED CARD OF 'vizardlaw03.AttrBack'. -/
def attrBackCard : Claim7 := { stood := { row := attrBackRow, standIns := [], harness := (true, "3082d534a2ff3bb36f35d69bf54523ba76b61ed83a907a7036111d346bc9e4b3"), looks := false }, kinds := [], alts := [], laidByText := true, laidKinds := [.data, .data, .pinned], laidTests := true, laidLooks := .later }
def AttrBackCardSaid : Prop := Claim7.holds Tryd.pinned (.plain (OpenSpec.ofChange attrBackSpec)) attrBackCard

/-- THE SECOND FORM's CARD OF 'vizardlaw03.AttrPaints'. -/
def attrPaintsUptoCard : Claim7 := { stood := { row := attrPaintsUptoRow, standIns := [], harness := (true, "3082d534a2ff3bb36f35d69bf54523ba76b61ed83a907a7036111d346bc9e4b3"), looks := false }, kinds := [], alts := [], laidByText := true, laidKinds := [.data], laidTests := true, laidLooks := .later }
def AttrPaintsUptoCardSaid : Prop := Claim7.holds Tryd.pinned (.plain (OpenSpec.upto attrPaintsSpec)) attrPaintsUptoCard

/-- THE SECOND FORM's CARD OF 'vizardlaw03.AttrApart'. -/
def attrApartUptoCard : Claim7 := { stood := { row := attrApartUptoRow, standIns := [], harness := (true, "3082d534a2ff3bb36f35d69bf54523ba76b61ed83a907a7036111d346bc9e4b3"), looks := false }, kinds := [], alts := [], laidByText := true, laidKinds := [.data], laidTests := true, laidLooks := .later }
def AttrApartUptoCardSaid : Prop := Claim7.holds Tryd.pinned (.plain (OpenSpec.upto attrApartSpec)) attrApartUptoCard

/-- THE SECOND FORM's CARD OF 'vizardlaw03.AttrKeeps'. -/
def attrKeepsUptoCard : Claim7 := { stood := { row := attrKeepsUptoRow, standIns := [], harness := (true, "3082d534a2ff3bb36f35d69bf54523ba76b61ed83a907a7036111d346bc9e4b3"), looks := false }, kinds := [], alts := [], laidByText := true, laidKinds := [.data], laidTests := true, laidLooks := .later }
def AttrKeepsUptoCardSaid : Prop := Claim7.holds Tryd.pinned (.plain (OpenSpec.upto attrKeepsSpec)) attrKeepsUptoCard

/-- THE SECOND FORM's CARD OF 'vizardlaw03.AttrNames'. -/
def attrNamesUptoCard : Claim7 := { stood := { row := attrNamesUptoRow, standIns := [], harness := (true, "3082d534a2ff3bb36f35d69bf54523ba76b61ed83a907a7036111d346bc9e4b3"), looks := false }, kinds := [], alts := [], laidByText := true, laidKinds := [.data, .data, .pinned], laidTests := true, laidLooks := .later }
def AttrNamesUptoCardSaid : Prop := Claim7.holds Tryd.pinned (.plain (OpenSpec.upto attrNamesSpec)) attrNamesUptoCard

/-- THE SECOND FORM's CARD OF 'vizardlaw03.AttrBack'. -/
def attrBackUptoCard : Claim7 := { stood := { row := attrBackUptoRow, standIns := [], harness := (true, "3082d534a2ff3bb36f35d69bf54523ba76b61ed83a907a7036111d346bc9e4b3"), looks := false }, kinds := [], alts := [], laidByText := true, laidKinds := [.data, .data, .pinned], laidTests := true, laidLooks := .later }
def AttrBackUptoCardSaid : Prop := Claim7.holds Tryd.pinned (.plain (OpenSpec.upto attrBackSpec)) attrBackUptoCard
end Rows
end Go.Proofs.YtdakiocgaihcnaaDoor
