/-
  DERIVED. GIVEN WITH THE SEED: THE CARDS: each row of YtfkbgnonkgaobaaDoorRows.lean that lists a variable, with what it lists TIED to the program's text (the seventh form; the later family's looks); each row that meets fmt, with fmt's text TOLD by the authors' own Lean function (tested against real Go, not proved from fmt's source: count such statements apart). THE CARD IS WHAT COUNTS. Prove the row's statement (the work); the ties are given (YtfkbgnonkgaobaaDoorTie.lean); close each card by the builder's one call (the guide's Derived/Test/ToyasCard.lean, 'card_holds'). Laid BY PROGRAM, IN A SANDBOX (cutbox-door.mjs). By AI agents, Wed Nov 11 2026. No macro, syntax, notation, axiom, sorry.
-/
import Derived.Test.YtfkbgnonkgaobaaDoorRows
import GoSem.ClaimSeven
namespace Go.Proofs.YtfkbgnonkgaobaaDoor
namespace Rows

/-- THE TIED CARD OF 'vizardlaw23.ScriptsPrints'. -/
def scriptsPrintsCard : Claim7 := { stood := { row := scriptsPrintsRow, standIns := [], harness := (true, "ef5330b1c7486553f7dd12f65a4d29dea84f392071612ea3768d2221a02dda94"), looks := true }, kinds := [], alts := [], laidByText := true, laidKinds := [.data, .data, .data], laidTests := true, laidLooks := .later }
def ScriptsPrintsCardSaid : Prop := Claim7.holds Tryd.pinned (.plain (OpenSpec.ofChange scriptsPrintsSpec)) scriptsPrintsCard

/-- THE TIED CARD OF 'vizardlaw23.ScriptsReads'. -/
def scriptsReadsCard : Claim7 := { stood := { row := scriptsReadsRow, standIns := [], harness := (true, "ef5330b1c7486553f7dd12f65a4d29dea84f392071612ea3768d2221a02dda94"), looks := true }, kinds := [], alts := [], laidByText := true, laidKinds := [.data, .data, .data, .data, .sentinel, .sentinel, .pinned], laidTests := true, laidLooks := .later }
def ScriptsReadsCardSaid : Prop := Claim7.holds Tryd.pinned (.plain (OpenSpec.ofChange scriptsReadsSpec)) scriptsReadsCard

/-- THE TIED CARD OF 'vizardlaw23.ScriptsBack'. -/
def scriptsBackCard : Claim7 := { stood := { row := scriptsBackRow, standIns := [], harness := (true, "ef5330b1c7486553f7dd12f65a4d29dea84f392071612ea3768d2221a02dda94"), looks := true }, kinds := [], alts := [], laidByText := true, laidKinds := [.data, .data, .data, .data, .sentinel, .sentinel, .pinned], laidTests := true, laidLooks := .later }
def ScriptsBackCardSaid : Prop := Claim7.holds Tryd.pinned (.plain (OpenSpec.ofChange scriptsBackSpec)) scriptsBackCard

/-- THE TIED CARD OF 'vizardlaw23.ScriptsJoins'. -/
def scriptsJoinsCard : Claim7 := { stood := { row := scriptsJoinsRow, standIns := [], harness := (true, "ef5330b1c7486553f7dd12f65a4d29dea84f392071612ea3768d2221a02dda94"), looks := true }, kinds := [], alts := [], laidByText := true, laidKinds := [.data, .data, .data, .data, .sentinel, .sentinel, .pinned], laidTests := true, laidLooks := .later }
def ScriptsJoinsCardSaid : Prop := Claim7.holds Tryd.pinned (.plain (OpenSpec.ofChange scriptsJoinsSpec)) scriptsJoinsCard

/-- THE SECOND FORM's CARD OF 'vizardlaw23.ScriptsPrints'. -/
def scriptsPrintsUptoCard : Claim7 := { stood := { row := scriptsPrintsUptoRow, standIns := [], harness := (true, "ef5330b1c7486553f7dd12f65a4d29dea84f392071612ea3768d2221a02dda94"), looks := true }, kinds := [], alts := [], laidByText := true, laidKinds := [.data, .data, .data], laidTests := true, laidLooks := .later }
def ScriptsPrintsUptoCardSaid : Prop := Claim7.holds Tryd.pinned (.plain (OpenSpec.upto scriptsPrintsSpec)) scriptsPrintsUptoCard

/-- THE SECOND FORM's CARD OF 'vizardlaw23.ScriptsReads'. -/
def scriptsReadsUptoCard : Claim7 := { stood := { row := scriptsReadsUptoRow, standIns := [], harness := (true, "ef5330b1c7486553f7dd12f65a4d29dea84f392071612ea3768d2221a02dda94"), looks := true }, kinds := [], alts := [], laidByText := true, laidKinds := [.data, .data, .data, .data, .sentinel, .sentinel, .pinned], laidTests := true, laidLooks := .later }
def ScriptsReadsUptoCardSaid : Prop := Claim7.holds Tryd.pinned (.plain (OpenSpec.upto scriptsReadsSpec)) scriptsReadsUptoCard

/-- THE SECOND FORM's CARD OF 'vizardlaw23.ScriptsBack'. -/
def scriptsBackUptoCard : Claim7 := { stood := { row := scriptsBackUptoRow, standIns := [], harness := (true, "ef5330b1c7486553f7dd12f65a4d29dea84f392071612ea3768d2221a02dda94"), looks := true }, kinds := [], alts := [], laidByText := true, laidKinds := [.data, .data, .data, .data, .sentinel, .sentinel, .pinned], laidTests := true, laidLooks := .later }
def ScriptsBackUptoCardSaid : Prop := Claim7.holds Tryd.pinned (.plain (OpenSpec.upto scriptsBackSpec)) scriptsBackUptoCard

/-- THE SECOND FORM's CARD OF 'vizardlaw23.ScriptsJoins'. -/
def scriptsJoinsUptoCard : Claim7 := { stood := { row := scriptsJoinsUptoRow, standIns := [], harness := (true, "ef5330b1c7486553f7dd12f65a4d29dea84f392071612ea3768d2221a02dda94"), looks := true }, kinds := [], alts := [], laidByText := true, laidKinds := [.data, .data, .data, .data, .sentinel, .sentinel, .pinned], laidTests := true, laidLooks := .later }
def ScriptsJoinsUptoCardSaid : Prop := Claim7.holds Tryd.pinned (.plain (OpenSpec.upto scriptsJoinsSpec)) scriptsJoinsUptoCard
end Rows
end Go.Proofs.YtfkbgnonkgaobaaDoor
