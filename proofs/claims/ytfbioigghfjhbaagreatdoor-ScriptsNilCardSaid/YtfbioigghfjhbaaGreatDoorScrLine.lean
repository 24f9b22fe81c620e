/- Walks: digits and Line of vizardref23. -/
import Derived.Test.YtfbioigghfjhbaaGreatDoorScrOpen
import Derived.BigQuiet
import Derived.Deep.QuietTactic
import Derived.Lib.Strings
import Derived.IntWalk
namespace Go.Proofs.YtfbioigghfjhbaaGreatDoor
open Go.RowKit
set_option linter.unusedSimpArgs false
set_option linter.unusedVariables false

theorem take_at (T : ByteArray) (j : Nat) (h : j < T.size) : T.data.toList.take (j + 1) = T.data.toList.take j ++ [T[j]'h] := by
  have hl : j < T.data.toList.length := h
  rw [List.take_add_one, List.getElem?_eq_getElem hl]
  rfl
end Go.Proofs.YtfbioigghfjhbaaGreatDoor
