/- Walks: small of vizardref23, Plain of vizardlaw23. -/
import Derived.Test.YtfbioigghfjhbaaGreatDoorProg
import Derived.Test.YtfbioigghfjhbaaGreatDoorScrPlain
import Derived.WalkKit
import Derived.Below
import Derived.Lib.Hide
namespace Go.Proofs.YtfbioigghfjhbaaGreatDoor
open Go.RowKit
set_option linter.unusedSimpArgs false
set_option linter.unusedVariables false

theorem ret1 {a b : Value} (h : a = b) : Ending.returned a = .returned b := by rw [h]
/-- A step as a value. -/
def stpV (x : Vz.Stp) : Value := .agg #[.int .i64 x.d, .string ⟨x.text.toArray⟩, .int .i64 x.kind, .int .i64 x.code, .bool x.shift, .bool x.ctrl, .int .i64 x.rows, .int .i64 x.cols, .int .i64 x.to]
end Go.Proofs.YtfbioigghfjhbaaGreatDoor
