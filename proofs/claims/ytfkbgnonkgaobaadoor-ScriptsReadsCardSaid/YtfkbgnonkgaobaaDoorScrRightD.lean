/- Walks: Right of vizardref23, of steps that tell two numbers. -/
import Derived.Test.YtfkbgnonkgaobaaDoorScrRight
namespace Go.Proofs.YtfkbgnonkgaobaaDoor
open Go.RowKit
set_option linter.unusedSimpArgs false
set_option linter.unusedVariables false

set_option maxHeartbeats 4000000 in
theorem right_2 (T : ByteArray) (k c : Int) (s l : Bool) (r o z : Int) (w : World) : Calls Tryd.prog 9 #[.agg #[.int .i64 2, .string T, .int .i64 k, .int .i64 c, .bool s, .bool l, .int .i64 r, .int .i64 o, .int .i64 z]] w fun e w' => e = .returned (.bool (T.toList.isEmpty && (r == 0 && o == 0) && z == 0 && Vz.small k 255 && Vz.small c 255)) ∧ Below w.heap.size w w' := by
  have HS := Lib.hid small_any
  go_enter Tryd.func9, Tryd.ntmps9
  go_wp2_with (go_at_call 17; refine (HS.out _ _ _).mono ?_; rintro e w1 ⟨rfl, rfl⟩)
  all_goals
    go_ret
    exact ⟨ret1 (by simp_all), (Below.refl _ _).alloc (Nat.le_refl _) _⟩
end Go.Proofs.YtfkbgnonkgaobaaDoor
