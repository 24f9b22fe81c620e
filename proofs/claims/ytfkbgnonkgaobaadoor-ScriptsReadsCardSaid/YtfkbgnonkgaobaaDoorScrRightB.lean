/- Walks: Right of vizardref23, of steps that tell no number. -/
import Derived.Test.YtfkbgnonkgaobaaDoorScrRight
import Derived.WalkKit
import Derived.Below
import Derived.Lib.Hide
namespace Go.Proofs.YtfkbgnonkgaobaaDoor
open Go.RowKit
set_option linter.unusedSimpArgs false
set_option linter.unusedVariables false

set_option maxHeartbeats 2000000 in
theorem right_34 (d : Int) (T : ByteArray) (k c : Int) (s l : Bool) (r o z : Int) (hd : d = 3 ∨ d = 4) (w : World) : Calls Tryd.prog 9 #[.agg #[.int .i64 d, .string T, .int .i64 k, .int .i64 c, .bool s, .bool l, .int .i64 r, .int .i64 o, .int .i64 z]] w fun e w' => e = .returned (.bool (T.toList.isEmpty && (k == 0 && c == 0 && !s && !l) && (r == 0 && o == 0) && z == 0)) ∧ Below w.heap.size w w' := by
  rcases hd with rfl | rfl
  all_goals
    go_enter Tryd.func9, Tryd.ntmps9
    go_wp2
    all_goals
      go_ret
      exact ⟨ret1 (by simp_all), (Below.refl _ _).alloc (Nat.le_refl _) _⟩

set_option maxHeartbeats 2000000 in
theorem right_1 (T : ByteArray) (k c : Int) (s l : Bool) (r o z : Int) (w : World) : Calls Tryd.prog 9 #[.agg #[.int .i64 1, .string T, .int .i64 k, .int .i64 c, .bool s, .bool l, .int .i64 r, .int .i64 o, .int .i64 z]] w fun e w' => e = .returned (.bool ((k == 0 && c == 0 && !s && !l) && (r == 0 && o == 0) && z == 0)) ∧ Below w.heap.size w w' := by
  go_enter Tryd.func9, Tryd.ntmps9
  go_wp2
  all_goals
    go_ret
    exact ⟨ret1 (by simp_all), (Below.refl _ _).alloc (Nat.le_refl _) _⟩
end Go.Proofs.YtfkbgnonkgaobaaDoor
