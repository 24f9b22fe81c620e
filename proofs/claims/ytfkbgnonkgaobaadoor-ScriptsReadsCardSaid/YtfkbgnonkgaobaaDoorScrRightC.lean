/- Walks: Right of vizardref23, of steps that tell numbers. -/
import Derived.Test.YtfkbgnonkgaobaaDoorScrRight
namespace Go.Proofs.YtfkbgnonkgaobaaDoor
open Go.RowKit
set_option linter.unusedSimpArgs false
set_option linter.unusedVariables false

set_option maxHeartbeats 4000000 in
theorem right_6 (T : ByteArray) (k c : Int) (s l : Bool) (r o z : Int) (w : World) : Calls Tryd.prog 9 #[.agg #[.int .i64 6, .string T, .int .i64 k, .int .i64 c, .bool s, .bool l, .int .i64 r, .int .i64 o, .int .i64 z]] w fun e w' => e = .returned (.bool (T.toList.isEmpty && (k == 0 && c == 0 && !s && !l) && (r == 0 && o == 0) && Vz.small z 9)) ∧ Below w.heap.size w w' := by
  have HS := Lib.hid small_any
  cases hb : Vz.small z 9
  all_goals
    have HB := Lib.hid hb
    clear hb
    go_enter Tryd.func9, Tryd.ntmps9
    go_wp2_with (go_at_call 17; refine (HS.out _ _ _).mono ?_; rintro e w1 ⟨rfl, rfl⟩; rw [HB.out])
    all_goals
      go_ret
      exact ⟨ret1 (by simp_all), (Below.refl _ _).alloc (Nat.le_refl _) _⟩
end Go.Proofs.YtfkbgnonkgaobaaDoor
