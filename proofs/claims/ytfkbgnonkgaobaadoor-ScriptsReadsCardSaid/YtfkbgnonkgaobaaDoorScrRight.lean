/- Walks: small of vizardref23, Plain of vizardlaw23. -/
import Derived.Test.YtfkbgnonkgaobaaDoorProg
import Derived.Test.YtfkbgnonkgaobaaDoorScrPlain
import Derived.WalkKit
import Derived.Below
import Derived.Lib.Hide
namespace Go.Proofs.YtfkbgnonkgaobaaDoor
open Go.RowKit
set_option linter.unusedSimpArgs false
set_option linter.unusedVariables false

theorem ret1 {a b : Value} (h : a = b) : Ending.returned a = .returned b := by rw [h]
/-- A step as a value. -/
def stpV (x : Vz.Stp) : Value := .agg #[.int .i64 x.d, .string ⟨x.text.toArray⟩, .int .i64 x.kind, .int .i64 x.code, .bool x.shift, .bool x.ctrl, .int .i64 x.rows, .int .i64 x.cols, .int .i64 x.to]

theorem small_any (n m : Int) (w : World) : Calls Tryd.prog 17 #[.int .i64 n, .int .i64 m] w fun e w' => e = .returned (.bool (Vz.small n m)) ∧ w = w' := by
  by_cases h0 : 0 ≤ n
  · have HR : Hid (Vz.small n m = decide (n ≤ m)) := by show _ = _; unfold Vz.small; rw [decide_eq_true h0]; rfl
    go_enter Tryd.func17, Tryd.ntmps17
    go_wp2
    go_ret
    exact ⟨ret1 (by rw [HR.out]; rfl), rfl⟩
  · have HR : Hid (Vz.small n m = false) := by show _ = _; unfold Vz.small; rw [decide_eq_false h0]; rfl
    go_enter Tryd.func17, Tryd.ntmps17
    go_wp2
    go_ret
    exact ⟨ret1 (by rw [HR.out]; rfl), rfl⟩

set_option maxHeartbeats 1000000 in
theorem plain_any (x : Vz.Stp) (w : World) : Calls Tryd.prog 10 #[stpV x] w fun e w' => e = .returned (stpV x) ∧ Below w.heap.size w w' := by
  obtain ⟨d, t, k, c, s, l, r, o, z⟩ := x
  unfold stpV
  simp only
  go_enter Tryd.func10, Tryd.ntmps10
  go_wp2
  refine bodyPost_ret (v := .agg #[_, _, _, _, _, _, _, _, _]) (by simp [results, Tryd.results10, go_sem]) rfl ⟨rfl, ?_⟩
  exact ((Below.refl _ _).alloc (Nat.le_refl _) _).alloc (by simp) _
end Go.Proofs.YtfkbgnonkgaobaaDoor
