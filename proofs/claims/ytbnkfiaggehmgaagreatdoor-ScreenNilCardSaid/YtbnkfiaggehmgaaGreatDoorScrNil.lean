/- Walks: a nil screen's answers (by wip/tools/scrnil.py). -/
import Derived.Test.YtbnkfiaggehmgaaGreatDoorScrAwake
namespace Go.Proofs.YtbnkfiaggehmgaaGreatDoor
open Go.RowKit
set_option linter.unusedSimpArgs false
set_option linter.unusedVariables false
attribute [local go_sem] alloc_drewN setCell_drewN World.cell?_alloc_some frozen_alloc_some size_f0 size_f1

set_option maxRecDepth 10000 in
set_option maxHeartbeats 1000000 in
theorem nil_put (c0 c1 : Int) (c2 : Bool) (c3 : Int) (n : Int) (b : Bool) (w : World) : Calls Tryz.prog 17 #[.pointer none, .agg #[.int .i32 c0, .int .i64 c1, .bool c2, .int .i64 c3], .int .i64 n, .bool b] w fun e w' => e = .returned (.tuple #[]) ∧ Below w.heap.size w w' := by
  go_enter Tryz.func17, Tryz.ntmps17
  go_wp2_with fail
  all_goals (first | (go_end0; exact ⟨rfl, Grows.below (by repeat (first | exact Grows.refl _ | refine Grows.drewN ?_ _ | refine Grows.alloc ?_ _))⟩) | (refine bodyPost_ret (results_none rfl _ _ _) rfl ⟨rfl, Grows.below (by repeat (first | exact Grows.refl _ | refine Grows.drewN ?_ _ | refine Grows.alloc ?_ _))⟩))
set_option maxRecDepth 10000 in
set_option maxHeartbeats 1000000 in
theorem nil_move (p0 p1 : Int) (w : World) : Calls Tryz.prog 26 #[.pointer none, .agg #[.int .i64 p0, .int .i64 p1]] w fun e w' => e = .returned (.tuple #[]) ∧ Below w.heap.size w w' := by
  go_enter Tryz.func26, Tryz.ntmps26
  go_wp2_with fail
  all_goals (first | (go_end0; exact ⟨rfl, Grows.below (by repeat (first | exact Grows.refl _ | refine Grows.drewN ?_ _ | refine Grows.alloc ?_ _))⟩) | (refine bodyPost_ret (results_none rfl _ _ _) rfl ⟨rfl, Grows.below (by repeat (first | exact Grows.refl _ | refine Grows.drewN ?_ _ | refine Grows.alloc ?_ _))⟩))
set_option maxRecDepth 10000 in
set_option maxHeartbeats 1000000 in
theorem nil_step (n m : Int) (w : World) : Calls Tryz.prog 34 #[.pointer none, .int .i64 n, .int .i64 m] w fun e w' => e = .returned (.tuple #[]) ∧ Below w.heap.size w w' := by
  go_enter Tryz.func34, Tryz.ntmps34
  go_wp2_with fail
  all_goals (first | (go_end0; exact ⟨rfl, Grows.below (by repeat (first | exact Grows.refl _ | refine Grows.drewN ?_ _ | refine Grows.alloc ?_ _))⟩) | (refine bodyPost_ret (results_none rfl _ _ _) rfl ⟨rfl, Grows.below (by repeat (first | exact Grows.refl _ | refine Grows.drewN ?_ _ | refine Grows.alloc ?_ _))⟩))
set_option maxRecDepth 10000 in
set_option maxHeartbeats 1000000 in
theorem nil_feed (n : Int) (w : World) : Calls Tryz.prog 31 #[.pointer none, .int .i64 n] w fun e w' => e = .returned (.tuple #[]) ∧ Below w.heap.size w w' := by
  go_enter_defers Tryz.func31, Tryz.ntmps31
  go_wp2_with fail
  exact ⟨_, results_none rfl _ _ _, rfl, Grows.below (by repeat (first | exact Grows.refl _ | refine Grows.drewN ?_ _ | refine Grows.alloc ?_ _))⟩
set_option maxRecDepth 10000 in
set_option maxHeartbeats 1000000 in
theorem nil_tab (n : Int) (w : World) : Calls Tryz.prog 35 #[.pointer none, .int .i64 n] w fun e w' => e = .returned (.tuple #[]) ∧ Below w.heap.size w w' := by
  go_enter Tryz.func35, Tryz.ntmps35
  go_wp2_with fail
  all_goals (first | (go_end0; exact ⟨rfl, Grows.below (by repeat (first | exact Grows.refl _ | refine Grows.drewN ?_ _ | refine Grows.alloc ?_ _))⟩) | (refine bodyPost_ret (results_none rfl _ _ _) rfl ⟨rfl, Grows.below (by repeat (first | exact Grows.refl _ | refine Grows.drewN ?_ _ | refine Grows.alloc ?_ _))⟩))
set_option maxRecDepth 10000 in
set_option maxHeartbeats 1000000 in
theorem nil_stop (n : Int) (b : Bool) (w : World) : Calls Tryz.prog 36 #[.pointer none, .int .i64 n, .bool b] w fun e w' => e = .returned (.tuple #[]) ∧ Below w.heap.size w w' := by
  go_enter Tryz.func36, Tryz.ntmps36
  go_wp2_with fail
  all_goals (first | (go_end0; exact ⟨rfl, Grows.below (by repeat (first | exact Grows.refl _ | refine Grows.drewN ?_ _ | refine Grows.alloc ?_ _))⟩) | (refine bodyPost_ret (results_none rfl _ _ _) rfl ⟨rfl, Grows.below (by repeat (first | exact Grows.refl _ | refine Grows.drewN ?_ _ | refine Grows.alloc ?_ _))⟩))
set_option maxRecDepth 10000 in
set_option maxHeartbeats 1000000 in
theorem nil_stops (n : Int) (w : World) : Calls Tryz.prog 37 #[.pointer none, .int .i64 n] w fun e w' => e = .returned (.tuple #[]) ∧ Below w.heap.size w w' := by
  go_enter Tryz.func37, Tryz.ntmps37
  go_wp2_with fail
  all_goals (first | (go_end0; exact ⟨rfl, Grows.below (by repeat (first | exact Grows.refl _ | refine Grows.drewN ?_ _ | refine Grows.alloc ?_ _))⟩) | (refine bodyPost_ret (results_none rfl _ _ _) rfl ⟨rfl, Grows.below (by repeat (first | exact Grows.refl _ | refine Grows.drewN ?_ _ | refine Grows.alloc ?_ _))⟩))
set_option maxRecDepth 10000 in
set_option maxHeartbeats 1000000 in
theorem nil_wipe (p0 p1 : Int) (q0 q1 : Int) (c0 c1 : Int) (c2 : Bool) (c3 : Int) (b : Bool) (w : World) : Calls Tryz.prog 63 #[.pointer none, .agg #[.int .i64 p0, .int .i64 p1], .agg #[.int .i64 q0, .int .i64 q1], .agg #[.int .i32 c0, .int .i64 c1, .bool c2, .int .i64 c3], .bool b] w fun e w' => e = .returned (.tuple #[]) ∧ Below w.heap.size w w' := by
  go_enter Tryz.func63, Tryz.ntmps63
  go_wp2_with fail
  all_goals (first | (go_end0; exact ⟨rfl, Grows.below (by repeat (first | exact Grows.refl _ | refine Grows.drewN ?_ _ | refine Grows.alloc ?_ _))⟩) | (refine bodyPost_ret (results_none rfl _ _ _) rfl ⟨rfl, Grows.below (by repeat (first | exact Grows.refl _ | refine Grows.drewN ?_ _ | refine Grows.alloc ?_ _))⟩))
set_option maxRecDepth 10000 in
set_option maxHeartbeats 1000000 in
theorem nil_part (n : Int) (c0 c1 : Int) (c2 : Bool) (c3 : Int) (b : Bool) (w : World) : Calls Tryz.prog 64 #[.pointer none, .int .i64 n, .agg #[.int .i32 c0, .int .i64 c1, .bool c2, .int .i64 c3], .bool b] w fun e w' => e = .returned (.tuple #[]) ∧ Below w.heap.size w w' := by
  go_enter Tryz.func64, Tryz.ntmps64
  go_wp2_with fail
  all_goals (first | (go_end0; exact ⟨rfl, Grows.below (by repeat (first | exact Grows.refl _ | refine Grows.drewN ?_ _ | refine Grows.alloc ?_ _))⟩) | (refine bodyPost_ret (results_none rfl _ _ _) rfl ⟨rfl, Grows.below (by repeat (first | exact Grows.refl _ | refine Grows.drewN ?_ _ | refine Grows.alloc ?_ _))⟩))
set_option maxRecDepth 10000 in
set_option maxHeartbeats 1000000 in
theorem nil_lines (n : Int) (c0 c1 : Int) (c2 : Bool) (c3 : Int) (b : Bool) (w : World) : Calls Tryz.prog 65 #[.pointer none, .int .i64 n, .agg #[.int .i32 c0, .int .i64 c1, .bool c2, .int .i64 c3], .bool b] w fun e w' => e = .returned (.tuple #[]) ∧ Below w.heap.size w w' := by
  go_enter Tryz.func65, Tryz.ntmps65
  go_wp2_with fail
  all_goals (first | (go_end0; exact ⟨rfl, Grows.below (by repeat (first | exact Grows.refl _ | refine Grows.drewN ?_ _ | refine Grows.alloc ?_ _))⟩) | (refine bodyPost_ret (results_none rfl _ _ _) rfl ⟨rfl, Grows.below (by repeat (first | exact Grows.refl _ | refine Grows.drewN ?_ _ | refine Grows.alloc ?_ _))⟩))
set_option maxRecDepth 10000 in
set_option maxHeartbeats 1000000 in
theorem nil_chars (n : Int) (c0 c1 : Int) (c2 : Bool) (c3 : Int) (b : Bool) (w : World) : Calls Tryz.prog 66 #[.pointer none, .int .i64 n, .agg #[.int .i32 c0, .int .i64 c1, .bool c2, .int .i64 c3], .bool b] w fun e w' => e = .returned (.tuple #[]) ∧ Below w.heap.size w w' := by
  go_enter Tryz.func66, Tryz.ntmps66
  go_wp2_with fail
  all_goals (first | (go_end0; exact ⟨rfl, Grows.below (by repeat (first | exact Grows.refl _ | refine Grows.drewN ?_ _ | refine Grows.alloc ?_ _))⟩) | (refine bodyPost_ret (results_none rfl _ _ _) rfl ⟨rfl, Grows.below (by repeat (first | exact Grows.refl _ | refine Grows.drewN ?_ _ | refine Grows.alloc ?_ _))⟩))
set_option maxRecDepth 10000 in
set_option maxHeartbeats 1000000 in
theorem nil_free (b : Bool) (w : World) : Calls Tryz.prog 38 #[.pointer none, .bool b] w fun e w' => e = .returned (.bool false) ∧ Below w.heap.size w w' := by
  go_enter Tryz.func38, Tryz.ntmps38
  go_wp2_with fail
  go_ret
  exact ⟨rfl, Grows.below (by repeat (first | exact Grows.refl _ | refine Grows.drewN ?_ _ | refine Grows.alloc ?_ _))⟩
set_option maxRecDepth 10000 in
set_option maxHeartbeats 1000000 in
theorem nil_resize (p0 p1 : Int) (w : World) : Calls Tryz.prog 33 #[.pointer none, .agg #[.int .i64 p0, .int .i64 p1]] w fun e w' => e = .returned (.int .i64 2) ∧ Below w.heap.size w w' := by
  go_enter_defers Tryz.func33, Tryz.ntmps33
  go_wp2_with fail
  exact ⟨_, results_tmp rfl _ _ _, rfl, Grows.below (by repeat (first | exact Grows.refl _ | refine Grows.drewN ?_ _ | refine Grows.alloc ?_ _))⟩
set_option maxRecDepth 10000 in
set_option maxHeartbeats 1000000 in
theorem nil_set (p0 p1 : Int) (c0 c1 : Int) (c2 : Bool) (c3 : Int) (w : World) : Calls Tryz.prog 39 #[.pointer none, .agg #[.int .i64 p0, .int .i64 p1], .agg #[.int .i32 c0, .int .i64 c1, .bool c2, .int .i64 c3]] w fun e w' => e = .returned (.int .i64 2) ∧ Below w.heap.size w w' := by
  go_enter Tryz.func39, Tryz.ntmps39
  go_wp2_with fail
  go_ret
  exact ⟨rfl, Grows.below (by repeat (first | exact Grows.refl _ | refine Grows.drewN ?_ _ | refine Grows.alloc ?_ _))⟩
set_option maxRecDepth 10000 in
set_option maxHeartbeats 1000000 in
theorem nil_rows  (w : World) : Calls Tryz.prog 29 #[.pointer none] w fun e w' => e = .returned (.slice none 0 0) ∧ Below w.heap.size w w' := by
  go_enter Tryz.func29, Tryz.ntmps29
  go_wp2_with fail
  go_ret
  exact ⟨rfl, Grows.below (by repeat (first | exact Grows.refl _ | refine Grows.drewN ?_ _ | refine Grows.alloc ?_ _))⟩
set_option maxRecDepth 10000 in
set_option maxHeartbeats 1000000 in
theorem nil_listed  (w : World) : Calls Tryz.prog 32 #[.pointer none] w fun e w' => e = .returned (.slice none 0 0) ∧ Below w.heap.size w w' := by
  go_enter Tryz.func32, Tryz.ntmps32
  go_wp2_with fail
  go_ret
  exact ⟨rfl, Grows.below (by repeat (first | exact Grows.refl _ | refine Grows.drewN ?_ _ | refine Grows.alloc ?_ _))⟩
set_option maxRecDepth 10000 in
set_option maxHeartbeats 1000000 in
theorem nil_copy  (w : World) : Calls Tryz.prog 24 #[.pointer none] w fun e w' => e = .returned (.pointer none) ∧ Below w.heap.size w w' := by
  go_enter Tryz.func24, Tryz.ntmps24
  go_wp2_with fail
  go_ret
  exact ⟨rfl, Grows.below (by repeat (first | exact Grows.refl _ | refine Grows.drewN ?_ _ | refine Grows.alloc ?_ _))⟩
set_option maxRecDepth 10000 in
set_option maxHeartbeats 1000000 in
theorem nil_size  (w : World) : Calls Tryz.prog 16 #[.pointer none] w fun e w' => e = .returned (.agg #[.int .i64 0, .int .i64 0]) ∧ Below w.heap.size w w' := by
  go_enter Tryz.func16, Tryz.ntmps16
  go_wp2_with fail
  refine bodyPost_ret (v := .agg #[.int .i64 0, .int .i64 0]) (by simp [results, Tryz.results16, go_sem]) rfl ⟨rfl, Grows.below (by repeat (first | exact Grows.refl _ | refine Grows.drewN ?_ _ | refine Grows.alloc ?_ _))⟩
set_option maxRecDepth 10000 in
set_option maxHeartbeats 1000000 in
theorem nil_cursor  (w : World) : Calls Tryz.prog 15 #[.pointer none] w fun e w' => e = .returned (.tuple #[.agg #[.int .i64 0, .int .i64 0], .bool false]) ∧ Below w.heap.size w w' := by
  go_enter Tryz.func15, Tryz.ntmps15
  go_wp2_with fail
  refine bodyPost_ret (v := .tuple #[.agg #[.int .i64 0, .int .i64 0], .bool false]) (by simp [results, Tryz.results15, go_sem]) rfl ⟨rfl, Grows.below (by repeat (first | exact Grows.refl _ | refine Grows.drewN ?_ _ | refine Grows.alloc ?_ _))⟩
set_option maxRecDepth 10000 in
set_option maxHeartbeats 1000000 in
theorem nil_at (p0 p1 : Int) (w : World) : Calls Tryz.prog 18 #[.pointer none, .agg #[.int .i64 p0, .int .i64 p1]] w fun e w' => e = .returned (.tuple #[.agg #[.int .i32 0, .int .i64 0, .bool false, .int .i64 0], .int .i64 2]) ∧ Below w.heap.size w w' := by
  go_enter Tryz.func18, Tryz.ntmps18
  go_wp2_with fail
  refine bodyPost_ret (v := .tuple #[.agg #[.int .i32 0, .int .i64 0, .bool false, .int .i64 0], .int .i64 2]) (by simp [results, Tryz.results18, go_sem]) rfl ⟨rfl, Grows.below (by repeat (first | exact Grows.refl _ | refine Grows.drewN ?_ _ | refine Grows.alloc ?_ _))⟩
end Go.Proofs.YtbnkfiaggehmgaaGreatDoor
