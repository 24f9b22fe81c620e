import Derived.Test.YtmgeghoalmonoaaGreatDoorAnP

/- Walks of law15: what a nil terminal answers. -/
namespace Go.Proofs.YtmgeghoalmonoaaGreatDoor
open Go.RowKit
set_option linter.unusedSimpArgs false
set_option linter.unusedVariables false
set_option maxRecDepth 100000
attribute [local go_sem] alloc_drewN setCell_drewN World.cell?_alloc_some frozen_alloc_some pos_f1

theorem on_nil_s (q : Option Addr) (w : World) : Calls Tryz.prog 20 #[.pointer none, .pointer q] w fun e w' => e = .returned (.tuple #[.pointer none, .int .i64 2]) ∧ w = w' := by
  go_enter Tryz.func20, Tryz.ntmps20
  go_wp2_with fail
  go_ret2
  exact ⟨rfl, rfl⟩
theorem on_nil_q (s : Addr) (w : World) : Calls Tryz.prog 20 #[.pointer (some s), .pointer none] w fun e w' => e = .returned (.tuple #[.pointer none, .int .i64 2]) ∧ w = w' := by
  go_enter Tryz.func20, Tryz.ntmps20
  go_wp2_with fail
  go_ret2
  exact ⟨rfl, rfl⟩
theorem on_bad (s q : Option Addr) (h : s = none ∨ q = none) (w : World) : Calls Tryz.prog 20 #[.pointer s, .pointer q] w fun e w' => e = .returned (.tuple #[.pointer none, .int .i64 2]) ∧ w = w' := by
  cases s with
  | none => exact on_nil_s q w
  | some s =>
    cases q with
    | none => exact on_nil_q s w
    | some q => rcases h with h | h <;> cases h
theorem feed_nil (s : ByteArray) (w : World) : Calls Tryz.prog 10 #[.pointer none, .string s] w fun e w' => e = .returned (.tuple #[]) ∧ Below w.heap.size w w' := by
  go_enter Tryz.func10, Tryz.ntmps10
  go_wp2_with fail
  exact bodyPost_ret (results_none rfl _ _ _) rfl ⟨rfl, below1 _ _⟩
theorem reset_nil (w : World) : Calls Tryz.prog 21 #[.pointer none] w fun e w' => e = .returned (.tuple #[]) ∧ w = w' := by
  go_enter Tryz.func21, Tryz.ntmps21
  go_wp2_with fail
  exact bodyPost_ret (results_none rfl _ _ _) rfl ⟨rfl, rfl⟩
theorem drop_nil (w : World) : Calls Tryz.prog 19 #[.pointer none] w fun e w' => e = .returned (.tuple #[]) ∧ w = w' := by
  go_enter Tryz.func19, Tryz.ntmps19
  go_wp2_with fail
  go_end0
  exact ⟨rfl, rfl⟩
theorem told_nil (e : Bool) (n : Int) (w : World) : Calls Tryz.prog 22 #[.pointer none, .agg #[.bool e, .int .i64 n]] w fun r w' => r = .returned (.tuple #[.string ⟨#[]⟩, .bool false]) ∧ Below w.heap.size w w' := by
  go_enter Tryz.func22, Tryz.ntmps22
  go_wp2_with fail
  go_ret2
  exact ⟨rfl, below1 _ _⟩
theorem used_nil (w : World) : Calls Tryz.prog 16 #[.pointer none] w fun e w' => e = .returned (.tuple #[.int .i64 0, .bool false]) ∧ w = w' := by
  go_enter Tryz.func16, Tryz.ntmps16
  go_wp2_with fail
  go_ret2
  exact ⟨rfl, rfl⟩
theorem pending_nil (w : World) : Calls Tryz.prog 17 #[.pointer none] w fun e w' => e = .returned (.string ⟨#[]⟩) ∧ w = w' := by
  go_enter Tryz.func17, Tryz.ntmps17
  go_wp2_with fail
  go_ret
  exact ⟨rfl, rfl⟩
theorem modes_nil (w : World) : Calls Tryz.prog 15 #[.pointer none] w fun e w' => e = .returned (.agg #[.int .i64 0, .bool false, .int .i64 0, .int .i64 0]) ∧ Below w.heap.size w w' := by
  have hx := heap_alloc_new w (.cells #[.int .i64 0, .bool false, .int .i64 0, .int .i64 0] 50)
  have x0 := cell_row hx 0
  have x1 := cell_row hx 1
  have x2 := cell_row hx 2
  have x3 := cell_row hx 3
  have g0 := frozen_row hx 0
  have g1 := frozen_row hx 1
  have g2 := frozen_row hx 2
  have g3 := frozen_row hx 3
  have HX := Lib.hid hx
  clear hx
  go_enter Tryz.func15, Tryz.ntmps15
  go_wp2_with fail
  exact bodyPost_ret (v := .agg #[.int .i64 0, .bool false, .int .i64 0, .int .i64 0]) (by simp [results, Tryz.results15, go_sem, x0, x1, x2, x3]) rfl ⟨rfl, below1 _ _⟩
end Go.Proofs.YtmgeghoalmonoaaGreatDoor
