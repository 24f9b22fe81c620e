import Derived.Test.YteoeooijpjehpaaGreatDoorIS

/- The law WyseNil, whole: for all texts it answers true. -/
namespace Go.Proofs.YteoeooijpjehpaaGreatDoor
open Go.RowKit
set_option linter.unusedSimpArgs false
set_option linter.unusedVariables false
attribute [local go_sem] alloc_drewN setCell_drewN World.cell?_alloc_some frozen_alloc_some size_f0 size_f1

theorem run_eql_modes (w : World) : Sem.run Tryz.prog (binOp .eql 37 (.agg #[.bool false, .bool false, .bool false, .bool false, .bool false]) (.agg #[.bool false, .bool false, .bool false, .bool false, .bool false])) w = .ok (.bool true) w := by kernel_rfl
attribute [local go_sem 3000] run_eql_modes
set_option maxRecDepth 10000 in
set_option maxHeartbeats 4000000 in
theorem law_wnil (s : ByteArray) (w : World) (hbl : BaseW w) : Calls Tryz.prog 3 #[.string s] w fun e w' => e = .returned (.bool true) ∧ Below w.heap.size w w' := by
 have HAW := Lib.hid (fun W (hb : Below w.heap.size w W) => awake_any W (hbl.below hb))
 have HN := Lib.hid (made_ok 2 3 (by decide) w hbl)
 have HB0 : Hid (Below w.heap.size w w) := Below.refl _ _
 clear hbl
 go_enter Tryz.func3, Tryz.ntmps3
 go_wp2_with (first
  | (go_at_call 10; refine HN.out.mono ?_; rintro e w1 ⟨wp, tp, sp, qp, rfl, hm⟩; obtain ⟨c0, c1, c2⟩ := hm.cells; have HB1 := Lib.hid hm.2.2.2; clear hm)
  | (go_at_call 11; refine (wy_on_bad _ _ (by simp) _).mono ?_; rintro e w2 ⟨rfl, rfl⟩)
  | (go_at_call 12; refine (wfeed_nil _ _).mono ?_; rintro e w2 ⟨rfl, rfl⟩)
  | (go_at_call 13; refine (wreset_nil _).mono ?_; rintro e w2 ⟨rfl, rfl⟩)
  | (go_at_call 14; refine (wdrop_nil _).mono ?_; rintro e w2 ⟨rfl, rfl⟩)
  | (go_at_call 16; refine (wattr_nil _).mono ?_; rintro e w2 ⟨rfl, rfl⟩)
  | (go_at_call 17; refine (wstatus_nil _).mono ?_; rintro e w2 ⟨rfl, rfl⟩)
  | (go_at_call 18; refine (wpending_nil _).mono ?_; rintro e w2 ⟨rfl, rfl⟩)
  | (go_at_call 15; refine (wmodes_nil _).mono ?_; rintro e w5 ⟨rfl, hb5⟩; have HB5 := Lib.hid (Below.later HB1.out hb5 HB1.out.size); clear hb5)
  | (go_at_call 9; have hb := HB5.out; refine (HAW.out _ hb).mono ?_; clear hb; rintro e w9 ⟨rfl, hb9⟩; have HB9 := Lib.hid (Below.later HB5.out hb9 HB5.out.size); clear hb9)
  | (go_at_call 9; refine (HAW.out _ HB0.out).mono ?_; rintro e w9 ⟨rfl, hb9⟩; have HB9 := Lib.hid hb9; clear hb9))
 all_goals (
  go_ret
  exact ⟨rfl, HB9.out⟩)
end Go.Proofs.YteoeooijpjehpaaGreatDoor
