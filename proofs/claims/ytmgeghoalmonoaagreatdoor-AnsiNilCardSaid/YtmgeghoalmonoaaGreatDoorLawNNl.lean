import Derived.Test.YtmgeghoalmonoaaGreatDoorAnQ

/- The law AnsiNil, whole. -/
namespace Go.Proofs.YtmgeghoalmonoaaGreatDoor
open Go.RowKit
set_option linter.unusedSimpArgs false
set_option linter.unusedVariables false
set_option maxRecDepth 100000
attribute [local go_sem] alloc_drewN setCell_drewN World.cell?_alloc_some frozen_alloc_some pos_f1

theorem run_eql_amodes (w : World) : Sem.run Tryz.prog (binOp .eql 50 (.agg #[.int .i64 0, .bool false, .int .i64 0, .int .i64 0]) (.agg #[.int .i64 0, .bool false, .int .i64 0, .int .i64 0])) w = .ok (.bool true) w := by kernel_rfl
attribute [local go_sem 3000] run_eql_amodes
/-- The key's box, and what came behind it. -/
def KeyB (w : World) (e : Bool) (n : Int) (W : World) : Prop := Below w.heap.size w W ∧ W.heap[w.heap.size]? = some (.cells #[.bool e, .int .i64 n] 58 (0, 0))
theorem KeyB.later {w W W' : World} {e : Bool} {n : Int} (h : KeyB w e n W) (hb : Below W.heap.size W W') : KeyB w e n W' := ⟨h.1.trans (hb.mono h.1.size), (hb.block _ (block_lt h.2)).trans h.2⟩
set_option maxHeartbeats 4000000 in
theorem law_annil (s : ByteArray) (e : Bool) (n : Int) (w : World) (hbl : Blanked w) : Calls Tryz.prog 6 #[.string s, .agg #[.bool e, .int .i64 n]] w fun r w' => r = .returned (.bool true) ∧ Below w.heap.size w w' := by
  have HAW := Lib.hid (fun W (hb : KeyB w e n W) => awake_any W (hbl.below hb.1))
  have HN := Lib.hid (fun W (hb : KeyB w e n W) => made_ok 2 2 2 (by decide) (by decide) (by decide) W (hbl.below hb.1))
  have HB : Hid (KeyB w e n (w.alloc (.cells #[.bool e, .int .i64 n] 58))) := ⟨below1 _ _, heap_alloc_new _ _⟩
  clear hbl
  have hcase : (200 : Int) < (s.size : Int) ∨ ¬ (200 : Int) < (s.size : Int) := by omega
  rcases hcase with hz | hz
  all_goals (
    go_enter Tryz.func6, Tryz.ntmps6
    go_wp2_with (first
      | (go_at_call 9; refine (HN.out _ HB.out).mono ?_; rintro r w1 ⟨wp, P, G, rfl, hm⟩; obtain ⟨c0, c1, c2⟩ := hm.cells; have HB2 := Lib.hid (HB.out.later hm.bel); clear HB hm; have HB := HB2; clear HB2)
      | (go_at_call 20; refine (on_bad _ _ (by simp) _).mono ?_; rintro r w2 ⟨rfl, rfl⟩)
      | (go_at_call 10; refine (feed_nil _ _).mono ?_; rintro r w2 ⟨rfl, hb2⟩; have HB2 := Lib.hid (HB.out.later hb2); clear HB hb2; have HB := HB2; clear HB2; obtain ⟨k0, k1, _⟩ := row2 HB.out.2)
      | (go_at_call 21; refine (reset_nil _).mono ?_; rintro r w2 ⟨rfl, rfl⟩)
      | (go_at_call 19; refine (drop_nil _).mono ?_; rintro r w2 ⟨rfl, rfl⟩)
      | (go_at_call 22; refine (told_nil _ _ _).mono ?_; rintro r w2 ⟨rfl, hb2⟩; have HB2 := Lib.hid (HB.out.later hb2); clear HB hb2 k0 k1; have HB := HB2; clear HB2)
      | (go_at_call 16; refine (used_nil _).mono ?_; rintro r w2 ⟨rfl, rfl⟩)
      | (go_at_call 17; refine (pending_nil _).mono ?_; rintro r w2 ⟨rfl, rfl⟩)
      | (go_at_call 15; refine (modes_nil _).mono ?_; rintro r w2 ⟨rfl, hb2⟩; have HB2 := Lib.hid (HB.out.later hb2); clear HB hb2; have HB := HB2; clear HB2)
      | (go_at_call 8; refine (HAW.out _ HB.out).mono ?_; rintro r w9 ⟨rfl, hb9⟩; have HB2 := Lib.hid (HB.out.later hb9); clear HB hb9; have HB := HB2; clear HB2))
    go_ret
    exact ⟨rfl, HB.out.1⟩)
end Go.Proofs.YtmgeghoalmonoaaGreatDoor
