/- Walks: the law ScreenNil, whole. -/
import Derived.Test.YtbnkfiaggehmgaaGreatDoorLawSNil
namespace Go.Proofs.YtbnkfiaggehmgaaGreatDoor
open Go.RowKit
set_option linter.unusedSimpArgs false
set_option linter.unusedVariables false
attribute [local go_sem] alloc_drewN setCell_drewN World.cell?_alloc_some frozen_alloc_some size_f0 size_f1

set_option maxRecDepth 100000 in
set_option maxHeartbeats 16000000 in
theorem law_snil (ask a0 a1 b0 b1 n c0 c1 : Int) (c2 : Bool) (c3 wr : Int) (gd : Bool) (w : World) (hbl : Blanked w) : Calls Tryz.prog 9 #[.agg (opB ask a0 a1 b0 b1 n c0 c1 c2 c3 wr gd)] w fun e w' => e = .returned (.bool true) ∧ Below w.heap.size w w' := by
  have HD := Lib.hid (does_nil ask a0 a1 b0 b1 n c0 c1 c2 c3 wr gd)
  have HAW := Lib.hid (fun W (hb : Below w.heap.size w W) => awake_any W (hbl.below hb))
  have HB : Hid (Below w.heap.size w (w.alloc (.cells (opB ask a0 a1 b0 b1 n c0 c1 c2 c3 wr gd) 32))) := below1 _ _
  have HN := Lib.hid (heap_alloc_new w (.cells (opB ask a0 a1 b0 b1 n c0 c1 c2 c3 wr gd) 32))
  have hc0 : (w.alloc (.cells (opB ask a0 a1 b0 b1 n c0 c1 c2 c3 wr gd) 32)).cell? ⟨w.heap.size, 0, none⟩ = some (.int .i64 ask) := cell_row HN.out 0
  have HS0 := Lib.hid ((Has.nil 0 0 w).alloc (Nat.zero_le _) (.cells (opB ask a0 a1 b0 b1 n c0 c1 c2 c3 wr gd) 32))
  have hway : (decide (ask < 0) = true ∧ nilErr ask = 2) ∨ (decide (ask < 0) = false ∧ decide (11 < ask) = true ∧ nilErr ask = 2) ∨ (decide (ask < 0) = false ∧ decide (11 < ask) = false ∧ nilErr ask = 0) := by
    unfold nilErr
    by_cases h1 : ask < 0
    · exact .inl ⟨decide_eq_true h1, by rw [if_pos (.inl h1)]⟩
    · by_cases h2 : 11 < ask
      · exact .inr (.inl ⟨decide_eq_false h1, decide_eq_true h2, by rw [if_pos (.inr h2)]⟩)
      · exact .inr (.inr ⟨decide_eq_false h1, decide_eq_false h2, by rw [if_neg (by omega)]⟩)
  clear hbl
  unfold opB at *
  rcases hway with ⟨h1, hE⟩ | ⟨h1, h2, hE⟩ | ⟨h1, h2, hE⟩
  all_goals
    rw [hE] at HD
    clear hE
    go_enter Tryz.func9, Tryz.ntmps9
    go_wp2_with (first
      | (go_at_call 14; refine (HD.out _).mono ?_; rintro e w2 ⟨rfl, hb2⟩; have HB2 := Lib.hid (Below.later HB.out (Below.later hb2 (below1 w2 (.cells #[.int .i32 0, .int .i64 0, .bool false, .int .i64 0] 24)) hb2.size) HB.out.size); have HS2 := Lib.hid ((HS0.out.below hb2).alloc (Nat.zero_le _) (.cells #[.int .i32 0, .int .i64 0, .bool false, .int .i64 0] 24)); clear hb2)
      | (go_at_call 15; refine (nil_cursor _).mono ?_; rintro e w3 ⟨rfl, hb3⟩; have HB3 := Lib.hid (Below.later HB2.out (Below.later hb3 (below1 w3 (.cells #[.int .i64 0, .int .i64 0] 30)) hb3.size) HB2.out.size); have HS3 := Lib.hid ((HS2.out.below hb3).alloc (Nat.zero_le _) (.cells #[.int .i64 0, .int .i64 0] 30)); clear hb3; obtain ⟨y0, y1, _⟩ := row2 (HS3.out.nth 0 rfl); obtain ⟨x0, x1, x2, x3, _⟩ := row4 (HS3.out.nth 1 rfl); have a0' := cell_row (HS3.out.nth 2 rfl) 0)
      | (go_at_call 16; refine (nil_size _).mono ?_; rintro e w4 ⟨rfl, hb4⟩; have HB4 := Lib.hid (Below.later HB3.out hb4 HB3.out.size); clear hb4)
      | (go_at_call 29; refine (nil_rows _).mono ?_; rintro e w5 ⟨rfl, hb5⟩; have HB5 := Lib.hid (Below.later HB4.out hb5 HB4.out.size); clear hb5)
      | (go_at_call 32; refine (nil_listed _).mono ?_; rintro e w6 ⟨rfl, hb6⟩; have HB6 := Lib.hid (Below.later HB5.out hb6 HB5.out.size); clear hb6)
      | (go_at_call 24; refine (nil_copy _).mono ?_; rintro e w7 ⟨rfl, hb7⟩; have HB7 := Lib.hid (Below.later HB6.out hb7 HB6.out.size); clear hb7)
      | (go_at_call 12; refine (HAW.out _ HB7.out).mono ?_; rintro e w8 ⟨rfl, hb8⟩; have HB8 := Lib.hid (Below.later HB7.out hb8 HB7.out.size); clear hb8))
    go_ret
    exact ⟨rfl, HB8.out⟩
end Go.Proofs.YtbnkfiaggehmgaaGreatDoor
