/- Walks: the law ScreenNil. -/
import Derived.Test.YtbnkfiaggehmgaaGreatDoorScrNil
namespace Go.Proofs.YtbnkfiaggehmgaaGreatDoor
open Go.RowKit
set_option linter.unusedSimpArgs false
set_option linter.unusedVariables false
attribute [local go_sem] alloc_drewN setCell_drewN World.cell?_alloc_some frozen_alloc_some size_f0 size_f1

/-- What a call answers on a nil screen. -/
def nilErr (ask : Int) : Int := if ask < 0 ∨ 11 < ask then 2 else 0
/-- The cells of a call's description. -/
def opB (ask a0 a1 b0 b1 n c0 c1 : Int) (c2 : Bool) (c3 wr : Int) (gd : Bool) : Array Value := #[.int .i64 ask, .int .i64 a0, .int .i64 a1, .int .i64 b0, .int .i64 b1, .int .i64 n, .int .i32 c0, .int .i64 c1, .bool c2, .int .i64 c3, .int .i64 wr, .bool gd]
theorem ask_cases (ask : Int) : ask = 0 ∨ ask = 1 ∨ ask = 2 ∨ ask = 3 ∨ ask = 4 ∨ ask = 5 ∨ ask = 6 ∨ ask = 7 ∨ ask = 8 ∨ ask = 9 ∨ ask = 10 ∨ ask = 11 ∨ ask = 12 ∨ ask = 13 ∨ (ask < 0 ∨ 13 < ask) := by omega
set_option maxRecDepth 100000 in
set_option maxHeartbeats 4000000 in
theorem draws_nil (ask a0 a1 b0 b1 n c0 c1 : Int) (c2 : Bool) (c3 wr : Int) (gd : Bool) (h : ask = 0 ∨ ask = 7 ∨ ask = 8 ∨ ask = 9 ∨ ask = 10) (w : World) : Calls Tryz.prog 25 #[.pointer none, .agg (opB ask a0 a1 b0 b1 n c0 c1 c2 c3 wr gd)] w fun e w' => e = .returned (.tuple #[]) ∧ Below w.heap.size w w' := by
  have HB : Hid (Below w.heap.size w (w.alloc (.cells (opB ask a0 a1 b0 b1 n c0 c1 c2 c3 wr gd) 32))) := below1 _ _
  unfold opB at *
  rcases h with rfl | rfl | rfl | rfl | rfl
  all_goals
    go_enter Tryz.func25, Tryz.ntmps25
    go_wp2_with (first
      | (go_at_call 17; refine (nil_put _ _ _ _ _ _ _).mono ?_; rintro e w2 ⟨rfl, hb2⟩)
      | (go_at_call 63; refine (nil_wipe _ _ _ _ _ _ _ _ _ _).mono ?_; rintro e w2 ⟨rfl, hb2⟩)
      | (go_at_call 64; refine (nil_part _ _ _ _ _ _ _).mono ?_; rintro e w2 ⟨rfl, hb2⟩)
      | (go_at_call 65; refine (nil_lines _ _ _ _ _ _ _).mono ?_; rintro e w2 ⟨rfl, hb2⟩)
      | (go_at_call 66; refine (nil_chars _ _ _ _ _ _ _).mono ?_; rintro e w2 ⟨rfl, hb2⟩))
    go_end0
    exact ⟨rfl, Below.later HB.out hb2 HB.out.size⟩
theorem new_two (w : World) (a b : Obj) : ((w.alloc a).alloc b).heap[w.heap.size]? = some a ∧ ((w.alloc a).alloc b).heap[w.heap.size + 1]? = some b := by
  obtain ⟨h0, h1, _⟩ := box2 (Below.refl ((w.alloc a).alloc b).heap.size ((w.alloc a).alloc b))
  exact ⟨h0, h1⟩
theorem zero_four {W : World} {g : Nat} {t : TypeId} (h : W.heap[g]? = some (.cells #[.int .i32 0, .int .i64 0, .bool false, .int .i64 0] t (0, 0))) {B : Nat} {w : World} (hb : Below B w W) (hg : B ≤ g) :
    Below B w ((((W.setCell ⟨g, 0, none⟩ (.int .i32 0)).setCell ⟨g, 1, none⟩ (.int .i64 0)).setCell ⟨g, 2, none⟩ (.bool false)).setCell ⟨g, 3, none⟩ (.int .i64 0)) := Below.set4 hb hg _ _ _ _
set_option maxRecDepth 100000 in
set_option maxHeartbeats 16000000 in
theorem does_nil (ask a0 a1 b0 b1 n c0 c1 : Int) (c2 : Bool) (c3 wr : Int) (gd : Bool) (w : World) : Calls Tryz.prog 14 #[.pointer none, .agg (opB ask a0 a1 b0 b1 n c0 c1 c2 c3 wr gd)] w fun e w' => e = .returned (.tuple #[.agg #[.int .i32 0, .int .i64 0, .bool false, .int .i64 0], .int .i64 (nilErr ask)]) ∧ Below w.heap.size w w' := by
  have HD := Lib.hid (draws_nil ask a0 a1 b0 b1 n c0 c1 c2 c3 wr gd)
  have HB : Hid (Below w.heap.size w ((w.alloc (.cells (opB ask a0 a1 b0 b1 n c0 c1 c2 c3 wr gd) 32)).alloc (.cells #[.int .i32 0, .int .i64 0, .bool false, .int .i64 0] 24))) := Grows.below (((Grows.refl _).alloc _).alloc _)
  obtain ⟨hn0, hn1⟩ := new_two w (.cells (opB ask a0 a1 b0 b1 n c0 c1 c2 c3 wr gd) 32) (.cells #[.int .i32 0, .int .i64 0, .bool false, .int .i64 0] 24)
  have HN1 := Lib.hid hn1
  have h0 := hn0
  unfold opB at h0
  have hc0 := cell_row h0 0
  have hc1 := cell_row h0 1
  have hc2 := cell_row h0 2
  have hc3 := cell_row h0 3
  have hc4 := cell_row h0 4
  have hc5 := cell_row h0 5
  have hc6 := cell_row h0 6
  have hc7 := cell_row h0 7
  have hc8 := cell_row h0 8
  have hc9 := cell_row h0 9
  have hc10 := cell_row h0 10
  have hc11 := cell_row h0 11
  clear hn0 hn1 h0
  have HE : Hid (nilErr ask = if ask < 0 ∨ 11 < ask then 2 else 0) := rfl
  unfold opB at HD HB HN1 ⊢
  rcases ask_cases ask with rfl | rfl | rfl | rfl | rfl | rfl | rfl | rfl | rfl | rfl | rfl | rfl | rfl | rfl | ha
  rotate_right 1
  · have e0 : (ask == 0) = false := by rw [eqb]; exact decide_eq_false (by omega)
    have e1 : (ask == 1) = false := by rw [eqb]; exact decide_eq_false (by omega)
    have e2 : (ask == 2) = false := by rw [eqb]; exact decide_eq_false (by omega)
    have e3 : (ask == 3) = false := by rw [eqb]; exact decide_eq_false (by omega)
    have e4 : (ask == 4) = false := by rw [eqb]; exact decide_eq_false (by omega)
    have e5 : (ask == 5) = false := by rw [eqb]; exact decide_eq_false (by omega)
    have e6 : (ask == 6) = false := by rw [eqb]; exact decide_eq_false (by omega)
    have e7 : (ask == 7) = false := by rw [eqb]; exact decide_eq_false (by omega)
    have e8 : (ask == 8) = false := by rw [eqb]; exact decide_eq_false (by omega)
    have e9 : (ask == 9) = false := by rw [eqb]; exact decide_eq_false (by omega)
    have e10 : (ask == 10) = false := by rw [eqb]; exact decide_eq_false (by omega)
    have e11 : (ask == 11) = false := by rw [eqb]; exact decide_eq_false (by omega)
    have e12 : (ask == 12) = false := by rw [eqb]; exact decide_eq_false (by omega)
    have e13 : (ask == 13) = false := by rw [eqb]; exact decide_eq_false (by omega)
    have hE : nilErr ask = 2 := by unfold nilErr; rw [if_pos (by omega)]
    rw [hE]
    clear HE hE ha
    go_enter Tryz.func14, Tryz.ntmps14
    go_wp2_with (go_at_call 18; refine (nil_at _ _ _).mono ?_; rintro e w2 ⟨rfl, hb2⟩; have HX := Lib.hid ((hb2.block _ (block_lt HN1.out)).trans HN1.out); have HB2 := Lib.hid (Below.later HB.out hb2 HB.out.size); clear hb2; obtain ⟨x0, x1, x2, x3, f0, f1, f2, f3⟩ := row4 HX.out)
    obtain ⟨r0, r1, r2, r3, _⟩ := row4 (set_four HX.out (.int .i32 0) (.int .i64 0) (.bool false) (.int .i64 0))
    refine bodyPost_ret (v := .tuple #[.agg #[.int .i32 0, .int .i64 0, .bool false, .int .i64 0], .int .i64 2]) (by simp [results, Tryz.results14, go_sem, r0, r1, r2, r3]) rfl ⟨rfl, Below.set4 HB2.out (Nat.le_succ _) _ _ _ _⟩
  all_goals
    simp only [show nilErr 0 = 0 from rfl, show nilErr 1 = 0 from rfl, show nilErr 2 = 0 from rfl, show nilErr 3 = 0 from rfl, show nilErr 4 = 0 from rfl, show nilErr 5 = 0 from rfl, show nilErr 6 = 0 from rfl, show nilErr 7 = 0 from rfl, show nilErr 8 = 0 from rfl, show nilErr 9 = 0 from rfl, show nilErr 10 = 0 from rfl, show nilErr 11 = 0 from rfl, show nilErr 12 = 2 from rfl, show nilErr 13 = 2 from rfl]
    clear HE
    go_enter Tryz.func14, Tryz.ntmps14
    go_wp2_with (first
      | (go_at_call 25; refine (HD.out (by decide) _).mono ?_; rintro e w2 ⟨rfl, hb2⟩; have HX := Lib.hid ((hb2.block _ (block_lt HN1.out)).trans HN1.out); have HB2 := Lib.hid (Below.later HB.out hb2 HB.out.size); clear hb2; obtain ⟨x0, x1, x2, x3, f0, f1, f2, f3⟩ := row4 HX.out)
      | (go_at_call 26; refine (nil_move _ _ _).mono ?_; rintro e w2 ⟨rfl, hb2⟩; have HX := Lib.hid ((hb2.block _ (block_lt HN1.out)).trans HN1.out); have HB2 := Lib.hid (Below.later HB.out hb2 HB.out.size); clear hb2; obtain ⟨x0, x1, x2, x3, f0, f1, f2, f3⟩ := row4 HX.out)
      | (go_at_call 34; refine (nil_step _ _ _).mono ?_; rintro e w2 ⟨rfl, hb2⟩; have HX := Lib.hid ((hb2.block _ (block_lt HN1.out)).trans HN1.out); have HB2 := Lib.hid (Below.later HB.out hb2 HB.out.size); clear hb2; obtain ⟨x0, x1, x2, x3, f0, f1, f2, f3⟩ := row4 HX.out)
      | (go_at_call 31; refine (nil_feed _ _).mono ?_; rintro e w2 ⟨rfl, hb2⟩; have HX := Lib.hid ((hb2.block _ (block_lt HN1.out)).trans HN1.out); have HB2 := Lib.hid (Below.later HB.out hb2 HB.out.size); clear hb2; obtain ⟨x0, x1, x2, x3, f0, f1, f2, f3⟩ := row4 HX.out)
      | (go_at_call 35; refine (nil_tab _ _).mono ?_; rintro e w2 ⟨rfl, hb2⟩; have HX := Lib.hid ((hb2.block _ (block_lt HN1.out)).trans HN1.out); have HB2 := Lib.hid (Below.later HB.out hb2 HB.out.size); clear hb2; obtain ⟨x0, x1, x2, x3, f0, f1, f2, f3⟩ := row4 HX.out)
      | (go_at_call 36; refine (nil_stop _ _ _).mono ?_; rintro e w2 ⟨rfl, hb2⟩; have HX := Lib.hid ((hb2.block _ (block_lt HN1.out)).trans HN1.out); have HB2 := Lib.hid (Below.later HB.out hb2 HB.out.size); clear hb2; obtain ⟨x0, x1, x2, x3, f0, f1, f2, f3⟩ := row4 HX.out)
      | (go_at_call 37; refine (nil_stops _ _).mono ?_; rintro e w2 ⟨rfl, hb2⟩; have HX := Lib.hid ((hb2.block _ (block_lt HN1.out)).trans HN1.out); have HB2 := Lib.hid (Below.later HB.out hb2 HB.out.size); clear hb2; obtain ⟨x0, x1, x2, x3, f0, f1, f2, f3⟩ := row4 HX.out)
      | (go_at_call 38; refine (nil_free _ _).mono ?_; rintro e w2 ⟨rfl, hb2⟩; have HX := Lib.hid ((hb2.block _ (block_lt HN1.out)).trans HN1.out); have HB2 := Lib.hid (Below.later HB.out hb2 HB.out.size); clear hb2; obtain ⟨x0, x1, x2, x3, f0, f1, f2, f3⟩ := row4 HX.out)
      | (go_at_call 33; refine (nil_resize _ _ _).mono ?_; rintro e w2 ⟨rfl, hb2⟩; have HX := Lib.hid ((hb2.block _ (block_lt HN1.out)).trans HN1.out); have HB2 := Lib.hid (Below.later HB.out hb2 HB.out.size); clear hb2; obtain ⟨x0, x1, x2, x3, f0, f1, f2, f3⟩ := row4 HX.out)
      | (go_at_call 39; refine (nil_set _ _ _ _ _ _ _).mono ?_; rintro e w2 ⟨rfl, hb2⟩; have HX := Lib.hid ((hb2.block _ (block_lt HN1.out)).trans HN1.out); have HB2 := Lib.hid (Below.later HB.out hb2 HB.out.size); clear hb2; obtain ⟨x0, x1, x2, x3, f0, f1, f2, f3⟩ := row4 HX.out))
    obtain ⟨r0, r1, r2, r3, _⟩ := row4 (set_four HX.out (.int .i32 0) (.int .i64 0) (.bool false) (.int .i64 0))
    refine bodyPost_ret (v := .tuple #[.agg #[.int .i32 0, .int .i64 0, .bool false, .int .i64 0], _]) (by simp [results, Tryz.results14, go_sem, r0, r1, r2, r3]) rfl ⟨rfl, Below.set4 HB2.out (Nat.le_succ _) _ _ _ _⟩
end Go.Proofs.YtbnkfiaggehmgaaGreatDoor
