/- Walks: one of vizardref13. -/
import Derived.Test.YtjfnmjgfbkcaaaaDoorSgrRef
namespace Go.Proofs.YtjfnmjgfbkcaaaaDoor
open Go.RowKit

theorem Lk.one_else (k : Lk) (x : Int) (h : x ≠ 0 ∧ x ≠ 1 ∧ x ≠ 2 ∧ x ≠ 4 ∧ x ≠ 5 ∧ x ≠ 7 ∧ x ≠ 8 ∧ x ≠ 22 ∧ x ≠ 24 ∧ x ≠ 25 ∧ x ≠ 27 ∧ x ≠ 28 ∧ x ≠ 39 ∧ x ≠ 49) : k.one x = if 30 ≤ x ∧ x ≤ 37 then { k.paint with f := x - 30 } else if 40 ≤ x ∧ x ≤ 47 then { k.paint with g := x - 40 } else k := by
  obtain ⟨h0, h1, h2, h4, h5, h7, h8, h22, h24, h25, h27, h28, h39, h49⟩ := h
  unfold Lk.one
  rw [if_neg h0, if_neg h1, if_neg h2, if_neg h4, if_neg h5, if_neg h7, if_neg h8, if_neg h22, if_neg h24, if_neg h25, if_neg h27, if_neg h28, if_neg h39, if_neg h49]

set_option maxHeartbeats 8000000 in
theorem rone_lit (k : Lk) (x : Int) (hx : x = 0 ∨ x = 1 ∨ x = 2 ∨ x = 4 ∨ x = 5 ∨ x = 7 ∨ x = 8 ∨ x = 22 ∨ x = 24 ∨ x = 25 ∨ x = 27 ∨ x = 28) (w : World) :
    Calls Tryd.prog 25 #[k.v, .int .i64 x] w fun e w' => e = .returned (k.one x).v ∧ Below w.heap.size w w' := by
  obtain ⟨b0, b1, b2, b3, b4, b5, b6, f, g⟩ := k
  rcases hx with rfl | rfl | rfl | rfl | rfl | rfl | rfl | rfl | rfl | rfl | rfl | rfl
  · have HE : Hid (Lk.one ⟨b0, b1, b2, b3, b4, b5, b6, f, g⟩ 0 = Lk.zero) := rfl
    unfold Lk.v
    go_enter Tryd.func25, Tryd.ntmps25
    go_wp2
    refine bodyPost_ret (v := Lk.zero.v) (by simp [results, Tryd.results25, go_sem]; rfl) rfl ⟨rfl, ?_⟩
    exact ((Below.refl _ _).alloc (Nat.le_refl _) _).alloc (by simp) _
  all_goals
    show Calls _ _ #[.agg #[.bool b0, .bool b1, .bool b2, .bool b3, .bool b4, .bool b5, .bool b6, .int .i64 f, .int .i64 g], _] _ _
    go_enter Tryd.func25, Tryd.ntmps25
    go_wp2
    refine bodyPost_ret (v := .agg #[_, _, _, _, _, _, _, _, _]) (by simp [results, Tryd.results25, go_sem, Lk.one]) rfl ⟨rfl, ?_⟩
    exact ((Below.refl _ _).alloc (Nat.le_refl _) _).alloc (by simp) _

set_option maxHeartbeats 8000000 in
theorem rone_usual (k : Lk) (x : Int) (hx : x = 39 ∨ x = 49) (w : World) :
    Calls Tryd.prog 25 #[k.v, .int .i64 x] w fun e w' => e = .returned (k.one x).v ∧ Below w.heap.size w w' := by
  obtain ⟨b0, b1, b2, b3, b4, b5, b6, f, g⟩ := k
  rcases hx with rfl | rfl <;> cases b6
  all_goals
    show Calls _ _ #[.agg #[.bool b0, .bool b1, .bool b2, .bool b3, .bool b4, .bool b5, .bool _, .int .i64 f, .int .i64 g], _] _ _
    go_enter Tryd.func25, Tryd.ntmps25
    go_wp2
    refine bodyPost_ret (v := .agg #[_, _, _, _, _, _, _, _, _]) (by simp [results, Tryd.results25, go_sem, Lk.one]) rfl ⟨rfl, ?_⟩
    exact ((Below.refl _ _).alloc (Nat.le_refl _) _).alloc (by simp) _

set_option maxHeartbeats 8000000 in
theorem rone_other (k : Lk) (x : Int) (h : x ≠ 0 ∧ x ≠ 1 ∧ x ≠ 2 ∧ x ≠ 4 ∧ x ≠ 5 ∧ x ≠ 7 ∧ x ≠ 8 ∧ x ≠ 22 ∧ x ≠ 24 ∧ x ≠ 25 ∧ x ≠ 27 ∧ x ≠ 28 ∧ x ≠ 39 ∧ x ≠ 49) (w : World) :
    Calls Tryd.prog 25 #[k.v, .int .i64 x] w fun e w' => e = .returned (k.one x).v ∧ Below w.heap.size w w' := by
  rw [Lk.one_else k x h]
  obtain ⟨h0, h1, h2, h4, h5, h7, h8, h22, h24, h25, h27, h28, h39, h49⟩ := h
  have e0 : (x == 0) = false := by simp [h0]
  have e1 : (x == 1) = false := by simp [h1]
  have e2 : (x == 2) = false := by simp [h2]
  have e4 : (x == 4) = false := by simp [h4]
  have e5 : (x == 5) = false := by simp [h5]
  have e7 : (x == 7) = false := by simp [h7]
  have e8 : (x == 8) = false := by simp [h8]
  have e22 : (x == 22) = false := by simp [h22]
  have e24 : (x == 24) = false := by simp [h24]
  have e25 : (x == 25) = false := by simp [h25]
  have e27 : (x == 27) = false := by simp [h27]
  have e28 : (x == 28) = false := by simp [h28]
  have e39 : (x == 39) = false := by simp [h39]
  have e49 : (x == 49) = false := by simp [h49]
  clear h0 h1 h2 h4 h5 h7 h8 h22 h24 h25 h27 h28 h39 h49
  by_cases a : 30 ≤ x ∧ x ≤ 37
  · rw [if_pos a]
    obtain ⟨a1, a2⟩ := a
    obtain ⟨b0, b1, b2, b3, b4, b5, b6, f, g⟩ := k
    cases b6
    · simp only [Lk.paint, Lk.v, Bool.false_eq_true, if_false]
      go_enter Tryd.func25, Tryd.ntmps25
      go_wp2_with go_in
      refine bodyPost_ret (v := .agg #[.bool b0, .bool b1, .bool b2, .bool b3, .bool b4, .bool b5, .bool true, .int .i64 7, .int .i64 0]) (by simp [results, Tryd.results39, go_sem]) rfl ?_
      go_wp2
      refine bodyPost_ret (v := .agg #[_, _, _, _, _, _, _, _, _]) (by simp [results, Tryd.results25, go_sem]) rfl ⟨rfl, ?_⟩
      exact ((((Below.refl _ _).alloc (Nat.le_refl _) _).alloc (by simp) _).alloc (by simp; omega) _).alloc (by simp; omega) _
    · simp only [Lk.paint, Lk.v, if_true]
      go_enter Tryd.func25, Tryd.ntmps25
      go_wp2_with go_in
      refine bodyPost_ret (v := .agg #[.bool b0, .bool b1, .bool b2, .bool b3, .bool b4, .bool b5, .bool true, .int .i64 f, .int .i64 g]) (by simp [results, Tryd.results39, go_sem]) rfl ?_
      go_wp2
      refine bodyPost_ret (v := .agg #[_, _, _, _, _, _, _, _, _]) (by simp [results, Tryd.results25, go_sem]) rfl ⟨rfl, ?_⟩
      exact ((((Below.refl _ _).alloc (Nat.le_refl _) _).alloc (by simp) _).alloc (by simp; omega) _).alloc (by simp; omega) _
  rw [if_neg a]
  by_cases b : 40 ≤ x ∧ x ≤ 47
  · rw [if_pos b]
    clear a
    obtain ⟨a1, a2⟩ := b
    obtain ⟨b0, b1, b2, b3, b4, b5, b6, f, g⟩ := k
    cases b6
    · simp only [Lk.paint, Lk.v, Bool.false_eq_true, if_false]
      go_enter Tryd.func25, Tryd.ntmps25
      go_wp2_with go_in
      refine bodyPost_ret (v := .agg #[.bool b0, .bool b1, .bool b2, .bool b3, .bool b4, .bool b5, .bool true, .int .i64 7, .int .i64 0]) (by simp [results, Tryd.results39, go_sem]) rfl ?_
      go_wp2
      refine bodyPost_ret (v := .agg #[_, _, _, _, _, _, _, _, _]) (by simp [results, Tryd.results25, go_sem]) rfl ⟨rfl, ?_⟩
      exact ((((Below.refl _ _).alloc (Nat.le_refl _) _).alloc (by simp) _).alloc (by simp; omega) _).alloc (by simp; omega) _
    · simp only [Lk.paint, Lk.v, if_true]
      go_enter Tryd.func25, Tryd.ntmps25
      go_wp2_with go_in
      refine bodyPost_ret (v := .agg #[.bool b0, .bool b1, .bool b2, .bool b3, .bool b4, .bool b5, .bool true, .int .i64 f, .int .i64 g]) (by simp [results, Tryd.results39, go_sem]) rfl ?_
      go_wp2
      refine bodyPost_ret (v := .agg #[_, _, _, _, _, _, _, _, _]) (by simp [results, Tryd.results25, go_sem]) rfl ⟨rfl, ?_⟩
      exact ((((Below.refl _ _).alloc (Nat.le_refl _) _).alloc (by simp) _).alloc (by simp; omega) _).alloc (by simp; omega) _
  rw [if_neg b]
  obtain ⟨b0, b1, b2, b3, b4, b5, b6, f, g⟩ := k
  rcases (by omega : x < 30 ∨ (37 < x ∧ x < 40) ∨ 47 < x) with i | ⟨i, j⟩ | i
  all_goals
    clear a b
    simp only [Lk.v]
    go_enter Tryd.func25, Tryd.ntmps25
    go_wp2
    refine bodyPost_ret (v := .agg #[_, _, _, _, _, _, _, _, _]) (by simp [results, Tryd.results25, go_sem]) rfl ⟨rfl, ?_⟩
    exact ((Below.refl _ _).alloc (Nat.le_refl _) _).alloc (by simp) _

theorem rone_any (k : Lk) (x : Int) (w : World) :
    Calls Tryd.prog 25 #[k.v, .int .i64 x] w fun e w' => e = .returned (k.one x).v ∧ Below w.heap.size w w' := by
  by_cases h1 : x = 0 ∨ x = 1 ∨ x = 2 ∨ x = 4 ∨ x = 5 ∨ x = 7 ∨ x = 8 ∨ x = 22 ∨ x = 24 ∨ x = 25 ∨ x = 27 ∨ x = 28
  · exact rone_lit k x h1 w
  by_cases h2 : x = 39 ∨ x = 49
  · exact rone_usual k x h2 w
  exact rone_other k x (by omega) w
end Go.Proofs.YtjfnmjgfbkcaaaaDoor
