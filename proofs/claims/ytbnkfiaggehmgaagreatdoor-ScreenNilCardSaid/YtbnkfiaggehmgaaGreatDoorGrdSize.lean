/- Walks: a grid's Size, there, At and Set. -/
import Derived.Test.YtbnkfiaggehmgaaGreatDoorGrdNew
namespace Go.Proofs.YtbnkfiaggehmgaaGreatDoor
open Go.RowKit
set_option linter.unusedSimpArgs false
set_option linter.unusedVariables false
theorem frozen_alloc_some (w : World) (a : Addr) (o : Obj) (h : (w.cell? a).isSome = true) : (w.alloc o).frozen? a = w.frozen? a := by
  obtain ⟨u, hu⟩ := Option.isSome_iff_exists.1 h
  exact World.frozen?_alloc_old w o a (Nat.ne_of_lt (World.block_lt_of_cell? w a hu))
attribute [local go_sem] alloc_drewN setCell_drewN World.cell?_alloc_some frozen_alloc_some

set_option maxRecDepth 10000 in
set_option maxHeartbeats 2000000 in
theorem gsize_ok (gp : Nat) (F : Nat → Prop) (D : Vz.Gd) (w : World) (h : Grid w gp F D) : Calls Tryz.prog 40 #[.pointer (some ⟨gp, 0, none⟩)] w fun e w' => e = .returned (.agg #[.int .i64 D.R, .int .i64 D.C]) ∧ Below w.heap.size w w' := by
  obtain ⟨B, cap, G, K, h, hF⟩ := h
  obtain ⟨m1, m2, m3, m4⟩ := h.may
  have c0 : w.cell? ⟨gp, 0, none⟩ = some (.slice (some ⟨B, 0, none⟩) D.R cap) := cell_row h.box 0
  have c1 : w.cell? ⟨B, 0, none⟩ = some (.slice (some ⟨G 0, 0, none⟩) D.C (K 0)) := h.outer.cell (i := 0) m1
  have H := Lib.hid h
  clear h
  go_enter Tryz.func40, Tryz.ntmps40
  have hi0 : (0 : Int) < (D.R : Int) := by omega
  have hi1 : 0 < D.R := m1
  go_upto_region 3 with fail
  refine region_tail 13 (by kernel_rfl) (by kernel_rfl) ?_
  simp only [List.take_succ_cons, List.take_zero, List.drop_succ_cons, List.drop_zero]
  repeat still_step
  try refine wpStill_nil ?_
  go_wp2_with fail
  refine bodyPost_ret (v := .agg #[.int .i64 D.R, .int .i64 D.C]) (by simp [results, Tryz.results40, go_sem]) rfl ⟨rfl, Grows.below ?_⟩
  repeat (first | exact Grows.refl _ | refine Grows.drewN ?_ _ | refine Grows.alloc ?_ _)
set_option maxRecDepth 10000 in
set_option maxHeartbeats 2000000 in
theorem gsize_nil (w : World) : Calls Tryz.prog 40 #[.pointer none] w fun e w' => e = .returned (.agg #[.int .i64 0, .int .i64 0]) ∧ Below w.heap.size w w' := by
  go_enter Tryz.func40, Tryz.ntmps40
  go_wp2_with fail
  refine bodyPost_ret (v := .agg #[.int .i64 0, .int .i64 0]) (by simp [results, Tryz.results40, go_sem]) rfl ⟨rfl, Grows.below ?_⟩
  repeat (first | exact Grows.refl _ | refine Grows.drewN ?_ _ | refine Grows.alloc ?_ _)

set_option maxRecDepth 10000 in
set_option maxHeartbeats 2000000 in
theorem there_yes (gp b : Nat) (F : Nat → Prop) (D : Vz.Gd) (n : Nat) (P : Nat → Vz.Ps) (w : World) (h : Grid w gp F D) (hn : n ≤ 2) (hP : ∀ j, j < n → (P j).inS D.R D.C) (hl : ∀ j, j < n → w.cell? ⟨b, j * 2, none⟩ = some (.int .i64 (P j).row) ∧ w.cell? ⟨b, j * 2 + 1, none⟩ = some (.int .i64 (P j).col)) :
    Calls Tryz.prog 85 #[.pointer (some ⟨gp, 0, none⟩), .slice (some ⟨b, 0, none⟩) n n] w fun e w' => e = .returned (.int .i64 0) ∧ Below w.heap.size w w' := by
  obtain ⟨m1, m2, m3, m4⟩ := h.may
  have H := Lib.hid h
  have HP := Lib.hid hP
  have HLL := Lib.hid hl
  clear h hP hl
  go_enter Tryz.func85, Tryz.ntmps85
  go_wp2_with (go_at_call 40; refine (gsize_ok _ _ _ _ (H.out.below (Grows.below (by repeat (first | exact Grows.refl _ | refine Grows.drewN ?_ _ | refine Grows.alloc ?_ _))))).mono ?_; rintro e w1 ⟨rfl, hb1⟩)
  have HS0 : Hid (Below w.heap.size w w1) := hb1
  have HHD : Hid (∀ W, Below w.heap.size w W → ∀ j, j < n → W.cell? ⟨b, j * 2, none⟩ = some (.int .i64 (P j).row) ∧ W.cell? ⟨b, j * 2 + 1, none⟩ = some (.int .i64 (P j).col)) := fun W hb j hj => by
    obtain ⟨h1, h2⟩ := HLL.out j hj
    have hlt : b < w.heap.size := World.block_lt_of_cell? w _ h1
    exact ⟨(hb.cell (p := ⟨b, j * 2, none⟩) hlt).trans h1, (hb.cell (p := ⟨b, j * 2 + 1, none⟩) hlt).trans h2⟩
  have hsz := hb1.size
  clear hb1
  go_loopw [14] (fun i wr => ∃ k : Nat, k ≤ n ∧ i = .int .i64 k ∧ wr.heap[w1.heap.size]? = some (.cells #[.int .i64 D.R, .int .i64 D.C] 39 (0, 0)) ∧ Below w1.heap.size w1 wr) (fun i _ => n - (intOf i).toNat)
  case atStart => exact ⟨0, Nat.zero_le _, rfl, heap_alloc_new _ _, below1 _ _⟩
  case round =>
    obtain ⟨k, hk, rfl, hbx, hB⟩ := hrel
    have s0 : wr.cell? ⟨w1.heap.size, 0, none⟩ = some (.int .i64 D.R) := cell_row hbx 0
    have s1 : wr.cell? ⟨w1.heap.size, 1, none⟩ = some (.int .i64 D.C) := cell_row hbx 1
    have HBX := Lib.hid hbx
    have HB := Lib.hid hB
    clear hbx hB
    by_cases hlt : k < n
    · obtain ⟨p0, p1⟩ := HHD.out wr (Below.later HS0.out HB.out hsz) k hlt
      obtain ⟨q0, q1, q2, q3⟩ := HP.out k hlt
      generalize (P k).row = pr at *
      generalize (P k).col = pc at *
      go_wp2_with fail
      exact ⟨⟨k + 1, by omega, by go_num, (Below.heap_alloc _ _ _ (block_lt HBX.out)).trans HBX.out, HB.out.alloc HB.out.size _⟩, by simp [intOf]; omega⟩
    · obtain rfl : k = n := by omega
      go_wp2_with fail
      go_ret
      exact ⟨rfl, Below.later HS0.out HB.out hsz⟩

theorem not_in {p : Vz.Ps} {r c : Int} (h : ¬ p.inS r c) : p.row < 0 ∨ (0 ≤ p.row ∧ r ≤ p.row) ∨ (0 ≤ p.row ∧ p.row < r ∧ p.col < 0) ∨ (0 ≤ p.row ∧ p.row < r ∧ 0 ≤ p.col ∧ c ≤ p.col) := by
  unfold Vz.Ps.inS at h
  omega
set_option maxRecDepth 10000 in
set_option maxHeartbeats 4000000 in
theorem there_no (gp b : Nat) (F : Nat → Prop) (D : Vz.Gd) (p : Vz.Ps) (w : World) (h : Grid w gp F D) (hP : ¬ p.inS D.R D.C) (hl : w.cell? ⟨b, 0, none⟩ = some (.int .i64 p.row) ∧ w.cell? ⟨b, 1, none⟩ = some (.int .i64 p.col)) :
    Calls Tryz.prog 85 #[.pointer (some ⟨gp, 0, none⟩), .slice (some ⟨b, 0, none⟩) 1 1] w fun e w' => e = .returned (.int .i64 11) ∧ Below w.heap.size w w' := by
  obtain ⟨m1, m2, m3, m4⟩ := h.may
  have H := Lib.hid h
  have HLL := Lib.hid hl
  have hno := not_in hP
  clear h hl hP
  generalize p.row = pr at *
  generalize p.col = pc at *
  go_enter Tryz.func85, Tryz.ntmps85
  go_wp2_with (go_at_call 40; refine (gsize_ok _ _ _ _ (H.out.below (Grows.below (by repeat (first | exact Grows.refl _ | refine Grows.drewN ?_ _ | refine Grows.alloc ?_ _))))).mono ?_; rintro e w1 ⟨rfl, hb1⟩)
  have HS0 : Hid (Below w.heap.size w w1) := hb1
  have HHD : Hid (∀ W, Below w.heap.size w W → W.cell? ⟨b, 0, none⟩ = some (.int .i64 pr) ∧ W.cell? ⟨b, 1, none⟩ = some (.int .i64 pc)) := fun W hb => by
    obtain ⟨h1, h2⟩ := HLL.out
    have hlt : b < w.heap.size := World.block_lt_of_cell? w _ h1
    exact ⟨(hb.cell (p := ⟨b, 0, none⟩) hlt).trans h1, (hb.cell (p := ⟨b, 1, none⟩) hlt).trans h2⟩
  have hsz := hb1.size
  clear hb1
  go_loopw [14] (fun i wr => i = .int .i64 0 ∧ wr.heap[w1.heap.size]? = some (.cells #[.int .i64 D.R, .int .i64 D.C] 39 (0, 0)) ∧ Below w1.heap.size w1 wr) (fun i _ => 0)
  case atStart => exact ⟨rfl, heap_alloc_new _ _, below1 _ _⟩
  case round =>
    obtain ⟨rfl, hbx, hB⟩ := hrel
    have s0 : wr.cell? ⟨w1.heap.size, 0, none⟩ = some (.int .i64 D.R) := cell_row hbx 0
    have s1 : wr.cell? ⟨w1.heap.size, 1, none⟩ = some (.int .i64 D.C) := cell_row hbx 1
    have HB := Lib.hid hB
    clear hbx hB
    obtain ⟨p0, p1⟩ := HHD.out wr (Below.later HS0.out HB.out hsz)
    rcases hno with e0 | ⟨e0, e1⟩ | ⟨e0, e1, e2⟩ | ⟨e0, e1, e2, e3⟩
    all_goals (
      go_wp2_with fail
      go_ret
      exact ⟨rfl, Below.later HS0.out (HB.out.alloc HB.out.size _) hsz⟩)
end Go.Proofs.YtbnkfiaggehmgaaGreatDoor
