/- What stands in new blocks behind a call that keeps all that was there. -/
import Derived.Test.YtbnkfiaggehmgaaGreatDoorGrdSize
namespace Go.Proofs.YtbnkfiaggehmgaaGreatDoor
open Go.RowKit
set_option linter.unusedSimpArgs false
set_option linter.unusedVariables false

theorem box1 {w w1 : World} {a : Obj} (hb : Below (w.alloc a).heap.size (w.alloc a) w1) : w1.heap[w.heap.size]? = some a ∧ Below w.heap.size w w1 :=
  ⟨(hb.block _ (by simp)).trans (heap_alloc_new w a), Below.later (below1 w a) hb (by simp)⟩
theorem box2 {w w1 : World} {a b : Obj} (hb : Below ((w.alloc a).alloc b).heap.size ((w.alloc a).alloc b) w1) : w1.heap[w.heap.size]? = some a ∧ w1.heap[w.heap.size + 1]? = some b ∧ Below w.heap.size w w1 := by
  obtain ⟨h1, h2⟩ := box1 hb
  obtain ⟨h3, h4⟩ := box1 h2
  rw [World.size_alloc] at h1
  exact ⟨h3, h1, h4⟩
theorem box3 {w w1 : World} {a b c : Obj} (hb : Below (((w.alloc a).alloc b).alloc c).heap.size (((w.alloc a).alloc b).alloc c) w1) : w1.heap[w.heap.size]? = some a ∧ w1.heap[w.heap.size + 1]? = some b ∧ w1.heap[w.heap.size + 1 + 1]? = some c ∧ Below w.heap.size w w1 := by
  obtain ⟨h1, h2⟩ := box1 hb
  obtain ⟨h3, h4, h5⟩ := box2 h2
  simp only [World.size_alloc] at h1
  exact ⟨h3, h4, h1, h5⟩
theorem box4 {w w1 : World} {a b c d : Obj} (hb : Below ((((w.alloc a).alloc b).alloc c).alloc d).heap.size ((((w.alloc a).alloc b).alloc c).alloc d) w1) : w1.heap[w.heap.size]? = some a ∧ w1.heap[w.heap.size + 1]? = some b ∧ w1.heap[w.heap.size + 1 + 1]? = some c ∧ w1.heap[w.heap.size + 1 + 1 + 1]? = some d ∧ Below w.heap.size w w1 := by
  obtain ⟨h1, h2⟩ := box1 hb
  obtain ⟨h3, h4, h6, h5⟩ := box3 h2
  simp only [World.size_alloc] at h1
  exact ⟨h3, h4, h6, h1, h5⟩
theorem row2 {W : World} {g : Nat} {a b : Value} {t : TypeId} (h : W.heap[g]? = some (.cells #[a, b] t (0, 0))) : W.cell? ⟨g, 0, none⟩ = some a ∧ W.cell? ⟨g, 1, none⟩ = some b ∧ W.frozen? ⟨g, 0, none⟩ = false ∧ W.frozen? ⟨g, 1, none⟩ = false :=
  ⟨cell_row h 0, cell_row h 1, frozen_row h 0, frozen_row h 1⟩
theorem row3 {W : World} {g : Nat} {a b c : Value} {t : TypeId} (h : W.heap[g]? = some (.cells #[a, b, c] t (0, 0))) : W.cell? ⟨g, 0, none⟩ = some a ∧ W.cell? ⟨g, 1, none⟩ = some b ∧ W.cell? ⟨g, 2, none⟩ = some c ∧ W.frozen? ⟨g, 0, none⟩ = false ∧ W.frozen? ⟨g, 1, none⟩ = false ∧ W.frozen? ⟨g, 2, none⟩ = false :=
  ⟨cell_row h 0, cell_row h 1, cell_row h 2, frozen_row h 0, frozen_row h 1, frozen_row h 2⟩
theorem row4 {W : World} {g : Nat} {a b c d : Value} {t : TypeId} (h : W.heap[g]? = some (.cells #[a, b, c, d] t (0, 0))) : W.cell? ⟨g, 0, none⟩ = some a ∧ W.cell? ⟨g, 1, none⟩ = some b ∧ W.cell? ⟨g, 2, none⟩ = some c ∧ W.cell? ⟨g, 3, none⟩ = some d ∧ W.frozen? ⟨g, 0, none⟩ = false ∧ W.frozen? ⟨g, 1, none⟩ = false ∧ W.frozen? ⟨g, 2, none⟩ = false ∧ W.frozen? ⟨g, 3, none⟩ = false :=
  ⟨cell_row h 0, cell_row h 1, cell_row h 2, cell_row h 3, frozen_row h 0, frozen_row h 1, frozen_row h 2, frozen_row h 3⟩
theorem row5 {W : World} {g : Nat} {a b c d e : Value} {t : TypeId} (h : W.heap[g]? = some (.cells #[a, b, c, d, e] t (0, 0))) : W.cell? ⟨g, 0, none⟩ = some a ∧ W.cell? ⟨g, 1, none⟩ = some b ∧ W.cell? ⟨g, 2, none⟩ = some c ∧ W.cell? ⟨g, 3, none⟩ = some d ∧ W.cell? ⟨g, 4, none⟩ = some e ∧ W.frozen? ⟨g, 0, none⟩ = false ∧ W.frozen? ⟨g, 1, none⟩ = false ∧ W.frozen? ⟨g, 2, none⟩ = false ∧ W.frozen? ⟨g, 3, none⟩ = false ∧ W.frozen? ⟨g, 4, none⟩ = false :=
  ⟨cell_row h 0, cell_row h 1, cell_row h 2, cell_row h 3, cell_row h 4, frozen_row h 0, frozen_row h 1, frozen_row h 2, frozen_row h 3, frozen_row h 4⟩
theorem set_four {W : World} {g : Nat} {a b c d : Value} {t : TypeId} (h : W.heap[g]? = some (.cells #[a, b, c, d] t (0, 0))) (u0 u1 u2 u3 : Value) :
    ((((W.setCell ⟨g, 0, none⟩ u0).setCell ⟨g, 1, none⟩ u1).setCell ⟨g, 2, none⟩ u2).setCell ⟨g, 3, none⟩ u3).heap[g]? = some (.cells #[u0, u1, u2, u3] t (0, 0)) := by
  have h0 := heap_set_same h 0 u0
  have h1 := heap_set_same h0 1 u1
  have h2 := heap_set_same h1 2 u2
  have h3 := heap_set_same h2 3 u3
  exact h3
theorem Below.set4 {B : Nat} {w W : World} (h : Below B w W) {g : Nat} (hg : B ≤ g) (u0 u1 u2 u3 : Value) : Below B w ((((W.setCell ⟨g, 0, none⟩ u0).setCell ⟨g, 1, none⟩ u1).setCell ⟨g, 2, none⟩ u2).setCell ⟨g, 3, none⟩ u3) :=
  (((h.setCell (p := ⟨g, 0, none⟩) hg u0).setCell (p := ⟨g, 1, none⟩) hg u1).setCell (p := ⟨g, 2, none⟩) hg u2).setCell (p := ⟨g, 3, none⟩) hg u3
theorem Below.draws {B : Nat} {w W : World} (h : Below B w W) (q : Nat) : Below B w (W.drewN q) := ⟨h.os, h.tape, h.output, h.size, h.block⟩
theorem new1 (w : World) (u v : Value) (t : TypeId) : (w.alloc (.cells #[u, v] t)).cell? ⟨w.heap.size, 0, none⟩ = some u ∧ (w.alloc (.cells #[u, v] t)).cell? ⟨w.heap.size, 1, none⟩ = some v :=
  ⟨cell_row (heap_alloc_new w _) 0, cell_row (heap_alloc_new w _) 1⟩
theorem new2 (w : World) (a : Obj) (u v : Value) (t : TypeId) : ((w.alloc a).alloc (.cells #[u, v] t)).cell? ⟨w.heap.size + 1, 0, none⟩ = some u ∧ ((w.alloc a).alloc (.cells #[u, v] t)).cell? ⟨w.heap.size + 1, 1, none⟩ = some v := by
  have := new1 (w.alloc a) u v t
  simpa only [World.size_alloc] using this
theorem new3 (w : World) (a b : Obj) (u v : Value) (t : TypeId) : (((w.alloc a).alloc b).alloc (.cells #[u, v] t)).cell? ⟨w.heap.size + 1 + 1, 0, none⟩ = some u ∧ (((w.alloc a).alloc b).alloc (.cells #[u, v] t)).cell? ⟨w.heap.size + 1 + 1, 1, none⟩ = some v := by
  have := new1 ((w.alloc a).alloc b) u v t
  simpa only [World.size_alloc] using this
theorem GridAt.cells {W : World} {gp B cap : Nat} {G K : Nat → Nat} {D : Vz.Gd} (h : GridAt W gp B cap G K D) {i j : Nat} (hi : i < D.R) (hj : j < D.C) :
    W.cell? ⟨G i, j * 4, none⟩ = some (.int .i32 (D.X i j).g) ∧ W.cell? ⟨G i, j * 4 + 1, none⟩ = some (.int .i64 (D.X i j).a) ∧ W.cell? ⟨G i, j * 4 + 2, none⟩ = some (.bool (D.X i j).gd) ∧ W.cell? ⟨G i, j * 4 + 3, none⟩ = some (.int .i64 (D.X i j).m) := by
  have hr := h.row i hi
  have e : j * 4 = 4 * j := Nat.mul_comm _ _
  rw [e]
  exact ⟨(hr.cell (by omega)).trans (by rw [Vz.flatC_0]), (hr.cell (by omega)).trans (by rw [Vz.flatC_1]), (hr.cell (by omega)).trans (by rw [Vz.flatC_2]), (hr.cell (by omega)).trans (by rw [Vz.flatC_3])⟩
theorem GridAt.head {W : World} {gp B cap : Nat} {G K : Nat → Nat} {D : Vz.Gd} (h : GridAt W gp B cap G K D) : W.cell? ⟨gp, 0, none⟩ = some (.slice (some ⟨B, 0, none⟩) D.R cap) := cell_row h.box 0
theorem GridAt.line {W : World} {gp B cap : Nat} {G K : Nat → Nat} {D : Vz.Gd} (h : GridAt W gp B cap G K D) {i : Nat} (hi : i < D.R) : W.cell? ⟨B, i, none⟩ = some (.slice (some ⟨G i, 0, none⟩) D.C (K i)) := h.outer.cell hi
theorem Ps.nats {p : Vz.Ps} {r c : Nat} (h : p.inS r c) : ∃ i j : Nat, p = ⟨i, j⟩ ∧ i < r ∧ j < c := by
  obtain ⟨h1, h2, h3, h4⟩ := h
  obtain ⟨a, b⟩ := p
  simp only at *
  exact ⟨a.toNat, b.toNat, by rw [Int.toNat_of_nonneg h1, Int.toNat_of_nonneg h3], by omega, by omega⟩
/-- Four stores, one behind the other. -/
def set4 (W : World) (g o : Nat) (x : Vz.Cl) : World := (((W.setCell ⟨g, o, none⟩ (.int .i32 x.g)).setCell ⟨g, o + 1, none⟩ (.int .i64 x.a)).setCell ⟨g, o + 2, none⟩ (.bool x.gd)).setCell ⟨g, o + 3, none⟩ (.int .i64 x.m)
theorem set4_size (W : World) (g o : Nat) (x : Vz.Cl) : (set4 W g o x).heap.size = W.heap.size := by
  unfold set4
  rw [World.size_setCell, World.size_setCell, World.size_setCell, World.size_setCell]
theorem set4_other (W : World) (g o : Nat) (x : Vz.Cl) {b : Nat} (h : b ≠ g) : (set4 W g o x).heap[b]? = W.heap[b]? :=
  (Below.heap_setCell _ _ _ _ h).trans ((Below.heap_setCell _ _ _ _ h).trans ((Below.heap_setCell _ _ _ _ h).trans (Below.heap_setCell _ _ _ _ h)))
theorem RowC.set4 {W : World} {g : Nat} {cap C : Nat} {f : Nat → Vz.Cl} (h : RowC W g 24 cap (C * 4) (Vz.flatC f)) (j : Nat) (x : Vz.Cl) : RowC (set4 W g (j * 4) x) g 24 cap (C * 4) (Vz.flatC fun k => if k = j then x else f k) := by
  refine ((((h.set (j * 4) _).set (j * 4 + 1) _).set (j * 4 + 2) _).set (j * 4 + 3) _).congr fun q hq => ?_
  by_cases hj : q / 4 = j
  · have hr : q % 4 = 0 ∨ q % 4 = 1 ∨ q % 4 = 2 ∨ q % 4 = 3 := by omega
    unfold Vz.flatC
    simp only [hj, if_true]
    rcases hr with hr | hr | hr | hr
    · obtain rfl : q = j * 4 := by omega
      simp [hr, Vz.cellK]
    · obtain rfl : q = j * 4 + 1 := by omega
      simp [hr, Vz.cellK]
    · obtain rfl : q = j * 4 + 2 := by omega
      simp [hr, Vz.cellK]
    · obtain rfl : q = j * 4 + 3 := by omega
      simp [hr, Vz.cellK]
  · rw [if_neg (by omega), if_neg (by omega), if_neg (by omega), if_neg (by omega)]
    unfold Vz.flatC
    simp only [if_neg hj]
theorem Keeps.set4 {F : Nat → Prop} {W : World} {g : Nat} (hg : F g) (o : Nat) (x : Vz.Cl) : Keeps F W (set4 W g o x) :=
  ⟨rfl, rfl, rfl, Nat.le_of_eq (set4_size W g o x).symm, fun k hk hn => set4_other W g o x (fun e => hn (e ▸ hg))⟩
/-- A cell of a grid, laid anew. -/
theorem Grid.setAt {W : World} {gp : Nat} {F : Nat → Prop} {D : Vz.Gd} (h : Grid W gp F D) {i j : Nat} (hi : i < D.R) (hj : j < D.C) (x : Vz.Cl) :
    ∃ B cap g K, W.cell? ⟨gp, 0, none⟩ = some (.slice (some ⟨B, 0, none⟩) D.R cap) ∧ W.cell? ⟨B, i, none⟩ = some (.slice (some ⟨g, 0, none⟩) D.C K) ∧ g < W.heap.size ∧ (∀ k, W.frozen? ⟨g, k, none⟩ = false) ∧
      (∃ c0 c1 c2 c3, W.cell? ⟨g, j * 4, none⟩ = some c0 ∧ W.cell? ⟨g, j * 4 + 1, none⟩ = some c1 ∧ W.cell? ⟨g, j * 4 + 2, none⟩ = some c2 ∧ W.cell? ⟨g, j * 4 + 3, none⟩ = some c3) ∧
      Keeps F W (set4 W g (j * 4) x) ∧ Grid (set4 W g (j * 4) x) gp F (D.set i j x) := by
  obtain ⟨B, cap, G, K, hg, hF⟩ := h
  have hr := hg.row i hi
  obtain ⟨h1, h2, h3, h4⟩ := hg.cells hi hj
  refine ⟨B, cap, G i, K i, hg.head, hg.line hi, hr.lt, hr.frozen, ⟨_, _, _, _, h1, h2, h3, h4⟩, Keeps.set4 ((hF _).2 (.inr (.inr ⟨i, hi, rfl⟩))) _ _, B, cap, G, K, ?_, hF⟩
  have hne1 : gp ≠ G i := fun e => hr.ne_of hg.box (by decide) e.symm
  have hne2 : B ≠ G i := fun e => by
    obtain ⟨c, hc, _⟩ := hg.outer
    exact hr.ne_of hc (by decide) e.symm
  refine ⟨hg.may, (set4_other _ _ _ _ hne1).trans hg.box, hg.outer.of_block (set4_other _ _ _ _ hne2), fun k hk => ?_, hg.inj⟩
  by_cases e : k = i
  · subst e
    refine (hr.set4 j x).congr fun q hq => ?_
    unfold Vz.flatC Vz.Gd.set
    simp only [true_and]
  · refine ((hg.row k hk).of_block (set4_other _ _ _ _ (fun e' => e (hg.inj k i hk hi e')))).congr fun q hq => ?_
    unfold Vz.flatC Vz.Gd.set
    simp only [e, false_and, if_false]
end Go.Proofs.YtbnkfiaggehmgaaGreatDoor
