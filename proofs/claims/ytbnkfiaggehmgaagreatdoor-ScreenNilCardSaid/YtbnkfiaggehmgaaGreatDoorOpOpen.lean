/- Structs of numbers as parameters: a place, a cell, a call (by wip/tools/opens.py); a slice of calls. -/
import Derived.Test.YtbnkfiaggehmgaaGreatDoorScr
import Derived.Deep.Slices
import Derived.ChangeArms
import Derived.ProofKit
import Derived.Carry
namespace Vz
/-- A call of the law's. -/
structure Op where
  ask : Int
  a : Ps
  b : Ps
  n : Int
  c : Cl
  wr : Int
  gd : Bool
def Op.nil : Op := ⟨0, Ps.nil, Ps.nil, 0, Cl.zero, 0, false⟩
end Vz
namespace Go.Proofs.YtbnkfiaggehmgaaGreatDoor
open Go.RowKit Go.Deep
set_option linter.unusedSimpArgs false
set_option linter.unusedVariables false
section
variable {H : Type} {enc : TypeId × Value → H} {w : World} {base : Nat} {spare : Nat → Bool} {held : Bool}
theorem cells_i64 : Tryz.prog.cellsOf 3 = 1 := by kernel_rfl
theorem cells_i32 : Tryz.prog.cellsOf 21 = 1 := by kernel_rfl
theorem cells_bool : Tryz.prog.cellsOf 4 = 1 := by kernel_rfl
theorem cells_ps : Tryz.prog.cellsOf 30 = 2 := by kernel_rfl
theorem list_ps {α : Type} {l : List α} (h : l.length = 2) : ∃ a0 a1, l = [a0, a1] := by
  match l, h with
  | [a0, a1], _ => exact ⟨_, _, rfl⟩
theorem open_ps {fuel : Nat} {cs : List Value} {x : DataW H × List MemPlace} (h : DataW.trod enc Tryz.prog w base spare held fuel 30 cs = some x) :
    ∃ s : Vz.Ps, cs = [.int .i64 s.row, .int .i64 s.col] := by
  obtain ⟨xs, n, -, -, hl, hxl, hf⟩ := DataW.trod_struct Tryz.underlying30 h
  rw [cells_ps] at hl
  obtain ⟨a0, a1, rfl⟩ := list_ps hl
  have get : ∀ (i : Nat) (hi : i < 2), ∃ y, xs[i]? = some y := fun i hi => ⟨_, List.getElem?_eq_getElem (by rw [hxl]; exact hi)⟩
  obtain ⟨y0, e0⟩ := get 0 (by decide)
  have h0 : DataW.trod enc Tryz.prog w base spare held n 3 (([a0, a1].drop 0).take (Tryz.prog.cellsOf 3)) = some y0 := (hf 0 _ rfl).trans e0
  rw [cells_i64] at h0
  simp only [List.drop, List.take] at h0
  obtain ⟨s0, g0, -, -⟩ := DataW.trod_int Tryz.underlying3 h0
  obtain ⟨y1, e1⟩ := get 1 (by decide)
  have h1 : DataW.trod enc Tryz.prog w base spare held n 3 (([a0, a1].drop 1).take (Tryz.prog.cellsOf 3)) = some y1 := (hf 1 _ rfl).trans e1
  rw [cells_i64] at h1
  simp only [List.drop, List.take] at h1
  obtain ⟨s1, g1, -, -⟩ := DataW.trod_int Tryz.underlying3 h1
  simp only [List.cons.injEq, and_true] at g0 g1
  exact ⟨⟨s0, s1⟩, by simp [*]⟩
theorem cells_cl : Tryz.prog.cellsOf 24 = 4 := by kernel_rfl
theorem list_cl {α : Type} {l : List α} (h : l.length = 4) : ∃ a0 a1 a2 a3, l = [a0, a1, a2, a3] := by
  match l, h with
  | [a0, a1, a2, a3], _ => exact ⟨_, _, _, _, rfl⟩
theorem open_cl {fuel : Nat} {cs : List Value} {x : DataW H × List MemPlace} (h : DataW.trod enc Tryz.prog w base spare held fuel 24 cs = some x) :
    ∃ s : Vz.Cl, cs = [.int .i32 s.g, .int .i64 s.a, .bool s.gd, .int .i64 s.m] := by
  obtain ⟨xs, n, -, -, hl, hxl, hf⟩ := DataW.trod_struct Tryz.underlying24 h
  rw [cells_cl] at hl
  obtain ⟨a0, a1, a2, a3, rfl⟩ := list_cl hl
  have get : ∀ (i : Nat) (hi : i < 4), ∃ y, xs[i]? = some y := fun i hi => ⟨_, List.getElem?_eq_getElem (by rw [hxl]; exact hi)⟩
  obtain ⟨y0, e0⟩ := get 0 (by decide)
  have h0 : DataW.trod enc Tryz.prog w base spare held n 21 (([a0, a1, a2, a3].drop 0).take (Tryz.prog.cellsOf 21)) = some y0 := (hf 0 _ rfl).trans e0
  rw [cells_i32] at h0
  simp only [List.drop, List.take] at h0
  obtain ⟨s0, g0, -, -⟩ := DataW.trod_int Tryz.underlying21 h0
  obtain ⟨y1, e1⟩ := get 1 (by decide)
  have h1 : DataW.trod enc Tryz.prog w base spare held n 3 (([a0, a1, a2, a3].drop 1).take (Tryz.prog.cellsOf 3)) = some y1 := (hf 1 _ rfl).trans e1
  rw [cells_i64] at h1
  simp only [List.drop, List.take] at h1
  obtain ⟨s1, g1, -, -⟩ := DataW.trod_int Tryz.underlying3 h1
  obtain ⟨y2, e2⟩ := get 2 (by decide)
  have h2 : DataW.trod enc Tryz.prog w base spare held n 4 (([a0, a1, a2, a3].drop 2).take (Tryz.prog.cellsOf 4)) = some y2 := (hf 2 _ rfl).trans e2
  rw [cells_bool] at h2
  simp only [List.drop, List.take] at h2
  obtain ⟨s2, g2, -⟩ := DataW.trod_bool Tryz.underlying4 h2
  obtain ⟨y3, e3⟩ := get 3 (by decide)
  have h3 : DataW.trod enc Tryz.prog w base spare held n 3 (([a0, a1, a2, a3].drop 3).take (Tryz.prog.cellsOf 3)) = some y3 := (hf 3 _ rfl).trans e3
  rw [cells_i64] at h3
  simp only [List.drop, List.take] at h3
  obtain ⟨s3, g3, -, -⟩ := DataW.trod_int Tryz.underlying3 h3
  simp only [List.cons.injEq, and_true] at g0 g1 g2 g3
  exact ⟨⟨s0, s1, s2, s3⟩, by simp [*]⟩
theorem cells_op : Tryz.prog.cellsOf 32 = 12 := by kernel_rfl
theorem list_op {α : Type} {l : List α} (h : l.length = 12) : ∃ a0 a1 a2 a3 a4 a5 a6 a7 a8 a9 a10 a11, l = [a0, a1, a2, a3, a4, a5, a6, a7, a8, a9, a10, a11] := by
  match l, h with
  | [a0, a1, a2, a3, a4, a5, a6, a7, a8, a9, a10, a11], _ => exact ⟨_, _, _, _, _, _, _, _, _, _, _, _, rfl⟩
theorem open_op {fuel : Nat} {cs : List Value} {x : DataW H × List MemPlace} (h : DataW.trod enc Tryz.prog w base spare held fuel 32 cs = some x) :
    ∃ s : Vz.Op, cs = [.int .i64 s.ask, .int .i64 s.a.row, .int .i64 s.a.col, .int .i64 s.b.row, .int .i64 s.b.col, .int .i64 s.n, .int .i32 s.c.g, .int .i64 s.c.a, .bool s.c.gd, .int .i64 s.c.m, .int .i64 s.wr, .bool s.gd] := by
  obtain ⟨xs, n, -, -, hl, hxl, hf⟩ := DataW.trod_struct Tryz.underlying32 h
  rw [cells_op] at hl
  obtain ⟨a0, a1, a2, a3, a4, a5, a6, a7, a8, a9, a10, a11, rfl⟩ := list_op hl
  have get : ∀ (i : Nat) (hi : i < 7), ∃ y, xs[i]? = some y := fun i hi => ⟨_, List.getElem?_eq_getElem (by rw [hxl]; exact hi)⟩
  obtain ⟨y0, e0⟩ := get 0 (by decide)
  have h0 : DataW.trod enc Tryz.prog w base spare held n 3 (([a0, a1, a2, a3, a4, a5, a6, a7, a8, a9, a10, a11].drop 0).take (Tryz.prog.cellsOf 3)) = some y0 := (hf 0 _ rfl).trans e0
  rw [cells_i64] at h0
  simp only [List.drop, List.take] at h0
  obtain ⟨s0, g0, -, -⟩ := DataW.trod_int Tryz.underlying3 h0
  obtain ⟨y1, e1⟩ := get 1 (by decide)
  have h1 : DataW.trod enc Tryz.prog w base spare held n 30 (([a0, a1, a2, a3, a4, a5, a6, a7, a8, a9, a10, a11].drop 1).take (Tryz.prog.cellsOf 30)) = some y1 := (hf 1 _ rfl).trans e1
  rw [cells_ps] at h1
  simp only [List.drop, List.take] at h1
  obtain ⟨s1, g1⟩ := open_ps h1
  obtain ⟨y2, e2⟩ := get 2 (by decide)
  have h2 : DataW.trod enc Tryz.prog w base spare held n 30 (([a0, a1, a2, a3, a4, a5, a6, a7, a8, a9, a10, a11].drop 3).take (Tryz.prog.cellsOf 30)) = some y2 := (hf 2 _ rfl).trans e2
  rw [cells_ps] at h2
  simp only [List.drop, List.take] at h2
  obtain ⟨s2, g2⟩ := open_ps h2
  obtain ⟨y3, e3⟩ := get 3 (by decide)
  have h3 : DataW.trod enc Tryz.prog w base spare held n 3 (([a0, a1, a2, a3, a4, a5, a6, a7, a8, a9, a10, a11].drop 5).take (Tryz.prog.cellsOf 3)) = some y3 := (hf 3 _ rfl).trans e3
  rw [cells_i64] at h3
  simp only [List.drop, List.take] at h3
  obtain ⟨s3, g3, -, -⟩ := DataW.trod_int Tryz.underlying3 h3
  obtain ⟨y4, e4⟩ := get 4 (by decide)
  have h4 : DataW.trod enc Tryz.prog w base spare held n 24 (([a0, a1, a2, a3, a4, a5, a6, a7, a8, a9, a10, a11].drop 6).take (Tryz.prog.cellsOf 24)) = some y4 := (hf 4 _ rfl).trans e4
  rw [cells_cl] at h4
  simp only [List.drop, List.take] at h4
  obtain ⟨s4, g4⟩ := open_cl h4
  obtain ⟨y5, e5⟩ := get 5 (by decide)
  have h5 : DataW.trod enc Tryz.prog w base spare held n 3 (([a0, a1, a2, a3, a4, a5, a6, a7, a8, a9, a10, a11].drop 10).take (Tryz.prog.cellsOf 3)) = some y5 := (hf 5 _ rfl).trans e5
  rw [cells_i64] at h5
  simp only [List.drop, List.take] at h5
  obtain ⟨s5, g5, -, -⟩ := DataW.trod_int Tryz.underlying3 h5
  obtain ⟨y6, e6⟩ := get 6 (by decide)
  have h6 : DataW.trod enc Tryz.prog w base spare held n 4 (([a0, a1, a2, a3, a4, a5, a6, a7, a8, a9, a10, a11].drop 11).take (Tryz.prog.cellsOf 4)) = some y6 := (hf 6 _ rfl).trans e6
  rw [cells_bool] at h6
  simp only [List.drop, List.take] at h6
  obtain ⟨s6, g6, -⟩ := DataW.trod_bool Tryz.underlying4 h6
  simp only [List.cons.injEq, and_true] at g0 g1 g2 g3 g4 g5 g6
  exact ⟨⟨s0, s1, s2, s3, s4, s5, s6⟩, by simp [*]⟩
end
end Go.Proofs.YtbnkfiaggehmgaaGreatDoor
