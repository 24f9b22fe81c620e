import Derived.Test.YtliacdaddncmaaaGreatDoorLF
import Derived.Deep.Slices
import Derived.ChangeArms
import Derived.ProofKit
import Derived.Carry

/- Structs of numbers as parameters: a place, a cell, a call (by wip/tools/opens.py); a slice of calls. -/
namespace Vz
/-- A call of the law's. -/
structure Op where
  ask : Int
  a : Ps
  b : Ps
  n : Int
  c : Cl
  wr : Int
  gd : Bool
def Op.nil : Op := ⟨0, Ps.nil, Ps.nil, 0, Cl.zero, 0, false⟩
end Vz
namespace Go.Proofs.YtliacdaddncmaaaGreatDoor
open Go.RowKit Go.Deep
set_option linter.unusedSimpArgs false
set_option linter.unusedVariables false
section
variable {H : Type} {enc : TypeId × Value → H} {w : World} {base : Nat} {spare : Nat → Bool} {held : Bool}
theorem cells_i64 : Tryz.prog.cellsOf 3 = 1 := by kernel_rfl
theorem cells_i32 : Tryz.prog.cellsOf 21 = 1 := by kernel_rfl
theorem cells_bool : Tryz.prog.cellsOf 4 = 1 := by kernel_rfl
theorem cells_ps : Tryz.prog.cellsOf 25 = 2 := by kernel_rfl
theorem list_ps {α : Type} {l : List α} (h : l.length = 2) : ∃ a0 a1, l = [a0, a1] := by
  match l, h with
  | [a0, a1], _ => exact ⟨_, _, rfl⟩
theorem open_ps {fuel : Nat} {cs : List Value} {x : DataW H × List MemPlace} (h : DataW.trod enc Tryz.prog w base spare held fuel 25 cs = some x) :
    ∃ s : Vz.Ps, cs = [.int .i64 s.row, .int .i64 s.col] := by
  obtain ⟨xs, n, -, -, hl, hxl, hf⟩ := DataW.trod_struct Tryz.underlying25 h
  rw [cells_ps] at hl
  obtain ⟨a0, a1, rfl⟩ := list_ps hl
  have get : ∀ (i : Nat) (hi : i < 2), ∃ y, xs[i]? = some y := fun i hi => ⟨_, List.getElem?_eq_getElem (by rw [hxl]; exact hi)⟩
  obtain ⟨y0, e0⟩ := get 0 (by decide)
  have h0 : DataW.trod enc Tryz.prog w base spare held n 3 (([a0, a1].drop 0).take (Tryz.prog.cellsOf 3)) = some y0 := (hf 0 _ rfl).trans e0
  rw [cells_i64] at h0
  simp only [List.drop, List.take] at h0
  obtain ⟨s0, g0, -, -⟩ := DataW.trod_int Tryz.underlying3 h0
  obtain ⟨y1, e1⟩ := get 1 (by decide)
  have h1 : DataW.trod enc Tryz.prog w base spare held n 3 (([a0, a1].drop 1).take (Tryz.prog.cellsOf 3)) = some y1 := (hf 1 _ rfl).trans e1
  rw [cells_i64] at h1
  simp only [List.drop, List.take] at h1
  obtain ⟨s1, g1, -, -⟩ := DataW.trod_int Tryz.underlying3 h1
  simp only [List.cons.injEq, and_true] at g0 g1
  exact ⟨⟨s0, s1⟩, by simp [*]⟩
theorem cells_cl : Tryz.prog.cellsOf 47 = 4 := by kernel_rfl
theorem list_cl {α : Type} {l : List α} (h : l.length = 4) : ∃ a0 a1 a2 a3, l = [a0, a1, a2, a3] := by
  match l, h with
  | [a0, a1, a2, a3], _ => exact ⟨_, _, _, _, rfl⟩
theorem open_cl {fuel : Nat} {cs : List Value} {x : DataW H × List MemPlace} (h : DataW.trod enc Tryz.prog w base spare held fuel 47 cs = some x) :
    ∃ s : Vz.Cl, cs = [.int .i32 s.g, .int .i64 s.a, .bool s.gd, .int .i64 s.m] := by
  obtain ⟨xs, n, -, -, hl, hxl, hf⟩ := DataW.trod_struct Tryz.underlying47 h
  rw [cells_cl] at hl
  obtain ⟨a0, a1, a2, a3, rfl⟩ := list_cl hl
  have get : ∀ (i : Nat) (hi : i < 4), ∃ y, xs[i]? = some y := fun i hi => ⟨_, List.getElem?_eq_getElem (by rw [hxl]; exact hi)⟩
  obtain ⟨y0, e0⟩ := get 0 (by decide)
  have h0 : DataW.trod enc Tryz.prog w base spare held n 21 (([a0, a1, a2, a3].drop 0).take (Tryz.prog.cellsOf 21)) = some y0 := (hf 0 _ rfl).trans e0
  rw [cells_i32] at h0
  simp only [List.drop, List.take] at h0
  obtain ⟨s0, g0, -, -⟩ := DataW.trod_int Tryz.underlying21 h0
  obtain ⟨y1, e1⟩ := get 1 (by decide)
  have h1 : DataW.trod enc Tryz.prog w base spare held n 3 (([a0, a1, a2, a3].drop 1).take (Tryz.prog.cellsOf 3)) = some y1 := (hf 1 _ rfl).trans e1
  rw [cells_i64] at h1
  simp only [List.drop, List.take] at h1
  obtain ⟨s1, g1, -, -⟩ := DataW.trod_int Tryz.underlying3 h1
  obtain ⟨y2, e2⟩ := get 2 (by decide)
  have h2 : DataW.trod enc Tryz.prog w base spare held n 4 (([a0, a1, a2, a3].drop 2).take (Tryz.prog.cellsOf 4)) = some y2 := (hf 2 _ rfl).trans e2
  rw [cells_bool] at h2
  simp only [List.drop, List.take] at h2
  obtain ⟨s2, g2, -⟩ := DataW.trod_bool Tryz.underlying4 h2
  obtain ⟨y3, e3⟩ := get 3 (by decide)
  have h3 : DataW.trod enc Tryz.prog w base spare held n 3 (([a0, a1, a2, a3].drop 3).take (Tryz.prog.cellsOf 3)) = some y3 := (hf 3 _ rfl).trans e3
  rw [cells_i64] at h3
  simp only [List.drop, List.take] at h3
  obtain ⟨s3, g3, -, -⟩ := DataW.trod_int Tryz.underlying3 h3
  simp only [List.cons.injEq, and_true] at g0 g1 g2 g3
  exact ⟨⟨s0, s1, s2, s3⟩, by simp [*]⟩
theorem cells_op : Tryz.prog.cellsOf 49 = 12 := by kernel_rfl
theorem list_op {α : Type} {l : List α} (h : l.length = 12) : ∃ a0 a1 a2 a3 a4 a5 a6 a7 a8 a9 a10 a11, l = [a0, a1, a2, a3, a4, a5, a6, a7, a8, a9, a10, a11] := by
  match l, h with
  | [a0, a1, a2, a3, a4, a5, a6, a7, a8, a9, a10, a11], _ => exact ⟨_, _, _, _, _, _, _, _, _, _, _, _, rfl⟩
theorem open_op {fuel : Nat} {cs : List Value} {x : DataW H × List MemPlace} (h : DataW.trod enc Tryz.prog w base spare held fuel 49 cs = some x) :
    ∃ s : Vz.Op, cs = [.int .i64 s.ask, .int .i64 s.a.row, .int .i64 s.a.col, .int .i64 s.b.row, .int .i64 s.b.col, .int .i64 s.n, .int .i32 s.c.g, .int .i64 s.c.a, .bool s.c.gd, .int .i64 s.c.m, .int .i64 s.wr, .bool s.gd] := by
  obtain ⟨xs, n, -, -, hl, hxl, hf⟩ := DataW.trod_struct Tryz.underlying49 h
  rw [cells_op] at hl
  obtain ⟨a0, a1, a2, a3, a4, a5, a6, a7, a8, a9, a10, a11, rfl⟩ := list_op hl
  have get : ∀ (i : Nat) (hi : i < 7), ∃ y, xs[i]? = some y := fun i hi => ⟨_, List.getElem?_eq_getElem (by rw [hxl]; exact hi)⟩
  obtain ⟨y0, e0⟩ := get 0 (by decide)
  have h0 : DataW.trod enc Tryz.prog w base spare held n 3 (([a0, a1, a2, a3, a4, a5, a6, a7, a8, a9, a10, a11].drop 0).take (Tryz.prog.cellsOf 3)) = some y0 := (hf 0 _ rfl).trans e0
  rw [cells_i64] at h0
  simp only [List.drop, List.take] at h0
  obtain ⟨s0, g0, -, -⟩ := DataW.trod_int Tryz.underlying3 h0
  obtain ⟨y1, e1⟩ := get 1 (by decide)
  have h1 : DataW.trod enc Tryz.prog w base spare held n 25 (([a0, a1, a2, a3, a4, a5, a6, a7, a8, a9, a10, a11].drop 1).take (Tryz.prog.cellsOf 25)) = some y1 := (hf 1 _ rfl).trans e1
  rw [cells_ps] at h1
  simp only [List.drop, List.take] at h1
  obtain ⟨s1, g1⟩ := open_ps h1
  obtain ⟨y2, e2⟩ := get 2 (by decide)
  have h2 : DataW.trod enc Tryz.prog w base spare held n 25 (([a0, a1, a2, a3, a4, a5, a6, a7, a8, a9, a10, a11].drop 3).take (Tryz.prog.cellsOf 25)) = some y2 := (hf 2 _ rfl).trans e2
  rw [cells_ps] at h2
  simp only [List.drop, List.take] at h2
  obtain ⟨s2, g2⟩ := open_ps h2
  obtain ⟨y3, e3⟩ := get 3 (by decide)
  have h3 : DataW.trod enc Tryz.prog w base spare held n 3 (([a0, a1, a2, a3, a4, a5, a6, a7, a8, a9, a10, a11].drop 5).take (Tryz.prog.cellsOf 3)) = some y3 := (hf 3 _ rfl).trans e3
  rw [cells_i64] at h3
  simp only [List.drop, List.take] at h3
  obtain ⟨s3, g3, -, -⟩ := DataW.trod_int Tryz.underlying3 h3
  obtain ⟨y4, e4⟩ := get 4 (by decide)
  have h4 : DataW.trod enc Tryz.prog w base spare held n 47 (([a0, a1, a2, a3, a4, a5, a6, a7, a8, a9, a10, a11].drop 6).take (Tryz.prog.cellsOf 47)) = some y4 := (hf 4 _ rfl).trans e4
  rw [cells_cl] at h4
  simp only [List.drop, List.take] at h4
  obtain ⟨s4, g4⟩ := open_cl h4
  obtain ⟨y5, e5⟩ := get 5 (by decide)
  have h5 : DataW.trod enc Tryz.prog w base spare held n 3 (([a0, a1, a2, a3, a4, a5, a6, a7, a8, a9, a10, a11].drop 10).take (Tryz.prog.cellsOf 3)) = some y5 := (hf 5 _ rfl).trans e5
  rw [cells_i64] at h5
  simp only [List.drop, List.take] at h5
  obtain ⟨s5, g5, -, -⟩ := DataW.trod_int Tryz.underlying3 h5
  obtain ⟨y6, e6⟩ := get 6 (by decide)
  have h6 : DataW.trod enc Tryz.prog w base spare held n 4 (([a0, a1, a2, a3, a4, a5, a6, a7, a8, a9, a10, a11].drop 11).take (Tryz.prog.cellsOf 4)) = some y6 := (hf 6 _ rfl).trans e6
  rw [cells_bool] at h6
  simp only [List.drop, List.take] at h6
  obtain ⟨s6, g6, -⟩ := DataW.trod_bool Tryz.underlying4 h6
  simp only [List.cons.injEq, and_true] at g0 g1 g2 g3 g4 g5 g6
  exact ⟨⟨s0, s1, s2, s3, s4, s5, s6⟩, by simp [*]⟩
end
end Go.Proofs.YtliacdaddncmaaaGreatDoor

/- A parameter that is a slice of calls: what the row's reading gives. -/
namespace Go.Proofs.YtliacdaddncmaaaGreatDoor
open Go.RowKit Go.Deep
set_option linter.unusedSimpArgs false
set_option linter.unusedVariables false

/-- A call's cells. -/
def opC (s : Vz.Op) : List Value := [.int .i64 s.ask, .int .i64 s.a.row, .int .i64 s.a.col, .int .i64 s.b.row, .int .i64 s.b.col, .int .i64 s.n, .int .i32 s.c.g, .int .i64 s.c.a, .bool s.c.gd, .int .i64 s.c.m, .int .i64 s.wr, .bool s.gd]
def OpOk (s : Vz.Op) : Prop := (-9223372036854775808 ≤ s.n ∧ s.n < 9223372036854775808) ∧ (-9223372036854775808 ≤ s.a.row ∧ s.a.row < 9223372036854775808) ∧ (-9223372036854775808 ≤ s.a.col ∧ s.a.col < 9223372036854775808)
/-- The twelve cells of a call, from cell o of block b on. -/
def OpAt (W : World) (b o : Nat) (x : Vz.Op) : Prop :=
  W.cell? ⟨b, o, none⟩ = some (.int .i64 x.ask) ∧ W.cell? ⟨b, o + 1, none⟩ = some (.int .i64 x.a.row) ∧ W.cell? ⟨b, o + 2, none⟩ = some (.int .i64 x.a.col) ∧ W.cell? ⟨b, o + 3, none⟩ = some (.int .i64 x.b.row) ∧ W.cell? ⟨b, o + 4, none⟩ = some (.int .i64 x.b.col) ∧ W.cell? ⟨b, o + 5, none⟩ = some (.int .i64 x.n) ∧ W.cell? ⟨b, o + 6, none⟩ = some (.int .i32 x.c.g) ∧ W.cell? ⟨b, o + 7, none⟩ = some (.int .i64 x.c.a) ∧ W.cell? ⟨b, o + 8, none⟩ = some (.bool x.c.gd) ∧ W.cell? ⟨b, o + 9, none⟩ = some (.int .i64 x.c.m) ∧ W.cell? ⟨b, o + 10, none⟩ = some (.int .i64 x.wr) ∧ W.cell? ⟨b, o + 11, none⟩ = some (.bool x.gd)
theorem OpAt.below {W W' : World} {b o B : Nat} {x : Vz.Op} (h : OpAt W b o x) (hb : Below B W W') (hB : b < B) : OpAt W' b o x := by
  obtain ⟨h0, h1, h2, h3, h4, h5, h6, h7, h8, h9, h10, h11⟩ := h
  exact ⟨(hb.cell hB).trans h0, (hb.cell hB).trans h1, (hb.cell hB).trans h2, (hb.cell hB).trans h3, (hb.cell hB).trans h4, (hb.cell hB).trans h5, (hb.cell hB).trans h6, (hb.cell hB).trans h7, (hb.cell hB).trans h8, (hb.cell hB).trans h9, (hb.cell hB).trans h10, (hb.cell hB).trans h11⟩
/-- A slice of calls that reads as a list. -/
def Opers (B : Nat) (W : World) (A : Option Addr) (n : Nat) (L : List Vz.Op) : Prop :=
  n = L.length ∧ (0 < n → ∃ b o, A = some ⟨b, o, none⟩ ∧ b < B ∧ ∀ i, i < n → OpAt W b (o + i * 12) (L[i]?.getD Vz.Op.nil) ∧ OpOk (L[i]?.getD Vz.Op.nil))
theorem Opers.below {B B' : Nat} {W W' : World} {A : Option Addr} {n : Nat} {L : List Vz.Op} (h : Opers B W A n L) (hb : Below B' W W') (hB : B ≤ B') : Opers B W' A n L :=
  ⟨h.1, fun h0 => by
    obtain ⟨b, o, rfl, hlt, hi⟩ := h.2 h0
    exact ⟨b, o, rfl, hlt, fun i hh => ⟨(hi i hh).1.below hb (by omega), (hi i hh).2⟩⟩⟩
theorem Opers.more {B B' : Nat} {W : World} {A : Option Addr} {n : Nat} {L : List Vz.Op} (h : Opers B W A n L) (hB : B ≤ B') : Opers B' W A n L :=
  ⟨h.1, fun h0 => by
    obtain ⟨b, o, rfl, hlt, hi⟩ := h.2 h0
    exact ⟨b, o, rfl, by omega, hi⟩⟩
theorem Opers.at_ {B : Nat} {W : World} {A : Option Addr} {n : Nat} {L : List Vz.Op} (h : Opers B W A n L) {k : Nat} (hk : k < n) : ∃ b o, A = some ⟨b, o, none⟩ ∧ b < B ∧ OpAt W b (o + k * 12) (L[k]?.getD Vz.Op.nil) ∧ OpOk (L[k]?.getD Vz.Op.nil) := by
  obtain ⟨b, o, rfl, hlt, hi⟩ := h.2 (by omega)
  exact ⟨b, o, rfl, hlt, (hi k hk).1, (hi k hk).2⟩
theorem Opers.nil (B : Nat) (W : World) : Opers B W none 0 [] := ⟨rfl, fun h => absurd h (by decide)⟩
section
variable {H : Type} {enc : TypeId × Value → H} {w : World} {base : Nat} {spare : Nat → Bool} {held : Bool}
theorem wf_in {a : Int} (h : (Lit.int .i64 a).wf = true) : -9223372036854775808 ≤ a ∧ a < 9223372036854775808 := by
  simp [Lit.wf] at h
  have h1 : IntKind.i64.min = -9223372036854775808 := rfl
  have h2 : IntKind.i64.max = 9223372036854775807 := rfl
  omega
theorem op_ok {fuel : Nat} {s : Vz.Op} {x : DataW H × List MemPlace} (h : DataW.trod enc Tryz.prog w base spare held fuel 49 (opC s) = some x) : OpOk s := by
  obtain ⟨xs, n, -, -, hl, hxl, hf⟩ := DataW.trod_struct Tryz.underlying49 h
  have get : ∀ (i : Nat) (hi : i < 7), ∃ y, xs[i]? = some y := fun i hi => ⟨_, List.getElem?_eq_getElem (by rw [hxl]; exact hi)⟩
  obtain ⟨y1, e1⟩ := get 1 (by decide)
  obtain ⟨y3, e3⟩ := get 3 (by decide)
  have h1 : DataW.trod enc Tryz.prog w base spare held n 25 (((opC s).drop 1).take (Tryz.prog.cellsOf 25)) = some y1 := (hf 1 _ rfl).trans e1
  have h3 : DataW.trod enc Tryz.prog w base spare held n 3 (((opC s).drop 5).take (Tryz.prog.cellsOf 3)) = some y3 := (hf 3 _ rfl).trans e3
  rw [cells_ps] at h1
  rw [cells_i64] at h3
  unfold opC at h1 h3
  simp only [List.drop, List.take] at h1 h3
  obtain ⟨s3, g3, -, k3⟩ := DataW.trod_int Tryz.underlying3 h3
  obtain ⟨ys, m, -, -, hl1, hyl, hf1⟩ := DataW.trod_struct Tryz.underlying25 h1
  have gety : ∀ (i : Nat) (hi : i < 2), ∃ y, ys[i]? = some y := fun i hi => ⟨_, List.getElem?_eq_getElem (by rw [hyl]; exact hi)⟩
  obtain ⟨z0, f0⟩ := gety 0 (by decide)
  obtain ⟨z1, f1⟩ := gety 1 (by decide)
  have j0 := (hf1 0 _ rfl).trans f0
  have j1 := (hf1 1 _ rfl).trans f1
  have j0' : DataW.trod enc Tryz.prog w base spare held m 3 (([.int .i64 s.a.row, .int .i64 s.a.col].drop 0).take (Tryz.prog.cellsOf 3)) = some z0 := j0
  have j1' : DataW.trod enc Tryz.prog w base spare held m 3 (([.int .i64 s.a.row, .int .i64 s.a.col].drop 1).take (Tryz.prog.cellsOf 3)) = some z1 := j1
  rw [cells_i64] at j0' j1'
  simp only [List.drop, List.take] at j0' j1'
  obtain ⟨r0, g0, -, k0⟩ := DataW.trod_int Tryz.underlying3 j0'
  obtain ⟨r1, g1, -, k1⟩ := DataW.trod_int Tryz.underlying3 j1'
  simp at g3 g0 g1
  subst g3 g0 g1
  exact ⟨wf_in k3, wf_in k0, wf_in k1⟩
theorem open_opers_len {fuel : Nat} {A : Option Addr} {m c : Nat} {x : DataW H × List MemPlace} (h : DataW.trod enc Tryz.prog w base spare held fuel 42 [.slice A m c] = some x) : m ≤ maxLen := by
  rcases open_slice Tryz.underlying42 h with ⟨h0, _⟩ | ⟨a, len, cap, m', n, D, Pl, h0, -, hl, hc, -⟩
  · simp only [List.cons.injEq, and_true, Value.slice.injEq] at h0
    obtain ⟨rfl, rfl, rfl⟩ := h0
    exact Nat.zero_le _
  · simp only [List.cons.injEq, and_true, Value.slice.injEq] at h0
    obtain ⟨rfl, rfl, rfl⟩ := h0
    exact Nat.le_trans hl hc
theorem open_opers {fuel : Nat} {A : Option Addr} {m c : Nat} {x : DataW H × List MemPlace} (h : DataW.trod enc Tryz.prog w base spare held fuel 42 [.slice A m c] = some x) : ∃ L, Opers w.heap.size w A m L := by
  rcases open_slice Tryz.underlying42 h with ⟨h0, _⟩ | ⟨a, len, cap, m', n, D, Pl, h0, -, hl, -, hm', -, hi⟩
  · simp only [List.cons.injEq, and_true, Value.slice.injEq] at h0
    obtain ⟨rfl, rfl, rfl⟩ := h0
    exact ⟨[], rfl, fun h => absurd h (by decide)⟩
  · simp only [List.cons.injEq, and_true, Value.slice.injEq] at h0
    obtain ⟨rfl, rfl, rfl⟩ := h0
    have hmm : m ≤ m' := by rw [hm']; split <;> omega
    rw [cells_op] at hi
    have hx : ∀ i, i < m → ∃ s : Vz.Op, w.cells? base (a.add (i * 12)) 12 = some (opC s) ∧ OpOk s := fun i hh => by
      obtain ⟨cs', h1, h2⟩ := hi i (by omega)
      obtain ⟨s, hs⟩ := open_op h2
      have hs' : cs' = opC s := hs
      subst hs'
      exact ⟨s, h1, op_ok h2⟩
    haveI : Inhabited Vz.Op := ⟨Vz.Op.nil⟩
    obtain ⟨F, hF⟩ := choose_lt hx
    refine ⟨(List.range m).map F, by simp, fun h0 => ?_⟩
    have hc : ∀ i, i < m → ∀ j, j < 12 → w.cell? ((a.add (i * 12)).add j) = (opC (F i))[j]? := fun i hh j hj => by
      obtain ⟨_, _, hat⟩ := World.cells?_some (hF i hh).1
      exact hat j hj
    have h1 : w.cell? a = some (.int .i64 (F 0).ask) := by
      have := hc 0 h0 0 (by decide)
      simpa [Addr.add, opC] using this
    have hs : a.spot = none := by
      unfold World.cell? at h1
      split at h1
      · split at h1
        · cases h1
        · rename_i hn; simpa using hn
      · cases h1
    have hlt := World.block_lt_of_cell? w a h1
    refine ⟨a.block, a.off, by cases a; simp_all, hlt, fun i hh => ?_⟩
    have hadd : ∀ j, j < 12 → w.cell? ⟨a.block, a.off + i * 12 + j, none⟩ = (opC (F i))[j]? := fun j hj => by
      rw [← hc i hh j hj, Deep.add_add]
      congr 1
      unfold Addr.add
      split
      · rename_i h9
        rw [show a.off + i * 12 + j = a.off by omega]
        obtain ⟨ab, ao, asp⟩ := a
        simp only at hs
        rw [hs]
      · simp [Nat.add_assoc]
    have hg : ((List.range m).map F)[i]?.getD Vz.Op.nil = F i := by simp [hh]
    rw [hg]
    exact ⟨⟨hadd 0 (by decide), hadd 1 (by decide), hadd 2 (by decide), hadd 3 (by decide), hadd 4 (by decide), hadd 5 (by decide), hadd 6 (by decide), hadd 7 (by decide), hadd 8 (by decide), hadd 9 (by decide), hadd 10 (by decide), hadd 11 (by decide)⟩, (hF i hh).2⟩
end
end Go.Proofs.YtliacdaddncmaaaGreatDoor
