/- What the listed variable attr.names gives: its twelve cells. -/
import Derived.Test.YtdakiocgaihcnaaDoorTie
import Derived.ProofKit
import Derived.OpenShut
import Derived.Lib.LaidTab
namespace Go.Proofs.YtdakiocgaihcnaaDoor
open Go.ChangeShapes Go.WideShapes Go.ChangeAt Go.RowKit

def names12 : List Value := [.int .i64 1, .string ⟨#[98, 111, 108, 100]⟩, .int .i64 2, .string ⟨#[100, 105, 109]⟩, .int .i64 4, .string ⟨#[117, 110, 100, 101, 114]⟩, .int .i64 8, .string ⟨#[98, 108, 105, 110, 107]⟩,
  .int .i64 16, .string ⟨#[114, 101, 118, 101, 114, 115, 101]⟩, .int .i64 32, .string ⟨#[104, 105, 100, 100, 101, 110]⟩]

theorem gNames : Tryd.prog.globalNamed "vizard/attr.names" = some 0 := by kernel_rfl
theorem gNamesType : (Tryd.prog.globals[0]?).map (·.type) = some 48 := by kernel_rfl
theorem cellsPair : Tryd.prog.cellsOf 47 = 2 := by kernel_rfl
theorem cellsNames : Tryd.prog.cellsOf 48 = 12 := by kernel_rfl
theorem cellsI : Tryd.prog.cellsOf 3 = 1 := by kernel_rfl
theorem cellsS : Tryd.prog.cellsOf 9 = 1 := by kernel_rfl

section
variable {H : Type} {enc : TypeId × Value → H} {w : World} {base : Nat} {sp : Nat → Bool} {held : Bool} {fuel : Nat}
theorem pair_cells {cs : List Value} {y : DataW H × List MemPlace} {z : Int} {s : List UInt8} (h : DataW.trod enc Tryd.prog w base sp held fuel 47 cs = some y) (hy : y.1 = .agg [.lit (.int .i64 z), .lit (.string s)]) :
    cs = [.int .i64 z, .string ⟨s.toArray⟩] := by
  obtain ⟨xs, n, _, hx, hl, hxl, hf⟩ := DataW.trod_struct Tryd.underlying47 h
  rw [cellsPair] at hl
  have h0 := hf 0 _ rfl
  have h1 := hf 1 _ rfl
  match xs, hxl with
  | [x0, x1], _ =>
    match cs, hl with
    | [c0, c1], _ =>
      have e := congrArg Prod.fst hx
      rw [hy] at e
      simp only [List.map_cons, List.map_nil, DataW.agg.injEq, List.cons.injEq, and_true] at e
      obtain ⟨e0, e1⟩ := e
      simp [cellsI] at h0
      simp [cellsS] at h1
      obtain ⟨a, ha, hxa, _⟩ := DataW.trod_int Tryd.underlying3 h0
      obtain ⟨b, hb, hxb, _⟩ := DataW.trod_string Tryd.underlying9 h1
      rw [hxa] at e0
      rw [hxb] at e1
      simp at e0 e1 ha hb
      rw [ha, hb, e0, e1]

theorem names_cells {cs : List Value} {p : List MemPlace} (h : DataW.trod enc Tryd.prog w base sp held fuel 48 cs = some (Rows.laid_vizard_attr_names, p)) : cs = names12 := by
  obtain ⟨xs, m, _, hx, hl, hxl, hi⟩ := DataW.trod_array Tryd.underlying48 h
  rw [cellsNames] at hl
  rw [cellsPair] at hi
  have e := congrArg Prod.fst hx
  simp only [Rows.laid_vizard_attr_names, DataW.agg.injEq] at e
  match xs, hxl with
  | [y0, y1, y2, y3, y4, y5], _ =>
    simp only [List.map_cons, List.map_nil, List.cons.injEq, and_true] at e
    obtain ⟨e0, e1, e2, e3, e4, e5⟩ := e
    match cs, hl with
    | [c0, c1, c2, c3, c4, c5, c6, c7, c8, c9, c10, c11], _ =>
      have r0 := pair_cells (hi 0 (by decide)) e0.symm
      have r1 := pair_cells (hi 1 (by decide)) e1.symm
      have r2 := pair_cells (hi 2 (by decide)) e2.symm
      have r3 := pair_cells (hi 3 (by decide)) e3.symm
      have r4 := pair_cells (hi 4 (by decide)) e4.symm
      have r5 := pair_cells (hi 5 (by decide)) e5.symm
      simp at r0 r1 r2 r3 r4 r5
      simp [names12, r0, r1, r2, r3, r4, r5]
end

/-- The variable's block, out of the list's condition, where it stands first. -/
theorem names_block {rest : List (String × DataW Unit)} {W : World} (h : laidMet Tryd.prog (("vizard/attr.names", Rows.laid_vizard_attr_names) :: rest) W) : ∃ t fr, W.heap[0]? = some (.cells names12.toArray t fr) := by
  obtain ⟨ps, ⟨g', t', cs, fuel, p, q, hg', ht', hvar, hd, _, _⟩, _⟩ := h
  obtain rfl := Option.some.inj (gNames.symm.trans hg')
  obtain rfl := Option.some.inj (gNamesType.symm.trans ht')
  have hc := names_cells hd
  unfold World.var? at hvar
  rw [gNames] at hvar
  simp only [Option.bind_some] at hvar
  split at hvar
  · rename_i cs' t fr hh
    refine ⟨t, fr, ?_⟩
    rw [hh, ← hc]
    have := Option.some.inj hvar
    rw [this]
  · cases hvar
/-- The same where it stands second. -/
theorem names_block2 {x : String × DataW Unit} {rest : List (String × DataW Unit)} {W : World} (h : laidMet Tryd.prog (x :: ("vizard/attr.names", Rows.laid_vizard_attr_names) :: rest) W) : ∃ t fr, W.heap[0]? = some (.cells names12.toArray t fr) := by
  obtain ⟨ps0, ⟨_, _, _, _, _, _, _, _, _, _, ⟨g', t', cs, fuel, p, q, hg', ht', hvar, hd, _, _⟩, _⟩, _⟩ := h
  obtain rfl := Option.some.inj (gNames.symm.trans hg')
  obtain rfl := Option.some.inj (gNamesType.symm.trans ht')
  have hc := names_cells hd
  unfold World.var? at hvar
  rw [gNames] at hvar
  simp only [Option.bind_some] at hvar
  split at hvar
  · rename_i cs' t fr hh
    refine ⟨t, fr, ?_⟩
    rw [hh, ← hc]
    have := Option.some.inj hvar
    rw [this]
  · cases hvar

theorem lt_of_cell {W : World} {p : Addr} {v : Value} (h : W.cell? p = some v) : p.block < W.heap.size := by
  by_cases hl : p.block < W.heap.size
  · exact hl
  · unfold World.cell? at h
    rw [Array.getElem?_eq_none (by omega)] at h
    simp at h

theorem wf64 {a : Int} (h : (Lit.int .i64 a).wf = true) : -9223372036854775808 ≤ a ∧ a < 9223372036854775808 := by
  simp only [Lit.wf, Bool.and_eq_true, decide_eq_true_eq] at h
  have h1 := h.1
  have h2 := h.2
  rw [show IntKind.i64.min = -9223372036854775808 from by kernel_rfl] at h1
  rw [show IntKind.i64.max = 9223372036854775807 from by kernel_rfl] at h2
  exact ⟨h1, by omega⟩
end Go.Proofs.YtdakiocgaihcnaaDoor
