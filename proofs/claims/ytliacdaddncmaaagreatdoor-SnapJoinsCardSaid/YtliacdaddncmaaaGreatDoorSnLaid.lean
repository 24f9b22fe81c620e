import Derived.Test.YtliacdaddncmaaaGreatDoorSnNames
import Derived.Test.YtliacdaddncmaaaGreatDoorLG
import Derived.Test.YtliacdaddncmaaaGreatDoorLI
import Derived.Test.YtliacdaddncmaaaGreatDoorRows
import Derived.Deep.Slices
import Derived.ChangeArms
import Derived.Lib.LaidTab
import Derived.ProofKit
import Derived.OpenShut
import Derived.Carry

/- What the rows of law21 list: the blank cell and the attributes' names. -/
namespace Go.Proofs.YtliacdaddncmaaaGreatDoor
open Go.RowKit Go.Deep Go.ChangeShapes Go.WideShapes Go.ChangeAt
set_option linter.unusedSimpArgs false
set_option linter.unusedVariables false
set_option maxRecDepth 100000

theorem cells_sz : Tryz.prog.cellsOf 23 = 2 := by kernel_rfl
section
variable {H : Type} {enc : TypeId × Value → H} {w : World} {base : Nat} {spare : Nat → Bool} {held : Bool}
theorem open_sz {fuel : Nat} {cs : List Value} {x : DataW H × List MemPlace} (h : DataW.trod enc Tryz.prog w base spare held fuel 23 cs = some x) :
    ∃ s : Vz.Ps, cs = [.int .i64 s.row, .int .i64 s.col] := by
  obtain ⟨xs, n, -, -, hl, hxl, hf⟩ := DataW.trod_struct Tryz.underlying23 h
  rw [cells_sz] at hl
  obtain ⟨a0, a1, rfl⟩ := list_ps hl
  have get : ∀ (i : Nat) (hi : i < 2), ∃ y, xs[i]? = some y := fun i hi => ⟨_, List.getElem?_eq_getElem (by rw [hxl]; exact hi)⟩
  obtain ⟨y0, e0⟩ := get 0 (by decide)
  have h0 : DataW.trod enc Tryz.prog w base spare held n 3 (([a0, a1].drop 0).take (Tryz.prog.cellsOf 3)) = some y0 := (hf 0 _ rfl).trans e0
  rw [cells_i64] at h0
  simp only [List.drop, List.take] at h0
  obtain ⟨s0, g0, -, -⟩ := DataW.trod_int Tryz.underlying3 h0
  obtain ⟨y1, e1⟩ := get 1 (by decide)
  have h1 : DataW.trod enc Tryz.prog w base spare held n 3 (([a0, a1].drop 1).take (Tryz.prog.cellsOf 3)) = some y1 := (hf 1 _ rfl).trans e1
  rw [cells_i64] at h1
  simp only [List.drop, List.take] at h1
  obtain ⟨s1, g1, -, -⟩ := DataW.trod_int Tryz.underlying3 h1
  simp only [List.cons.injEq, and_true] at g0 g1
  exact ⟨⟨s0, s1⟩, by simp [*]⟩
end
theorem u8_open {n : Int} (h : (Lit.int .u8 n).wf = true) : ∃ b : UInt8, n = b.toNat := by
  have h' : 0 ≤ n ∧ n ≤ 255 := by
    unfold Lit.wf at h
    rw [Bool.and_eq_true] at h
    exact ⟨of_decide_eq_true h.1, of_decide_eq_true h.2⟩
  exact ⟨UInt8.ofNat n.toNat, by rw [UInt8.toNat_ofNat']; omega⟩
theorem laidOut : laidOutB Tryz.prog = true := by kernel_rfl
theorem gBlank : Tryz.prog.globalNamed "vizard/screen.Blank" = some 0 := by kernel_rfl
theorem gBlankType : (Tryz.prog.globals[0]?).map (·.type) = some 47 := by kernel_rfl
theorem blank_cells {H : Type} {enc : TypeId × Value → H} {w : World} {base : Nat} {sp : Nat → Bool} {held : Bool} {fuel : Nat} {cs : List Value} {y : DataW H × List MemPlace} (h : DataW.trod enc Tryz.prog w base sp held fuel 47 cs = some y)
    (hy : y.1 = .agg [.lit (.int .i32 32), .lit (.int .i64 0), .lit (.bool false), .lit (.int .i64 0)]) : cs = [.int .i32 32, .int .i64 0, .bool false, .int .i64 0] := by
  obtain ⟨xs, n, -, hx, hl, hxl, hf⟩ := DataW.trod_struct Tryz.underlying47 h
  rw [cells_cl] at hl
  obtain ⟨a0, a1, a2, a3, rfl⟩ := list_cl hl
  match xs, hxl with
  | [x0, x1, x2, x3], _ =>
    have e := congrArg Prod.fst hx
    rw [hy] at e
    simp only [List.map_cons, List.map_nil, DataW.agg.injEq, List.cons.injEq, and_true] at e
    obtain ⟨e0, e1, e2, e3⟩ := e
    have h0 : DataW.trod enc Tryz.prog w base sp held n 21 (([a0, a1, a2, a3].drop 0).take (Tryz.prog.cellsOf 21)) = some x0 := hf 0 _ rfl
    have h1 : DataW.trod enc Tryz.prog w base sp held n 3 (([a0, a1, a2, a3].drop 1).take (Tryz.prog.cellsOf 3)) = some x1 := hf 1 _ rfl
    have h2 : DataW.trod enc Tryz.prog w base sp held n 4 (([a0, a1, a2, a3].drop 2).take (Tryz.prog.cellsOf 4)) = some x2 := hf 2 _ rfl
    have h3 : DataW.trod enc Tryz.prog w base sp held n 3 (([a0, a1, a2, a3].drop 3).take (Tryz.prog.cellsOf 3)) = some x3 := hf 3 _ rfl
    rw [cells_i32] at h0
    rw [cells_i64] at h1 h3
    rw [cells_bool] at h2
    simp only [List.drop, List.take] at h0 h1 h2 h3
    obtain ⟨b0, g0, k0, -⟩ := DataW.trod_int Tryz.underlying21 h0
    obtain ⟨b1, g1, k1, -⟩ := DataW.trod_int Tryz.underlying3 h1
    obtain ⟨b2, g2, k2⟩ := DataW.trod_bool Tryz.underlying4 h2
    obtain ⟨b3, g3, k3, -⟩ := DataW.trod_int Tryz.underlying3 h3
    rw [k0] at e0
    rw [k1] at e1
    rw [k2] at e2
    rw [k3] at e3
    simp at e0 e1 e2 e3 g0 g1 g2 g3
    subst g0 g1 g2 g3
    rw [← e0, ← e1, ← e2, ← e3]
theorem laid_pick {P : Program} {W : World} {n : String} {d : DataW Unit} : ∀ (l : List (String × DataW Unit)) (ps : List MemPlace), DataW.LaidVars P W l ps → (n, d) ∈ l →
    ∃ g t cs fuel p, P.globalNamed n = some g ∧ (P.globals[g]?).map (·.type) = some t ∧ W.var? P n = some cs ∧ DataW.trod (fun _ => ()) P W 0 (fun _ => true) false fuel t cs.toList = some (d, p)
  | [], _, _, hm => by cases hm
  | (n', d') :: r, ps, h, hm => by
    obtain ⟨g, t, cs, fuel, p, q, h1, h2, h3, h4, h5, h6⟩ := h
    rcases List.mem_cons.1 hm with he | hm
    · obtain ⟨rfl, rfl⟩ : n = n' ∧ d = d' := by injection he with a b; exact ⟨a, b⟩
      exact ⟨g, t, cs, fuel, p, h1, h2, h3, h4⟩
    · exact laid_pick r q h5 hm
def names12l : List Value := [.int .i64 1, .string ⟨#[98, 111, 108, 100]⟩, .int .i64 2, .string ⟨#[100, 105, 109]⟩, .int .i64 4, .string ⟨#[117, 110, 100, 101, 114]⟩, .int .i64 8, .string ⟨#[98, 108, 105, 110, 107]⟩,
  .int .i64 16, .string ⟨#[114, 101, 118, 101, 114, 115, 101]⟩, .int .i64 32, .string ⟨#[104, 105, 100, 100, 101, 110]⟩]

theorem gNames : Tryz.prog.globalNamed "vizard/attr.names" = some 1 := by kernel_rfl
theorem gNamesType : (Tryz.prog.globals[1]?).map (·.type) = some 120 := by kernel_rfl
theorem cellsPair : Tryz.prog.cellsOf 119 = 2 := by kernel_rfl
theorem cellsNames : Tryz.prog.cellsOf 120 = 12 := by kernel_rfl
theorem cellsI : Tryz.prog.cellsOf 3 = 1 := by kernel_rfl
theorem cellsS : Tryz.prog.cellsOf 9 = 1 := by kernel_rfl

section
variable {H : Type} {enc : TypeId × Value → H} {w : World} {base : Nat} {sp : Nat → Bool} {held : Bool} {fuel : Nat}
theorem pair_cells {cs : List Value} {y : DataW H × List MemPlace} {z : Int} {s : List UInt8} (h : DataW.trod enc Tryz.prog w base sp held fuel 119 cs = some y) (hy : y.1 = .agg [.lit (.int .i64 z), .lit (.string s)]) :
    cs = [.int .i64 z, .string ⟨s.toArray⟩] := by
  obtain ⟨xs, n, _, hx, hl, hxl, hf⟩ := DataW.trod_struct Tryz.underlying119 h
  rw [cellsPair] at hl
  have h0 := hf 0 _ rfl
  have h1 := hf 1 _ rfl
  match xs, hxl with
  | [x0, x1], _ =>
    match cs, hl with
    | [c0, c1], _ =>
      have e := congrArg Prod.fst hx
      rw [hy] at e
      simp only [List.map_cons, List.map_nil, DataW.agg.injEq, List.cons.injEq, and_true] at e
      obtain ⟨e0, e1⟩ := e
      simp [cellsI] at h0
      simp [cellsS] at h1
      obtain ⟨a, ha, hxa, _⟩ := DataW.trod_int Tryz.underlying3 h0
      obtain ⟨b, hb, hxb, _⟩ := DataW.trod_string Tryz.underlying9 h1
      rw [hxa] at e0
      rw [hxb] at e1
      simp at e0 e1 ha hb
      rw [ha, hb, e0, e1]

theorem names_cells {cs : List Value} {p : List MemPlace} (h : DataW.trod enc Tryz.prog w base sp held fuel 120 cs = some (Rows.laid_vizard_attr_names, p)) : cs = names12l := by
  obtain ⟨xs, m, _, hx, hl, hxl, hi⟩ := DataW.trod_array Tryz.underlying120 h
  rw [cellsNames] at hl
  rw [cellsPair] at hi
  have e := congrArg Prod.fst hx
  simp only [Rows.laid_vizard_attr_names, DataW.agg.injEq] at e
  match xs, hxl with
  | [y0, y1, y2, y3, y4, y5], _ =>
    simp only [List.map_cons, List.map_nil, List.cons.injEq, and_true] at e
    obtain ⟨e0, e1, e2, e3, e4, e5⟩ := e
    match cs, hl with
    | [c0, c1, c2, c3, c4, c5, c6, c7, c8, c9, c10, c11], _ =>
      have r0 := pair_cells (hi 0 (by decide)) e0.symm
      have r1 := pair_cells (hi 1 (by decide)) e1.symm
      have r2 := pair_cells (hi 2 (by decide)) e2.symm
      have r3 := pair_cells (hi 3 (by decide)) e3.symm
      have r4 := pair_cells (hi 4 (by decide)) e4.symm
      have r5 := pair_cells (hi 5 (by decide)) e5.symm
      simp at r0 r1 r2 r3 r4 r5
      simp [names12l, r0, r1, r2, r3, r4, r5]
end

def laid5 : List (String × DataW Unit) := [("math/bits.deBruijn32tab", Rows.laid_math_bits_deBruijn32tab), ("math/bits.deBruijn64tab", Rows.laid_math_bits_deBruijn64tab), ("internal/strconv.uint64pow10", Rows.laid_internal_strconv_uint64pow10), ("vizard/attr.names", Rows.laid_vizard_attr_names), ("vizard/screen.Blank", Rows.laid_vizard_screen_Blank)]
theorem snap_laid {W : World} (h : laidMet Tryz.prog laid5 W) : Blanked W ∧ ∃ t fr, W.heap[1]? = some (.cells names12a t fr) := by
  obtain ⟨ps, hv, _⟩ := h
  constructor
  · obtain ⟨g, t, cs, fuel, p, h1, h2, h3, h4⟩ := laid_pick (n := "vizard/screen.Blank") (d := Rows.laid_vizard_screen_Blank) laid5 ps hv (by unfold laid5; simp)
    obtain rfl := Option.some.inj (gBlank.symm.trans h1)
    obtain rfl := Option.some.inj (gBlankType.symm.trans h2)
    have hc := blank_cells h4 rfl
    unfold World.var? at h3
    rw [gBlank] at h3
    simp only [Option.bind_some] at h3
    split at h3
    · rename_i cs' t fr hh
      refine ⟨t, fr, ?_⟩
      rw [hh]
      have := Option.some.inj h3
      have h4 : cs' = cellB Vz.Cl.blank := by
        apply Array.ext'
        rw [this, hc]
        rfl
      rw [h4]
    · cases h3
  · obtain ⟨g, t, cs, fuel, p, h1, h2, h3, h4⟩ := laid_pick (n := "vizard/attr.names") (d := Rows.laid_vizard_attr_names) laid5 ps hv (by unfold laid5; simp)
    obtain rfl := Option.some.inj (gNames.symm.trans h1)
    obtain rfl := Option.some.inj (gNamesType.symm.trans h2)
    have hc := names_cells h4
    unfold World.var? at h3
    rw [gNames] at h3
    simp only [Option.bind_some] at h3
    split at h3
    · rename_i cs' t fr hh
      refine ⟨t, fr, ?_⟩
      rw [hh]
      have := Option.some.inj h3
      have h4 : cs' = names12a := by
        apply Array.ext'
        rw [this, hc]
        rfl
      rw [h4]
    · cases h3
end Go.Proofs.YtliacdaddncmaaaGreatDoor
