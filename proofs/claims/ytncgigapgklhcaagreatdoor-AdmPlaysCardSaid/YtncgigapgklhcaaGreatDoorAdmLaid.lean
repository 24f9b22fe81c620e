import Derived.Test.YtncgigapgklhcaaGreatDoorHF
import Derived.Test.YtncgigapgklhcaaGreatDoorRows
import Derived.Deep.Slices
import Derived.ChangeArms
import Derived.Lib.LaidTab
import Derived.ProofKit
import Derived.OpenShut
import Derived.Carry

/- What the rows of the administrator's laws list: the blank cell; the model's layout is sound. -/
namespace Go.Proofs.YtncgigapgklhcaaGreatDoor
open Go.RowKit Go.Deep Go.ChangeShapes Go.WideShapes Go.ChangeAt
set_option linter.unusedSimpArgs false
set_option linter.unusedVariables false

theorem cells_i64 : Tryz.prog.cellsOf 3 = 1 := by kernel_rfl
theorem cells_i32 : Tryz.prog.cellsOf 21 = 1 := by kernel_rfl
theorem cells_bool : Tryz.prog.cellsOf 4 = 1 := by kernel_rfl
theorem cells_cl : Tryz.prog.cellsOf 56 = 4 := by kernel_rfl
theorem list_cl {α : Type} {l : List α} (h : l.length = 4) : ∃ a0 a1 a2 a3, l = [a0, a1, a2, a3] := by
 match l, h with
 | [a0, a1, a2, a3], _ => exact ⟨_, _, _, _, rfl⟩
theorem cells_sz : Tryz.prog.cellsOf 23 = 2 := by kernel_rfl
section
variable {H : Type} {enc : TypeId × Value → H} {w : World} {base : Nat} {spare : Nat → Bool} {held : Bool}
theorem list_ps {α : Type} {l : List α} (h : l.length = 2) : ∃ a0 a1, l = [a0, a1] := by
 match l, h with
 | [a0, a1], _ => exact ⟨_, _, rfl⟩
theorem open_sz {fuel : Nat} {cs : List Value} {x : DataW H × List MemPlace} (h : DataW.trod enc Tryz.prog w base spare held fuel 23 cs = some x) :
 ∃ s : Vz.Ps, cs = [.int .i64 s.row, .int .i64 s.col] := by
 obtain ⟨xs, n, -, -, hl, hxl, hf⟩ := DataW.trod_struct Tryz.underlying23 h
 rw [cells_sz] at hl
 obtain ⟨a0, a1, rfl⟩ := list_ps hl
 have get : ∀ (i : Nat) (hi : i < 2), ∃ y, xs[i]? = some y := fun i hi => ⟨_, List.getElem?_eq_getElem (by rw [hxl]; exact hi)⟩
 obtain ⟨y0, e0⟩ := get 0 (by decide)
 have h0 : DataW.trod enc Tryz.prog w base spare held n 3 (([a0, a1].drop 0).take (Tryz.prog.cellsOf 3)) = some y0 := (hf 0 _ rfl).trans e0
 rw [cells_i64] at h0
 simp only [List.drop, List.take] at h0
 obtain ⟨s0, g0, -, -⟩ := DataW.trod_int Tryz.underlying3 h0
 obtain ⟨y1, e1⟩ := get 1 (by decide)
 have h1 : DataW.trod enc Tryz.prog w base spare held n 3 (([a0, a1].drop 1).take (Tryz.prog.cellsOf 3)) = some y1 := (hf 1 _ rfl).trans e1
 rw [cells_i64] at h1
 simp only [List.drop, List.take] at h1
 obtain ⟨s1, g1, -, -⟩ := DataW.trod_int Tryz.underlying3 h1
 simp only [List.cons.injEq, and_true] at g0 g1
 exact ⟨⟨s0, s1⟩, by simp [*]⟩
end
theorem laidOut : laidOutB Tryz.prog = true := by kernel_rfl
theorem gBlank : Tryz.prog.globalNamed "vizard/screen.Blank" = some 0 := by kernel_rfl
theorem gBlankType : (Tryz.prog.globals[0]?).map (·.type) = some 56 := by kernel_rfl
theorem blank_cells {H : Type} {enc : TypeId × Value → H} {w : World} {base : Nat} {sp : Nat → Bool} {held : Bool} {fuel : Nat} {cs : List Value} {y : DataW H × List MemPlace} (h : DataW.trod enc Tryz.prog w base sp held fuel 56 cs = some y)
 (hy : y.1 = .agg [.lit (.int .i32 32), .lit (.int .i64 0), .lit (.bool false), .lit (.int .i64 0)]) : cs = [.int .i32 32, .int .i64 0, .bool false, .int .i64 0] := by
 obtain ⟨xs, n, -, hx, hl, hxl, hf⟩ := DataW.trod_struct Tryz.underlying56 h
 rw [cells_cl] at hl
 obtain ⟨a0, a1, a2, a3, rfl⟩ := list_cl hl
 match xs, hxl with
 | [x0, x1, x2, x3], _ =>
   have e := congrArg Prod.fst hx
   rw [hy] at e
   simp only [List.map_cons, List.map_nil, DataW.agg.injEq, List.cons.injEq, and_true] at e
   obtain ⟨e0, e1, e2, e3⟩ := e
   have h0 : DataW.trod enc Tryz.prog w base sp held n 21 (([a0, a1, a2, a3].drop 0).take (Tryz.prog.cellsOf 21)) = some x0 := hf 0 _ rfl
   have h1 : DataW.trod enc Tryz.prog w base sp held n 3 (([a0, a1, a2, a3].drop 1).take (Tryz.prog.cellsOf 3)) = some x1 := hf 1 _ rfl
   have h2 : DataW.trod enc Tryz.prog w base sp held n 4 (([a0, a1, a2, a3].drop 2).take (Tryz.prog.cellsOf 4)) = some x2 := hf 2 _ rfl
   have h3 : DataW.trod enc Tryz.prog w base sp held n 3 (([a0, a1, a2, a3].drop 3).take (Tryz.prog.cellsOf 3)) = some x3 := hf 3 _ rfl
   rw [cells_i32] at h0
   rw [cells_i64] at h1 h3
   rw [cells_bool] at h2
   simp only [List.drop, List.take] at h0 h1 h2 h3
   obtain ⟨b0, g0, k0, -⟩ := DataW.trod_int Tryz.underlying21 h0
   obtain ⟨b1, g1, k1, -⟩ := DataW.trod_int Tryz.underlying3 h1
   obtain ⟨b2, g2, k2⟩ := DataW.trod_bool Tryz.underlying4 h2
   obtain ⟨b3, g3, k3, -⟩ := DataW.trod_int Tryz.underlying3 h3
   rw [k0] at e0
   rw [k1] at e1
   rw [k2] at e2
   rw [k3] at e3
   simp at e0 e1 e2 e3 g0 g1 g2 g3
   subst g0 g1 g2 g3
   rw [← e0, ← e1, ← e2, ← e3]
/-- The variable, out of the list's condition, where it stands first. -/
theorem blank_laid {rest : List (String × DataW Unit)} {W : World} (h : laidMet Tryz.prog (("vizard/screen.Blank", Rows.laid_vizard_screen_Blank) :: rest) W) : Blanked W := by
 obtain ⟨ps, ⟨g', t', cs, fuel, p, q, hg', ht', hvar, hd, _, _⟩, _⟩ := h
 obtain rfl := Option.some.inj (gBlank.symm.trans hg')
 obtain rfl := Option.some.inj (gBlankType.symm.trans ht')
 have hc := blank_cells hd rfl
 unfold World.var? at hvar
 rw [gBlank] at hvar
 simp only [Option.bind_some] at hvar
 split at hvar
 · rename_i cs' t fr hh
   refine ⟨t, fr, ?_⟩
   rw [hh]
   have := Option.some.inj hvar
   have h4 : cs' = cellB Vz.Cl.blank := by
    apply Array.ext'
    rw [this, hc]
    rfl
   rw [h4]
 · cases hvar
end Go.Proofs.YtncgigapgklhcaaGreatDoor
