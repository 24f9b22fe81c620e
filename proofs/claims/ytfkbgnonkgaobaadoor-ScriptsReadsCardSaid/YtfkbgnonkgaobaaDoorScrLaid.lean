/- What the rows of the scripts' laws list: the table of powers; the model's layout is sound. -/
import Derived.Test.YtfkbgnonkgaobaaDoorLawPrints
import Derived.Test.YtfkbgnonkgaobaaDoorRows
import Derived.Lib.LaidTab
namespace Go.Proofs.YtfkbgnonkgaobaaDoor
open Go.RowKit
set_option linter.unusedSimpArgs false
set_option linter.unusedVariables false

theorem laidOut : laidOutB Tryd.prog = true := by kernel_rfl
theorem tPow : (Tryd.prog.globals[5]?).map (·.type) = some 126 := by kernel_rfl
theorem tab_laid {x y : String × DataW Unit} {zs : List (String × DataW Unit)} {W : World} (h : laidMet Tryd.prog (x :: y :: ("internal/strconv.uint64pow10", Rows.laid_internal_strconv_uint64pow10) :: zs) W) : PowTab W := by
  obtain ⟨ps0, ⟨_, _, _, _, _, _, _, _, _, _, ⟨_, _, _, _, _, _, _, _, _, _, ⟨g', t', cs, fuel, p, q, hg', ht', hvar, hd, _, _⟩, _⟩, _⟩, _⟩ := h
  obtain rfl := Option.some.inj (tPow.symm.trans (by rw [← Option.some.inj (gPow.symm.trans hg')] at ht'; exact ht'))
  unfold PowTab Lib.TabIs
  rw [hvar, ← Lib.cells_of_tab (k := .u64) (zs := Lib.pow10Tab) Tryd.underlying126 Tryd.underlying108 (by kernel_rfl) (by kernel_rfl) hd]
end Go.Proofs.YtfkbgnonkgaobaaDoor
