import Derived.Test.YtliacdaddncmaaaGreatDoorSnPrA
import Derived.Test.YtliacdaddncmaaaGreatDoorLI
import Derived.Test.YtliacdaddncmaaaGreatDoorLH

/- Plain: cells that may be stay such; the chapter's example as a text. -/
namespace Go.Proofs.YtliacdaddncmaaaGreatDoor
open Go.RowKit
set_option linter.unusedSimpArgs false
set_option linter.unusedVariables false

def AllC (D : Vz.Gd) : Prop := ∀ i j, CellOk (D.X i j)
theorem AllC.set {D : Vz.Gd} (h : AllC D) (r c : Nat) {x : Vz.Cl} (hx : CellOk x) : AllC (D.set r c x) := fun i j => by
  show CellOk (if i = r ∧ j = c then x else D.X i j)
  split
  · exact hx
  · exact h i j
theorem AllC.roll {D : Vz.Gd} (h : AllC D) (top bot : Nat) (n : Int) {x : Vz.Cl} (hx : CellOk x) : AllC (D.roll top bot n x) := fun i j => by
  show CellOk (match Vz.rollAt top bot n i with | none => x | some k => D.X k j)
  split
  · exact hx
  · exact h _ j
theorem AllC.rise {D : Vz.Gd} (h : AllC D) (n : Bool) {x : Vz.Cl} (hx : CellOk x) : AllC (riseD D n x) := by
  unfold riseD
  first
    | exact h.roll _ _ _ hx
    | (split <;> first | exact h | exact h.roll _ _ _ hx)
theorem blank_ok : CellOk Vz.Cl.blank := by
  unfold CellOk Vz.Cl.blank
  decide
theorem AllC.put {D : Vz.Gd} (h : AllC D) (pl : Vz.Pl) {c : Vz.Cl} (hc : CellOk c) (wrap : Int) : AllC (putD D pl c wrap Vz.Cl.blank).1 :=
  ((h.rise _ blank_ok).set _ _ hc).rise _ blank_ok
theorem AllC.new (R C : Nat) : AllC (Vz.Gd.new R C Vz.Cl.blank) := fun _ _ => blank_ok
/-- The example's screen. -/
def awS : Vz.Sr := putS (putS (newS 1 3) ⟨97, 0, false, 0⟩ 1) ⟨98, 0, false, 0⟩ 1
theorem AllC.putS {S : Vz.Sr} (h : AllC S.D) {c : Vz.Cl} (hc : CellOk c) (wrap : Int) : AllC (putS S c wrap).D := h.put S.pl hc wrap
theorem ok97 : CellOk ⟨97, 0, false, 0⟩ := by unfold CellOk; decide
theorem ok98 : CellOk ⟨98, 0, false, 0⟩ := by unfold CellOk; decide
theorem awS_ok : AllC awS.D := AllC.putS (AllC.putS (S := newS 1 3) (AllC.new 1 3) ok97 1) ok98 1
theorem awS_print : printL ⟨1, awS⟩ = [118, 116, 53, 50, 32, 49, 120, 51, 32, 48, 44, 50, 10, 124, 97, 98, 32, 124, 10] := by decide +kernel
end Go.Proofs.YtliacdaddncmaaaGreatDoor
