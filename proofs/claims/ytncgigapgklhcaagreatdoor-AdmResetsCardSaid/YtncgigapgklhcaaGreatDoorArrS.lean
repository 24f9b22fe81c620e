import Derived.Test.YtncgigapgklhcaaGreatDoorTie
import Derived.ProofKit
import Derived.OpenShut
import Derived.ChangeArms

/- Arrays of two texts as arguments: opened, and shut again. -/
namespace Go.Proofs.YtncgigapgklhcaaGreatDoor
open Go.ChangeShapes Go.WideShapes Go.ChangeAt Go.RowKit
section
variable {H : Type} {enc : TypeId × Value → H} {P : Program} {w : World} {base : Nat} {spare : Nat → Bool} {held : Bool}
theorem open_twos {r : Reach} {b0 : Nat} {t e : TypeId} {v : Value} {d : DataW H} {ps : List MemPlace} (ht : P.underlying t = some (.array 2 e)) (he : P.underlying e = some .string) (ce : P.cellsOf e = 1) (ct : P.cellsOf t = 2)
 (hval : Value.okWide P w r b0 t v) (hd : DataW.Trod enc P w base spare held t v d ps) :
 ∃ l0 l1 : ByteArray, v = .agg #[.string l0, .string l1] ∧ d = .agg [.lit (.string l0.data.toList), .lit (.string l1.data.toList)] ∧ ps = [] ∧ l0.size ≤ maxLen ∧ l1.size ≤ maxLen := by
 unfold Value.okWide at hval
 rw [ht] at hval
 obtain ⟨cs, rfl, hsz, _⟩ := hval
 obtain ⟨fuel, hf⟩ := hd
 obtain ⟨xs, m, _, hx, hl, hxl, hi⟩ := DataW.trod_array ht hf
 rw [ce] at hi
 rw [ct] at hsz
 obtain ⟨cl⟩ := cs
 simp only [Value.cells, List.size_toArray] at hsz hi
 match cl, hsz with
 | [c0, c1], _ =>
   match xs, hxl with
   | [x0, x1], _ =>
     have i0 := hi 0 (by decide)
     have i1 := hi 1 (by decide)
     simp at i0 i1
     obtain ⟨n0, e0, f0, w0⟩ := DataW.trod_string he i0
     obtain ⟨n1, e1, f1, w1⟩ := DataW.trod_string he i1
     simp only [List.cons.injEq, and_true] at e0 e1
     subst e0 e1 f0 f1
     simp at hx
     exact ⟨n0, n1, rfl, hx.1, hx.2, w0, w1⟩
theorem shut_twos {t e : TypeId} {l0 l1 : ByteArray} (ht : P.underlying t = some (.array 2 e)) (he : P.underlying e = some .string) (ce : P.cellsOf e = 1) (ct : P.cellsOf t = 2)
 (w0 : l0.size ≤ maxLen) (w1 : l1.size ≤ maxLen) :
 DataW.Trod enc P w base spare held t (.agg #[.string l0, .string l1]) (.agg [.lit (.string l0.data.toList), .lit (.string l1.data.toList)]) [] :=
 ⟨2, by simp [DataW.trod, Value.cells, ht, he, ce, ct, w0, w1, List.range, List.range.loop]⟩
end
end Go.Proofs.YtncgigapgklhcaaGreatDoor
