import Derived.Test.YtmgeghoalmonoaaGreatDoorTie
import Derived.ProofKit
import Derived.OpenShut

/- Arrays of two and of four ints as arguments: opened, and shut again. -/
namespace Go.Proofs.YtmgeghoalmonoaaGreatDoor
open Go.ChangeShapes Go.WideShapes Go.ChangeAt Go.RowKit
section
variable {H : Type} {enc : TypeId × Value → H} {P : Program} {w : World} {base : Nat} {spare : Nat → Bool} {held : Bool}
theorem open_four {r : Reach} {b0 : Nat} {t e : TypeId} {v : Value} {d : DataW H} {ps : List MemPlace} (ht : P.underlying t = some (.array 4 e)) (he : P.underlying e = some (.int .i64)) (ce : P.cellsOf e = 1) (ct : P.cellsOf t = 4)
 (hval : Value.okWide P w r b0 t v) (hd : DataW.Trod enc P w base spare held t v d ps) :
 ∃ l0 l1 l2 l3 : Int, v = .agg #[.int .i64 l0, .int .i64 l1, .int .i64 l2, .int .i64 l3] ∧ d = .agg [.lit (.int .i64 l0), .lit (.int .i64 l1), .lit (.int .i64 l2), .lit (.int .i64 l3)] ∧ ps = [] ∧
   (Lit.int .i64 l0).wf = true ∧ (Lit.int .i64 l1).wf = true ∧ (Lit.int .i64 l2).wf = true ∧ (Lit.int .i64 l3).wf = true := by
 unfold Value.okWide at hval
 rw [ht] at hval
 obtain ⟨cs, rfl, hsz, _⟩ := hval
 obtain ⟨fuel, hf⟩ := hd
 obtain ⟨xs, m, _, hx, hl, hxl, hi⟩ := DataW.trod_array ht hf
 rw [ce] at hi
 rw [ct] at hsz
 obtain ⟨cl⟩ := cs
 simp only [Value.cells, List.size_toArray] at hsz hi
 match cl, hsz with
 | [c0, c1, c2, c3], _ =>
   match xs, hxl with
   | [x0, x1, x2, x3], _ =>
     have i0 := hi 0 (by decide)
     have i1 := hi 1 (by decide)
     have i2 := hi 2 (by decide)
     have i3 := hi 3 (by decide)
     simp at i0 i1 i2 i3
     obtain ⟨n0, e0, f0, w0⟩ := DataW.trod_int he i0
     obtain ⟨n1, e1, f1, w1⟩ := DataW.trod_int he i1
     obtain ⟨n2, e2, f2, w2⟩ := DataW.trod_int he i2
     obtain ⟨n3, e3, f3, w3⟩ := DataW.trod_int he i3
     simp only [List.cons.injEq, and_true] at e0 e1 e2 e3
     subst e0 e1 e2 e3 f0 f1 f2 f3
     simp at hx
     exact ⟨n0, n1, n2, n3, rfl, hx.1, hx.2, w0, w1, w2, w3⟩
theorem shut_four {t e : TypeId} {l0 l1 l2 l3 : Int} (ht : P.underlying t = some (.array 4 e)) (he : P.underlying e = some (.int .i64)) (ce : P.cellsOf e = 1) (ct : P.cellsOf t = 4)
 (w0 : (Lit.int .i64 l0).wf = true) (w1 : (Lit.int .i64 l1).wf = true) (w2 : (Lit.int .i64 l2).wf = true) (w3 : (Lit.int .i64 l3).wf = true) :
 DataW.Trod enc P w base spare held t (.agg #[.int .i64 l0, .int .i64 l1, .int .i64 l2, .int .i64 l3]) (.agg [.lit (.int .i64 l0), .lit (.int .i64 l1), .lit (.int .i64 l2), .lit (.int .i64 l3)]) [] :=
 ⟨2, by simp [DataW.trod, Value.cells, ht, he, ce, ct, w0, w1, w2, w3, List.range, List.range.loop]⟩
theorem open_two {r : Reach} {b0 : Nat} {t e : TypeId} {v : Value} {d : DataW H} {ps : List MemPlace} (ht : P.underlying t = some (.array 2 e)) (he : P.underlying e = some (.int .i64)) (ce : P.cellsOf e = 1) (ct : P.cellsOf t = 2)
 (hval : Value.okWide P w r b0 t v) (hd : DataW.Trod enc P w base spare held t v d ps) :
 ∃ l0 l1 : Int, v = .agg #[.int .i64 l0, .int .i64 l1] ∧ d = .agg [.lit (.int .i64 l0), .lit (.int .i64 l1)] ∧ ps = [] ∧ (Lit.int .i64 l0).wf = true ∧ (Lit.int .i64 l1).wf = true := by
 unfold Value.okWide at hval
 rw [ht] at hval
 obtain ⟨cs, rfl, hsz, _⟩ := hval
 obtain ⟨fuel, hf⟩ := hd
 obtain ⟨xs, m, _, hx, hl, hxl, hi⟩ := DataW.trod_array ht hf
 rw [ce] at hi
 rw [ct] at hsz
 obtain ⟨cl⟩ := cs
 simp only [Value.cells, List.size_toArray] at hsz hi
 match cl, hsz with
 | [c0, c1], _ =>
   match xs, hxl with
   | [x0, x1], _ =>
     have i0 := hi 0 (by decide)
     have i1 := hi 1 (by decide)
     simp at i0 i1
     obtain ⟨n0, e0, f0, w0⟩ := DataW.trod_int he i0
     obtain ⟨n1, e1, f1, w1⟩ := DataW.trod_int he i1
     simp only [List.cons.injEq, and_true] at e0 e1
     subst e0 e1 f0 f1
     simp at hx
     exact ⟨n0, n1, rfl, hx.1, hx.2, w0, w1⟩
theorem shut_two {t e : TypeId} {l0 l1 : Int} (ht : P.underlying t = some (.array 2 e)) (he : P.underlying e = some (.int .i64)) (ce : P.cellsOf e = 1) (ct : P.cellsOf t = 2)
 (w0 : (Lit.int .i64 l0).wf = true) (w1 : (Lit.int .i64 l1).wf = true) :
 DataW.Trod enc P w base spare held t (.agg #[.int .i64 l0, .int .i64 l1]) (.agg [.lit (.int .i64 l0), .lit (.int .i64 l1)]) [] :=
 ⟨2, by simp [DataW.trod, Value.cells, ht, he, ce, ct, w0, w1, List.range, List.range.loop]⟩
end
end Go.Proofs.YtmgeghoalmonoaaGreatDoor
