/- Walk: SgrReverse of vizardlaw13. -/
import Derived.Test.YtjfnmjgfbkcaaaaDoorSgrResB
namespace Go.Proofs.YtjfnmjgfbkcaaaaDoor
open Go.RowKit

set_option maxRecDepth 100000 in
set_option maxHeartbeats 8000000 in
theorem law_reverse (a : Int) (w : World) :
    Calls Tryd.prog 8 #[.int .i64 a] w fun e w' => e = .returned (.bool true) ∧ Below w.heap.size w w' := by
  have HW := Lib.hid awake_any
  have HM := Lib.hid (smay_any a)
  cases hm : Vz.mayI a with
  | false =>
    have e0 : startN a = 0 := by unfold startN; rw [hm]; rfl
    have e1 : startN 0 = 0 := by decide
    obtain ⟨f, g, b0, b1, b2, b3, b4, hv, -⟩ := res_xor 0 Vz.mayP_zero
    have H1 := Lib.hid (resolve_any a)
    have H2 := Lib.hid (resolve_any 0)
    rw [e0, hv] at H1
    rw [e1, hv] at H2
    rw [hm, if_neg (by decide)] at HM
    clear hm e0 e1 hv
    go_enter Tryd.func8, Tryd.ntmps8
    go_wp2_with fail
    refine (HM.out _).mono ?_
    rintro e w1 ⟨rfl, rfl⟩
    go_wp2_with fail
    refine (H1.out _).mono ?_
    rintro e w2 ⟨rfl, hb2⟩
    go_wp2_with fail
    refine (H2.out _).mono ?_
    rintro e w3 ⟨rfl, hb3⟩
    go_wp2_with fail
    refine (HW.out _).mono ?_
    rintro e w4 ⟨rfl, hb4⟩
    go_wp2_with fail
    go_ret
    exact ⟨rfl, below_join (below_join hb2 hb3) hb4⟩
  | true =>
    obtain ⟨n, rfl⟩ := Int.eq_ofNat_of_zero_le (Vz.mayI_ge hm)
    have hp := (Vz.mayP_iff n).1 hm
    obtain ⟨f, g, b0, b1, b2, b3, b4, hv, hv'⟩ := res_xor n hp
    have H1 := Lib.hid (resolve_any n)
    have H2 := Lib.hid (resolve_any ((n ^^^ 16 : Nat) : Int))
    rw [startN_of n hp, hv] at H1
    rw [startN_of _ (may_xor n hp), hv'] at H2
    have hx : bits .xor .i64 (n : Int) 16 = ((n ^^^ 16 : Nat) : Int) := Vz.xor64 n 16 (by have := hp.1; omega) (by decide)
    generalize ((n ^^^ 16 : Nat) : Int) = r at H2 hx
    rw [hm, if_pos rfl] at HM
    clear hm hv hv' hp
    go_enter Tryd.func8, Tryd.ntmps8
    go_wp2_with fail
    refine (HM.out _).mono ?_
    rintro e w1 ⟨rfl, rfl⟩
    go_wp2_with fail
    refine (H1.out _).mono ?_
    rintro e w2 ⟨rfl, hb2⟩
    have hb2' := hb2.alloc hb2.size (.cells #[.int .i64 f, .int .i64 g, .bool b0, .bool b1, .bool b2, .bool b3, .bool b4] 43)
    go_wp2_with fail
    refine (H2.out _).mono ?_
    rintro e w3 ⟨rfl, hb3⟩
    have hrow := (hb3.block w2.heap.size (by simp)).trans (row_new w2 (.cells #[.int .i64 f, .int .i64 g, .bool b0, .bool b1, .bool b2, .bool b3, .bool b4] 43))
    have hlt := (Array.getElem?_eq_some_iff.1 hrow).1
    have c0 : w3.cell? ⟨w2.heap.size, 0, none⟩ = some (.int .i64 f) := by rw [cell_of_row _ _ _ _ _ _ hrow]; rfl
    have c1 : w3.cell? ⟨w2.heap.size, 1, none⟩ = some (.int .i64 g) := by rw [cell_of_row _ _ _ _ _ _ hrow]; rfl
    have c2 : w3.cell? ⟨w2.heap.size, 2, none⟩ = some (.bool b0) := by rw [cell_of_row _ _ _ _ _ _ hrow]; rfl
    have c3 : w3.cell? ⟨w2.heap.size, 3, none⟩ = some (.bool b1) := by rw [cell_of_row _ _ _ _ _ _ hrow]; rfl
    have c4 : w3.cell? ⟨w2.heap.size, 4, none⟩ = some (.bool b2) := by rw [cell_of_row _ _ _ _ _ _ hrow]; rfl
    have c5 : w3.cell? ⟨w2.heap.size, 5, none⟩ = some (.bool b3) := by rw [cell_of_row _ _ _ _ _ _ hrow]; rfl
    have c6 : w3.cell? ⟨w2.heap.size, 6, none⟩ = some (.bool b4) := by rw [cell_of_row _ _ _ _ _ _ hrow]; rfl
    have hb03 := below_join hb2' hb3
    clear hrow
    go_wp2_with fail
    refine (HW.out _).mono ?_
    rintro e w4 ⟨rfl, hb4⟩
    go_wp2_with fail
    go_ret
    exact ⟨rfl, below_join (hb03.alloc hb03.size _) hb4⟩
end Go.Proofs.YtjfnmjgfbkcaaaaDoor
