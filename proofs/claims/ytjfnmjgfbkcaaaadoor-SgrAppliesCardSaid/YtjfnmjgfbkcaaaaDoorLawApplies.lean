/- Walk: SgrApplies of vizardlaw13. -/
import Derived.Test.YtjfnmjgfbkcaaaaDoorSgrRefD
import Derived.Test.YtjfnmjgfbkcaaaaDoorLawSgrBack
namespace Go.Proofs.YtjfnmjgfbkcaaaaDoor
open Go.RowKit

set_option maxRecDepth 100000 in
set_option maxHeartbeats 8000000 in
theorem law_applies (a : Int) (A : Option Addr) (m c : Nat) (zs : List Int) (w : World) (h : IsRow .i64 w A m c zs) :
    Calls Tryd.prog 3 #[.int .i64 a, .slice A m c] w fun e w' => e = .returned (.bool true) ∧ Below w.heap.size w w' := by
  have HW := Lib.hid awake_any
  by_cases h100 : 100 < m
  · clear h
    go_enter Tryd.func3, Tryd.ntmps3
    go_wp2_with fail
    refine (HW.out _).mono ?_
    rintro e w4 ⟨rfl, hb4⟩
    go_wp2_with fail
    go_ret
    exact ⟨rfl, hb4⟩
  have HI := Lib.hid h.ints
  clear h
  generalize zs.take m = L at HI
  have HA := Lib.hid apply_any
  have HRA := Lib.hid rapply_any
  have HOF := Lib.hid (rof_any a)
  generalize lkOf (startN a) = k at HOF
  obtain ⟨b0, b1, b2, b3, b4, b5, b6, f, g⟩ := k
  unfold Lk.v at HOF
  simp only at HOF
  have HM := Lib.hid (smay_any a)
  cases hm : Vz.mayI a with
  | false =>
    rw [hm] at HOF HM
    rw [if_neg (by decide)] at HM
    clear hm
    go_enter Tryd.func3, Tryd.ntmps3
    go_wp2_with fail
    refine (HOF.out _).mono ?_
    rintro e w1 ⟨rfl, hb1⟩
    have hb1' := hb1.alloc hb1.size (.cells #[.bool b0, .bool b1, .bool b2, .bool b3, .bool b4, .bool b5, .bool b6, .int .i64 f, .int .i64 g] 25)
    go_wp2_with fail
    refine (HM.out _).mono ?_
    rintro e w2 ⟨rfl, rfl⟩
    go_wp2_with fail
    refine (HM.out _).mono ?_
    rintro e w2 ⟨rfl, rfl⟩
    go_wp2_with fail
    refine (HA.out w.heap.size a A m c L (by omega) _ (HI.out.below hb1' (Nat.le_refl _)) hb1'.size).mono ?_
    rintro e w2 ⟨rfl, hb2⟩
    have hb02 := below_join hb1' hb2
    go_wp2_with fail
    refine (HRA.out w.heap.size a A m c L (by omega) _ (HI.out.below hb02 (Nat.le_refl _)) hb02.size).mono ?_
    rintro e w3 ⟨rfl, hb3⟩
    go_wp2_with fail
    refine (HW.out _).mono ?_
    rintro e w4 ⟨rfl, hb4⟩
    go_wp2_with fail
    go_ret
    exact ⟨rfl, below_join (below_join hb02 hb3) hb4⟩
  | true =>
    rw [hm] at HOF HM
    rw [if_pos rfl] at HM
    clear hm
    go_enter Tryd.func3, Tryd.ntmps3
    go_wp2_with fail
    refine (HOF.out _).mono ?_
    rintro e w1 ⟨rfl, hb1⟩
    have hb1' := hb1.alloc hb1.size (.cells #[.bool b0, .bool b1, .bool b2, .bool b3, .bool b4, .bool b5, .bool b6, .int .i64 f, .int .i64 g] 25)
    go_wp2_with fail
    refine (HM.out _).mono ?_
    rintro e w2 ⟨rfl, rfl⟩
    go_wp2_with fail
    refine (HA.out w.heap.size a A m c L (by omega) _ (HI.out.below hb1' (Nat.le_refl _)) hb1'.size).mono ?_
    rintro e w2 ⟨rfl, hb2⟩
    have hb02 := below_join hb1' hb2
    go_wp2_with fail
    refine (HRA.out w.heap.size a A m c L (by omega) _ (HI.out.below hb02 (Nat.le_refl _)) hb02.size).mono ?_
    rintro e w3 ⟨rfl, hb3⟩
    go_wp2_with fail
    refine (HW.out _).mono ?_
    rintro e w4 ⟨rfl, hb4⟩
    go_wp2_with fail
    go_ret
    exact ⟨rfl, below_join (below_join hb02 hb3) hb4⟩
end Go.Proofs.YtjfnmjgfbkcaaaaDoor
