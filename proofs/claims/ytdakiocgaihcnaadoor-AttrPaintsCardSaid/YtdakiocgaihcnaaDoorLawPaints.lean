/- The walk of AttrPaints. -/
import Derived.Test.YtdakiocgaihcnaaDoorAttrRef
namespace Go.Proofs.YtdakiocgaihcnaaDoor
open Go.RowKit

set_option maxRecDepth 100000 in
set_option maxHeartbeats 2000000 in
theorem law_paints (a f b : Int) (h1 : -9223372036854775808 ≤ a) (h2 : a < 9223372036854775808) (w : World) (t : TypeId) (fr : Nat × Nat) (hg : w.heap[0]? = some (.cells names12a t fr)) :
    Calls Tryd.prog 3 #[.int .i64 a, .int .i64 f, .int .i64 b] w fun e w' => e = .returned (.bool true) ∧ Below w.heap.size w w' := by
  have HW := Lib.hid (awake_any w t fr hg)
  have HC := Lib.hid (colours_any a h1 h2 w)
  have HR := Lib.hid (rcolours_any a h1 h2 w)
  have HM := Lib.hid (rmay_any a h1 h2 w)
  cases hm : Vz.mayI a with
  | false =>
    rw [hm] at HM
    have HP := Lib.hid (paint_may a f b h2 hm w)
    clear hm hg h1 h2
    go_enter Tryd.func3, Tryd.ntmps3
    go_wp2_with (first
      | (go_at_call 8; refine HP.out.mono ?_; rintro e w1 ⟨rfl, rfl⟩)
      | (go_at_call 9; refine HC.out.mono ?_; rintro e w1 ⟨rfl, rfl⟩)
      | (go_at_call 10; refine HR.out.mono ?_; rintro e w1 ⟨rfl, rfl⟩)
      | (go_at_call 11; refine HM.out.mono ?_; rintro e w1 ⟨rfl, rfl⟩)
      | (go_at_call 12; refine HW.out.mono ?_; rintro e w1 ⟨rfl, hB⟩))
    go_ret
    exact ⟨rfl, hB⟩
  | true =>
    rw [hm] at HM
    obtain ⟨ha, ha'⟩ := Vz.mayI_lt hm
    obtain ⟨n, rfl⟩ := Int.eq_ofNat_of_zero_le ha
    by_cases hr : -1 ≤ f ∧ f ≤ 7 ∧ -1 ≤ b ∧ b ≤ 7
    · obtain ⟨f1, f2, b1, b2⟩ := hr
      have HP := Lib.hid (paint_ok n f b hm f1 f2 b1 b2 w)
      have HQ := Lib.hid (rpaint_any n f b (by omega) f1 f2 b1 b2 w)
      clear hm hg h1 h2
      go_enter Tryd.func3, Tryd.ntmps3
      go_wp2_with (first
        | (go_at_call 8; refine HP.out.mono ?_; rintro e w1 ⟨rfl, rfl⟩)
        | (go_at_call 9; refine HC.out.mono ?_; rintro e w1 ⟨rfl, rfl⟩)
        | (go_at_call 10; refine HR.out.mono ?_; rintro e w1 ⟨rfl, rfl⟩)
        | (go_at_call 11; refine HM.out.mono ?_; rintro e w1 ⟨rfl, rfl⟩)
        | (go_at_call 13; refine HQ.out.mono ?_; rintro e w1 ⟨rfl, rfl⟩)
        | (go_at_call 12; refine HW.out.mono ?_; rintro e w1 ⟨rfl, hB⟩))
      go_ret
      exact ⟨rfl, hB⟩
    · have HP := Lib.hid (paint_range n f b hm hr w)
      clear hm hg h1 h2
      have hr' : f < -1 ∨ (-1 ≤ f ∧ 7 < f) ∨ (-1 ≤ f ∧ f ≤ 7 ∧ b < -1) ∨ (-1 ≤ f ∧ f ≤ 7 ∧ -1 ≤ b ∧ 7 < b) := by omega
      clear hr
      rcases hr' with f1 | ⟨f1, f2⟩ | ⟨f1, f2, b1⟩ | ⟨f1, f2, b1, b2⟩
      all_goals
        go_enter Tryd.func3, Tryd.ntmps3
        go_wp2_with (first
          | (go_at_call 8; refine HP.out.mono ?_; rintro e w1 ⟨rfl, rfl⟩)
          | (go_at_call 9; refine HC.out.mono ?_; rintro e w1 ⟨rfl, rfl⟩)
          | (go_at_call 10; refine HR.out.mono ?_; rintro e w1 ⟨rfl, rfl⟩)
          | (go_at_call 11; refine HM.out.mono ?_; rintro e w1 ⟨rfl, rfl⟩)
          | (go_at_call 12; refine HW.out.mono ?_; rintro e w1 ⟨rfl, hB⟩))
        go_ret
        exact ⟨rfl, hB⟩
end Go.Proofs.YtdakiocgaihcnaaDoor
