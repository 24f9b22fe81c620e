/- Walk: SgrTwice of vizardlaw13. -/
import Derived.Test.YtjfnmjgfbkcaaaaDoorSgrLaws
import Derived.Test.YtjfnmjgfbkcaaaaDoorSgrAwake
namespace Go.Proofs.YtjfnmjgfbkcaaaaDoor
open Go.RowKit

theorem apply_one (a x : Int) : applyN a [x] = Vz.oneN (startN a) x := rfl
theorem apply_two (a x : Int) : applyN a [x, x] = applyN a [x] := one_twice _ x (startN_may a)
theorem start_of_may {a : Int} (h : Vz.mayI a = true) : ((startN a : Nat) : Int) = a := by
  obtain ⟨n, rfl⟩ := Int.eq_ofNat_of_zero_le (Vz.mayI_ge h)
  rw [startN_of n ((Vz.mayP_iff n).1 h)]
/-- sgr.May, of any attributes. -/
theorem smay_any (a : Int) (w : World) :
    Calls Tryd.prog 12 #[.int .i64 a] w fun e w' => e = .returned (.int .i64 (if Vz.mayI a = true then 0 else 1)) ∧ w = w' := by
  cases hm : Vz.mayI a with
  | false => rw [if_neg (by decide)]; exact smay_no a hm w
  | true =>
    obtain ⟨n, rfl⟩ := Int.eq_ofNat_of_zero_le (Vz.mayI_ge hm)
    rw [if_pos rfl]; exact smay_yes n ((Vz.mayP_iff n).1 hm) w
theorem ints_one (w : World) (x : Int) : Ints (w.alloc (.cells #[.int .i64 x] 3)).heap.size (w.alloc (.cells #[.int .i64 x] 3)) (some ⟨w.heap.size, 0, none⟩) 1 [x] := by
  have := Ints.new w 3 [x] #[.int .i64 x] rfl
  rwa [← World.size_alloc w (.cells #[.int .i64 x] 3)] at this
theorem ints_two (w : World) (x y : Int) : Ints (w.alloc (.cells #[.int .i64 x, .int .i64 y] 3)).heap.size (w.alloc (.cells #[.int .i64 x, .int .i64 y] 3)) (some ⟨w.heap.size, 0, none⟩) 2 [x, y] := by
  have := Ints.new w 3 [x, y] #[.int .i64 x, .int .i64 y] rfl
  rwa [← World.size_alloc w (.cells #[.int .i64 x, .int .i64 y] 3)] at this
theorem below_lit {B : Nat} {a w : World} (h : Below B a w) (hB : B ≤ w.heap.size) (o : Obj) : Below B a (w.alloc o) := h.alloc hB o

set_option maxRecDepth 100000 in
set_option maxHeartbeats 8000000 in
theorem law_twice (a x : Int) (w : World) :
    Calls Tryd.prog 6 #[.int .i64 a, .int .i64 x] w fun e w' => e = .returned (.bool true) ∧ Below w.heap.size w w' := by
  have HA := Lib.hid apply_of_own
  have H1 := Lib.hid ints_one
  have H2 := Lib.hid ints_two
  have HM := Lib.hid smay_any
  have HW := Lib.hid awake_any
  have E2 := Lib.hid (apply_two a x)
  by_cases hx : x < 0 ∨ 49 < x ∨ x = 3 ∨ x = 6 ∨ (9 ≤ x ∧ x ≤ 21)
  · have e3 : Vz.mayI a = true → ((applyN a [x] : Nat) : Int) = a := fun h => by rw [apply_one, one_none _ _ hx]; exact start_of_may h
    cases hm : Vz.mayI a with
    | true =>
      have E3 := Lib.hid (e3 hm)
      have hm0 : (if Vz.mayI a = true then (0 : Int) else 1) = 0 := by rw [if_pos hm]
      have HM0 := Lib.hid hm0
      clear e3 hm hm0
      rcases hx with h | h | rfl | rfl | ⟨h, h'⟩
      all_goals
        go_enter Tryd.func6, Tryd.ntmps6
        go_wp2_with fail
        refine (HA.out a _ 1 1 _ (by decide) _ (H1.out _ _)).mono ?_
        rintro e w1 ⟨rfl, hb1⟩
        have hb01 := ((Below.refl w.heap.size w).alloc (Nat.le_refl _) _).trans (hb1.mono (by simp))
        go_wp2_with fail
        refine (HA.out a _ 2 2 _ (by decide) _ (H2.out _ _ _)).mono ?_
        rintro e w2 ⟨rfl, hb2⟩
        rw [E2.out, E3.out]
        have hb02 := (hb01.alloc hb01.size _).trans (hb2.mono (by have := hb01.size; simp; omega))
        go_wp2_with fail
        refine (HM.out a _).mono ?_
        rintro e w3 ⟨rfl, rfl⟩
        rw [HM0.out]
        go_wp2_with fail
        refine (HW.out _).mono ?_
        rintro e w4 ⟨rfl, hb4⟩
        go_wp2_with fail
        go_ret
        exact ⟨rfl, hb02.trans (hb4.mono hb02.size)⟩
    | false =>
      have hm0 : (if Vz.mayI a = true then (0 : Int) else 1) = 1 := by rw [if_neg (by rw [hm]; decide)]
      have HM0 := Lib.hid hm0
      clear e3 hm hm0
      rcases hx with h | h | rfl | rfl | ⟨h, h'⟩
      all_goals
        go_enter Tryd.func6, Tryd.ntmps6
        go_wp2_with fail
        refine (HA.out a _ 1 1 _ (by decide) _ (H1.out _ _)).mono ?_
        rintro e w1 ⟨rfl, hb1⟩
        have hb01 := ((Below.refl w.heap.size w).alloc (Nat.le_refl _) _).trans (hb1.mono (by simp))
        go_wp2_with fail
        refine (HA.out a _ 2 2 _ (by decide) _ (H2.out _ _ _)).mono ?_
        rintro e w2 ⟨rfl, hb2⟩
        rw [E2.out]
        have hb02 := (hb01.alloc hb01.size _).trans (hb2.mono (by have := hb01.size; simp; omega))
        go_wp2_with fail
        refine (HM.out a _).mono ?_
        rintro e w3 ⟨rfl, rfl⟩
        rw [HM0.out]
        go_wp2_with fail
        refine (HW.out _).mono ?_
        rintro e w4 ⟨rfl, hb4⟩
        go_wp2_with fail
        go_ret
        exact ⟨rfl, hb02.trans (hb4.mono hb02.size)⟩
  · have f1 : 0 ≤ x := by omega
    have f2 : x ≤ 49 := by omega
    have f3 : (x == 3) = false := by rw [beq_eq_false_iff_ne]; omega
    have f6 : (x == 6) = false := by rw [beq_eq_false_iff_ne]; omega
    rcases (by omega : x < 9 ∨ 21 < x) with h | h
    all_goals
      clear hx
      go_enter Tryd.func6, Tryd.ntmps6
      go_wp2_with fail
      refine (HA.out a _ 1 1 _ (by decide) _ (H1.out _ _)).mono ?_
      rintro e w1 ⟨rfl, hb1⟩
      have hb01 := ((Below.refl w.heap.size w).alloc (Nat.le_refl _) _).trans (hb1.mono (by simp))
      go_wp2_with fail
      refine (HA.out a _ 2 2 _ (by decide) _ (H2.out _ _ _)).mono ?_
      rintro e w2 ⟨rfl, hb2⟩
      rw [E2.out]
      have hb02 := (hb01.alloc hb01.size _).trans (hb2.mono (by have := hb01.size; simp; omega))
      go_wp2_with fail
      refine (HW.out _).mono ?_
      rintro e w4 ⟨rfl, hb4⟩
      go_wp2_with fail
      go_ret
      exact ⟨rfl, hb02.trans (hb4.mono hb02.size)⟩
end Go.Proofs.YtjfnmjgfbkcaaaaDoor
