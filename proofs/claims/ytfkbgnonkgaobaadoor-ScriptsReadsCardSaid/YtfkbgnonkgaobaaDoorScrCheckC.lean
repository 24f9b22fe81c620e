/- Right and Check, whole. -/
import Derived.Test.YtfkbgnonkgaobaaDoorScrCheckB
import Derived.Test.YtfkbgnonkgaobaaDoorScrRightB
import Derived.Test.YtfkbgnonkgaobaaDoorScrRightC
import Derived.Test.YtfkbgnonkgaobaaDoorScrRightD
import Derived.Test.YtfkbgnonkgaobaaDoorScrRightE
namespace Go.Proofs.YtfkbgnonkgaobaaDoor
open Go.RowKit
set_option linter.unusedSimpArgs false
set_option linter.unusedVariables false

set_option maxHeartbeats 1000000 in
theorem right_none (d : Int) (T : ByteArray) (k c : Int) (s l : Bool) (r o z : Int) (h1 : (d == 1) = false) (h2 : (d == 2) = false) (h3 : (d == 3) = false) (h4 : (d == 4) = false) (h5 : (d == 5) = false) (h6 : (d == 6) = false) (w : World) : Calls Tryd.prog 9 #[.agg #[.int .i64 d, .string T, .int .i64 k, .int .i64 c, .bool s, .bool l, .int .i64 r, .int .i64 o, .int .i64 z]] w fun e w' => e = .returned (.bool false) ∧ Below w.heap.size w w' := by
  go_enter Tryd.func9, Tryd.ntmps9
  go_wp2
  all_goals
    go_ret
    exact ⟨rfl, (Below.refl _ _).alloc (Nat.le_refl _) _⟩

theorem toList_mk (t : List UInt8) : (⟨t.toArray⟩ : ByteArray).toList = t := by
  rw [ByteArray.toList_eq]
theorem right_any (x : Vz.Stp) (w : World) : Calls Tryd.prog 9 #[stpV x] w fun e w' => e = .returned (.bool x.right) ∧ Below w.heap.size w w' := by
  obtain ⟨d, t, k, c, s, l, r, o, z⟩ := x
  have he : (⟨t.toArray⟩ : ByteArray).toList.isEmpty = t.isEmpty := by rw [toList_mk]
  unfold Vz.Stp.right Vz.Stp.noText Vz.Stp.noKey Vz.Stp.noSize
  simp only
  by_cases h1 : d = 1
  · subst h1
    rw [if_pos rfl]
    exact right_1 _ k c s l r o z w
  by_cases h2 : d = 2
  · subst h2
    rw [if_neg h1, if_pos rfl, ← he]
    exact right_2 _ k c s l r o z w
  by_cases h3 : d = 3 ∨ d = 4
  · rw [if_neg h1, if_neg h2, if_pos h3, ← he]
    exact right_34 d _ k c s l r o z h3 w
  by_cases h5 : d = 5
  · subst h5
    rw [if_neg h1, if_neg h2, if_neg h3, if_pos rfl, ← he]
    exact right_5 _ k c s l r o z w
  by_cases h6 : d = 6
  · subst h6
    rw [if_neg h1, if_neg h2, if_neg h3, if_neg h5, if_pos rfl, ← he]
    exact right_6 _ k c s l r o z w
  · rw [if_neg h1, if_neg h2, if_neg h3, if_neg h5, if_neg h6]
    exact right_none d _ k c s l r o z (by simpa using h1) (by simpa using h2) (by simp; omega) (by simp; omega) (by simpa using h5) (by simpa using h6) w

theorem check_any (x : Vz.Stp) (w : World) : Calls Tryd.prog 11 #[stpV x] w fun e w' => e = .returned (.int .i64 (if x.right then 0 else 1)) ∧ Below w.heap.size w w' := by
  have hri := Vz.Stp.right_iff x
  have hbare := bare_any x
  have hno : ∀ P : Prop, (x.right = true → P) → ¬ P → x.right = false := fun P h h' => by
    cases hr : x.right with
    | true => exact absurd (h hr) h'
    | false => rfl
  have h2' : ∀ a b m : Int, ([a, b].all fun x => Vz.small x m) = (Vz.small a m && Vz.small b m) := fun a b m => by simp
  have h1' : ∀ a m : Int, ([a].all fun x => Vz.small x m) = Vz.small a m := fun a m => by simp
  obtain ⟨d, t, k, c, s, l, r, o, z⟩ := x
  simp only at hri hno
  by_cases hd0 : d < 1
  · rw [hno _ hri.1 (by omega)]
    exact check_A d _ k c s l r o z w hd0
  by_cases hd : 6 < d
  · rw [hno _ hri.1 (by omega)]
    exact check_B d _ k c s l r o z w hd0 hd
  by_cases hb : (⟨d, t, k, c, s, l, r, o, z⟩ : Vz.Stp) = Vz.Stp.bare ⟨d, t, k, c, s, l, r, o, z⟩
  · rw [← hb] at hbare
    cases e1 : ([k, c].all fun x => Vz.small x 255) with
    | false =>
      rw [h2', Bool.and_eq_false_iff] at e1
      have e1' := e1
      rw [hno _ hri.1 (by rintro ⟨_, _, ⟨a, b⟩, _⟩; rcases e1' with e | e; exact absurd (a.symm.trans e) (by decide); exact absurd (b.symm.trans e) (by decide))]
      exact check_D d _ k c s l r o z w hd0 hd hbare (by rw [h2', Bool.and_eq_false_iff]; exact e1)
    | true =>
      have e1' := e1
      rw [h2', Bool.and_eq_true] at e1'
      cases e2 : ([r, o].all fun x => Vz.small x 9999) with
      | false =>
        have e2' := e2
        rw [h2', Bool.and_eq_false_iff] at e2'
        rw [hno _ hri.1 (by rintro ⟨_, _, _, ⟨a, b⟩, _⟩; rcases e2' with e | e; exact absurd (a.symm.trans e) (by decide); exact absurd (b.symm.trans e) (by decide))]
        exact check_E d _ k c s l r o z w hd0 hd hbare e1 e2
      | true =>
        have e2' := e2
        rw [h2', Bool.and_eq_true] at e2'
        have hF := check_F d ⟨t.toArray⟩ k c s l r o z w hd0 hd hbare e1 e2 (Vz.small z 9) (h1' z 9)
        have : Vz.Stp.right ⟨d, t, k, c, s, l, r, o, z⟩ = Vz.small z 9 := by
          cases hz : Vz.small z 9 with
          | true => exact hri.2 ⟨by omega, hb, e1', e2', hz⟩
          | false => exact hno _ hri.1 (by rintro ⟨_, _, _, _, e⟩; exact absurd (e.symm.trans hz) (by decide))
        rw [this]
        exact hF
  · rw [hno _ hri.1 (by rintro ⟨_, e, _⟩; exact hb e)]
    generalize hB : Vz.Stp.bare ⟨d, t, k, c, s, l, r, o, z⟩ = y at hbare hb
    obtain ⟨d', t', k', c', s', l', r', o', z'⟩ := y
    refine check_C d _ k c s l r o z w hd0 hd d' ⟨t'.toArray⟩ k' c' s' l' r' o' z' hbare ?_
    rw [toList_mk, toList_mk]
    rintro ⟨rfl, rfl, rfl, rfl, rfl, rfl, rfl, rfl, rfl⟩
    exact hb rfl
end Go.Proofs.YtfkbgnonkgaobaaDoor
