/- Right and Check, whole. -/
import Derived.Test.YtfbioigghfjhbaaGreatDoorScrCheckB
namespace Go.Proofs.YtfbioigghfjhbaaGreatDoor
open Go.RowKit
set_option linter.unusedSimpArgs false
set_option linter.unusedVariables false

theorem toList_mk (t : List UInt8) : (⟨t.toArray⟩ : ByteArray).toList = t := by
  rw [ByteArray.toList_eq]
theorem check_any (x : Vz.Stp) (w : World) : Calls Tryz.prog 17 #[stpV x] w fun e w' => e = .returned (.int .i64 (if x.right then 0 else 1)) ∧ Below w.heap.size w w' := by
  have hri := Vz.Stp.right_iff x
  have hbare := bare_any x
  have hno : ∀ P : Prop, (x.right = true → P) → ¬ P → x.right = false := fun P h h' => by
    cases hr : x.right with
    | true => exact absurd (h hr) h'
    | false => rfl
  have h2' : ∀ a b m : Int, ([a, b].all fun x => Vz.small x m) = (Vz.small a m && Vz.small b m) := fun a b m => by simp
  have h1' : ∀ a m : Int, ([a].all fun x => Vz.small x m) = Vz.small a m := fun a m => by simp
  obtain ⟨d, t, k, c, s, l, r, o, z⟩ := x
  simp only at hri hno
  by_cases hd0 : d < 1
  · rw [hno _ hri.1 (by omega)]
    exact check_A d _ k c s l r o z w hd0
  by_cases hd : 6 < d
  · rw [hno _ hri.1 (by omega)]
    exact check_B d _ k c s l r o z w hd0 hd
  by_cases hb : (⟨d, t, k, c, s, l, r, o, z⟩ : Vz.Stp) = Vz.Stp.bare ⟨d, t, k, c, s, l, r, o, z⟩
  · rw [← hb] at hbare
    cases e1 : ([k, c].all fun x => Vz.small x 255) with
    | false =>
      rw [h2', Bool.and_eq_false_iff] at e1
      have e1' := e1
      rw [hno _ hri.1 (by rintro ⟨_, _, ⟨a, b⟩, _⟩; rcases e1' with e | e; exact absurd (a.symm.trans e) (by decide); exact absurd (b.symm.trans e) (by decide))]
      exact check_D d _ k c s l r o z w hd0 hd hbare (by rw [h2', Bool.and_eq_false_iff]; exact e1)
    | true =>
      have e1' := e1
      rw [h2', Bool.and_eq_true] at e1'
      cases e2 : ([r, o].all fun x => Vz.small x 9999) with
      | false =>
        have e2' := e2
        rw [h2', Bool.and_eq_false_iff] at e2'
        rw [hno _ hri.1 (by rintro ⟨_, _, _, ⟨a, b⟩, _⟩; rcases e2' with e | e; exact absurd (a.symm.trans e) (by decide); exact absurd (b.symm.trans e) (by decide))]
        exact check_E d _ k c s l r o z w hd0 hd hbare e1 e2
      | true =>
        have e2' := e2
        rw [h2', Bool.and_eq_true] at e2'
        have hF := check_F d ⟨t.toArray⟩ k c s l r o z w hd0 hd hbare e1 e2 (Vz.small z 9) (h1' z 9)
        have : Vz.Stp.right ⟨d, t, k, c, s, l, r, o, z⟩ = Vz.small z 9 := by
          cases hz : Vz.small z 9 with
          | true => exact hri.2 ⟨by omega, hb, e1', e2', hz⟩
          | false => exact hno _ hri.1 (by rintro ⟨_, _, _, _, e⟩; exact absurd (e.symm.trans hz) (by decide))
        rw [this]
        exact hF
  · rw [hno _ hri.1 (by rintro ⟨_, e, _⟩; exact hb e)]
    generalize hB : Vz.Stp.bare ⟨d, t, k, c, s, l, r, o, z⟩ = y at hbare hb
    obtain ⟨d', t', k', c', s', l', r', o', z'⟩ := y
    refine check_C d _ k c s l r o z w hd0 hd d' ⟨t'.toArray⟩ k' c' s' l' r' o' z' hbare ?_
    rw [toList_mk, toList_mk]
    rintro ⟨rfl, rfl, rfl, rfl, rfl, rfl, rfl, rfl, rfl⟩
    exact hb rfl
end Go.Proofs.YtfbioigghfjhbaaGreatDoor
