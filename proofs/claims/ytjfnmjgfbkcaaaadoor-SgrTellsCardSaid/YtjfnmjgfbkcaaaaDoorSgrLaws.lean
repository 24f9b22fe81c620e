/- Plain laws of layer 13: a number twice, apply of tell, parts. -/
import Derived.Test.YtjfnmjgfbkcaaaaDoorSgrApply
import Derived.Test.YtjfnmjgfbkcaaaaDoorSgrTell
namespace Go.Proofs.YtjfnmjgfbkcaaaaDoor
open Go.RowKit

theorem one_none (n : Nat) (x : Int) (hx : x < 0 ∨ 49 < x ∨ x = 3 ∨ x = 6 ∨ (9 ≤ x ∧ x ≤ 21)) : Vz.oneN n x = n := by
  unfold Vz.oneN Vz.colourN
  repeat' refine Vz.ite_ind (P := fun r => r = n) (fun _ => ?_) (fun _ => ?_)
  all_goals first | rfl | (exfalso; omega)
theorem c39 (n : Nat) : Vz.oneN n 39 = if n / 64 % 2 = 0 then n else n - n / 256 % 8 * 256 + 1792 := rfl
theorem c49 (n : Nat) : Vz.oneN n 49 = if n / 64 % 2 = 0 then n else n % 2048 := rfl
theorem one_fore (n f : Nat) (hf : f < 8) : Vz.oneN n (30 + (f : Int)) = Vz.colN n - Vz.colN n / 256 % 8 * 256 + f * 256 := by
  unfold Vz.oneN Vz.colourN
  repeat' refine Vz.ite_ind (P := fun r => r = _) (fun _ => ?_) (fun _ => ?_)
  all_goals first | (exfalso; omega) | (congr 2; omega)
theorem one_back (n f : Nat) (hf : f < 8) : Vz.oneN n (40 + (f : Int)) = Vz.colN n % 2048 + f * 2048 := by
  unfold Vz.oneN Vz.colourN
  repeat' refine Vz.ite_ind (P := fun r => r = _) (fun _ => ?_) (fun _ => ?_)
  all_goals first | (exfalso; omega) | (congr 2; omega)
theorem one_else (n : Nat) (x : Int) (h : x ≠ 0 ∧ x ≠ 1 ∧ x ≠ 2 ∧ x ≠ 4 ∧ x ≠ 5 ∧ x ≠ 7 ∧ x ≠ 8 ∧ x ≠ 22 ∧ x ≠ 24 ∧ x ≠ 25 ∧ x ≠ 27 ∧ x ≠ 28 ∧ x ≠ 39 ∧ x ≠ 49 ∧ ¬ (30 ≤ x ∧ x < 38) ∧ ¬ (40 ≤ x ∧ x < 48)) : Vz.oneN n x = n := by
  unfold Vz.oneN Vz.colourN
  repeat' refine Vz.ite_ind (P := fun r => r = n) (fun _ => ?_) (fun _ => ?_)
  all_goals first | rfl | (exfalso; omega)
theorem one_twice (n : Nat) (x : Int) (hn : Vz.MayP n) : Vz.oneN (Vz.oneN n x) x = Vz.oneN n x := by
  obtain ⟨c1, c2, c3⟩ := Vz.mayP_colN n hn
  unfold Vz.MayP at hn c1
  by_cases x0 : x = 0
  · subst x0; rfl
  by_cases x1 : x = 1
  · subst x1; show Vz.setB (Vz.setB n 1) 1 = Vz.setB n 1; unfold Vz.setB; omega
  by_cases x2 : x = 2
  · subst x2; show Vz.setB (Vz.setB n 2) 2 = Vz.setB n 2; unfold Vz.setB; omega
  by_cases x4 : x = 4
  · subst x4; show Vz.setB (Vz.setB n 4) 4 = Vz.setB n 4; unfold Vz.setB; omega
  by_cases x5 : x = 5
  · subst x5; show Vz.setB (Vz.setB n 8) 8 = Vz.setB n 8; unfold Vz.setB; omega
  by_cases x7 : x = 7
  · subst x7; show Vz.setB (Vz.setB n 16) 16 = Vz.setB n 16; unfold Vz.setB; omega
  by_cases x8 : x = 8
  · subst x8; show Vz.setB (Vz.setB n 32) 32 = Vz.setB n 32; unfold Vz.setB; omega
  by_cases y22 : x = 22
  · subst y22; show (n - n % 4) - (n - n % 4) % 4 = n - n % 4; omega
  by_cases y24 : x = 24
  · subst y24; show Vz.clrB (Vz.clrB n 4) 4 = Vz.clrB n 4; unfold Vz.clrB; omega
  by_cases y25 : x = 25
  · subst y25; show Vz.clrB (Vz.clrB n 8) 8 = Vz.clrB n 8; unfold Vz.clrB; omega
  by_cases y27 : x = 27
  · subst y27; show Vz.clrB (Vz.clrB n 16) 16 = Vz.clrB n 16; unfold Vz.clrB; omega
  by_cases y28 : x = 28
  · subst y28; show Vz.clrB (Vz.clrB n 32) 32 = Vz.clrB n 32; unfold Vz.clrB; omega
  by_cases z39 : x = 39
  · subst z39; rw [c39, c39]; split
    · rfl
    · rename_i h; rw [if_neg (by omega)]; omega
  by_cases z49 : x = 49
  · subst z49; rw [c49, c49]; split
    · rfl
    · rename_i h; split <;> omega
  by_cases f : 30 ≤ x ∧ x < 38
  · obtain ⟨k, hk⟩ : ∃ k : Nat, x = 30 + (k : Int) := ⟨(x - 30).toNat, by omega⟩
    subst hk
    rw [one_fore n k (by omega), one_fore _ k (by omega)]
    generalize Vz.colN n = c at c1 c2 c3
    have e : Vz.colN (c - c / 256 % 8 * 256 + k * 256) = c - c / 256 % 8 * 256 + k * 256 := by unfold Vz.colN; rw [if_pos (by omega)]
    rw [e]; omega
  by_cases g : 40 ≤ x ∧ x < 48
  · obtain ⟨k, hk⟩ : ∃ k : Nat, x = 40 + (k : Int) := ⟨(x - 40).toNat, by omega⟩
    subst hk
    rw [one_back n k (by omega), one_back _ k (by omega)]
    generalize Vz.colN n = c at c1 c2 c3
    have e : Vz.colN (c % 2048 + k * 2048) = c % 2048 + k * 2048 := by unfold Vz.colN; rw [if_pos (by omega)]
    rw [e]; omega
  have h := one_else n x ⟨x0, x1, x2, x4, x5, x7, x8, y22, y24, y25, y27, y28, z39, z49, f, g⟩
  rw [h, h]

theorem tellK_fold (n m : Nat) (k : Nat) (hk : k ≤ 6) : foldN n (tellK m k) = m % 2 ^ k := by
  induction k with
  | zero => show Vz.oneN n 0 = _; rw [Nat.pow_zero, Nat.mod_one]; rfl
  | succ k ih =>
    have ih := ih (by omega)
    unfold tellK
    split
    · rename_i h
      rw [foldN_snoc, ih]
      obtain rfl | rfl | rfl | rfl | rfl | rfl : k = 0 ∨ k = 1 ∨ k = 2 ∨ k = 3 ∨ k = 4 ∨ k = 5 := by omega
      · show Vz.setB (m % 1) 1 = m % 2; unfold Vz.setB; simp at h; omega
      · show Vz.setB (m % 2) 2 = m % 4; unfold Vz.setB; simp at h; omega
      · show Vz.setB (m % 4) 4 = m % 8; unfold Vz.setB; simp at h; omega
      · show Vz.setB (m % 8) 8 = m % 16; unfold Vz.setB; simp at h; omega
      · show Vz.setB (m % 16) 16 = m % 32; unfold Vz.setB; simp at h; omega
      · show Vz.setB (m % 32) 32 = m % 64; unfold Vz.setB; simp at h; omega
    · rename_i h
      rw [ih]
      obtain rfl | rfl | rfl | rfl | rfl | rfl : k = 0 ∨ k = 1 ∨ k = 2 ∨ k = 3 ∨ k = 4 ∨ k = 5 := by omega
      all_goals (simp at h ⊢; omega)
theorem tell_fold (n m : Nat) (hm : Vz.MayP m) : foldN n (tellL m) = m := by
  unfold tellL
  split
  · rename_i h
    rw [foldN_append, tellK_fold n m 6 (Nat.le_refl _)]
    show Vz.oneN (Vz.oneN (m % 2 ^ 6) _) _ = m
    unfold Vz.MayP at hm
    rw [one_fore _ _ (by omega), one_back _ _ (by omega)]
    have e1 : Vz.colN (m % 2 ^ 6) = m % 64 + 1856 := by unfold Vz.colN; rw [if_neg (by omega)]
    rw [e1]
    have e2 : Vz.colN (m % 64 + 1856 - (m % 64 + 1856) / 256 % 8 * 256 + m / 256 % 8 * 256) = m % 64 + 64 + m / 256 % 8 * 256 := by
      unfold Vz.colN; split <;> omega
    rw [e2]
    omega
  · rename_i h
    rw [tellK_fold n m 6 (Nat.le_refl _)]
    unfold Vz.MayP at hm
    omega
theorem countL_tell (m : Nat) : countL (tellL m) = tellL m := by
  unfold countL
  rw [if_neg]
  intro h
  have := tell_fold
  unfold tellL at h
  have h6 : ∀ k, tellK m k ≠ [] := fun k => by
    induction k with
    | zero => simp [tellK]
    | succ k ih => unfold tellK; split; · simp
                   · exact ih
  split at h
  · simp at h
  · exact h6 6 h
theorem apply_tell (a : Int) (m : Nat) (hm : Vz.MayP m) : applyN a (tellL m) = m := by unfold applyN; rw [countL_tell]; exact tell_fold _ m hm

theorem apply_append (a : Int) (l r : List Int) (hl : l ≠ []) (hr : r ≠ []) : applyN ((applyN a l : Nat) : Int) r = applyN a (l ++ r) := by
  have h1 : countL l = l := by unfold countL; rw [if_neg hl]
  have h2 : countL r = r := by unfold countL; rw [if_neg hr]
  have h3 : countL (l ++ r) = l ++ r := by unfold countL; rw [if_neg (by simp [hl])]
  have h4 := startN_of _ (applyN_may a l)
  unfold applyN at h4 ⊢
  rw [h4, h1, h2, h3, foldN_append]
theorem apply_zero (a : Int) (l : List Int) (i : Nat) (hi : i < l.length) (hz : l[i]?.getD 0 = 0) : applyN 0 (l.drop i) = applyN a l := by
  have hd : l.drop i = 0 :: l.drop (i + 1) := by
    rw [List.drop_eq_getElem_cons hi]
    rw [List.getElem?_eq_getElem hi] at hz
    simp at hz
    rw [hz]
  have h1 : countL (l.drop i) = l.drop i := by unfold countL; rw [if_neg (by rw [hd]; simp)]
  have h2 : countL l = l := by unfold countL; rw [if_neg (by rintro rfl; cases hi)]
  unfold applyN
  rw [h1, h2]
  conv => rhs; rw [← List.take_append_drop i l]
  rw [foldN_append, hd]
  rfl
end Go.Proofs.YtjfnmjgfbkcaaaaDoor
