import Derived.Test.YtncgigapgklhcaaGreatDoorHM
import Derived.Test.YtncgigapgklhcaaGreatDoorHP
import Derived.Test.YtncgigapgklhcaaGreatDoorHL

/- Plain: what is drawn with guard turns no guarded cell. -/
namespace Go.Proofs.YtncgigapgklhcaaGreatDoor
open Go.RowKit
set_option linter.unusedSimpArgs false
set_option linter.unusedVariables false

/-- Guarded cells are as they were. -/
def KeptG (D D' : Vz.Gd) : Prop := D'.R = D.R ∧ D'.C = D.C ∧ ∀ i j, i < D.R → j < D.C → (D.X i j).gd = true → D'.X i j = D.X i j
theorem KeptG.refl (D : Vz.Gd) : KeptG D D := ⟨rfl, rfl, fun _ _ _ _ _ => rfl⟩
theorem KeptG.trans {A B C : Vz.Gd} (h : KeptG A B) (k : KeptG B C) : KeptG A C :=
  ⟨k.1.trans h.1, k.2.1.trans h.2.1, fun i j hi hj hg => (k.2.2 i j (by rw [h.1]; exact hi) (by rw [h.2.1]; exact hj) (by rw [h.2.2 i j hi hj hg]; exact hg)).trans (h.2.2 i j hi hj hg)⟩
theorem KeptG.guard {D : Vz.Gd} {c : Vz.Cl} {p : Vz.Ps} {q : Nat} (h : openN D p 1 = some q) : KeptG D (guardD D c q) := by
  have hf := List.find?_some h
  unfold freeN at hf
  refine ⟨rfl, rfl, fun i j hi hj hg => ?_⟩
  show (if i = q / D.C ∧ j = q % D.C then c else D.X i j) = D.X i j
  rw [if_neg]
  rintro ⟨rfl, rfl⟩
  rw [hg] at hf
  cases hf
theorem KeptG.wipe (D : Vz.Gd) (a b : Vz.Ps) (c : Vz.Cl) : KeptG D (wipeD D a b c true) := by
  unfold wipeD
  split
  · exact KeptG.refl D
  · refine ⟨rfl, rfl, fun i j hi hj hg => ?_⟩
    show (if within a b i j = true then wipeX true c (D.X i j) else D.X i j) = D.X i j
    split
    · unfold wipeX
      rw [if_pos ⟨rfl, hg⟩]
    · rfl
theorem roll_out {a b : Nat} {n : Int} {i : Nat} (h : i < a ∨ b < i) : Vz.rollAt a b n i = some i := by
  unfold Vz.rollAt
  rw [if_neg (by omega)]
theorem guardN_no {D : Vz.Gd} {row : Int} {k : Nat} (h : guardN D row k = 0) (m : Nat) (hm : m < k) (hr : row ≤ ((m / D.C : Nat) : Int)) : (D.X (m / D.C) (m % D.C)).gd = false := by
  induction k with
  | zero => omega
  | succ k ih =>
    unfold guardN at h
    have h1 : guardN D row k = 0 := by omega
    rcases Nat.lt_or_ge m k with hl | hl
    · exact ih h1 hl
    · obtain rfl : m = k := by omega
      by_cases hg : (D.X (m / D.C) (m % D.C)).gd = true
      · rw [if_pos ⟨hr, hg⟩] at h
        omega
      · simpa using hg
theorem KeptG.lines (D : Vz.Gd) (row : Nat) (n : Int) (x : Vz.Cl) (hr : row < D.R) : KeptG D (linesD D row n x true) := by
  unfold linesD
  by_cases h : 0 < guardN D row (D.R * D.C)
  · rw [if_pos ⟨rfl, h⟩]
    exact KeptG.refl D
  · rw [if_neg (fun e => h e.2)]
    refine ⟨rfl, rfl, fun i j hi hj hg => ?_⟩
    by_cases hri : i < row
    · show (match Vz.rollAt row (D.R - 1) (-(Vz.cutI n)) i with | none => x | some k => D.X k j) = D.X i j
      rw [roll_out (.inl hri)]
    · have h0 : guardN D row (D.R * D.C) = 0 := by omega
      have hlt : i * D.C + j < D.R * D.C := Nat.lt_of_lt_of_le (show i * D.C + j < (i + 1) * D.C by rw [Nat.succ_mul]; omega) (Nat.mul_le_mul_right D.C hi)
      obtain ⟨e1, e2⟩ := div_at D.C i j hj
      have := guardN_no h0 (i * D.C + j) hlt (by rw [e1]; omega)
      rw [e1, e2, hg] at this
      cases this
theorem lastN_free {D : Vz.Gd} {r : Nat} : ∀ (k t : Nat), (D.X r t).gd = false → ∀ j, t ≤ j → j ≤ lastN D r k t → (D.X r j).gd = false
  | 0, t, h, j, h1, h2 => by
    have : j = t := by unfold lastN at h2; omega
    subst this
    exact h
  | k + 1, t, h, j, h1, h2 => by
    unfold lastN at h2
    by_cases hf : freeAt D r ((t : Int) + 1) = true
    · rw [if_pos hf] at h2
      have hg : (D.X r (t + 1)).gd = false := by
        unfold freeAt at hf
        simp only [Bool.and_eq_true] at hf
        have := hf.2
        unfold atD at this
        have e : ((t : Int) + 1).toNat = t + 1 := by omega
        simp only [Int.toNat_natCast, e] at this
        simpa using this
      rcases Nat.lt_or_ge t j with hl | hl
      · exact lastN_free k (t + 1) hg j hl h2
      · obtain rfl : j = t := by omega
        exact h
    · rw [if_neg hf] at h2
      obtain rfl : j = t := by omega
      exact h
theorem KeptG.chars (D : Vz.Gd) (row col : Nat) (n : Int) (x : Vz.Cl) : KeptG D (charsD D row col n x true) := by
  unfold charsD
  rw [if_pos rfl]
  by_cases hg0 : (D.X row col).gd = true
  · rw [if_pos hg0]
    exact KeptG.refl D
  · rw [if_neg hg0]
    refine ⟨rfl, rfl, fun i j hi hj hg => ?_⟩
    show (if i = row then (match Vz.rollAt col (lastF D row col) (-(Vz.cutI n)) j with | none => x | some k => D.X row k) else D.X i j) = D.X i j
    by_cases he : i = row
    · subst he
      rw [if_pos rfl]
      by_cases hin : col ≤ j ∧ j ≤ lastF D i col
      · have := lastN_free (D := D) (r := i) (D.C - col) col (by simpa using hg0) j hin.1 hin.2
        rw [hg] at this
        cases this
      · rw [roll_out (by omega)]
    · rw [if_neg he]
end Go.Proofs.YtncgigapgklhcaaGreatDoor
