/- Plain: bounds of the numbers of a text. -/
import Derived.Test.YtdakiocgaihcnaaPlainB
namespace Vz
theorem splitC_count (c : UInt8) : ∀ l : List UInt8, (splitC c l).length = l.count c + 1
  | [] => by simp [splitC]
  | x :: r => by
    simp only [splitC]
    by_cases hx : (x == c) = true
    · rw [if_pos hx, List.count_cons, if_pos hx]; simp [splitC_count c r]
    · rw [if_neg hx, List.count_cons, if_neg hx]
      have ih := splitC_count c r
      cases h : splitC c r with
      | nil => exact absurd h (splitC_ne c r)
      | cons p q => rw [h] at ih; simpa using ih
theorem numFrom_bd : ∀ (l : List UInt8) (n v : Int), 0 ≤ n → n ≤ 9999 → numFrom n l = some v → 0 ≤ v ∧ v ≤ 9999
  | [], n, v, h0, h1, h => by simp [numFrom] at h; omega
  | c :: r, n, v, h0, h1, h => by
    simp only [numFrom] at h
    split at h
    · cases h
    · exact numFrom_bd r _ v (capd_lo _ (by omega)) (capd_hi _) h
theorem numB_bd (x : ByteArray) : -1 ≤ (numB x).1 ∧ (numB x).1 ≤ 9999 := by
  unfold numB number
  split
  · exact ⟨by decide, by decide⟩
  · split
    · exact ⟨by decide, by decide⟩
    · rename_i n e
      have := numFrom_bd _ _ _ (Int.le_refl 0) (by decide) e
      simp only
      omega
theorem numsOf_bd : ∀ (ps : List ByteArray) (l : List Int), numsOf ps = some l → ∀ v ∈ l, -1 ≤ v ∧ v ≤ 9999
  | [], l, h, v, hv => by simp [numsOf] at h; rw [h] at hv; cases hv
  | p :: r, l, h, v, hv => by
    simp only [numsOf] at h
    split at h
    · split at h
      · cases h
      · rename_i l' e
        cases h
        rcases List.mem_cons.1 hv with rfl | hv
        · exact numB_bd p
        · exact numsOf_bd r l' e v hv
    · cases h
theorem numbers_facts (s : List UInt8) : (∀ v ∈ (numbers s).1, -1 ≤ v ∧ v ≤ 9999) ∧ ((numbers s).2 = false → (numbers s).1 = []) ∧ ((numbers s).2 = true → (numbers s).1.length = if s = [] then 0 else s.count 59 + 1) := by
  unfold numbers
  cases e : numsOf (partsB s) with
  | none => simp
  | some l =>
    refine ⟨fun v hv => numsOf_bd _ l e v hv, by simp, fun _ => ?_⟩
    simp only
    rw [numsOf_len _ _ e]
    unfold partsB
    by_cases hs : s = []
    · simp [hs]
    · rw [if_neg hs, if_neg hs, List.length_map, splitC_count]
end Vz
