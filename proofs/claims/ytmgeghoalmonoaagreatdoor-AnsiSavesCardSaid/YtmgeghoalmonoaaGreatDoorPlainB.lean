import Derived.Test.YtmgeghoalmonoaaGreatDoorRP

/- More plain mathematics of the numbers of a text. -/
namespace Vz
theorem numsOf_len : ∀ (ps : List ByteArray) (l : List Int), numsOf ps = some l → l.length = ps.length
  | [], l, h => by simp [numsOf] at h; simp [h]
  | p :: r, l, h => by
    simp only [numsOf] at h
    split at h
    · split at h
      · cases h
      · rename_i l' e
        have := numsOf_len r l' e
        cases h
        simp [this]
    · cases h
theorem numbers_len (s : List UInt8) : (numbers s).1.length ≤ s.length + 1 := by
  unfold numbers
  split
  · simp
  · rename_i l e
    have := numsOf_len _ _ e
    have := partsB_len s
    simp only
    omega
end Vz
namespace Vz
def digitB (c : UInt8) : Prop := 48 ≤ (c.toNat : Int) ∧ (c.toNat : Int) ≤ 57
theorem splitC_none (c : UInt8) : ∀ l : List UInt8, (∀ x ∈ l, x ≠ c) → splitC c l = [l]
  | [], _ => rfl
  | x :: r, h => by
    have hx : (x == c) = false := by simpa using h x (List.mem_cons_self ..)
    simp only [splitC, hx, Bool.false_eq_true, if_false, splitC_none c r fun y hy => h y (List.mem_cons_of_mem _ hy)]
theorem digit_ne {c : UInt8} (h : digitB c) : c ≠ 59 := by
  rintro rfl; have := h.2; simp at this
theorem numFrom_digits : ∀ (l : List UInt8) (n : Int), 0 ≤ n → (∀ x ∈ l, digitB x) → ∃ v, numFrom n l = some v ∧ 0 ≤ v
  | [], n, hn, _ => ⟨n, rfl, hn⟩
  | c :: r, n, hn, h => by
    have hc := h c (List.mem_cons_self ..)
    obtain ⟨h1, h2⟩ := hc
    simp only [numFrom]
    rw [if_neg (by omega)]
    exact numFrom_digits r _ (capd_lo _ (by omega)) fun y hy => h y (List.mem_cons_of_mem _ hy)
theorem numFrom_zeros (l : List UInt8) : ∀ z : Nat, numFrom 0 (List.replicate z 48 ++ l) = numFrom 0 l
  | 0 => rfl
  | z + 1 => by
    rw [List.replicate_succ, List.cons_append]
    simp only [numFrom]
    rw [if_neg (by decide), show capd (10 * 0 + (((48 : UInt8).toNat : Int) - 48)) = 0 from by decide]
    exact numFrom_zeros l z
theorem numbers_digits (l : List UInt8) (hne : l ≠ []) (h : ∀ x ∈ l, digitB x) : ∃ v, numFrom 0 l = some v ∧ 0 ≤ v ∧ numbers l = ([v], true) := by
  obtain ⟨v, hv, h0⟩ := numFrom_digits l 0 (Int.le_refl _) h
  refine ⟨v, hv, h0, ?_⟩
  unfold numbers partsB
  rw [if_neg hne, splitC_none 59 l fun x hx => digit_ne (h x hx)]
  simp [numsOf, numB, number, hne, hv]
/-- Noughts ahead do not count. -/
theorem numbers_zeros (l : List UInt8) (hne : l ≠ []) (h : ∀ x ∈ l, digitB x) (z : Nat) : ∃ v, 0 ≤ v ∧ numbers l = ([v], true) ∧ numbers (List.replicate z 48 ++ l) = ([v], true) := by
  obtain ⟨v, hv, h0, hn⟩ := numbers_digits l hne h
  obtain ⟨v', hv', _, hn'⟩ := numbers_digits (List.replicate z 48 ++ l) (by simp [hne]) (fun x hx => by
    rcases List.mem_append.1 hx with hx | hx
    · rw [(List.mem_replicate.1 hx).2]; exact ⟨by decide, by decide⟩
    · exact h x hx)
  rw [numFrom_zeros, hv] at hv'
  injection hv' with hv'
  exact ⟨v, h0, hn, by rw [hn', hv']⟩
end Vz
namespace Vz
theorem splitC_join (c : UInt8) (b : List UInt8) : ∀ a : List UInt8, splitC c (a ++ c :: b) = splitC c a ++ splitC c b
  | [] => by simp [splitC]
  | x :: r => by
    simp only [List.cons_append, splitC, splitC_join c b r]
    by_cases hx : (x == c) = true
    · simp [hx]
    · simp only [hx, Bool.false_eq_true, if_false]
      cases h : splitC c r with
      | nil => exact absurd h (splitC_ne c r)
      | cons p q => simp
theorem numsOf_append : ∀ (x y : List ByteArray), numsOf (x ++ y) = match numsOf x with
    | none => none
    | some l => match numsOf y with
      | none => none
      | some m => some (l ++ m)
  | [], y => by simp [numsOf]; cases numsOf y <;> rfl
  | p :: r, y => by
    simp only [List.cons_append, numsOf, numsOf_append r y]
    by_cases hp : (numB p).2 = true
    · simp only [hp, if_true]
      cases numsOf r with
      | none => rfl
      | some l => simp only; cases numsOf y <;> simp
    · simp only [hp, Bool.false_eq_true, if_false]
theorem partsB_join (a b : List UInt8) (ha : a ≠ []) (hb : b ≠ []) : partsB (a ++ 59 :: b) = partsB a ++ partsB b := by
  unfold partsB
  rw [if_neg ha, if_neg hb, if_neg (by simp), splitC_join, List.map_append]
theorem numbers_join (a b : List UInt8) (ha : a ≠ []) (hb : b ≠ []) : numbers (a ++ 59 :: b) = if (numbers a).2 = true ∧ (numbers b).2 = true then ((numbers a).1 ++ (numbers b).1, true) else ([], false) := by
  unfold numbers
  rw [partsB_join a b ha hb, numsOf_append]
  cases numsOf (partsB a) with
  | none => simp
  | some l =>
    cases numsOf (partsB b) with
    | none => simp
    | some m => simp
theorem numbers_pos (a : List UInt8) (ha : a ≠ []) (h : (numbers a).2 = true) : 0 < (numbers a).1.length := by
  unfold numbers at h ⊢
  cases e : numsOf (partsB a) with
  | none => rw [e] at h; simp at h
  | some l =>
    simp only
    rw [numsOf_len _ _ e]
    unfold partsB
    rw [if_neg ha, List.length_map]
    exact List.length_pos_iff.2 (splitC_ne _ _)
end Vz
