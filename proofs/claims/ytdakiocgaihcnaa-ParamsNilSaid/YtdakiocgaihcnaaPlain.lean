/- Plain mathematics of the layer params: numbers of a text. No program in sight. -/
namespace Vz

/-- No more than 9999. -/
def capd (x : Int) : Int := if 9999 < x then 9999 else x
theorem capd_hi (x : Int) : capd x ≤ 9999 := by unfold capd; split <;> omega
theorem capd_lo (x : Int) (h : 0 ≤ x) : 0 ≤ capd x := by unfold capd; split <;> omega

/-- The number of digits, from n on; none: something is no digit. -/
def numFrom : Int → List UInt8 → Option Int
  | n, [] => some n
  | n, c :: r => if (c.toNat : Int) < 48 ∨ 57 < (c.toNat : Int) then none else numFrom (capd (10 * n + ((c.toNat : Int) - 48))) r

/-- params.number. -/
def number (l : List UInt8) : Int × Bool :=
  if l = [] then (-1, true) else match numFrom 0 l with
    | none => (0, false)
    | some n => (n, true)

theorem numFrom_step (n : Int) (s : ByteArray) (k : Nat) (h : k < s.size) :
    numFrom n (s.data.toList.drop k) = if (s[k].toNat : Int) < 48 ∨ 57 < (s[k].toNat : Int) then none else numFrom (capd (10 * n + ((s[k].toNat : Int) - 48))) (s.data.toList.drop (k + 1)) := by
  rw [List.drop_eq_getElem_cons (by simpa using h)]
  simp only [numFrom]
  rfl
end Vz
namespace Vz
/-- What stands ahead of the first c, what stands behind it, and whether it is there. -/
def cutC (c : UInt8) : List UInt8 → List UInt8 × List UInt8 × Bool
  | [] => ([], [], false)
  | x :: r => if x == c then ([], r, true) else (x :: (cutC c r).1, (cutC c r).2.1, (cutC c r).2.2)

/-- The pieces between the c's: one more than there are c's. -/
def splitC (c : UInt8) : List UInt8 → List (List UInt8)
  | [] => [[]]
  | x :: r => if x == c then [] :: splitC c r else match splitC c r with
    | [] => [[x]]
    | a :: l => (x :: a) :: l

theorem splitC_ne (c : UInt8) (l : List UInt8) : splitC c l ≠ [] := by
  cases l with
  | nil => simp [splitC]
  | cons x r =>
    simp only [splitC]
    split
    · simp
    · split <;> simp

theorem splitC_cut (c : UInt8) (l : List UInt8) : splitC c l = (cutC c l).1 :: (if (cutC c l).2.2 = true then splitC c (cutC c l).2.1 else []) := by
  induction l with
  | nil => rfl
  | cons x r ih =>
    simp only [splitC, cutC]
    by_cases h : (x == c) = true
    · simp [h]
    · simp only [h, Bool.false_eq_true, if_false]
      rw [ih]

theorem cutC_size (c : UInt8) (l : List UInt8) (h : (cutC c l).2.2 = true) : (cutC c l).2.1.length < l.length := by
  induction l with
  | nil => simp [cutC] at h
  | cons x r ih =>
    simp only [cutC] at h ⊢
    by_cases hx : (x == c) = true
    · simp [hx]
    · simp only [hx, Bool.false_eq_true, if_false] at h ⊢
      have := ih h
      simp
      omega

theorem cutC_nil (c : UInt8) (l : List UInt8) (h : (cutC c l).2.2 = false) : (cutC c l) = (l, [], false) := by
  induction l with
  | nil => rfl
  | cons x r ih =>
    simp only [cutC] at h ⊢
    by_cases hx : (x == c) = true
    · simp [hx] at h
    · simp only [hx, Bool.false_eq_true, if_false] at h ⊢
      rw [ih h]
end Vz
namespace Vz
/-- The pieces that params.parts gives. -/
def partsB (s : List UInt8) : List ByteArray := (if s = [] then [] else splitC 59 s).map fun l => ⟨l.toArray⟩
theorem partsB_cut (l : List UInt8) : (splitC 59 l).map (fun l => (⟨l.toArray⟩ : ByteArray)) = ⟨(cutC 59 l).1.toArray⟩ :: (if (cutC 59 l).2.2 = true then (splitC 59 (cutC 59 l).2.1).map (fun l => (⟨l.toArray⟩ : ByteArray)) else []) := by
  rw [splitC_cut]
  split <;> simp_all
end Vz
namespace Vz
def numB (x : ByteArray) : Int × Bool := number x.data.toList
/-- The numbers of pieces; none: one is none. -/
def numsOf : List ByteArray → Option (List Int)
  | [] => some []
  | x :: r => if (numB x).2 = true then (match numsOf r with | none => none | some l => some ((numB x).1 :: l)) else none
/-- params.Numbers. -/
def numbers (s : List UInt8) : List Int × Bool := match numsOf (partsB s) with
  | none => ([], false)
  | some l => (l, true)
theorem numsOf_all : ∀ (l : List ByteArray), (∀ x ∈ l, (numB x).2 = true) → numsOf l = some (l.map fun x => (numB x).1)
  | [], _ => rfl
  | x :: r, h => by
    simp only [numsOf, h x (List.mem_cons_self ..), if_true, numsOf_all r fun y hy => h y (List.mem_cons_of_mem _ hy), List.map_cons]
theorem numsOf_bad : ∀ (l : List ByteArray) (x : ByteArray), x ∈ l → (numB x).2 = false → numsOf l = none
  | y :: r, x, hx, hb => by
    by_cases hy : (numB y).2 = true
    · rcases List.mem_cons.1 hx with rfl | h
      · rw [hb] at hy; cases hy
      · simp only [numsOf, hy, if_true, numsOf_bad r x h hb]
    · simp only [numsOf, hy, Bool.false_eq_true, if_false]
theorem numbers_all (s : List UInt8) (h : ∀ x ∈ partsB s, (numB x).2 = true) : numbers s = ((partsB s).map fun x => (numB x).1, true) := by
  unfold numbers; rw [numsOf_all _ h]
theorem numbers_bad (s : List UInt8) (x : ByteArray) (hx : x ∈ partsB s) (hb : (numB x).2 = false) : numbers s = ([], false) := by
  unfold numbers; rw [numsOf_bad _ x hx hb]
theorem splitC_len (c : UInt8) (l : List UInt8) : (splitC c l).length ≤ l.length + 1 := by
  induction l with
  | nil => simp [splitC]
  | cons x r ih =>
    simp only [splitC]
    split
    · simp; omega
    · split
      · simp
      · rename_i h; rw [h] at ih; simp at ih ⊢; omega
theorem partsB_len (s : List UInt8) : (partsB s).length ≤ s.length + 1 := by
  unfold partsB; split
  · simp
  · rw [List.length_map]; exact splitC_len _ _
theorem cutC_le (c : UInt8) (l : List UInt8) : (cutC c l).1.length ≤ l.length ∧ (cutC c l).2.1.length ≤ l.length := by
  induction l with
  | nil => simp [cutC]
  | cons x r ih =>
    simp only [cutC]
    split
    · simp
    · simp; omega
theorem splitC_each (c : UInt8) : ∀ (n : Nat) (l : List UInt8), l.length ≤ n → ∀ p ∈ splitC c l, p.length ≤ n
  | n, [], _, p, hp => by simp [splitC] at hp; rw [hp]; exact Nat.zero_le _
  | 0, _ :: _, h, _, _ => by simp at h
  | n + 1, x :: r, h, p, hp => by
    have ih := splitC_each c n r (by simpa using h)
    simp only [splitC] at hp
    split at hp
    · rcases List.mem_cons.1 hp with rfl | hp
      · exact Nat.zero_le _
      · have := ih p hp; omega
    · split at hp
      · simp at hp; rw [hp]; simp
      · rename_i a l' he
        rw [he] at ih
        rcases List.mem_cons.1 hp with rfl | hp
        · have := ih a (List.mem_cons_self ..); simp; omega
        · have := ih p (List.mem_cons_of_mem _ hp); omega
theorem partsB_each (s : List UInt8) (x : ByteArray) (hx : x ∈ partsB s) : x.size ≤ s.length := by
  unfold partsB at hx
  split at hx
  · cases hx
  · obtain ⟨p, hp, rfl⟩ := List.mem_map.1 hx
    have := splitC_each 59 s.length s (Nat.le_refl _) p hp
    show p.toArray.size ≤ _
    simpa using this
end Vz
