/- Plain mathematics of the layer params: numbers of a text. No program in sight. -/
namespace Vz

/-- No more than 9999. -/
def capd (x : Int) : Int := if 9999 < x then 9999 else x
theorem capd_hi (x : Int) : capd x ≤ 9999 := by unfold capd; split <;> omega
theorem capd_lo (x : Int) (h : 0 ≤ x) : 0 ≤ capd x := by unfold capd; split <;> omega

/-- The number of digits, from n on; none: something is no digit. -/
def numFrom : Int → List UInt8 → Option Int
  | n, [] => some n
  | n, c :: r => if (c.toNat : Int) < 48 ∨ 57 < (c.toNat : Int) then none else numFrom (capd (10 * n + ((c.toNat : Int) - 48))) r

/-- params.number. -/
def number (l : List UInt8) : Int × Bool :=
  if l = [] then (-1, true) else match numFrom 0 l with
    | none => (0, false)
    | some n => (n, true)

theorem numFrom_step (n : Int) (s : ByteArray) (k : Nat) (h : k < s.size) :
    numFrom n (s.data.toList.drop k) = if (s[k].toNat : Int) < 48 ∨ 57 < (s[k].toNat : Int) then none else numFrom (capd (10 * n + ((s[k].toNat : Int) - 48))) (s.data.toList.drop (k + 1)) := by
  rw [List.drop_eq_getElem_cons (by simpa using h)]
  simp only [numFrom]
  rfl
end Vz
namespace Vz
/-- What stands ahead of the first c, what stands behind it, and whether it is there. -/
def cutC (c : UInt8) : List UInt8 → List UInt8 × List UInt8 × Bool
  | [] => ([], [], false)
  | x :: r => if x == c then ([], r, true) else (x :: (cutC c r).1, (cutC c r).2.1, (cutC c r).2.2)

/-- The pieces between the c's: one more than there are c's. -/
def splitC (c : UInt8) : List UInt8 → List (List UInt8)
  | [] => [[]]
  | x :: r => if x == c then [] :: splitC c r else match splitC c r with
    | [] => [[x]]
    | a :: l => (x :: a) :: l

theorem splitC_ne (c : UInt8) (l : List UInt8) : splitC c l ≠ [] := by
  cases l with
  | nil => simp [splitC]
  | cons x r =>
    simp only [splitC]
    split
    · simp
    · split <;> simp

theorem splitC_cut (c : UInt8) (l : List UInt8) : splitC c l = (cutC c l).1 :: (if (cutC c l).2.2 = true then splitC c (cutC c l).2.1 else []) := by
  induction l with
  | nil => rfl
  | cons x r ih =>
    simp only [splitC, cutC]
    by_cases h : (x == c) = true
    · simp [h]
    · simp only [h, Bool.false_eq_true, if_false]
      rw [ih]

theorem cutC_size (c : UInt8) (l : List UInt8) (h : (cutC c l).2.2 = true) : (cutC c l).2.1.length < l.length := by
  induction l with
  | nil => simp [cutC] at h
  | cons x r ih =>
    simp only [cutC] at h ⊢
    by_cases hx : (x == c) = true
    · simp [hx]
    · simp only [hx, Bool.false_eq_true, if_false] at h ⊢
      have := ih h
      simp
      omega

theorem cutC_nil (c : UInt8) (l : List UInt8) (h : (cutC c l).2.2 = false) : (cutC c l) = (l, [], false) := by
  induction l with
  | nil => rfl
  | cons x r ih =>
    simp only [cutC] at h ⊢
    by_cases hx : (x == c) = true
    · simp [hx] at h
    · simp only [hx, Bool.false_eq_true, if_false] at h ⊢
      rw [ih h]
end Vz
namespace Vz
/-- The pieces that params.parts gives. -/
def partsB (s : List UInt8) : List ByteArray := (if s = [] then [] else splitC 59 s).map fun l => ⟨l.toArray⟩
theorem partsB_cut (l : List UInt8) : (splitC 59 l).map (fun l => (⟨l.toArray⟩ : ByteArray)) = ⟨(cutC 59 l).1.toArray⟩ :: (if (cutC 59 l).2.2 = true then (splitC 59 (cutC 59 l).2.1).map (fun l => (⟨l.toArray⟩ : ByteArray)) else []) := by
  rw [splitC_cut]
  split <;> simp_all
end Vz
namespace Vz
def numB (x : ByteArray) : Int × Bool := number x.data.toList
/-- The numbers of pieces; none: one is none. -/
def numsOf : List ByteArray → Option (List Int)
  | [] => some []
  | x :: r => if (numB x).2 = true then (match numsOf r with | none => none | some l => some ((numB x).1 :: l)) else none
/-- params.Numbers. -/
def numbers (s : List UInt8) : List Int × Bool := match numsOf (partsB s) with
  | none => ([], false)
  | some l => (l, true)
theorem numsOf_all : ∀ (l : List ByteArray), (∀ x ∈ l, (numB x).2 = true) → numsOf l = some (l.map fun x => (numB x).1)
  | [], _ => rfl
  | x :: r, h => by
    simp only [numsOf, h x (List.mem_cons_self ..), if_true, numsOf_all r fun y hy => h y (List.mem_cons_of_mem _ hy), List.map_cons]
theorem numsOf_bad : ∀ (l : List ByteArray) (x : ByteArray), x ∈ l → (numB x).2 = false → numsOf l = none
  | y :: r, x, hx, hb => by
    by_cases hy : (numB y).2 = true
    · rcases List.mem_cons.1 hx with rfl | h
      · rw [hb] at hy; cases hy
      · simp only [numsOf, hy, if_true, numsOf_bad r x h hb]
    · simp only [numsOf, hy, Bool.false_eq_true, if_false]
theorem numbers_all (s : List UInt8) (h : ∀ x ∈ partsB s, (numB x).2 = true) : numbers s = ((partsB s).map fun x => (numB x).1, true) := by
  unfold numbers; rw [numsOf_all _ h]
theorem numbers_bad (s : List UInt8) (x : ByteArray) (hx : x ∈ partsB s) (hb : (numB x).2 = false) : numbers s = ([], false) := by
  unfold numbers; rw [numsOf_bad _ x hx hb]
theorem splitC_len (c : UInt8) (l : List UInt8) : (splitC c l).length ≤ l.length + 1 := by
  induction l with
  | nil => simp [splitC]
  | cons x r ih =>
    simp only [splitC]
    split
    · simp; omega
    · split
      · simp
      · rename_i h; rw [h] at ih; simp at ih ⊢; omega
theorem partsB_len (s : List UInt8) : (partsB s).length ≤ s.length + 1 := by
  unfold partsB; split
  · simp
  · rw [List.length_map]; exact splitC_len _ _
theorem cutC_le (c : UInt8) (l : List UInt8) : (cutC c l).1.length ≤ l.length ∧ (cutC c l).2.1.length ≤ l.length := by
  induction l with
  | nil => simp [cutC]
  | cons x r ih =>
    simp only [cutC]
    split
    · simp
    · simp; omega
theorem splitC_each (c : UInt8) : ∀ (n : Nat) (l : List UInt8), l.length ≤ n → ∀ p ∈ splitC c l, p.length ≤ n
  | n, [], _, p, hp => by simp [splitC] at hp; rw [hp]; exact Nat.zero_le _
  | 0, _ :: _, h, _, _ => by simp at h
  | n + 1, x :: r, h, p, hp => by
    have ih := splitC_each c n r (by simpa using h)
    simp only [splitC] at hp
    split at hp
    · rcases List.mem_cons.1 hp with rfl | hp
      · exact Nat.zero_le _
      · have := ih p hp; omega
    · split at hp
      · simp at hp; rw [hp]; simp
      · rename_i a l' he
        rw [he] at ih
        rcases List.mem_cons.1 hp with rfl | hp
        · have := ih a (List.mem_cons_self ..); simp; omega
        · have := ih p (List.mem_cons_of_mem _ hp); omega
theorem partsB_each (s : List UInt8) (x : ByteArray) (hx : x ∈ partsB s) : x.size ≤ s.length := by
  unfold partsB at hx
  split at hx
  · cases hx
  · obtain ⟨p, hp, rfl⟩ := List.mem_map.1 hx
    have := splitC_each 59 s.length s (Nat.le_refl _) p hp
    show p.toArray.size ≤ _
    simpa using this
end Vz
namespace Vz
/-- The document's answer: byte by byte. -/
def refGo : List UInt8 → Int → List Int → Option (List Int × Int)
  | [], n, out => some (out, n)
  | c :: r, n, out => if c == 59 then refGo r (-1) (out ++ [n]) else if (c.toNat : Int) < 48 ∨ 57 < (c.toNat : Int) then none else refGo r (capd (10 * max n 0 + ((c.toNat : Int) - 48))) out
def refNumbers (s : List UInt8) : List Int × Bool := match refGo s (-1) [] with
  | none => ([], false)
  | some (out, n) => (if s = [] then out else out ++ [n], true)

def refNum (n : Int) (p : List UInt8) : Option Int := if p = [] then some n else numFrom (max n 0) p
def piecesGo : List (List UInt8) → Int → List Int → Option (List Int × Int)
  | [], n, out => some (out, n)
  | [p], n, out => match refNum n p with
    | none => none
    | some v => some (out, v)
  | p :: q :: r, n, out => match refNum n p with
    | none => none
    | some v => piecesGo (q :: r) (-1) (out ++ [v])

theorem refGo_pieces : ∀ (l : List UInt8) (n : Int) (out : List Int), refGo l n out = piecesGo (splitC 59 l) n out
  | [], n, out => by simp [refGo, splitC, piecesGo, refNum]
  | c :: r, n, out => by
    simp only [refGo, splitC]
    by_cases hc : (c == 59) = true
    · rw [if_pos hc, if_pos hc, refGo_pieces r]
      obtain ⟨q, t, hq⟩ : ∃ q t, splitC 59 r = q :: t := by
        cases h : splitC 59 r with
        | nil => exact absurd h (splitC_ne _ _)
        | cons q t => exact ⟨q, t, rfl⟩
      rw [hq]
      simp [piecesGo, refNum]
    · rw [if_neg hc, if_neg hc]
      obtain ⟨a, t, ha⟩ : ∃ q t, splitC 59 r = q :: t := by
        cases h : splitC 59 r with
        | nil => exact absurd h (splitC_ne _ _)
        | cons q t => exact ⟨q, t, rfl⟩
      rw [ha]
      by_cases hd : (c.toNat : Int) < 48 ∨ 57 < (c.toNat : Int)
      · rw [if_pos hd]
        have hn : refNum n (c :: a) = none := by simp [refNum, numFrom, hd]
        cases t <;> simp [piecesGo, hn]
      · rw [if_neg hd, refGo_pieces r, ha]
        have hlo : 0 ≤ capd (10 * max n 0 + ((c.toNat : Int) - 48)) := capd_lo _ (by omega)
        have hn : refNum n (c :: a) = refNum (capd (10 * max n 0 + ((c.toNat : Int) - 48))) a := by
          simp only [refNum, numFrom, hd, if_false, reduceCtorEq]
          cases a with
          | nil => simp [numFrom]
          | cons x a => rw [if_neg (by simp), Int.max_eq_left hlo]
        cases t <;> simp only [piecesGo, hn]

theorem piecesGo_nums : ∀ (ps : List (List UInt8)) (out : List Int), ps ≠ [] → (match piecesGo ps (-1) out with | none => none | some (o, v) => some (o ++ [v])) = (match numsOf (ps.map fun l => ⟨l.toArray⟩) with | none => none | some l => some (out ++ l))
  | [], _, h => absurd rfl h
  | [p], out, _ => by
    simp only [piecesGo, List.map_cons, List.map_nil, numsOf, numB, number, refNum]
    by_cases hp : p = []
    · simp [hp]
    · simp only [hp, if_false]
      rw [show max (-1 : Int) 0 = 0 from rfl]
      cases numFrom 0 p <;> simp
  | p :: q :: r, out, _ => by
    have ih := fun o => piecesGo_nums (q :: r) o (by simp)
    simp only [piecesGo, List.map_cons] at ih ⊢
    rw [numsOf]
    simp only [numB, number, refNum]
    by_cases hp : p = []
    · simp only [hp, if_true]
      rw [ih]
      cases numsOf ({ data := q.toArray } :: List.map (fun l => { data := l.toArray }) r) <;> simp
    · simp only [hp, if_false]
      rw [show max (-1 : Int) 0 = 0 from rfl]
      cases numFrom 0 p with
      | none => simp
      | some v =>
        simp only [if_true]
        rw [ih]
        cases numsOf ({ data := q.toArray } :: List.map (fun l => { data := l.toArray }) r) <;> simp

theorem refNumbers_eq (s : List UInt8) : refNumbers s = numbers s := by
  unfold refNumbers numbers partsB
  rw [refGo_pieces]
  by_cases hs : s = []
  · subst hs; rfl
  · rw [if_neg hs]
    have h := piecesGo_nums (splitC 59 s) [] (splitC_ne _ _)
    cases hp : piecesGo (splitC 59 s) (-1) [] with
    | none =>
      rw [hp] at h
      cases hn : numsOf ((splitC 59 s).map fun l => ⟨l.toArray⟩) with
      | none => rfl
      | some l => rw [hn] at h; cases h
    | some x =>
      obtain ⟨o, v⟩ := x
      rw [hp] at h
      cases hn : numsOf ((splitC 59 s).map fun l => ⟨l.toArray⟩) with
      | none => rw [hn] at h; cases h
      | some l => rw [hn] at h; simp only [if_neg hs]; simpa using h
end Vz
namespace Vz
theorem refGo_step (n : Int) (out : List Int) (s : ByteArray) (k : Nat) (h : k < s.size) :
    refGo (s.data.toList.drop k) n out = if s[k] == 59 then refGo (s.data.toList.drop (k + 1)) (-1) (out ++ [n]) else if (s[k].toNat : Int) < 48 ∨ 57 < (s[k].toNat : Int) then none else refGo (s.data.toList.drop (k + 1)) (capd (10 * max n 0 + ((s[k].toNat : Int) - 48))) out := by
  rw [List.drop_eq_getElem_cons (by simpa using h)]
  simp only [refGo]
  rfl
end Vz
