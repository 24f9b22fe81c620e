/- Plain: the words of a text, and the attributes that they say. -/
import Derived.Test.YtdakiocgaihcnaaDoorNamesPlain
namespace Vz
def splitC : List UInt8 → List (List UInt8)
  | [] => [[]]
  | c :: r => if c = 44 then [] :: splitC r else match splitC r with
    | [] => [[c]]
    | x :: xs => (c :: x) :: xs
def colourD (w p : List UInt8) : Option Nat := match (if p.isPrefixOf w then w.drop p.length else []) with
  | [d] => if 48 ≤ d.toNat ∧ d.toNat < 56 then some (d.toNat - 48) else none
  | _ => none
def foreW : List UInt8 := [102, 111, 114, 101, 61]
def backW : List UInt8 := [98, 97, 99, 107, 61]
def toldL (w : List UInt8) : Nat :=
  if w = wordAt 0 then 1 else if w = wordAt 1 then 2 else if w = wordAt 2 then 4 else if w = wordAt 3 then 8 else if w = wordAt 4 then 16 else if w = wordAt 5 then 32
  else match colourD w foreW with
    | some c => 64 ||| (c * 256)
    | none => match colourD w backW with
      | some c => 64 ||| (c * 2048)
      | none => 0
def orW (l : List (List UInt8)) : Nat := l.foldl (fun a w => a ||| toldL w) 0
def parseL (s : List UInt8) : Nat := orW (splitC s)

theorem splitC_ne (s : List UInt8) : splitC s ≠ [] := by
  cases s with
  | nil => simp [splitC]
  | cons c r =>
    simp only [splitC]
    split
    · simp
    · split <;> simp
theorem splitC_word (x : List UInt8) (h : 44 ∉ x) : splitC x = [x] := by
  induction x with
  | nil => rfl
  | cons c r ih =>
    have h1 : c ≠ 44 := fun e => h (by simp [e])
    have h2 : 44 ∉ r := fun e => h (by simp [e])
    simp only [splitC, if_neg h1, ih h2]
theorem splitC_app (x r : List UInt8) (h : 44 ∉ x) : splitC (x ++ 44 :: r) = x :: splitC r := by
  induction x with
  | nil => simp [splitC]
  | cons c y ih =>
    have h1 : c ≠ 44 := fun e => h (by simp [e])
    have h2 : 44 ∉ y := fun e => h (by simp [e])
    simp only [List.cons_append, splitC, if_neg h1, ih h2]
theorem splitC_join : ∀ l : List (List UInt8), l ≠ [] → (∀ w ∈ l, 44 ∉ w) → splitC (joinC l) = l
  | [], h, _ => absurd rfl h
  | [x], _, h => splitC_word x (h x (by simp))
  | x :: y :: r, _, h => by
    simp only [joinC]
    rw [splitC_app x _ (h x (by simp)), splitC_join (y :: r) (by simp) (fun w hw => h w (List.mem_cons_of_mem _ hw))]
theorem wordAt_44 (k : Nat) : 44 ∉ wordAt k := by
  unfold wordAt; split <;> decide
theorem wordsK_44 (n : Nat) : ∀ k, ∀ w ∈ wordsK n k, 44 ∉ w
  | 0, w, h => by simp [wordsK] at h
  | k + 1, w, h => by
    simp only [wordsK] at h
    split at h
    · rcases List.mem_append.1 h with h | h
      · exact wordsK_44 n k w h
      · rw [List.mem_singleton.1 h]; exact wordAt_44 k
    · exact wordsK_44 n k w h
theorem digit_44 (c : Nat) (h : c < 8) : 44 ∉ digitB1 c := by
  obtain rfl | rfl | rfl | rfl | rfl | rfl | rfl | rfl : c = 0 ∨ c = 1 ∨ c = 2 ∨ c = 3 ∨ c = 4 ∨ c = 5 ∨ c = 6 ∨ c = 7 := by omega
  all_goals decide
theorem wordsAll_44 (n : Nat) : ∀ w ∈ wordsAll n, 44 ∉ w := by
  intro w h
  unfold wordsAll at h
  split at h
  · rcases List.mem_append.1 h with h | h
    · exact wordsK_44 n 6 w h
    · have d1 := digit_44 (n / 256 % 8) (by omega)
      have d2 := digit_44 (n / 2048 % 8) (by omega)
      simp at h
      rcases h with rfl | rfl
      · simp [d1]
      · simp [d2]
  · exact wordsK_44 n 6 w h
theorem orW_words : ∀ n, n < 16384 → mayN n = true → orW (wordsAll n) = n := fun n h hm => by
  have := all2_spec 14 0 (fun n => !mayN n || orW (wordsAll n) == n) (by decide +kernel) n (Nat.zero_le _) (by simpa using h)
  rw [hm] at this
  simpa using this
theorem parse_names (n : Nat) (hm : mayI n = true) : parseL (namesL n) = n := by
  rw [mayI_nat] at hm
  simp only [Bool.and_eq_true, decide_eq_true_eq] at hm
  have hw := orW_words n hm.1 hm.2
  unfold namesL parseL
  split
  · rename_i h
    rw [h] at hw
    rw [← hw]
    decide
  · rename_i h
    rw [splitC_join _ h (wordsAll_44 n), hw]
theorem names_inj (n m : Nat) (hn : mayI n = true) (hm : mayI m = true) (h : namesL n = namesL m) : n = m := by
  rw [← parse_names n hn, ← parse_names m hm, h]
end Vz
