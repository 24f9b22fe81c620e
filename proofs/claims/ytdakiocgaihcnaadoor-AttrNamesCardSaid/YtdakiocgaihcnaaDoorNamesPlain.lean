/- Plain: attributes as a text. -/
import Derived.Test.YtdakiocgaihcnaaDoorAttrPlainB
import Derived.Lib.Strings
import Derived.Lib.Join
namespace Vz
def wordAt (k : Nat) : List UInt8 := match k with
  | 0 => [98, 111, 108, 100]
  | 1 => [100, 105, 109]
  | 2 => [117, 110, 100, 101, 114]
  | 3 => [98, 108, 105, 110, 107]
  | 4 => [114, 101, 118, 101, 114, 115, 101]
  | _ => [104, 105, 100, 100, 101, 110]
/-- The words of the first k bits that a number has. -/
def wordsK (n : Nat) : Nat → List (List UInt8)
  | 0 => []
  | k + 1 => if n / 2 ^ k % 2 = 1 then wordsK n k ++ [wordAt k] else wordsK n k
def digitB1 (c : Nat) : List UInt8 := [(48 + c).toUInt8]
def wordsAll (n : Nat) : List (List UInt8) := if n / 64 % 2 = 1 then wordsK n 6 ++ [[102, 111, 114, 101, 61] ++ digitB1 (n / 256 % 8), [98, 97, 99, 107, 61] ++ digitB1 (n / 2048 % 8)] else wordsK n 6
def joinC : List (List UInt8) → List UInt8
  | [] => []
  | [x] => x
  | x :: y :: r => x ++ 44 :: joinC (y :: r)
def namesL (n : Nat) : List UInt8 := if wordsAll n = [] then [112, 108, 97, 105, 110] else joinC (wordsAll n)
theorem wordsK_len (n k : Nat) : (wordsK n k).length ≤ k := by
  induction k with
  | zero => simp [wordsK]
  | succ k ih =>
    simp only [wordsK]
    split
    · rw [List.length_append]; simp; omega
    · omega
end Vz
namespace Vz
theorem joinC_len : ∀ l : List (List UInt8), (∀ w ∈ l, w.length ≤ 7) → (joinC l).length ≤ 8 * l.length
  | [], _ => by simp [joinC]
  | [x], h => by have := h x (by simp); simp [joinC]; omega
  | x :: y :: r, h => by
    have ih := joinC_len (y :: r) (fun w hw => h w (List.mem_cons_of_mem _ hw))
    have := h x (by simp)
    simp only [joinC, List.length_append, List.length_cons] at ih ⊢
    omega
theorem wordAt_len (k : Nat) : (wordAt k).length ≤ 7 := by
  unfold wordAt; split <;> decide
theorem wordsK_each (n : Nat) : ∀ k, ∀ w ∈ wordsK n k, w.length ≤ 7
  | 0, w, h => by simp [wordsK] at h
  | k + 1, w, h => by
    simp only [wordsK] at h
    split at h
    · rcases List.mem_append.1 h with h | h
      · exact wordsK_each n k w h
      · rw [List.mem_singleton.1 h]; exact wordAt_len k
    · exact wordsK_each n k w h
theorem wordsAll_each (n : Nat) : ∀ w ∈ wordsAll n, w.length ≤ 7 := by
  intro w h
  unfold wordsAll at h
  split at h
  · rcases List.mem_append.1 h with h | h
    · exact wordsK_each n 6 w h
    · simp at h
      rcases h with rfl | rfl <;> simp [digitB1]
  · exact wordsK_each n 6 w h
theorem wordsAll_len (n : Nat) : (wordsAll n).length ≤ 8 := by
  have := wordsK_len n 6
  unfold wordsAll
  split
  · simp; omega
  · omega
theorem join_len (n : Nat) : (joinC (wordsAll n)).length ≤ 64 := by
  have := joinC_len _ (wordsAll_each n)
  have := wordsAll_len n
  omega
end Vz
namespace Vz
theorem lib_join : ∀ l : List (List UInt8), Go.Lib.join l [44] = joinC l
  | [] => by simp [Go.Lib.join, joinC, List.intercalate]
  | [x] => by rw [Go.Lib.join_one]; rfl
  | x :: y :: r => by
    have ih := lib_join (y :: r)
    have : Go.Lib.join (x :: y :: r) [44] = x ++ ([44] ++ Go.Lib.join (y :: r) [44]) := by
      simp [Go.Lib.join, List.intercalate]
    rw [this, ih]
    simp [joinC]
end Vz
