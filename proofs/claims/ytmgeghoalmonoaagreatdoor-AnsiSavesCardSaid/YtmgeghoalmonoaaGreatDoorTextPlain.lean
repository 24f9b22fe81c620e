import Derived.Test.YtmgeghoalmonoaaGreatDoorPlainB
import Derived.Lib.ItoaNum
import Derived.Lib.ItoaMem
import Derived.Lib.Join

/- Plain mathematics: the text of numbers. -/
namespace Vz
/-- Cut to what may be told. -/
def clipN (x : Int) : Nat := (min (max x 0) 9999).toNat
theorem clipN_le (x : Int) : clipN x ≤ 9999 := by unfold clipN; omega
theorem clipN_int (x : Int) : min (max x 0) 9999 = (clipN x : Int) := by unfold clipN; omega
/-- A number's digits. -/
def digN (n : Nat) : List UInt8 := Go.Lib.decDigits n
theorem digN_small (n : Nat) (h : n < 10) : digN n = [UInt8.ofNat (48 + n)] := by unfold digN; rw [Go.Lib.decDigits, dif_pos h]
theorem digN_big (n : Nat) (h : ¬ n < 10) : digN n = digN (n / 10) ++ [UInt8.ofNat (48 + n % 10)] := by unfold digN; rw [Go.Lib.decDigits, dif_neg h]
theorem digN_ne (n : Nat) : digN n ≠ [] := by
  by_cases h : n < 10
  · rw [digN_small n h]; simp
  · rw [digN_big n h]; simp
theorem dig_val (d : Nat) (h : d < 10) : ((UInt8.ofNat (48 + d)).toNat : Int) = 48 + d := by
  have : (UInt8.ofNat (48 + d)).toNat = 48 + d := by simp; omega
  rw [this]; omega
theorem numFrom_snoc (l : List UInt8) (c : UInt8) : ∀ n, numFrom n (l ++ [c]) = (numFrom n l).bind fun m => numFrom m [c] := by
  induction l with
  | nil => intro n; rfl
  | cons x r ih =>
    intro n
    simp only [List.cons_append, numFrom]
    split
    · rfl
    · exact ih _
theorem digN_num : ∀ (k n : Nat), n ≤ 9999 → n < 10 ^ k → (∀ x ∈ digN n, digitB x) ∧ numFrom 0 (digN n) = some (n : Int) ∧ (digN n).length ≤ k + 1
  | 0, n, _, h => by
    obtain rfl : n = 0 := by simpa using h
    rw [digN_small 0 (by decide)]
    refine ⟨by simp [digitB], ?_, by simp⟩
    decide
  | k + 1, n, h9, h => by
    by_cases hs : n < 10
    · rw [digN_small n hs]
      have hd := dig_val n hs
      refine ⟨?_, ?_, by simp⟩
      · intro x hx
        obtain rfl := List.mem_singleton.1 hx
        unfold digitB
        omega
      · simp only [numFrom]
        rw [if_neg (by omega), hd]
        unfold capd
        rw [if_neg (by omega)]
        congr 1; omega
    · obtain ⟨i1, i2, i3⟩ := digN_num k (n / 10) (by omega) (by rw [Nat.pow_succ] at h; omega)
      rw [digN_big n hs]
      have hd := dig_val (n % 10) (by omega)
      refine ⟨?_, ?_, by simp; omega⟩
      · intro x hx
        rcases List.mem_append.1 hx with hx | hx
        · exact i1 x hx
        · obtain rfl := List.mem_singleton.1 hx
          unfold digitB
          omega
      · rw [numFrom_snoc, i2]
        simp only [Option.bind_some, numFrom]
        rw [if_neg (by omega), hd]
        unfold capd
        rw [if_neg (by omega)]
        congr 1; omega
theorem digN_len (n : Nat) (h : n ≤ 9999) : (digN n).length ≤ 5 := (digN_num 4 n h (by omega)).2.2
theorem numbers_dig (n : Nat) (h : n ≤ 9999) : numbers (digN n) = ([(n : Int)], true) := by
  obtain ⟨h1, h2, -⟩ := digN_num 4 n h (by omega)
  obtain ⟨v, hv, -, hn⟩ := numbers_digits (digN n) (digN_ne n) h1
  rw [h2] at hv
  cases hv
  exact hn

/-- The numbers, with semicolons between. -/
def semi (l : List Int) : List UInt8 := match l with
  | [] => []
  | [x] => digN (clipN x)
  | x :: r => digN (clipN x) ++ 59 :: semi r
theorem semi_cons (x y : Int) (r : List Int) : semi (x :: y :: r) = digN (clipN x) ++ 59 :: semi (y :: r) := rfl
theorem semi_ne : ∀ (l : List Int), l ≠ [] → semi l ≠ []
  | [], h => absurd rfl h
  | [x], _ => digN_ne _
  | x :: y :: r, _ => by rw [semi_cons]; simp
theorem semi_len : ∀ (l : List Int), (semi l).length ≤ 6 * l.length
  | [] => by simp [semi]
  | [x] => by have := digN_len _ (clipN_le x); simp [semi]; omega
  | x :: y :: r => by
    have ih := semi_len (y :: r)
    have := digN_len _ (clipN_le x)
    rw [semi_cons]
    simp at ih ⊢
    omega
theorem numbers_semi : ∀ (l : List Int), l ≠ [] → numbers (semi l) = (l.map fun x => ((clipN x : Nat) : Int), true)
  | [], h => absurd rfl h
  | [x], _ => numbers_dig _ (clipN_le x)
  | x :: y :: r, _ => by
    have ih := numbers_semi (y :: r) (by simp)
    rw [semi_cons, numbers_join _ _ (digN_ne _) (semi_ne _ (by simp)), numbers_dig _ (clipN_le x), ih]
    simp
theorem join_semi : ∀ l : List Int, Go.Lib.join (l.map fun x => digN (clipN x)) [59] = semi l
  | [] => by simp [Go.Lib.join, semi, List.intercalate]
  | [x] => by simp [Go.Lib.join, semi, List.intercalate]
  | x :: y :: r => by
    have ih := join_semi (y :: r)
    have : Go.Lib.join ((x :: y :: r).map fun x => digN (clipN x)) [59] = digN (clipN x) ++ ([59] ++ Go.Lib.join ((y :: r).map fun x => digN (clipN x)) [59]) := by
      simp [Go.Lib.join, List.intercalate]
    rw [this, ih, semi_cons]
    simp
theorem semi_snoc : ∀ (l : List Int) (x : Int), l ≠ [] → semi (l ++ [x]) = semi l ++ 59 :: digN (clipN x)
  | [], x, h => absurd rfl h
  | [y], x, _ => rfl
  | y :: z :: r, x, _ => by
    have ih := semi_snoc (z :: r) x (by simp)
    simp only [List.cons_append] at ih ⊢
    rw [semi_cons, ih, semi_cons]
    simp
/-- The sequence of numbers. -/
def textL (l : List Int) : List UInt8 := [27, 91] ++ semi l ++ [109]
end Vz
