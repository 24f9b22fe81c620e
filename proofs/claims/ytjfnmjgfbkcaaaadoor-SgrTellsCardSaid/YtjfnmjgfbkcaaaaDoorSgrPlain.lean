/- Plain mathematics of layer 13: what a number makes of attributes, in arithmetic. -/
import Derived.Test.YtjfnmjgfbkcaaaaDoorAttrPlain
namespace Vz
open Go

def setB (n b : Nat) : Nat := n + b - n / b % 2 * b
def clrB (n b : Nat) : Nat := n - n / b % 2 * b
def colN (n : Nat) : Nat := if n / 64 % 2 = 1 then n else n + 1856
/-- What a colour's number makes of attributes. -/
def colourN (n : Nat) (x : Int) : Nat :=
  if 30 ≤ x ∧ x < 38 then colN n - colN n / 256 % 8 * 256 + (x - 30).toNat * 256
  else if 40 ≤ x ∧ x < 48 then colN n % 2048 + (x - 40).toNat * 2048
  else if n / 64 % 2 = 0 then n
  else if x = 39 then n - n / 256 % 8 * 256 + 1792
  else if x = 49 then n % 2048
  else n
/-- What a number makes of attributes. -/
def oneN (n : Nat) (x : Int) : Nat :=
  if x = 0 then 0
  else if x = 1 then setB n 1
  else if x = 2 then setB n 2
  else if x = 4 then setB n 4
  else if x = 5 then setB n 8
  else if x = 7 then setB n 16
  else if x = 8 then setB n 32
  else if x = 22 then n - n % 4
  else if x = 24 then clrB n 4
  else if x = 25 then clrB n 8
  else if x = 27 then clrB n 16
  else if x = 28 then clrB n 32
  else colourN n x
def MayP (n : Nat) : Prop := n < 16384 ∧ n / 128 % 2 = 0 ∧ (n / 64 % 2 = 1 ∨ n < 64)
theorem mayP_iff (n : Nat) : mayI n = true ↔ MayP n := by
  rw [mayI_nat]; unfold mayN MayP
  simp
theorem mayI_ge {a : Int} (h : mayI a = true) : 0 ≤ a := by
  unfold mayI at h; simp at h; omega
theorem mayP_small (n : Nat) (h : MayP n) (h6 : n / 64 % 2 = 0) : n < 64 := by unfold MayP at h; omega
theorem mayP_colN (n : Nat) (h : MayP n) : MayP (colN n) ∧ colN n / 64 % 2 = 1 ∧ colN n % 64 = n % 64 := by
  unfold MayP at h; unfold colN MayP; split <;> omega
theorem ite_ind {P : Nat → Prop} {c : Prop} [Decidable c] {a b : Nat} (h1 : c → P a) (h2 : ¬ c → P b) : P (if c then a else b) := by
  by_cases h : c
  · rw [if_pos h]; exact h1 h
  · rw [if_neg h]; exact h2 h
theorem mayP_one (n : Nat) (x : Int) (h : MayP n) : MayP (oneN n x) := by
  unfold oneN colourN
  obtain ⟨c1, c2, c3⟩ := mayP_colN n h
  unfold MayP at h c1
  generalize colN n = c at c1 c2 c3
  unfold setB clrB
  repeat' refine ite_ind (P := MayP) (fun _ => ?_) (fun _ => ?_)
  all_goals (unfold MayP; omega)
theorem mayP_zero : MayP 0 := by unfold MayP; decide

end Vz
