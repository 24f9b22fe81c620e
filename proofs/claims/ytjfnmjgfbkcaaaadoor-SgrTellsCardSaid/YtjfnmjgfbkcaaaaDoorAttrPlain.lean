/- Plain mathematics of attributes. -/
import Derived.Test.YtjfnmjgfbkcaaaaDoorBits
namespace Vz
/-- May attributes be? -/
def mayI (a : Int) : Bool := decide (0 ≤ a) && decide (a < 16384) && !(a / 128 % 2 == 1) && (a / 64 % 2 == 1 || decide (a < 64))
def mayN (n : Nat) : Bool := !(n / 128 % 2 == 1) && (n / 64 % 2 == 1 || decide (n < 64))
theorem mayI_nat (n : Nat) : mayI n = (decide (n < 16384) && mayN n) := by
  unfold mayI mayN
  have e1 : ((n : Int) / 128 % 2 == 1) = (n / 128 % 2 == 1) := by rw [Bool.eq_iff_iff]; simp; omega
  have e2 : ((n : Int) / 64 % 2 == 1) = (n / 64 % 2 == 1) := by rw [Bool.eq_iff_iff]; simp; omega
  have e3 : decide ((n : Int) < 16384) = decide (n < 16384) := by rw [Bool.eq_iff_iff]; simp; omega
  have e4 : decide ((n : Int) < 64) = decide (n < 64) := by rw [Bool.eq_iff_iff]; simp; omega
  have e5 : decide (0 ≤ (n : Int)) = true := by simp
  rw [e1, e2, e3, e4, e5]
  simp [Bool.and_assoc]
/-- The program's own tests. -/
def mayT (n : Nat) : Bool := (n ^^^ (n &&& 16255)) == 0 && !((n &&& 64) == 0 && (n &&& 16128) != 0)
theorem mayT_small : ∀ n, n < 16384 → mayT n = mayN n := fun n h => by
  have := all2_spec 14 0 (fun n => mayT n == mayN n) (by decide +kernel) n (Nat.zero_le _) (by simpa using h)
  simpa using this
theorem mayT_eq (n : Nat) : mayI n = mayT n := by
  rw [mayI_nat]
  by_cases h : n < 16384
  · rw [mayT_small n h]; simp [h]
  · have : mayT n = false := by
      unfold mayT
      have hne : (n ^^^ (n &&& 16255)) ≠ 0 := fun e => by have := le_of_andNot e; omega
      simp [hne]
    rw [this]; simp [h]
end Vz
namespace Vz
open Go
theorem land_bits : ∀ n, n < 16384 → ((n &&& 1 != 0) = (n % 2 == 1) ∧ (n &&& 2 != 0) = (n / 2 % 2 == 1) ∧ (n &&& 4 != 0) = (n / 4 % 2 == 1) ∧ (n &&& 8 != 0) = (n / 8 % 2 == 1)) ∧ (n &&& 16 != 0) = (n / 16 % 2 == 1) ∧ (n &&& 32 != 0) = (n / 32 % 2 == 1) ∧ (n &&& 64 != 0) = (n / 64 % 2 == 1) ∧ (n &&& 63) = n % 64 := fun n h => by
  have := all2_spec 14 0 (fun n => ((n &&& 1 != 0) == (n % 2 == 1) && (n &&& 2 != 0) == (n / 2 % 2 == 1) && (n &&& 4 != 0) == (n / 4 % 2 == 1) && (n &&& 8 != 0) == (n / 8 % 2 == 1)) && (n &&& 16 != 0) == (n / 16 % 2 == 1) && (n &&& 32 != 0) == (n / 32 % 2 == 1) && (n &&& 64 != 0) == (n / 64 % 2 == 1) && (n &&& 63) == n % 64) (by decide +kernel) n (Nat.zero_le _) (by simpa using h)
  simp only [Bool.and_eq_true, beq_iff_eq] at this
  obtain ⟨⟨⟨⟨⟨⟨⟨h1, h2⟩, h3⟩, h4⟩, h5⟩, h6⟩, h7⟩, h8⟩ := this
  exact ⟨⟨h1, h2, h3, h4⟩, h5, h6, h7, h8⟩
theorem and_test (n m : Nat) (hn : n < 9223372036854775808) (hm : m < 9223372036854775808) : (bits .and .i64 (n : Int) (m : Int) != 0) = (n &&& m != 0) := by
  rw [and64 n m hn hm, Bool.eq_iff_iff, bne_iff_ne, bne_iff_ne]; omega
theorem and_test0 (n m : Nat) (hn : n < 9223372036854775808) (hm : m < 9223372036854775808) : (bits .and .i64 (n : Int) (m : Int) == 0) = (n &&& m == 0) := by
  rw [and64 n m hn hm, Bool.eq_iff_iff, beq_iff_eq, beq_iff_eq]; omega

/-- The document's answer: the colours that are seen. -/
def coloursI (a : Int) : Int × Int :=
  if mayI a = true then
    let f := if (a / 64 % 2 == 1) = true then a / 256 % 8 else 7
    let b := if (a / 64 % 2 == 1) = true then a / 2048 % 8 else 0
    let c := if (a / 16 % 2 == 1) = true then (b, f) else (f, b)
    (if (a / 32 % 2 == 1) = true then c.2 else c.1, c.2)
  else (7, 0)
end Vz
