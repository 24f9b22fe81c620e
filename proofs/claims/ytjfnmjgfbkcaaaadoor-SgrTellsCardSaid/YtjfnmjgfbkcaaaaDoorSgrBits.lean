/- Plain mathematics of layer 13: the program's bits come to the arithmetic. -/
import Derived.Test.YtjfnmjgfbkcaaaaDoorSgrPlain
namespace Vz
open Go
theorem lor_bits : ∀ n, n < 16384 → (n ||| 1 = setB n 1 ∧ n ||| 2 = setB n 2 ∧ n ||| 4 = setB n 4 ∧ n ||| 8 = setB n 8) ∧ n ||| 16 = setB n 16 ∧ n ||| 32 = setB n 32 := fun n h => by
  have := all2_spec 14 0 (fun n => (n ||| 1 == setB n 1 && n ||| 2 == setB n 2 && n ||| 4 == setB n 4 && n ||| 8 == setB n 8) && n ||| 16 == setB n 16 && n ||| 32 == setB n 32) (by decide +kernel) n (Nat.zero_le _) (by simpa using h)
  simp only [Bool.and_eq_true, beq_iff_eq] at this
  obtain ⟨⟨⟨⟨⟨h1, h2⟩, h3⟩, h4⟩, h5⟩, h6⟩ := this
  exact ⟨⟨h1, h2, h3, h4⟩, h5, h6⟩
theorem clr_bits : ∀ n, n < 16384 → (n ^^^ (n &&& 3) = n - n % 4 ∧ n ^^^ (n &&& 4) = clrB n 4 ∧ n ^^^ (n &&& 8) = clrB n 8) ∧ n ^^^ (n &&& 16) = clrB n 16 ∧ n ^^^ (n &&& 32) = clrB n 32 := fun n h => by
  have := all2_spec 14 0 (fun n => (n ^^^ (n &&& 3) == n - n % 4 && n ^^^ (n &&& 4) == clrB n 4 && n ^^^ (n &&& 8) == clrB n 8) && n ^^^ (n &&& 16) == clrB n 16 && n ^^^ (n &&& 32) == clrB n 32) (by decide +kernel) n (Nat.zero_le _) (by simpa using h)
  simp only [Bool.and_eq_true, beq_iff_eq] at this
  obtain ⟨⟨⟨⟨h1, h2⟩, h3⟩, h4⟩, h5⟩ := this
  exact ⟨⟨h1, h2, h3⟩, h4, h5⟩
theorem col_bits : ∀ n, n < 16384 → n ||| 1792 = n - n / 256 % 8 * 256 + 1792 ∧ n ^^^ (n &&& 1792) = n - n / 256 % 8 * 256 ∧ n ^^^ (n &&& 14336) = n % 2048 ∧ n &&& 1792 = n / 256 % 8 * 256 ∧ n &&& 14336 = n / 2048 * 2048 := fun n h => by
  have := all2_spec 14 0 (fun n => n ||| 1792 == n - n / 256 % 8 * 256 + 1792 && n ^^^ (n &&& 1792) == n - n / 256 % 8 * 256 && n ^^^ (n &&& 14336) == n % 2048 && n &&& 1792 == n / 256 % 8 * 256 && n &&& 14336 == n / 2048 * 2048) (by decide +kernel) n (Nat.zero_le _) (by simpa using h)
  simp only [Bool.and_eq_true, beq_iff_eq] at this
  obtain ⟨⟨⟨⟨h1, h2⟩, h3⟩, h4⟩, h5⟩ := this
  exact ⟨h1, h2, h3, h4, h5⟩
theorem land_more : ∀ n, n < 16384 → (n &&& 128 != 0) = (n / 128 % 2 == 1) ∧ n &&& 16128 = n / 256 * 256 := fun n h => by
  have := all2_spec 14 0 (fun n => ((n &&& 128 != 0) == (n / 128 % 2 == 1)) && n &&& 16128 == n / 256 * 256) (by decide +kernel) n (Nat.zero_le _) (by simpa using h)
  simp only [Bool.and_eq_true, beq_iff_eq] at this
  exact this
theorem col_or : ∀ n, n < 64 → n ||| 1856 = n + 1856 := by decide +kernel
/-- A colour beside what has none: fore. -/
theorem fore_or (m k : Nat) (hm : m < 16384) (h : m / 256 % 8 = 0) (hk : k < 8) : m ||| k * 256 = m + k * 256 := by
  have := all2_spec 14 0 (fun n => ((n % 256 + n / 2048 * 2048) ||| (n / 256 % 8) * 256) == (n % 256 + n / 2048 * 2048) + (n / 256 % 8) * 256) (by decide +kernel) (m + k * 256) (Nat.zero_le _) (by simp; omega)
  simp only [beq_iff_eq] at this
  rw [show (m + k * 256) % 256 + (m + k * 256) / 2048 * 2048 = m by omega, show (m + k * 256) / 256 % 8 = k by omega] at this
  exact this
theorem back_or (m k : Nat) (hm : m < 2048) (hk : k < 8) : m ||| k * 2048 = m + k * 2048 := by
  have := all2_spec 14 0 (fun n => ((n % 2048) ||| (n / 2048) * 2048) == (n % 2048) + (n / 2048) * 2048) (by decide +kernel) (m + k * 2048) (Nat.zero_le _) (by simp; omega)
  simp only [beq_iff_eq] at this
  rw [show (m + k * 2048) % 2048 = m by omega, show (m + k * 2048) / 2048 = k by omega] at this
  exact this
end Vz
