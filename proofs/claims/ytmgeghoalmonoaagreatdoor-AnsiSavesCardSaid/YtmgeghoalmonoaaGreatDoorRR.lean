import Derived.Laws.BitsAllLaws
import Derived.Laws.BitsLemmas
import Derived.Laws.Entries

set_option maxRecDepth 100000
set_option maxHeartbeats 16000000
/- Bits of ints that are not below 0, as operations on Nat; a look over all numbers below a power of two. -/
namespace Vz
open Go
theorem ofInt64 (a : Nat) (_ha : a < 9223372036854775808) : BitVec.ofInt 64 (a : Int) = BitVec.ofNat 64 a := by
 rw [BitVec.ofInt_natCast]
theorem toNat64 (a : Nat) (ha : a < 9223372036854775808) : (BitVec.ofNat 64 a).toNat = a := by
 rw [BitVec.toNat_ofNat]; exact Nat.mod_eq_of_lt (by omega)
theorem and64 (a b : Nat) (ha : a < 9223372036854775808) (hb : b < 9223372036854775808) : bits .and .i64 (a : Int) (b : Int) = ((a &&& b : Nat) : Int) := by
 have hx : a &&& b < 2 ^ 63 := Nat.and_lt_two_pow _ (by omega)
 show IntKind.i64.wrap ((BitVec.ofInt 64 (a : Int) &&& BitVec.ofInt 64 (b : Int)).toNat : Int) = _
 rw [BitVec.toNat_and, ofInt64 a ha, ofInt64 b hb, toNat64 a ha, toNat64 b hb, IntKind.wrap_i64]
 omega
theorem or64 (a b : Nat) (ha : a < 9223372036854775808) (hb : b < 9223372036854775808) : bits .or .i64 (a : Int) (b : Int) = ((a ||| b : Nat) : Int) := by
 have hx : a ||| b < 2 ^ 63 := Nat.or_lt_two_pow (by omega) (by omega)
 show IntKind.i64.wrap ((BitVec.ofInt 64 (a : Int) ||| BitVec.ofInt 64 (b : Int)).toNat : Int) = _
 rw [BitVec.toNat_or, ofInt64 a ha, ofInt64 b hb, toNat64 a ha, toNat64 b hb, IntKind.wrap_i64]
 omega
theorem xor64 (a b : Nat) (ha : a < 9223372036854775808) (hb : b < 9223372036854775808) : bits .xor .i64 (a : Int) (b : Int) = ((a ^^^ b : Nat) : Int) := by
 have hx : a ^^^ b < 2 ^ 63 := Nat.xor_lt_two_pow (by omega) (by omega)
 show IntKind.i64.wrap ((BitVec.ofInt 64 (a : Int) ^^^ BitVec.ofInt 64 (b : Int)).toNat : Int) = _
 rw [BitVec.toNat_xor, ofInt64 a ha, ofInt64 b hb, toNat64 a ha, toNat64 b hb, IntKind.wrap_i64]
 omega
theorem bv_andNot (x y : BitVec 64) : x &&& ~~~y = x ^^^ (x &&& y) := by
 ext i
 simp only [BitVec.getElem_and, BitVec.getElem_not, BitVec.getElem_xor]
 cases x[i] <;> cases y[i] <;> rfl
theorem andNot64 (a b : Nat) (ha : a < 9223372036854775808) (hb : b < 9223372036854775808) : bits .andNot .i64 (a : Int) (b : Int) = ((a ^^^ (a &&& b) : Nat) : Int) := by
 have hx : a ^^^ (a &&& b) < 2 ^ 63 := Nat.xor_lt_two_pow (by omega) (Nat.and_lt_two_pow _ (by omega))
 show IntKind.i64.wrap ((BitVec.ofInt 64 (a : Int) &&& ~~~ BitVec.ofInt 64 (b : Int)).toNat : Int) = _
 rw [bv_andNot, BitVec.toNat_xor, BitVec.toNat_and, ofInt64 a ha, ofInt64 b hb, toNat64 a ha, toNat64 b hb, IntKind.wrap_i64]
 omega
theorem le_of_andNot {a b : Nat} (h : a ^^^ (a &&& b) = 0) : a ≤ b := by
 have e : a = a &&& b := by
  have h2 : a ^^^ (a &&& b) ^^^ (a &&& b) = 0 ^^^ (a &&& b) := by rw [h]
  rw [Nat.xor_assoc, Nat.xor_self, Nat.xor_zero, Nat.zero_xor] at h2
  exact h2
 rw [e]; exact Nat.and_le_right
def all2 : Nat → Nat → (Nat → Bool) → Bool
 | 0, base, p => p base
 | k + 1, base, p => all2 k base p && all2 k (base + 2 ^ k) p
theorem all2_spec : ∀ (k base : Nat) (p : Nat → Bool), all2 k base p = true → ∀ n, base ≤ n → n < base + 2 ^ k → p n = true
 | 0, base, p, h, n, h1, h2 => by
   obtain rfl : n = base := by simp at h2; omega
   exact h
 | k + 1, base, p, h, n, h1, h2 => by
   simp only [all2, Bool.and_eq_true] at h
   have e : 2 ^ (k + 1) = 2 ^ k + 2 ^ k := by rw [Nat.pow_succ]; omega
   by_cases hn : n < base + 2 ^ k
   · exact all2_spec k base p h.1 n h1 hn
   · exact all2_spec k (base + 2 ^ k) p h.2 n (by omega) (by omega)
end Vz
/- Plain mathematics of attributes. -/
namespace Vz
def mayI (a : Int) : Bool := decide (0 ≤ a) && decide (a < 16384) && !(a / 128 % 2 == 1) && (a / 64 % 2 == 1 || decide (a < 64))
def mayN (n : Nat) : Bool := !(n / 128 % 2 == 1) && (n / 64 % 2 == 1 || decide (n < 64))
theorem mayI_nat (n : Nat) : mayI n = (decide (n < 16384) && mayN n) := by
 unfold mayI mayN
 have e1 : ((n : Int) / 128 % 2 == 1) = (n / 128 % 2 == 1) := by rw [Bool.eq_iff_iff]; simp; omega
 have e2 : ((n : Int) / 64 % 2 == 1) = (n / 64 % 2 == 1) := by rw [Bool.eq_iff_iff]; simp; omega
 have e3 : decide ((n : Int) < 16384) = decide (n < 16384) := by rw [Bool.eq_iff_iff]; simp; omega
 have e4 : decide ((n : Int) < 64) = decide (n < 64) := by rw [Bool.eq_iff_iff]; simp; omega
 have e5 : decide (0 ≤ (n : Int)) = true := by simp
 rw [e1, e2, e3, e4, e5]
 simp [Bool.and_assoc]
def mayT (n : Nat) : Bool := (n ^^^ (n &&& 16255)) == 0 && !((n &&& 64) == 0 && (n &&& 16128) != 0)
theorem mayT_small : ∀ n, n < 16384 → mayT n = mayN n := fun n h => by
 have := all2_spec 14 0 (fun n => mayT n == mayN n) (by decide +kernel) n (Nat.zero_le _) (by simpa using h)
 simpa using this
theorem mayT_eq (n : Nat) : mayI n = mayT n := by
 rw [mayI_nat]
 by_cases h : n < 16384
 · rw [mayT_small n h]; simp [h]
 · have : mayT n = false := by
    unfold mayT
    have hne : (n ^^^ (n &&& 16255)) ≠ 0 := fun e => by have := le_of_andNot e; omega
    simp [hne]
   rw [this]; simp [h]
end Vz
namespace Vz
open Go
theorem land_bits : ∀ n, n < 16384 → ((n &&& 1 != 0) = (n % 2 == 1) ∧ (n &&& 2 != 0) = (n / 2 % 2 == 1) ∧ (n &&& 4 != 0) = (n / 4 % 2 == 1) ∧ (n &&& 8 != 0) = (n / 8 % 2 == 1)) ∧ (n &&& 16 != 0) = (n / 16 % 2 == 1) ∧ (n &&& 32 != 0) = (n / 32 % 2 == 1) ∧ (n &&& 64 != 0) = (n / 64 % 2 == 1) ∧ (n &&& 63) = n % 64 := fun n h => by
 have := all2_spec 14 0 (fun n => ((n &&& 1 != 0) == (n % 2 == 1) && (n &&& 2 != 0) == (n / 2 % 2 == 1) && (n &&& 4 != 0) == (n / 4 % 2 == 1) && (n &&& 8 != 0) == (n / 8 % 2 == 1)) && (n &&& 16 != 0) == (n / 16 % 2 == 1) && (n &&& 32 != 0) == (n / 32 % 2 == 1) && (n &&& 64 != 0) == (n / 64 % 2 == 1) && (n &&& 63) == n % 64) (by decide +kernel) n (Nat.zero_le _) (by simpa using h)
 simp only [Bool.and_eq_true, beq_iff_eq] at this
 obtain ⟨⟨⟨⟨⟨⟨⟨h1, h2⟩, h3⟩, h4⟩, h5⟩, h6⟩, h7⟩, h8⟩ := this
 exact ⟨⟨h1, h2, h3, h4⟩, h5, h6, h7, h8⟩
theorem and_test (n m : Nat) (hn : n < 9223372036854775808) (hm : m < 9223372036854775808) : (bits .and .i64 (n : Int) (m : Int) != 0) = (n &&& m != 0) := by
 rw [and64 n m hn hm, Bool.eq_iff_iff, bne_iff_ne, bne_iff_ne]; omega
theorem and_test0 (n m : Nat) (hn : n < 9223372036854775808) (hm : m < 9223372036854775808) : (bits .and .i64 (n : Int) (m : Int) == 0) = (n &&& m == 0) := by
 rw [and64 n m hn hm, Bool.eq_iff_iff, beq_iff_eq, beq_iff_eq]; omega
def coloursI (a : Int) : Int × Int :=
 if mayI a = true then
  let f := if (a / 64 % 2 == 1) = true then a / 256 % 8 else 7
  let b := if (a / 64 % 2 == 1) = true then a / 2048 % 8 else 0
  let c := if (a / 16 % 2 == 1) = true then (b, f) else (f, b)
  (if (a / 32 % 2 == 1) = true then c.2 else c.1, c.2)
 else (7, 0)
end Vz
/- Plain mathematics of layer 13: what a number makes of attributes, in arithmetic. -/
namespace Vz
open Go
def setB (n b : Nat) : Nat := n + b - n / b % 2 * b
def clrB (n b : Nat) : Nat := n - n / b % 2 * b
def colN (n : Nat) : Nat := if n / 64 % 2 = 1 then n else n + 1856
def colourN (n : Nat) (x : Int) : Nat :=
 if 30 ≤ x ∧ x < 38 then colN n - colN n / 256 % 8 * 256 + (x - 30).toNat * 256
 else if 40 ≤ x ∧ x < 48 then colN n % 2048 + (x - 40).toNat * 2048
 else if n / 64 % 2 = 0 then n
 else if x = 39 then n - n / 256 % 8 * 256 + 1792
 else if x = 49 then n % 2048
 else n
def oneN (n : Nat) (x : Int) : Nat :=
 if x = 0 then 0
 else if x = 1 then setB n 1
 else if x = 2 then setB n 2
 else if x = 4 then setB n 4
 else if x = 5 then setB n 8
 else if x = 7 then setB n 16
 else if x = 8 then setB n 32
 else if x = 22 then n - n % 4
 else if x = 24 then clrB n 4
 else if x = 25 then clrB n 8
 else if x = 27 then clrB n 16
 else if x = 28 then clrB n 32
 else colourN n x
def MayP (n : Nat) : Prop := n < 16384 ∧ n / 128 % 2 = 0 ∧ (n / 64 % 2 = 1 ∨ n < 64)
theorem mayP_iff (n : Nat) : mayI n = true ↔ MayP n := by
 rw [mayI_nat]; unfold mayN MayP
 simp
theorem mayI_ge {a : Int} (h : mayI a = true) : 0 ≤ a := by
 unfold mayI at h; simp at h; omega
theorem mayP_small (n : Nat) (h : MayP n) (h6 : n / 64 % 2 = 0) : n < 64 := by unfold MayP at h; omega
theorem mayP_colN (n : Nat) (h : MayP n) : MayP (colN n) ∧ colN n / 64 % 2 = 1 ∧ colN n % 64 = n % 64 := by
 unfold MayP at h; unfold colN MayP; split <;> omega
theorem ite_ind {P : Nat → Prop} {c : Prop} [Decidable c] {a b : Nat} (h1 : c → P a) (h2 : ¬ c → P b) : P (if c then a else b) := by
 by_cases h : c
 · rw [if_pos h]; exact h1 h
 · rw [if_neg h]; exact h2 h
theorem mayP_one (n : Nat) (x : Int) (h : MayP n) : MayP (oneN n x) := by
 unfold oneN colourN
 obtain ⟨c1, c2, c3⟩ := mayP_colN n h
 unfold MayP at h c1
 generalize colN n = c at c1 c2 c3
 unfold setB clrB
 repeat' refine ite_ind (P := MayP) (fun _ => ?_) (fun _ => ?_)
 all_goals (unfold MayP; omega)
theorem mayP_zero : MayP 0 := by unfold MayP; decide
end Vz
/- Plain mathematics of layer 13: the program's bits come to the arithmetic. -/
namespace Vz
open Go
theorem lor_bits : ∀ n, n < 16384 → (n ||| 1 = setB n 1 ∧ n ||| 2 = setB n 2 ∧ n ||| 4 = setB n 4 ∧ n ||| 8 = setB n 8) ∧ n ||| 16 = setB n 16 ∧ n ||| 32 = setB n 32 := fun n h => by
 have := all2_spec 14 0 (fun n => (n ||| 1 == setB n 1 && n ||| 2 == setB n 2 && n ||| 4 == setB n 4 && n ||| 8 == setB n 8) && n ||| 16 == setB n 16 && n ||| 32 == setB n 32) (by decide +kernel) n (Nat.zero_le _) (by simpa using h)
 simp only [Bool.and_eq_true, beq_iff_eq] at this
 obtain ⟨⟨⟨⟨⟨h1, h2⟩, h3⟩, h4⟩, h5⟩, h6⟩ := this
 exact ⟨⟨h1, h2, h3, h4⟩, h5, h6⟩
theorem clr_bits : ∀ n, n < 16384 → (n ^^^ (n &&& 3) = n - n % 4 ∧ n ^^^ (n &&& 4) = clrB n 4 ∧ n ^^^ (n &&& 8) = clrB n 8) ∧ n ^^^ (n &&& 16) = clrB n 16 ∧ n ^^^ (n &&& 32) = clrB n 32 := fun n h => by
 have := all2_spec 14 0 (fun n => (n ^^^ (n &&& 3) == n - n % 4 && n ^^^ (n &&& 4) == clrB n 4 && n ^^^ (n &&& 8) == clrB n 8) && n ^^^ (n &&& 16) == clrB n 16 && n ^^^ (n &&& 32) == clrB n 32) (by decide +kernel) n (Nat.zero_le _) (by simpa using h)
 simp only [Bool.and_eq_true, beq_iff_eq] at this
 obtain ⟨⟨⟨⟨h1, h2⟩, h3⟩, h4⟩, h5⟩ := this
 exact ⟨⟨h1, h2, h3⟩, h4, h5⟩
theorem col_bits : ∀ n, n < 16384 → n ||| 1792 = n - n / 256 % 8 * 256 + 1792 ∧ n ^^^ (n &&& 1792) = n - n / 256 % 8 * 256 ∧ n ^^^ (n &&& 14336) = n % 2048 ∧ n &&& 1792 = n / 256 % 8 * 256 ∧ n &&& 14336 = n / 2048 * 2048 := fun n h => by
 have := all2_spec 14 0 (fun n => n ||| 1792 == n - n / 256 % 8 * 256 + 1792 && n ^^^ (n &&& 1792) == n - n / 256 % 8 * 256 && n ^^^ (n &&& 14336) == n % 2048 && n &&& 1792 == n / 256 % 8 * 256 && n &&& 14336 == n / 2048 * 2048) (by decide +kernel) n (Nat.zero_le _) (by simpa using h)
 simp only [Bool.and_eq_true, beq_iff_eq] at this
 obtain ⟨⟨⟨⟨h1, h2⟩, h3⟩, h4⟩, h5⟩ := this
 exact ⟨h1, h2, h3, h4, h5⟩
theorem land_more : ∀ n, n < 16384 → (n &&& 128 != 0) = (n / 128 % 2 == 1) ∧ n &&& 16128 = n / 256 * 256 := fun n h => by
 have := all2_spec 14 0 (fun n => ((n &&& 128 != 0) == (n / 128 % 2 == 1)) && n &&& 16128 == n / 256 * 256) (by decide +kernel) n (Nat.zero_le _) (by simpa using h)
 simp only [Bool.and_eq_true, beq_iff_eq] at this
 exact this
theorem col_or : ∀ n, n < 64 → n ||| 1856 = n + 1856 := by decide +kernel
theorem fore_or (m k : Nat) (hm : m < 16384) (h : m / 256 % 8 = 0) (hk : k < 8) : m ||| k * 256 = m + k * 256 := by
 have := all2_spec 14 0 (fun n => ((n % 256 + n / 2048 * 2048) ||| (n / 256 % 8) * 256) == (n % 256 + n / 2048 * 2048) + (n / 256 % 8) * 256) (by decide +kernel) (m + k * 256) (Nat.zero_le _) (by simp; omega)
 simp only [beq_iff_eq] at this
 rw [show (m + k * 256) % 256 + (m + k * 256) / 2048 * 2048 = m by omega, show (m + k * 256) / 256 % 8 = k by omega] at this
 exact this
theorem back_or (m k : Nat) (hm : m < 2048) (hk : k < 8) : m ||| k * 2048 = m + k * 2048 := by
 have := all2_spec 14 0 (fun n => ((n % 2048) ||| (n / 2048) * 2048) == (n % 2048) + (n / 2048) * 2048) (by decide +kernel) (m + k * 2048) (Nat.zero_le _) (by simp; omega)
 simp only [beq_iff_eq] at this
 rw [show (m + k * 2048) % 2048 = m by omega, show (m + k * 2048) / 2048 = k by omega] at this
 exact this
end Vz
