/- Bits of ints that are not below 0, as operations on Nat; a look over all numbers below a power of two. -/
import Derived.Laws.BitsAllLaws
import Derived.Laws.BitsLemmas
import Derived.Laws.Entries
namespace Vz
open Go

theorem ofInt64 (a : Nat) (_ha : a < 9223372036854775808) : BitVec.ofInt 64 (a : Int) = BitVec.ofNat 64 a := by
  rw [BitVec.ofInt_natCast]
theorem toNat64 (a : Nat) (ha : a < 9223372036854775808) : (BitVec.ofNat 64 a).toNat = a := by
  rw [BitVec.toNat_ofNat]; exact Nat.mod_eq_of_lt (by omega)
theorem and64 (a b : Nat) (ha : a < 9223372036854775808) (hb : b < 9223372036854775808) : bits .and .i64 (a : Int) (b : Int) = ((a &&& b : Nat) : Int) := by
  have hx : a &&& b < 2 ^ 63 := Nat.and_lt_two_pow _ (by omega)
  show IntKind.i64.wrap ((BitVec.ofInt 64 (a : Int) &&& BitVec.ofInt 64 (b : Int)).toNat : Int) = _
  rw [BitVec.toNat_and, ofInt64 a ha, ofInt64 b hb, toNat64 a ha, toNat64 b hb, IntKind.wrap_i64]
  omega
theorem or64 (a b : Nat) (ha : a < 9223372036854775808) (hb : b < 9223372036854775808) : bits .or .i64 (a : Int) (b : Int) = ((a ||| b : Nat) : Int) := by
  have hx : a ||| b < 2 ^ 63 := Nat.or_lt_two_pow (by omega) (by omega)
  show IntKind.i64.wrap ((BitVec.ofInt 64 (a : Int) ||| BitVec.ofInt 64 (b : Int)).toNat : Int) = _
  rw [BitVec.toNat_or, ofInt64 a ha, ofInt64 b hb, toNat64 a ha, toNat64 b hb, IntKind.wrap_i64]
  omega
theorem xor64 (a b : Nat) (ha : a < 9223372036854775808) (hb : b < 9223372036854775808) : bits .xor .i64 (a : Int) (b : Int) = ((a ^^^ b : Nat) : Int) := by
  have hx : a ^^^ b < 2 ^ 63 := Nat.xor_lt_two_pow (by omega) (by omega)
  show IntKind.i64.wrap ((BitVec.ofInt 64 (a : Int) ^^^ BitVec.ofInt 64 (b : Int)).toNat : Int) = _
  rw [BitVec.toNat_xor, ofInt64 a ha, ofInt64 b hb, toNat64 a ha, toNat64 b hb, IntKind.wrap_i64]
  omega
theorem bv_andNot (x y : BitVec 64) : x &&& ~~~y = x ^^^ (x &&& y) := by
  ext i
  simp only [BitVec.getElem_and, BitVec.getElem_not, BitVec.getElem_xor]
  cases x[i] <;> cases y[i] <;> rfl
theorem andNot64 (a b : Nat) (ha : a < 9223372036854775808) (hb : b < 9223372036854775808) : bits .andNot .i64 (a : Int) (b : Int) = ((a ^^^ (a &&& b) : Nat) : Int) := by
  have hx : a ^^^ (a &&& b) < 2 ^ 63 := Nat.xor_lt_two_pow (by omega) (Nat.and_lt_two_pow _ (by omega))
  show IntKind.i64.wrap ((BitVec.ofInt 64 (a : Int) &&& ~~~ BitVec.ofInt 64 (b : Int)).toNat : Int) = _
  rw [bv_andNot, BitVec.toNat_xor, BitVec.toNat_and, ofInt64 a ha, ofInt64 b hb, toNat64 a ha, toNat64 b hb, IntKind.wrap_i64]
  omega
/-- What has no bit beside b's is no greater than b. -/
theorem le_of_andNot {a b : Nat} (h : a ^^^ (a &&& b) = 0) : a ≤ b := by
  have e : a = a &&& b := by
    have h2 : a ^^^ (a &&& b) ^^^ (a &&& b) = 0 ^^^ (a &&& b) := by rw [h]
    rw [Nat.xor_assoc, Nat.xor_self, Nat.xor_zero, Nat.zero_xor] at h2
    exact h2
  rw [e]; exact Nat.and_le_right

/-- Does p hold of all numbers below 2^k, at 'from + ..'? By halves. -/
def all2 : Nat → Nat → (Nat → Bool) → Bool
  | 0, base, p => p base
  | k + 1, base, p => all2 k base p && all2 k (base + 2 ^ k) p
theorem all2_spec : ∀ (k base : Nat) (p : Nat → Bool), all2 k base p = true → ∀ n, base ≤ n → n < base + 2 ^ k → p n = true
  | 0, base, p, h, n, h1, h2 => by
    obtain rfl : n = base := by simp at h2; omega
    exact h
  | k + 1, base, p, h, n, h1, h2 => by
    simp only [all2, Bool.and_eq_true] at h
    have e : 2 ^ (k + 1) = 2 ^ k + 2 ^ k := by rw [Nat.pow_succ]; omega
    by_cases hn : n < base + 2 ^ k
    · exact all2_spec k base p h.1 n h1 hn
    · exact all2_spec k (base + 2 ^ k) p h.2 n (by omega) (by omega)
end Vz
