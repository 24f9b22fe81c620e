import Derived.Laws.BitsAllLaws
import Derived.Laws.BitsLemmas
import Derived.Laws.Entries
import Derived.Test.YtliacdaddncmaaaGreatDoorProg
import Derived.WalkKit
import Derived.Lib.Hide
import Derived.Lib.Strings
import Derived.Lib.Join

/- Bits of ints that are not below 0, as operations on Nat; a look over all numbers below a power of two. -/
namespace Vz
open Go

theorem ofInt64 (a : Nat) (_ha : a < 9223372036854775808) : BitVec.ofInt 64 (a : Int) = BitVec.ofNat 64 a := by
  rw [BitVec.ofInt_natCast]
theorem toNat64 (a : Nat) (ha : a < 9223372036854775808) : (BitVec.ofNat 64 a).toNat = a := by
  rw [BitVec.toNat_ofNat]; exact Nat.mod_eq_of_lt (by omega)
theorem and64 (a b : Nat) (ha : a < 9223372036854775808) (hb : b < 9223372036854775808) : bits .and .i64 (a : Int) (b : Int) = ((a &&& b : Nat) : Int) := by
  have hx : a &&& b < 2 ^ 63 := Nat.and_lt_two_pow _ (by omega)
  show IntKind.i64.wrap ((BitVec.ofInt 64 (a : Int) &&& BitVec.ofInt 64 (b : Int)).toNat : Int) = _
  rw [BitVec.toNat_and, ofInt64 a ha, ofInt64 b hb, toNat64 a ha, toNat64 b hb, IntKind.wrap_i64]
  omega
theorem or64 (a b : Nat) (ha : a < 9223372036854775808) (hb : b < 9223372036854775808) : bits .or .i64 (a : Int) (b : Int) = ((a ||| b : Nat) : Int) := by
  have hx : a ||| b < 2 ^ 63 := Nat.or_lt_two_pow (by omega) (by omega)
  show IntKind.i64.wrap ((BitVec.ofInt 64 (a : Int) ||| BitVec.ofInt 64 (b : Int)).toNat : Int) = _
  rw [BitVec.toNat_or, ofInt64 a ha, ofInt64 b hb, toNat64 a ha, toNat64 b hb, IntKind.wrap_i64]
  omega
theorem xor64 (a b : Nat) (ha : a < 9223372036854775808) (hb : b < 9223372036854775808) : bits .xor .i64 (a : Int) (b : Int) = ((a ^^^ b : Nat) : Int) := by
  have hx : a ^^^ b < 2 ^ 63 := Nat.xor_lt_two_pow (by omega) (by omega)
  show IntKind.i64.wrap ((BitVec.ofInt 64 (a : Int) ^^^ BitVec.ofInt 64 (b : Int)).toNat : Int) = _
  rw [BitVec.toNat_xor, ofInt64 a ha, ofInt64 b hb, toNat64 a ha, toNat64 b hb, IntKind.wrap_i64]
  omega
theorem bv_andNot (x y : BitVec 64) : x &&& ~~~y = x ^^^ (x &&& y) := by
  ext i
  simp only [BitVec.getElem_and, BitVec.getElem_not, BitVec.getElem_xor]
  cases x[i] <;> cases y[i] <;> rfl
theorem andNot64 (a b : Nat) (ha : a < 9223372036854775808) (hb : b < 9223372036854775808) : bits .andNot .i64 (a : Int) (b : Int) = ((a ^^^ (a &&& b) : Nat) : Int) := by
  have hx : a ^^^ (a &&& b) < 2 ^ 63 := Nat.xor_lt_two_pow (by omega) (Nat.and_lt_two_pow _ (by omega))
  show IntKind.i64.wrap ((BitVec.ofInt 64 (a : Int) &&& ~~~ BitVec.ofInt 64 (b : Int)).toNat : Int) = _
  rw [bv_andNot, BitVec.toNat_xor, BitVec.toNat_and, ofInt64 a ha, ofInt64 b hb, toNat64 a ha, toNat64 b hb, IntKind.wrap_i64]
  omega
/-- What has no bit beside b's is no greater than b. -/
theorem le_of_andNot {a b : Nat} (h : a ^^^ (a &&& b) = 0) : a ≤ b := by
  have e : a = a &&& b := by
    have h2 : a ^^^ (a &&& b) ^^^ (a &&& b) = 0 ^^^ (a &&& b) := by rw [h]
    rw [Nat.xor_assoc, Nat.xor_self, Nat.xor_zero, Nat.zero_xor] at h2
    exact h2
  rw [e]; exact Nat.and_le_right

/-- Does p hold of all numbers below 2^k, at 'from + ..'? By halves. -/
def all2 : Nat → Nat → (Nat → Bool) → Bool
  | 0, base, p => p base
  | k + 1, base, p => all2 k base p && all2 k (base + 2 ^ k) p
theorem all2_spec : ∀ (k base : Nat) (p : Nat → Bool), all2 k base p = true → ∀ n, base ≤ n → n < base + 2 ^ k → p n = true
  | 0, base, p, h, n, h1, h2 => by
    obtain rfl : n = base := by simp at h2; omega
    exact h
  | k + 1, base, p, h, n, h1, h2 => by
    simp only [all2, Bool.and_eq_true] at h
    have e : 2 ^ (k + 1) = 2 ^ k + 2 ^ k := by rw [Nat.pow_succ]; omega
    by_cases hn : n < base + 2 ^ k
    · exact all2_spec k base p h.1 n h1 hn
    · exact all2_spec k (base + 2 ^ k) p h.2 n (by omega) (by omega)
end Vz

/- Plain mathematics of attributes. -/
namespace Vz
/-- May attributes be? -/
def mayI (a : Int) : Bool := decide (0 ≤ a) && decide (a < 16384) && !(a / 128 % 2 == 1) && (a / 64 % 2 == 1 || decide (a < 64))
def mayN (n : Nat) : Bool := !(n / 128 % 2 == 1) && (n / 64 % 2 == 1 || decide (n < 64))
theorem mayI_nat (n : Nat) : mayI n = (decide (n < 16384) && mayN n) := by
  unfold mayI mayN
  have e1 : ((n : Int) / 128 % 2 == 1) = (n / 128 % 2 == 1) := by rw [Bool.eq_iff_iff]; simp; omega
  have e2 : ((n : Int) / 64 % 2 == 1) = (n / 64 % 2 == 1) := by rw [Bool.eq_iff_iff]; simp; omega
  have e3 : decide ((n : Int) < 16384) = decide (n < 16384) := by rw [Bool.eq_iff_iff]; simp; omega
  have e4 : decide ((n : Int) < 64) = decide (n < 64) := by rw [Bool.eq_iff_iff]; simp; omega
  have e5 : decide (0 ≤ (n : Int)) = true := by simp
  rw [e1, e2, e3, e4, e5]
  simp [Bool.and_assoc]
/-- The program's own tests. -/
def mayT (n : Nat) : Bool := (n ^^^ (n &&& 16255)) == 0 && !((n &&& 64) == 0 && (n &&& 16128) != 0)
theorem mayT_small : ∀ n, n < 16384 → mayT n = mayN n := fun n h => by
  have := all2_spec 14 0 (fun n => mayT n == mayN n) (by decide +kernel) n (Nat.zero_le _) (by simpa using h)
  simpa using this
theorem mayT_eq (n : Nat) : mayI n = mayT n := by
  rw [mayI_nat]
  by_cases h : n < 16384
  · rw [mayT_small n h]; simp [h]
  · have : mayT n = false := by
      unfold mayT
      have hne : (n ^^^ (n &&& 16255)) ≠ 0 := fun e => by have := le_of_andNot e; omega
      simp [hne]
    rw [this]; simp [h]
end Vz
namespace Vz
open Go
theorem land_bits : ∀ n, n < 16384 → ((n &&& 1 != 0) = (n % 2 == 1) ∧ (n &&& 2 != 0) = (n / 2 % 2 == 1) ∧ (n &&& 4 != 0) = (n / 4 % 2 == 1) ∧ (n &&& 8 != 0) = (n / 8 % 2 == 1)) ∧ (n &&& 16 != 0) = (n / 16 % 2 == 1) ∧ (n &&& 32 != 0) = (n / 32 % 2 == 1) ∧ (n &&& 64 != 0) = (n / 64 % 2 == 1) ∧ (n &&& 63) = n % 64 := fun n h => by
  have := all2_spec 14 0 (fun n => ((n &&& 1 != 0) == (n % 2 == 1) && (n &&& 2 != 0) == (n / 2 % 2 == 1) && (n &&& 4 != 0) == (n / 4 % 2 == 1) && (n &&& 8 != 0) == (n / 8 % 2 == 1)) && (n &&& 16 != 0) == (n / 16 % 2 == 1) && (n &&& 32 != 0) == (n / 32 % 2 == 1) && (n &&& 64 != 0) == (n / 64 % 2 == 1) && (n &&& 63) == n % 64) (by decide +kernel) n (Nat.zero_le _) (by simpa using h)
  simp only [Bool.and_eq_true, beq_iff_eq] at this
  obtain ⟨⟨⟨⟨⟨⟨⟨h1, h2⟩, h3⟩, h4⟩, h5⟩, h6⟩, h7⟩, h8⟩ := this
  exact ⟨⟨h1, h2, h3, h4⟩, h5, h6, h7, h8⟩
theorem and_test (n m : Nat) (hn : n < 9223372036854775808) (hm : m < 9223372036854775808) : (bits .and .i64 (n : Int) (m : Int) != 0) = (n &&& m != 0) := by
  rw [and64 n m hn hm, Bool.eq_iff_iff, bne_iff_ne, bne_iff_ne]; omega
theorem and_test0 (n m : Nat) (hn : n < 9223372036854775808) (hm : m < 9223372036854775808) : (bits .and .i64 (n : Int) (m : Int) == 0) = (n &&& m == 0) := by
  rw [and64 n m hn hm, Bool.eq_iff_iff, beq_iff_eq, beq_iff_eq]; omega

/-- The document's answer: the colours that are seen. -/
def coloursI (a : Int) : Int × Int :=
  if mayI a = true then
    let f := if (a / 64 % 2 == 1) = true then a / 256 % 8 else 7
    let b := if (a / 64 % 2 == 1) = true then a / 2048 % 8 else 0
    let c := if (a / 16 % 2 == 1) = true then (b, f) else (f, b)
    (if (a / 32 % 2 == 1) = true then c.2 else c.1, c.2)
  else (7, 0)
end Vz

/- More plain mathematics of attributes. -/
namespace Vz
open Go
/-- The colours, the three bits told. -/
def col3 (c64 c16 c32 : Bool) (x y : Int) : Int × Int :=
  let f := if c64 = true then x else 7
  let b := if c64 = true then y else 0
  let c := if c16 = true then (b, f) else (f, b)
  (if c32 = true then c.2 else c.1, c.2)
theorem coloursI_may {a : Int} (h : mayI a = true) : coloursI a = col3 (a / 64 % 2 == 1) (a / 16 % 2 == 1) (a / 32 % 2 == 1) (a / 256 % 8) (a / 2048 % 8) := by
  unfold coloursI; rw [if_pos h]; rfl
theorem coloursI_not {a : Int} (h : mayI a = false) : coloursI a = (7, 0) := by
  unfold coloursI; rw [h]; rfl
theorem mayI_lt {a : Int} (h : mayI a = true) : 0 ≤ a ∧ a < 16384 := by
  unfold mayI at h; simp at h; omega
end Vz
namespace Vz
open Go
theorem or_cols : ∀ x F B : Nat, x < 64 → F < 8 → B < 8 → ((x ||| 64) ||| (F * 256)) ||| (B * 2048) = x + 64 + 256 * F + 2048 * B := fun x F B hx hF hB => by
  have := all2_spec 12 0 (fun m => (((m % 64) ||| 64) ||| ((m / 64 % 8) * 256)) ||| ((m / 512) * 2048) == (m % 64) + 64 + 256 * (m / 64 % 8) + 2048 * (m / 512)) (by decide +kernel) (x + 64 * F + 512 * B) (Nat.zero_le _) (by simp; omega)
  simp only [beq_iff_eq] at this
  rw [show (x + 64 * F + 512 * B) % 64 = x by omega, show (x + 64 * F + 512 * B) / 64 % 8 = F by omega, show (x + 64 * F + 512 * B) / 512 = B by omega] at this
  exact this
/-- The document's answer: attributes with other colours. -/
def pickF (a f : Int) : Int := if 0 ≤ f then f else if (a / 64 % 2 == 1) = true then a / 256 % 8 else 7
def pickB (a b : Int) : Int := if 0 ≤ b then b else if (a / 64 % 2 == 1) = true then a / 2048 % 8 else 0
def paintI (a f b : Int) : Int := a % 64 + 64 + 256 * pickF a f + 2048 * pickB a b
theorem or_paint (n : Nat) (F B : Int) (hn : n < 16384) (hF : 0 ≤ F) (hF' : F ≤ 7) (hB : 0 ≤ B) (hB' : B ≤ 7) :
    bits .or .i64 (bits .or .i64 (bits .or .i64 (bits .and .i64 (n : Int) 63) 64) (F * 256)) (B * 2048) = (n : Int) % 64 + 64 + 256 * F + 2048 * B := by
  obtain ⟨F, rfl⟩ := Int.eq_ofNat_of_zero_le hF
  obtain ⟨B, rfl⟩ := Int.eq_ofNat_of_zero_le hB
  have h63 := (land_bits n hn).2.2.2.2
  have e1 : bits .and .i64 (n : Int) 63 = ((n % 64 : Nat) : Int) := by
    rw [show (63 : Int) = ((63 : Nat) : Int) from rfl, and64 n 63 (by omega) (by decide), h63]
  have e2 : bits .or .i64 ((n % 64 : Nat) : Int) 64 = ((n % 64 ||| 64 : Nat) : Int) := by
    rw [show (64 : Int) = ((64 : Nat) : Int) from rfl, or64 _ 64 (by omega) (by decide)]
  have l1 : n % 64 ||| 64 < 2 ^ 14 := Nat.or_lt_two_pow (by omega) (by decide)
  have e3 : bits .or .i64 ((n % 64 ||| 64 : Nat) : Int) ((F : Int) * 256) = (((n % 64 ||| 64) ||| (F * 256) : Nat) : Int) := by
    rw [show ((F : Int) * 256) = ((F * 256 : Nat) : Int) by simp, or64 _ _ (by omega) (by omega)]
  have l2 : (n % 64 ||| 64) ||| (F * 256) < 2 ^ 14 := Nat.or_lt_two_pow l1 (by omega)
  have e4 : bits .or .i64 (((n % 64 ||| 64) ||| (F * 256) : Nat) : Int) ((B : Int) * 2048) = ((((n % 64 ||| 64) ||| (F * 256)) ||| (B * 2048) : Nat) : Int) := by
    rw [show ((B : Int) * 2048) = ((B * 2048 : Nat) : Int) by simp, or64 _ _ (by omega) (by omega)]
  rw [e1, e2, e3, e4, or_cols (n % 64) F B (by omega) (by omega) (by omega)]
  omega
end Vz
namespace Vz
theorem pickF_lo (n : Nat) (f : Int) : 0 ≤ pickF n f := by unfold pickF; repeat (first | omega | split)
theorem pickF_hi (n : Nat) (f : Int) (h : f ≤ 7) : pickF n f ≤ 7 := by unfold pickF; repeat (first | omega | split)
theorem pickB_lo (n : Nat) (f : Int) : 0 ≤ pickB n f := by unfold pickB; repeat (first | omega | split)
theorem pickB_hi (n : Nat) (f : Int) (h : f ≤ 7) : pickB n f ≤ 7 := by unfold pickB; repeat (first | omega | split)
end Vz

/- Walks: attr.May, own (as XAttr; other names). -/
namespace Go.Proofs.YtliacdaddncmaaaGreatDoor
open Go.RowKit

theorem ret1 {a b : Value} (h : a = b) : Ending.returned a = .returned b := by rw [h]
theorem ret_tup2 {a b : Value} {a' b' : Value} (h : a = a') (h' : b = b') : Ending.returned (.tuple #[a, b]) = .returned (.tuple #[a', b']) := by rw [h, h']

set_option maxHeartbeats 1000000 in
theorem amay_yes (n : Nat) (hn : n < 9223372036854775808) (h : Vz.mayI n = true) (w : World) :
    Calls Tryz.prog 65 #[.int .i64 n] w fun e w' => e = .returned (.int .i64 0) ∧ w = w' := by
  rw [Vz.mayT_eq] at h
  unfold Vz.mayT at h
  simp only [Bool.and_eq_true, Bool.not_eq_true', beq_iff_eq] at h
  obtain ⟨h1, h2⟩ := h
  have b1 : (bits .andNot .i64 (n : Int) 16255 != 0) = false := by
    rw [show (16255 : Int) = ((16255 : Nat) : Int) from rfl, Vz.andNot64 n 16255 hn (by decide), h1]; rfl
  by_cases h3 : (n &&& 64) = 0
  · have b2 : (bits .and .i64 (n : Int) 64 == 0) = true := by
      rw [show (64 : Int) = ((64 : Nat) : Int) from rfl, Vz.and64 n 64 hn (by decide), h3]; rfl
    have b3 : (bits .and .i64 (n : Int) 16128 != 0) = false := by
      rw [show (16128 : Int) = ((16128 : Nat) : Int) from rfl, Vz.and64 n 16128 hn (by decide)]
      simp [h3] at h2
      rw [h2]; rfl
    clear h1 h2 h3
    go_enter Tryz.func65, Tryz.ntmps65
    go_wp2
    go_ret
    exact ⟨rfl, rfl⟩
  · have b2 : (bits .and .i64 (n : Int) 64 == 0) = false := by
      rw [show (64 : Int) = ((64 : Nat) : Int) from rfl, Vz.and64 n 64 hn (by decide), beq_eq_false_iff_ne]; omega
    clear h1 h2 h3
    go_enter Tryz.func65, Tryz.ntmps65
    go_wp2
    go_ret
    exact ⟨rfl, rfl⟩

set_option maxHeartbeats 1000000 in
theorem amay_no (a : Int) (ha : a < 9223372036854775808) (h : Vz.mayI a = false) (w : World) :
    Calls Tryz.prog 65 #[.int .i64 a] w fun e w' => e = .returned (.int .i64 1) ∧ w = w' := by
  by_cases h0 : a < 0
  · go_enter Tryz.func65, Tryz.ntmps65
    go_wp2
    go_ret
    exact ⟨rfl, rfl⟩
  obtain ⟨n, rfl⟩ := Int.eq_ofNat_of_zero_le (by omega : 0 ≤ a)
  have hn : n < 9223372036854775808 := by omega
  clear h0 ha
  rw [Vz.mayT_eq] at h
  unfold Vz.mayT at h
  by_cases h1 : (n ^^^ (n &&& 16255)) = 0
  · have b1 : (bits .andNot .i64 (n : Int) 16255 != 0) = false := by
      rw [show (16255 : Int) = ((16255 : Nat) : Int) from rfl, Vz.andNot64 n 16255 hn (by decide), h1]; rfl
    simp [h1] at h
    obtain ⟨h2, h3⟩ := h
    have b2 : (bits .and .i64 (n : Int) 64 == 0) = true := by
      rw [show (64 : Int) = ((64 : Nat) : Int) from rfl, Vz.and64 n 64 hn (by decide), h2]; rfl
    have b3 : (bits .and .i64 (n : Int) 16128 != 0) = true := by
      rw [show (16128 : Int) = ((16128 : Nat) : Int) from rfl, Vz.and64 n 16128 hn (by decide), bne_iff_ne]; omega
    clear h1 h2 h3
    go_enter Tryz.func65, Tryz.ntmps65
    go_wp2
    go_ret
    exact ⟨rfl, rfl⟩
  · have b1 : (bits .andNot .i64 (n : Int) 16255 != 0) = true := by
      rw [show (16255 : Int) = ((16255 : Nat) : Int) from rfl, Vz.andNot64 n 16255 hn (by decide), bne_iff_ne]; omega
    clear h h1
    go_enter Tryz.func65, Tryz.ntmps65
    go_wp2
    go_ret
    exact ⟨rfl, rfl⟩

theorem int_test (n k : Nat) : ((n : Int) / k % 2 == 1) = (n / k % 2 == 1) := by
  rw [Bool.eq_iff_iff]; simp; omega

theorem own_eq (c : Bool) (n : Nat) (hn : n < 16384) (t64 : (bits .and .i64 (n : Int) 64 == 0) = !c) (w : World) :
    Calls Tryz.prog 66 #[.int .i64 n] w fun e w' => e = .returned (.tuple #[.int .i64 (if c = true then (n : Int) / 256 % 8 else 7), .int .i64 (if c = true then (n : Int) / 2048 % 8 else 0)]) ∧ w = w' := by
  cases c
  · simp only [Bool.not_false] at t64
    go_enter Tryz.func66, Tryz.ntmps66
    go_wp2
    go_ret2
    exact ⟨rfl, rfl⟩
  · simp only [Bool.not_true] at t64
    go_enter Tryz.func66, Tryz.ntmps66
    go_wp2
    go_ret2
    exact ⟨rfl, rfl⟩
end Go.Proofs.YtliacdaddncmaaaGreatDoor

/- Plain: attributes as a text. -/
namespace Vz
def wordAt (k : Nat) : List UInt8 := match k with
  | 0 => [98, 111, 108, 100]
  | 1 => [100, 105, 109]
  | 2 => [117, 110, 100, 101, 114]
  | 3 => [98, 108, 105, 110, 107]
  | 4 => [114, 101, 118, 101, 114, 115, 101]
  | _ => [104, 105, 100, 100, 101, 110]
/-- The words of the first k bits that a number has. -/
def wordsK (n : Nat) : Nat → List (List UInt8)
  | 0 => []
  | k + 1 => if n / 2 ^ k % 2 = 1 then wordsK n k ++ [wordAt k] else wordsK n k
def digitB1 (c : Nat) : List UInt8 := [(48 + c).toUInt8]
def wordsAll (n : Nat) : List (List UInt8) := if n / 64 % 2 = 1 then wordsK n 6 ++ [[102, 111, 114, 101, 61] ++ digitB1 (n / 256 % 8), [98, 97, 99, 107, 61] ++ digitB1 (n / 2048 % 8)] else wordsK n 6
def joinC : List (List UInt8) → List UInt8
  | [] => []
  | [x] => x
  | x :: y :: r => x ++ 44 :: joinC (y :: r)
def namesL (n : Nat) : List UInt8 := if wordsAll n = [] then [112, 108, 97, 105, 110] else joinC (wordsAll n)
theorem wordsK_len (n k : Nat) : (wordsK n k).length ≤ k := by
  induction k with
  | zero => simp [wordsK]
  | succ k ih =>
    simp only [wordsK]
    split
    · rw [List.length_append]; simp; omega
    · omega
end Vz
namespace Vz
theorem joinC_len : ∀ l : List (List UInt8), (∀ w ∈ l, w.length ≤ 7) → (joinC l).length ≤ 8 * l.length
  | [], _ => by simp [joinC]
  | [x], h => by have := h x (by simp); simp [joinC]; omega
  | x :: y :: r, h => by
    have ih := joinC_len (y :: r) (fun w hw => h w (List.mem_cons_of_mem _ hw))
    have := h x (by simp)
    simp only [joinC, List.length_append, List.length_cons] at ih ⊢
    omega
theorem wordAt_len (k : Nat) : (wordAt k).length ≤ 7 := by
  unfold wordAt; split <;> decide
theorem wordsK_each (n : Nat) : ∀ k, ∀ w ∈ wordsK n k, w.length ≤ 7
  | 0, w, h => by simp [wordsK] at h
  | k + 1, w, h => by
    simp only [wordsK] at h
    split at h
    · rcases List.mem_append.1 h with h | h
      · exact wordsK_each n k w h
      · rw [List.mem_singleton.1 h]; exact wordAt_len k
    · exact wordsK_each n k w h
theorem wordsAll_each (n : Nat) : ∀ w ∈ wordsAll n, w.length ≤ 7 := by
  intro w h
  unfold wordsAll at h
  split at h
  · rcases List.mem_append.1 h with h | h
    · exact wordsK_each n 6 w h
    · simp at h
      rcases h with rfl | rfl <;> simp [digitB1]
  · exact wordsK_each n 6 w h
theorem wordsAll_len (n : Nat) : (wordsAll n).length ≤ 8 := by
  have := wordsK_len n 6
  unfold wordsAll
  split
  · simp; omega
  · omega
theorem join_len (n : Nat) : (joinC (wordsAll n)).length ≤ 64 := by
  have := joinC_len _ (wordsAll_each n)
  have := wordsAll_len n
  omega
end Vz
namespace Vz
theorem lib_join : ∀ l : List (List UInt8), Go.Lib.join l [44] = joinC l
  | [] => by simp [Go.Lib.join, joinC, List.intercalate]
  | [x] => by rw [Go.Lib.join_one]; rfl
  | x :: y :: r => by
    have ih := lib_join (y :: r)
    have : Go.Lib.join (x :: y :: r) [44] = x ++ ([44] ++ Go.Lib.join (y :: r) [44]) := by
      simp [Go.Lib.join, List.intercalate]
    rw [this, ih]
    simp [joinC]
end Vz
