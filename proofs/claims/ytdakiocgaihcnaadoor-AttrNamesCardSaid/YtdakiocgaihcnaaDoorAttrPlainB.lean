/- More plain mathematics of attributes. -/
import Derived.Test.YtdakiocgaihcnaaDoorAttrPlain
namespace Vz
open Go
/-- The colours, the three bits told. -/
def col3 (c64 c16 c32 : Bool) (x y : Int) : Int × Int :=
  let f := if c64 = true then x else 7
  let b := if c64 = true then y else 0
  let c := if c16 = true then (b, f) else (f, b)
  (if c32 = true then c.2 else c.1, c.2)
theorem coloursI_may {a : Int} (h : mayI a = true) : coloursI a = col3 (a / 64 % 2 == 1) (a / 16 % 2 == 1) (a / 32 % 2 == 1) (a / 256 % 8) (a / 2048 % 8) := by
  unfold coloursI; rw [if_pos h]; rfl
theorem coloursI_not {a : Int} (h : mayI a = false) : coloursI a = (7, 0) := by
  unfold coloursI; rw [h]; rfl
theorem mayI_lt {a : Int} (h : mayI a = true) : 0 ≤ a ∧ a < 16384 := by
  unfold mayI at h; simp at h; omega
end Vz
namespace Vz
open Go
theorem or_cols : ∀ x F B : Nat, x < 64 → F < 8 → B < 8 → ((x ||| 64) ||| (F * 256)) ||| (B * 2048) = x + 64 + 256 * F + 2048 * B := fun x F B hx hF hB => by
  have := all2_spec 12 0 (fun m => (((m % 64) ||| 64) ||| ((m / 64 % 8) * 256)) ||| ((m / 512) * 2048) == (m % 64) + 64 + 256 * (m / 64 % 8) + 2048 * (m / 512)) (by decide +kernel) (x + 64 * F + 512 * B) (Nat.zero_le _) (by simp; omega)
  simp only [beq_iff_eq] at this
  rw [show (x + 64 * F + 512 * B) % 64 = x by omega, show (x + 64 * F + 512 * B) / 64 % 8 = F by omega, show (x + 64 * F + 512 * B) / 512 = B by omega] at this
  exact this
/-- The document's answer: attributes with other colours. -/
def pickF (a f : Int) : Int := if 0 ≤ f then f else if (a / 64 % 2 == 1) = true then a / 256 % 8 else 7
def pickB (a b : Int) : Int := if 0 ≤ b then b else if (a / 64 % 2 == 1) = true then a / 2048 % 8 else 0
def paintI (a f b : Int) : Int := a % 64 + 64 + 256 * pickF a f + 2048 * pickB a b
theorem or_paint (n : Nat) (F B : Int) (hn : n < 16384) (hF : 0 ≤ F) (hF' : F ≤ 7) (hB : 0 ≤ B) (hB' : B ≤ 7) :
    bits .or .i64 (bits .or .i64 (bits .or .i64 (bits .and .i64 (n : Int) 63) 64) (F * 256)) (B * 2048) = (n : Int) % 64 + 64 + 256 * F + 2048 * B := by
  obtain ⟨F, rfl⟩ := Int.eq_ofNat_of_zero_le hF
  obtain ⟨B, rfl⟩ := Int.eq_ofNat_of_zero_le hB
  have h63 := (land_bits n hn).2.2.2.2
  have e1 : bits .and .i64 (n : Int) 63 = ((n % 64 : Nat) : Int) := by
    rw [show (63 : Int) = ((63 : Nat) : Int) from rfl, and64 n 63 (by omega) (by decide), h63]
  have e2 : bits .or .i64 ((n % 64 : Nat) : Int) 64 = ((n % 64 ||| 64 : Nat) : Int) := by
    rw [show (64 : Int) = ((64 : Nat) : Int) from rfl, or64 _ 64 (by omega) (by decide)]
  have l1 : n % 64 ||| 64 < 2 ^ 14 := Nat.or_lt_two_pow (by omega) (by decide)
  have e3 : bits .or .i64 ((n % 64 ||| 64 : Nat) : Int) ((F : Int) * 256) = (((n % 64 ||| 64) ||| (F * 256) : Nat) : Int) := by
    rw [show ((F : Int) * 256) = ((F * 256 : Nat) : Int) by simp, or64 _ _ (by omega) (by omega)]
  have l2 : (n % 64 ||| 64) ||| (F * 256) < 2 ^ 14 := Nat.or_lt_two_pow l1 (by omega)
  have e4 : bits .or .i64 (((n % 64 ||| 64) ||| (F * 256) : Nat) : Int) ((B : Int) * 2048) = ((((n % 64 ||| 64) ||| (F * 256)) ||| (B * 2048) : Nat) : Int) := by
    rw [show ((B : Int) * 2048) = ((B * 2048 : Nat) : Int) by simp, or64 _ _ (by omega) (by omega)]
  rw [e1, e2, e3, e4, or_cols (n % 64) F B (by omega) (by omega) (by omega)]
  omega
end Vz
namespace Vz
theorem pickF_lo (n : Nat) (f : Int) : 0 ≤ pickF n f := by unfold pickF; repeat (first | omega | split)
theorem pickF_hi (n : Nat) (f : Int) (h : f ≤ 7) : pickF n f ≤ 7 := by unfold pickF; repeat (first | omega | split)
theorem pickB_lo (n : Nat) (f : Int) : 0 ≤ pickB n f := by unfold pickB; repeat (first | omega | split)
theorem pickB_hi (n : Nat) (f : Int) (h : f ≤ 7) : pickB n f ≤ 7 := by unfold pickB; repeat (first | omega | split)
end Vz
