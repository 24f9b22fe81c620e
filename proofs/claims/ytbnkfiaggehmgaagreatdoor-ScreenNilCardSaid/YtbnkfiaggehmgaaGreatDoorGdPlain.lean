/- Plain mathematics of grids of cells: what is where, set and rolled. -/
import Derived.Test.YtbnkfiaggehmgaaGreatDoorWkPlain
namespace Vz
set_option linter.unusedSimpArgs false
set_option linter.unusedVariables false

/-- A cell: glyph, attributes, guarded or not, mark. -/
structure Cl where
  g : Int
  a : Int
  gd : Bool
  m : Int
deriving DecidableEq
def Cl.zero : Cl := ⟨0, 0, false, 0⟩
def Cl.blank : Cl := ⟨32, 0, false, 0⟩
/-- A grid: so many rows and columns, and what is where. -/
structure Gd where
  R : Nat
  C : Nat
  X : Nat → Nat → Cl
def Gd.may (D : Gd) : Prop := 1 ≤ D.R ∧ D.R ≤ 255 ∧ 1 ≤ D.C ∧ D.C ≤ 255
def Gd.new (r c : Nat) (x : Cl) : Gd := ⟨r, c, fun _ _ => x⟩
def Gd.set (D : Gd) (r c : Nat) (x : Cl) : Gd := ⟨D.R, D.C, fun i j => if i = r ∧ j = c then x else D.X i j⟩
/-- Row i behind a roll of the rows from top to bot by n: none if it is a new one. -/
def rollAt (top bot : Nat) (n : Int) (i : Nat) : Option Nat :=
  if top ≤ i ∧ i ≤ bot then (if (bot : Int) - i < n ∨ n < (top : Int) - i then none else some ((i : Int) + n).toNat) else some i
def Gd.roll (D : Gd) (top bot : Nat) (n : Int) (x : Cl) : Gd :=
  ⟨D.R, D.C, fun i j => match rollAt top bot n i with | none => x | some k => D.X k j⟩
theorem rollAt_lt {top bot : Nat} {n : Int} {i k R : Nat} (h : rollAt top bot n i = some k) (hb : bot < R) (hi : i < R) : k < R := by
  unfold rollAt at h
  split at h
  · split at h
    · cases h
    · injection h with h
      omega
  · injection h with h
    omega
theorem rollAt_inj {top bot : Nat} {n : Int} {i j k : Nat} (h : rollAt top bot n i = some k) (h' : rollAt top bot n j = some k) : i = j := by
  unfold rollAt at h h'
  split at h <;> split at h'
  · split at h
    · cases h
    · split at h'
      · cases h'
      · injection h with h
        injection h' with h'
        omega
  · split at h
    · cases h
    · injection h with h
      injection h' with h'
      omega
  · split at h'
    · cases h'
    · injection h with h
      injection h' with h'
      omega
  · injection h with h
    injection h' with h'
    omega
theorem Gd.may_set {D : Gd} (h : D.may) (r c : Nat) (x : Cl) : (D.set r c x).may := h
theorem Gd.may_roll {D : Gd} (h : D.may) (t b : Nat) (n : Int) (x : Cl) : (D.roll t b n x).may := h
theorem Gd.may_mayS {D : Gd} (h : D.may) : mayS D.R D.C = true := by
  rw [mayS_iff]
  unfold Gd.may at h
  omega
/-- What one row's cells are, one behind the other, four values each. -/
def cellK (x : Cl) (k : Nat) : Go.Value := if k = 0 then .int .i32 x.g else if k = 1 then .int .i64 x.a else if k = 2 then .bool x.gd else .int .i64 x.m
def flatC (f : Nat → Cl) (q : Nat) : Go.Value := cellK (f (q / 4)) (q % 4)
theorem flatC_0 (f : Nat → Cl) (j : Nat) : flatC f (4 * j) = .int .i32 (f j).g := by
  unfold flatC
  rw [show 4 * j / 4 = j by omega, show 4 * j % 4 = 0 by omega]
  rfl
theorem flatC_1 (f : Nat → Cl) (j : Nat) : flatC f (4 * j + 1) = .int .i64 (f j).a := by
  unfold flatC
  rw [show (4 * j + 1) / 4 = j by omega, show (4 * j + 1) % 4 = 1 by omega]
  rfl
theorem flatC_2 (f : Nat → Cl) (j : Nat) : flatC f (4 * j + 2) = .bool (f j).gd := by
  unfold flatC
  rw [show (4 * j + 2) / 4 = j by omega, show (4 * j + 2) % 4 = 2 by omega]
  rfl
theorem flatC_3 (f : Nat → Cl) (j : Nat) : flatC f (4 * j + 3) = .int .i64 (f j).m := by
  unfold flatC
  rw [show (4 * j + 3) / 4 = j by omega, show (4 * j + 3) % 4 = 3 by omega]
  rfl
end Vz
