/- Plain mathematics of layer 23: a step with nothing but what it has; a step's words. -/
import Derived.Test.YtfkbgnonkgaobaaDoorScrPlain
import Derived.Lib.Join
namespace Vz
set_option linter.unusedSimpArgs false
set_option linter.unusedVariables false
def Stp.nil : Stp := ⟨0, [], 0, 0, false, false, 0, 0, 0⟩
/-- A step with nothing but what it has. -/
def Stp.bare (x : Stp) : Stp :=
  if x.d = 1 then { Stp.nil with d := 1, text := x.text }
  else if x.d = 2 then { Stp.nil with d := 2, kind := x.kind, code := x.code, shift := x.shift, ctrl := x.ctrl }
  else if x.d = 5 then { Stp.nil with d := 5, rows := x.rows, cols := x.cols }
  else if x.d = 6 then { Stp.nil with d := 6, to := x.to }
  else { Stp.nil with d := x.d }
theorem Stp.right_iff (x : Stp) : x.right = true ↔ (1 ≤ x.d ∧ x.d ≤ 6) ∧ x = x.bare ∧ (small x.kind 255 = true ∧ small x.code 255 = true) ∧ (small x.rows 9999 = true ∧ small x.cols 9999 = true) ∧ small x.to 9 = true := by
  obtain ⟨d, t, k, c, s, l, r, o, z⟩ := x
  unfold Stp.right Stp.bare Stp.noText Stp.noKey Stp.noSize Stp.nil small
  by_cases h1 : d = 1
  · subst h1; simp; (try (constructor <;> (intro h; simp_all))); (try omega)
  by_cases h2 : d = 2
  · subst h2; simp; (try (constructor <;> (intro h; simp_all))); (try omega)
  by_cases h3 : d = 3
  · subst h3; simp; (try (constructor <;> (intro h; simp_all))); (try omega)
  by_cases h4 : d = 4
  · subst h4; simp; (try (constructor <;> (intro h; simp_all))); (try omega)
  by_cases h5 : d = 5
  · subst h5; simp; (try (constructor <;> (intro h; simp_all))); (try omega)
  by_cases h6 : d = 6
  · subst h6; simp; (try (constructor <;> (intro h; simp_all))); (try omega)
  · simp [h1, h2, h3, h4, h5, h6]; intro k1 k2; exfalso; omega
/-- A step's words. -/
def Stp.words (x : Stp) : List (List UInt8) :=
  if x.d = 1 then [102, 101, 101, 100] :: (if x.text = [] then [] else [hexL x.text])
  else if x.d = 2 then [112, 114, 101, 115, 115] :: digN x.kind.toNat :: digN x.code.toNat :: ((if x.shift = true then [[115, 104, 105, 102, 116]] else []) ++ (if x.ctrl = true then [[99, 116, 114, 108]] else []))
  else if x.d = 3 then [[100, 114, 97, 105, 110]]
  else if x.d = 4 then [[114, 101, 115, 101, 116]]
  else if x.d = 5 then [[114, 101, 115, 105, 122, 101], digN x.rows.toNat, digN x.cols.toNat]
  else [[115, 119, 105, 116, 99, 104], digN x.to.toNat]
theorem Stp.line_words (x : Stp) (h : x.right = true) : Go.Lib.join x.words [32] ++ [10] = x.line := by
  obtain ⟨d, t, k, c, s, l, r, o, z⟩ := x
  have hd := ((Stp.right_iff _).1 h).1
  simp only at hd
  clear h
  unfold Stp.words Stp.line Go.Lib.join
  obtain rfl | rfl | rfl | rfl | rfl | rfl : d = 1 ∨ d = 2 ∨ d = 3 ∨ d = 4 ∨ d = 5 ∨ d = 6 := by omega
  · by_cases ht : t = []
    · subst ht; simp [List.intercalate]
    · simp [ht, List.intercalate]
  · cases s <;> cases l <;> simp [List.intercalate]
  · simp [List.intercalate]
  · simp [List.intercalate]
  · simp [List.intercalate]
  · simp [List.intercalate]
end Vz
