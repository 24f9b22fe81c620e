/- Plain mathematics of layer 23: steps, which may be, and their lines. -/
import Derived.Test.YtfkbgnonkgaobaaDoorTextPlain
namespace Vz
set_option linter.unusedSimpArgs false
set_option linter.unusedVariables false
/-- A step of a script. -/
structure Stp where
  d : Int
  text : List UInt8
  kind : Int
  code : Int
  shift : Bool
  ctrl : Bool
  rows : Int
  cols : Int
  to : Int
deriving DecidableEq
/-- A hexadecimal digit. -/
def hexC (n : Nat) : UInt8 := if n < 10 then UInt8.ofNat (48 + n) else UInt8.ofNat (87 + n)
def hexL (l : List UInt8) : List UInt8 := l.flatMap fun b => [hexC (b.toNat / 16), hexC (b.toNat % 16)]
theorem hexL_len (l : List UInt8) : (hexL l).length = 2 * l.length := by
  induction l with
  | nil => rfl
  | cons b r ih => unfold hexL at ih ⊢; simp only [List.flatMap_cons, List.length_append, List.length_cons, List.length_nil, ih]; omega
theorem hexL_snoc (l : List UInt8) (b : UInt8) : hexL (l ++ [b]) = hexL l ++ [hexC (b.toNat / 16), hexC (b.toNat % 16)] := by
  unfold hexL; simp
def small (n most : Int) : Bool := decide (0 ≤ n) && decide (n ≤ most)
/-- Nothing in it but what it does, and this. -/
def Stp.noText (x : Stp) : Bool := x.text.isEmpty
def Stp.noKey (x : Stp) : Bool := x.kind == 0 && x.code == 0 && !x.shift && !x.ctrl
def Stp.noSize (x : Stp) : Bool := x.rows == 0 && x.cols == 0
/-- May a step be? -/
def Stp.right (x : Stp) : Bool :=
  if x.d = 1 then x.noKey && x.noSize && x.to == 0
  else if x.d = 2 then x.noText && x.noSize && x.to == 0 && small x.kind 255 && small x.code 255
  else if x.d = 3 ∨ x.d = 4 then x.noText && x.noKey && x.noSize && x.to == 0
  else if x.d = 5 then x.noText && x.noKey && x.to == 0 && small x.rows 9999 && small x.cols 9999
  else if x.d = 6 then x.noText && x.noKey && x.noSize && small x.to 9
  else false
/-- A step's words, joined by blanks, and a line feed. -/
def Stp.line (x : Stp) : List UInt8 :=
  (if x.d = 1 then [102, 101, 101, 100] ++ (if x.text = [] then [] else 32 :: hexL x.text)
   else if x.d = 2 then [112, 114, 101, 115, 115, 32] ++ digN x.kind.toNat ++ [32] ++ digN x.code.toNat ++ (if x.shift = true then [32, 115, 104, 105, 102, 116] else []) ++ (if x.ctrl = true then [32, 99, 116, 114, 108] else [])
   else if x.d = 3 then [100, 114, 97, 105, 110]
   else if x.d = 4 then [114, 101, 115, 101, 116]
   else if x.d = 5 then [114, 101, 115, 105, 122, 101, 32] ++ digN x.rows.toNat ++ [32] ++ digN x.cols.toNat
   else if x.d = 6 then [115, 119, 105, 116, 99, 104, 32] ++ digN x.to.toNat
   else []) ++ [10]
/-- No line is long. -/
theorem Stp.line_len (x : Stp) (h : x.right = true) : x.line.length ≤ 2 * x.text.length + 40 := by
  have hd : ∀ n : Int, small n 9999 = true → (digN n.toNat).length ≤ 5 := fun n hn => by
    unfold small at hn; simp at hn
    exact digN_len _ (by omega)
  have hw : ∀ n m : Int, m ≤ 9999 → small n m = true → small n 9999 = true := fun n m hm hn => by
    unfold small at hn ⊢; simp at hn ⊢; omega
  unfold Stp.right at h
  unfold Stp.line
  by_cases h1 : x.d = 1
  · rw [if_pos h1]
    have := hexL_len x.text
    split <;> simp <;> omega
  by_cases h2 : x.d = 2
  · rw [if_neg h1, if_pos h2] at h ⊢
    simp only [Bool.and_eq_true] at h
    have k1 := hd _ (hw _ 255 (by decide) h.1.2)
    have k2 := hd _ (hw _ 255 (by decide) h.2)
    simp only [List.length_append, List.length_cons, List.length_nil]
    split <;> split <;> simp <;> omega
  by_cases h3 : x.d = 3
  · rw [if_neg h1, if_neg h2, if_pos h3]; simp
  by_cases h4 : x.d = 4
  · rw [if_neg h1, if_neg h2, if_neg h3, if_pos h4]; simp
  by_cases h5 : x.d = 5
  · rw [if_neg h1, if_neg h2, if_neg h3, if_neg h4, if_pos h5]
    rw [if_neg h1, if_neg h2, if_neg (by omega), if_pos h5] at h
    simp only [Bool.and_eq_true] at h
    have k1 := hd _ h.1.2
    have k2 := hd _ h.2
    simp only [List.length_append, List.length_cons, List.length_nil]
    omega
  by_cases h6 : x.d = 6
  · rw [if_neg h1, if_neg h2, if_neg h3, if_neg h4, if_neg h5, if_pos h6]
    rw [if_neg h1, if_neg h2, if_neg (by omega), if_neg h5, if_pos h6] at h
    simp only [Bool.and_eq_true] at h
    have k1 := hd _ (hw _ 9 (by decide) h.2)
    simp only [List.length_append, List.length_cons, List.length_nil]
    omega
  · rw [if_neg h1, if_neg h2, if_neg (by omega), if_neg h5, if_neg h6] at h
    cases h
end Vz
