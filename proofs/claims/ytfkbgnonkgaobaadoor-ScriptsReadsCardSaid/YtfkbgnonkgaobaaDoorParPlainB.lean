/- Plain mathematics of Parse, second part: good and bad lines; bounds. -/
import Derived.Test.YtfkbgnonkgaobaaDoorParPlain
namespace Vz
open Go Go.Lib
set_option linter.unusedSimpArgs false
set_option linter.unusedVariables false

/-- What the words of a line tell. -/
def toldT (t : List UInt8) : Stp := toldP (splitS (trimSuffix t [10]))
theorem stepOf_bad {t : List UInt8} (h : (toldT t).right = false ∨ (toldT t).line ≠ t) : stepOf t = none := by
  unfold stepOf
  rw [if_neg]
  rintro ⟨h1, h2⟩
  rcases h with h | h
  · exact absurd (h1.symm.trans h) (by decide)
  · exact h h2
theorem stepOf_good {t : List UInt8} (h1 : (toldT t).right = true) (h2 : (toldT t).line = t) : stepOf t = some (toldT t) := by
  unfold stepOf
  rw [if_pos ⟨h1, h2⟩]
  rfl
theorem parseL_good (ls : List (List UInt8)) (h : ∀ t ∈ ls, stepOf t = some (toldT t)) : parseL ls = some (ls.map toldT) := by
  induction ls with
  | nil => rfl
  | cons t r ih =>
    rw [parseL, h t (by simp), ih (fun x hx => h x (by simp [hx]))]
    rfl
theorem parseL_bad (ls : List (List UInt8)) (t : List UInt8) (ht : t ∈ ls) (h : stepOf t = none) : parseL ls = none := by
  induction ls with
  | nil => cases ht
  | cons x r ih =>
    rw [parseL]
    rcases List.mem_cons.1 ht with rfl | ht
    · rw [h]
    · rw [ih ht]
      split <;> rfl
theorem linesOf_len (s : List UInt8) : (linesOf s).length ≤ s.length := by
  induction s with
  | nil => simp [linesOf]
  | cons c r ih =>
    unfold linesOf
    split
    · simp; omega
    · split
      · simp
      · rename_i x xs hx
        rw [hx] at ih
        simp at ih ⊢
        omega
theorem linesOf_each (s : List UInt8) : ∀ t ∈ linesOf s, t.length ≤ s.length := by
  intro t ht
  have h := linesOf_flat s
  obtain ⟨a, b, hab⟩ := List.append_of_mem ht
  rw [hab] at h
  have := congrArg List.length h
  simp at this
  omega
theorem linesOf_lines (L : List Stp) (h : ∀ x ∈ L, x.right = true) : linesOf (L.flatMap Stp.line) = L.map Stp.line := by
  induction L with
  | nil => rfl
  | cons x r ih =>
    obtain ⟨b, hb, hn⟩ := line_lf x (h x (by simp))
    rw [List.flatMap_cons, hb, List.append_assoc]
    rw [show [(10 : UInt8)] ++ r.flatMap Stp.line = 10 :: r.flatMap Stp.line from rfl, linesOf_app b _ hn, ih (fun y hy => h y (by simp [hy])), List.map_cons, hb]
theorem unhexP_le : ∀ l : List UInt8, (unhexP l).length ≤ l.length
  | [] => by simp [unhexP]
  | [_] => by simp [unhexP]
  | a :: b :: r => by
    have := unhexP_le r
    simp [unhexP]
    omega
theorem toldP_text (ws : List (List UInt8)) (n : Nat) (h : ∀ w ∈ ws, w.length ≤ n) : (toldP ws).text.length ≤ n := by
  unfold toldP
  simp only
  split
  · simp only
    split
    · rename_i w hw
      exact Nat.le_trans (unhexP_le w) (h w (List.mem_of_getElem? hw))
    · simp
  · repeat' split
    all_goals simp [Stp.nil]
theorem trimSuffix_len (t p : List UInt8) : (trimSuffix t p).length ≤ t.length := by
  unfold trimSuffix
  split
  · simp
  · simp
theorem toldT_text (t : List UInt8) (n : Nat) (h : t.length ≤ n) : (toldT t).text.length ≤ n :=
  toldP_text _ _ fun w hw => Nat.le_trans (splitS_sum _ w hw) (Nat.le_trans (trimSuffix_len t [10]) h)
end Vz
