/- Plain: the library's pieces of a text are the words; what their bits make. -/
import Derived.Test.YtdakiocgaihcnaaDoorParsePlain
import Derived.Lib.Split
import Derived.Lib.SplitLaws
import Derived.Lib.IndexBytes
namespace Vz
open Go Go.Lib
theorem splitK_c : ∀ s : List UInt8, splitK [44] 0 (s.count 44) s = splitC s
  | [] => rfl
  | c :: r => by
    have ih := splitK_c r
    by_cases h : c = 44
    · subst h
      have e : index (44 :: r) [44] = 0 := by rw [index_one]; simp [indexByte]
      rw [List.count_cons_self, splitK, if_neg (by rw [e]; decide), e]
      simp only [splitC, if_true]
      simp [ih]
    · rw [List.count_cons_of_ne h]
      simp only [splitC, if_neg h]
      have hc : (c == 44) = false := by simpa using h
      cases hk : r.count 44 with
      | zero =>
        rw [hk] at ih
        rw [← ih]
        rfl
      | succ k =>
        rw [hk] at ih
        rw [← ih]
        have e : index (c :: r) [44] = if index r [44] == -1 then -1 else index r [44] + 1 := by
          rw [index_one, index_one, indexByte, hc]; rfl
        have hge := indexByte_ge r 44
        rw [← index_one] at hge
        cases hm : index r [44] == -1 with
        | true =>
          rw [hm] at e
          simp only [splitK, e, hm]
          rfl
        | false =>
          rw [hm] at e
          simp only [Bool.false_eq_true, if_false] at e
          have h1 : (index r [44] + 1 == -1) = false := by simp only [beq_eq_false_iff_ne, ne_eq] at hm ⊢; omega
          have h2 : (index r [44] + 1).toNat = (index r [44]).toNat + 1 := by simp only [beq_eq_false_iff_ne, ne_eq] at hm; omega
          simp only [splitK, e, hm, h1, h2, Bool.false_eq_true, if_false, List.length_singleton, Nat.add_zero, List.take_succ_cons, List.drop_succ_cons]
          
theorem split_words (s : ByteArray) : (splitB ⟨#[44]⟩ 0 (countB s ⟨#[44]⟩) s).map (·.data.toList) = splitC s.data.toList := by
  rw [splitB_data, show countB s ⟨#[44]⟩ = s.data.toList.count 44 from count_one 44 _]
  exact splitK_c _

theorem colourD_lt {w p : List UInt8} {c : Nat} (h : colourD w p = some c) : c < 8 := by
  unfold colourD at h
  split at h
  · split at h
    · rw [← Option.some.inj h]; omega
    · cases h
  · cases h
theorem toldL_lt (w : List UInt8) : toldL w < 16384 := by
  unfold toldL
  repeat (split; · decide)
  split
  · rename_i c h
    have := colourD_lt h
    exact Nat.or_lt_two_pow (n := 14) (by decide) (by omega)
  · split
    · rename_i c h
      have := colourD_lt h
      exact Nat.or_lt_two_pow (n := 14) (by decide) (by omega)
    · decide
/-- The bits of the first k words. -/
def orK (l : List (List UInt8)) (k : Nat) : Nat := orW (l.take k)
theorem orK_next (l : List (List UInt8)) (k : Nat) (hk : k < l.length) : orK l (k + 1) = orK l k ||| toldL (l[k]?.getD []) := by
  unfold orK orW
  rw [List.take_add_one, List.foldl_append, List.getElem?_eq_getElem hk]
  rfl
theorem orK_lt (l : List (List UInt8)) (k : Nat) : orK l k < 16384 := by
  induction k with
  | zero => show orW (l.take 0) < _; rw [List.take_zero]; decide
  | succ k ih =>
    by_cases hk : k < l.length
    · rw [orK_next l k hk]
      exact Nat.or_lt_two_pow (n := 14) ih (toldL_lt _)
    · unfold orK at ih ⊢
      rw [List.take_of_length_le (by omega)] at ih ⊢
      exact ih
theorem orK_all (l : List (List UInt8)) : orK l l.length = orW l := by unfold orK; rw [List.take_length]
theorem parseL_nil : parseL [] = 0 := by decide
theorem splitC_len : ∀ s : List UInt8, ∀ w ∈ splitC s, w.length ≤ s.length
  | [], w, h => by simp [splitC] at h; simp [h]
  | c :: r, w, h => by
    have ih := splitC_len r
    simp only [splitC] at h
    split at h
    · rcases List.mem_cons.1 h with rfl | h
      · simp
      · have := ih w h; simp; omega
    · split at h
      · simp at h; simp [h]
      · rename_i x xs e
        rcases List.mem_cons.1 h with rfl | h
        · have := ih x (by rw [e]; simp); simp; omega
        · have := ih w (by rw [e]; exact List.mem_cons_of_mem _ h); simp; omega
theorem toldL_word (s : List UInt8) (k : Nat) (hk : k < 6) (h : wordAt k = s) : toldL s = 2 ^ k := by
  subst h
  obtain rfl | rfl | rfl | rfl | rfl | rfl : k = 0 ∨ k = 1 ∨ k = 2 ∨ k = 3 ∨ k = 4 ∨ k = 5 := by omega
  all_goals decide
theorem toldL_none (s : List UInt8) (h : ∀ j, j < 6 → wordAt j ≠ s) : toldL s = match colourD s foreW with
    | some c => 64 ||| (c * 256)
    | none => match colourD s backW with
      | some c => 64 ||| (c * 2048)
      | none => 0 := by
  unfold toldL
  rw [if_neg (fun e => h 0 (by decide) e.symm), if_neg (fun e => h 1 (by decide) e.symm), if_neg (fun e => h 2 (by decide) e.symm), if_neg (fun e => h 3 (by decide) e.symm), if_neg (fun e => h 4 (by decide) e.symm), if_neg (fun e => h 5 (by decide) e.symm)]
  cases colourD s foreW <;> cases colourD s backW <;> rfl
end Vz
