/- Plain mathematics of vizardref23's Parse: numbers, words, the step that a line tells. -/
import Derived.Test.YtfkbgnonkgaobaaDoorParPlainB
namespace Vz
open Go Go.Lib
set_option linter.unusedSimpArgs false
set_option linter.unusedVariables false

/-! ### Numbers -/
def rdGo : Nat → List UInt8 → Int
  | acc, [] => acc
  | acc, c :: r => if c.toNat < 48 ∨ 57 < c.toNat then -1 else rdGo (10 * acc + (c.toNat - 48)) r
def rdNum (w : List UInt8) : Int := if w = [] ∨ 5 < w.length then -1 else rdGo 0 w
theorem rdGo_digN : ∀ (k n : Nat), n < 10 ^ (k + 1) → ∀ t, rdGo 0 (digN n ++ t) = rdGo n t
  | 0, n, h, t => by
    have hs : n < 10 := by simpa using h
    rw [digN_small n hs]
    have hd : (UInt8.ofNat (48 + n)).toNat = 48 + n := by simp; omega
    simp only [List.cons_append, List.nil_append, rdGo]
    rw [hd, if_neg (by omega)]
    congr 1
    omega
  | k + 1, n, h, t => by
    by_cases hs : n < 10
    · exact rdGo_digN k n (Nat.lt_of_lt_of_le (show n < 10 ^ 1 by omega) (Nat.pow_le_pow_right (by decide) (by omega))) t
    · have i2 := rdGo_digN k (n / 10) (by rw [Nat.pow_succ] at h; omega)
      have hd : (UInt8.ofNat (48 + n % 10)).toNat = 48 + n % 10 := by simp; omega
      rw [digN_big n hs, List.append_assoc, i2]
      simp only [List.cons_append, List.nil_append, rdGo]
      rw [hd, if_neg (by omega)]
      congr 1
      omega
theorem rdNum_digN (n : Nat) (h : n ≤ 9999) : rdNum (digN n) = n := by
  unfold rdNum
  have := digN_len n h
  have := digN_ne n
  rw [if_neg (by rintro (h | h); exact this h; omega)]
  have h2 := rdGo_digN 3 n (by omega) []
  rw [List.append_nil] at h2
  rw [h2]
  rfl
theorem rdGo_ge : ∀ (l : List UInt8) (acc : Nat), -1 ≤ rdGo acc l ∧ rdGo acc l ≤ (acc + 1) * 10 ^ l.length
  | [], acc => by simp [rdGo]; omega
  | c :: r, acc => by
    unfold rdGo
    split
    · constructor
      · omega
      · have : 0 ≤ ((acc : Int) + 1) * 10 ^ (c :: r).length := by
          apply Int.mul_nonneg
          · omega
          · exact Int.le_of_lt (Int.pow_pos (by decide))
        omega
    · have ih := rdGo_ge r (10 * acc + (c.toNat - 48))
      refine ⟨ih.1, Int.le_trans ih.2 ?_⟩
      rw [List.length_cons, Int.pow_succ, Int.mul_comm (10 ^ r.length) 10, ← Int.mul_assoc]
      apply Int.mul_le_mul_of_nonneg_right
      · push_cast
        omega
      · exact Int.le_of_lt (Int.pow_pos (by decide))
def rdVal (c : UInt8) : Nat := if 48 ≤ c.toNat ∧ c.toNat ≤ 57 then c.toNat - 48 else if 97 ≤ c.toNat ∧ c.toNat ≤ 102 then c.toNat - 87 else 0
theorem rdVal_hexV (c : UInt8) : rdVal c = hexV c := by
  have : ∀ n : Fin 256, rdVal (UInt8.ofNat n.val) = hexV (UInt8.ofNat n.val) := by decide +kernel
  have h := this ⟨c.toNat, c.toNat_lt⟩
  simpa using h

/-! ### Words -/
theorem splitS_blank (l : List UInt8) : splitS (l ++ [32]) = splitS l ++ [[]] := by
  induction l with
  | nil => rfl
  | cons c r ih =>
    rw [List.cons_append]
    unfold splitS
    by_cases h : c = 32
    · rw [if_pos h, if_pos h, ih]; rfl
    · rw [if_neg h, if_neg h, ih]
      cases hr : splitS r with
      | nil => exact absurd hr (splitS_ne r)
      | cons x xs => rfl
theorem splitS_snoc (l : List UInt8) (c : UInt8) (h : c ≠ 32) : ∃ ws w, splitS l = ws ++ [w] ∧ splitS (l ++ [c]) = ws ++ [w ++ [c]] := by
  induction l with
  | nil => exact ⟨[], [], rfl, by simp [splitS, h]⟩
  | cons a r ih =>
    obtain ⟨ws, w, h1, h2⟩ := ih
    rw [List.cons_append]
    unfold splitS
    by_cases ha : a = 32
    · rw [if_pos ha, if_pos ha, h1, h2]
      exact ⟨[] :: ws, w, rfl, rfl⟩
    · rw [if_neg ha, if_neg ha, h1, h2]
      cases ws with
      | nil => exact ⟨[], a :: w, rfl, rfl⟩
      | cons x xs => exact ⟨(a :: x) :: xs, w, rfl, rfl⟩

/-! ### The step that a line tells -/
def rdAt (ws : List (List UInt8)) (i : Nat) : Int := match ws[i]? with
  | some w => rdNum w
  | none => -1
def rdTold (ws : List (List UInt8)) : Stp :=
  let d := doOf (ws[0]?.getD [])
  if d = 1 then { Stp.nil with d := 1, text := match ws[1]? with | some w => unhexP w | none => [] }
  else if d = 2 then { Stp.nil with d := 2, kind := rdAt ws 1, code := rdAt ws 2, shift := (ws.drop 3).any (· == shiftW), ctrl := (ws.drop 3).any (· == ctrlW) }
  else if d = 5 then { Stp.nil with d := 5, rows := rdAt ws 1, cols := rdAt ws 2 }
  else if d = 6 then { Stp.nil with d := 6, to := rdAt ws 1 }
  else { Stp.nil with d := d }
theorem rdTold_words (y : Stp) (h : y.right = true) : rdTold y.words = y := by
  have hr := (Stp.right_iff y).1 h
  obtain ⟨d, t, k, c, s, l, r, o, z⟩ := y
  obtain ⟨hd, hb, ⟨hk, hc⟩, ⟨hrr, hoo⟩, hz⟩ := hr
  simp only at hd hk hc hrr hoo hz
  obtain ⟨k, rfl, hk⟩ := small_le hk
  obtain ⟨c, rfl, hc⟩ := small_le hc
  obtain ⟨r, rfl, hrr⟩ := small_le hrr
  obtain ⟨o, rfl, hoo⟩ := small_le hoo
  obtain ⟨z, rfl, hz⟩ := small_le hz
  have nk := rdNum_digN k (by omega)
  have nc := rdNum_digN c (by omega)
  have nr := rdNum_digN r (by omega)
  have no := rdNum_digN o (by omega)
  have nz := rdNum_digN z (by omega)
  clear h
  obtain rfl | rfl | rfl | rfl | rfl | rfl : d = 1 ∨ d = 2 ∨ d = 3 ∨ d = 4 ∨ d = 5 ∨ d = 6 := by omega
  · simp [Stp.bare, Stp.nil] at hb
    obtain ⟨rfl, rfl, rfl, rfl, rfl, rfl, rfl⟩ := hb
    by_cases he : t = []
    · subst he; rfl
    · have : Stp.words ⟨1, t, 0, 0, false, false, 0, 0, 0⟩ = [feedW, hexL t] := by unfold Stp.words; simp [he]; rfl
      simp [Stp.nil] at *
      rw [this]
      simp [rdTold, doOf, feedW, unhexP_hexL, Stp.nil]
  · simp [Stp.bare, Stp.nil] at hb
    obtain ⟨rfl, rfl, rfl, rfl⟩ := hb
    cases s <;> cases l <;> simp [Stp.words, rdTold, doOf, feedW, pressW, rdAt, nk, nc, shiftW, ctrlW, Stp.nil] <;> rfl
  · simp [Stp.bare, Stp.nil] at hb
    simp [hb, Stp.words, rdTold, doOf, feedW, pressW, drainW, Stp.nil]
  · simp [Stp.bare, Stp.nil] at hb
    simp [hb, Stp.words, rdTold, doOf, feedW, pressW, drainW, resetW, Stp.nil]
  · simp [Stp.bare, Stp.nil] at hb
    simp [hb, Stp.words, rdTold, doOf, feedW, pressW, drainW, resetW, resizeW, rdAt, nr, no, Stp.nil]
  · simp [Stp.bare, Stp.nil] at hb
    simp [hb, Stp.words, rdTold, doOf, feedW, pressW, drainW, resetW, resizeW, switchW, rdAt, nz, Stp.nil]
theorem rdTold_text (ws : List (List UInt8)) (n : Nat) (h : ∀ w ∈ ws, w.length ≤ n) : (rdTold ws).text.length ≤ n := by
  unfold rdTold
  simp only
  split
  · simp only
    split
    · rename_i w hw
      exact Nat.le_trans (unhexP_le w) (h w (List.mem_of_getElem? hw))
    · simp
  · repeat' split
    all_goals simp [Stp.nil]
/-- What One answers: its step; is it one? -/
def rdOne (s : List UInt8) : Bool := (rdTold (splitS s)).right && decide ((rdTold (splitS s)).line = s ++ [10])
theorem rdOne_some {s : List UInt8} {y : Stp} (h : stepOf (s ++ [10]) = some y) : rdTold (splitS s) = y ∧ rdOne s = true := by
  obtain ⟨hr, hl⟩ := stepOf_some h
  have hw := line_split y hr
  rw [hl, trim_lf] at hw
  have e : rdTold (splitS s) = y := by rw [hw]; exact rdTold_words y hr
  refine ⟨e, ?_⟩
  unfold rdOne
  rw [e, hr, decide_eq_true hl]
  rfl
theorem rdOne_none {s : List UInt8} (h : stepOf (s ++ [10]) = none) : rdOne s = false := by
  unfold rdOne
  cases hr : (rdTold (splitS s)).right with
  | false => rfl
  | true => rw [decide_eq_false (stepOf_none h _ hr)]; rfl
theorem linesOf_tail (s : List UInt8) (h : (10 : UInt8) ∉ s) (h0 : s ≠ []) : linesOf s = [s] := by
  induction s with
  | nil => exact absurd rfl h0
  | cons c r ih =>
    simp at h
    have hc : ¬ c = 10 := fun e => h.1 e.symm
    rw [linesOf, if_neg hc]
    cases r with
    | nil => rfl
    | cons x xs => rw [ih h.2 (by simp)]
theorem parse_tail (s : List UInt8) (h : (10 : UInt8) ∉ s) (h0 : s ≠ []) : parseL (linesOf s) = none := by
  rw [linesOf_tail s h h0, parseL]
  have : stepOf s = none := by
    cases hs : stepOf s with
    | none => rfl
    | some y =>
      obtain ⟨hr, hl⟩ := stepOf_some hs
      obtain ⟨b, hb, -⟩ := line_lf y hr
      rw [hl] at hb
      exact absurd (by rw [hb]; simp) h
  rw [this]
theorem parse_step (ln rest : List UInt8) (h : (10 : UInt8) ∉ ln) : parseL (linesOf (ln ++ 10 :: rest)) = match stepOf (ln ++ [10]) with
    | none => none
    | some x => (parseL (linesOf rest)).map (x :: ·) := by
  rw [linesOf_app ln rest h, parseL]
  cases stepOf (ln ++ [10]) with
  | none => rfl
  | some x => cases parseL (linesOf rest) <;> rfl
end Vz
