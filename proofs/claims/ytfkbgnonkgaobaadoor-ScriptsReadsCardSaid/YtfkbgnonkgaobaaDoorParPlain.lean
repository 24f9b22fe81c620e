/- Plain mathematics of Parse: lines, words, numbers; the step that words tell; which lines are a step's. -/
import Derived.Test.YtfkbgnonkgaobaaDoorScrPlainB
import Derived.Lib.Split
import Derived.Lib.SplitLaws
import Derived.Lib.IndexBytes
import Derived.Lib.AtoiAll
import Derived.Lib.Strings
namespace Vz
open Go Go.Lib
set_option linter.unusedSimpArgs false
set_option linter.unusedVariables false

/-! ### Words -/
def splitS : List UInt8 → List (List UInt8)
  | [] => [[]]
  | c :: r => if c = 32 then [] :: splitS r else match splitS r with
    | [] => [[c]]
    | x :: xs => (c :: x) :: xs
theorem splitK_s : ∀ s : List UInt8, splitK [32] 0 (s.count 32) s = splitS s
  | [] => rfl
  | c :: r => by
    have ih := splitK_s r
    by_cases h : c = 32
    · subst h
      have e : index (32 :: r) [32] = 0 := by rw [index_one]; simp [indexByte]
      rw [List.count_cons_self, splitK, if_neg (by rw [e]; decide), e]
      simp only [splitS, if_true]
      simp [ih]
    · rw [List.count_cons_of_ne h]
      simp only [splitS, if_neg h]
      have hc : (c == 32) = false := by simpa using h
      cases hk : r.count 32 with
      | zero =>
        rw [hk] at ih
        rw [← ih]
        rfl
      | succ k =>
        rw [hk] at ih
        rw [← ih]
        have e : index (c :: r) [32] = if index r [32] == -1 then -1 else index r [32] + 1 := by
          rw [index_one, index_one, indexByte, hc]; rfl
        have hge := indexByte_ge r 32
        rw [← index_one] at hge
        cases hm : index r [32] == -1 with
        | true =>
          rw [hm] at e
          simp only [splitK, e, hm]
          rfl
        | false =>
          rw [hm] at e
          simp only [Bool.false_eq_true, if_false] at e
          have h1 : (index r [32] + 1 == -1) = false := by simp only [beq_eq_false_iff_ne, ne_eq] at hm ⊢; omega
          have h2 : (index r [32] + 1).toNat = (index r [32]).toNat + 1 := by simp only [beq_eq_false_iff_ne, ne_eq] at hm; omega
          simp only [splitK, e, hm, h1, h2, Bool.false_eq_true, if_false, List.length_singleton, Nat.add_zero, List.take_succ_cons, List.drop_succ_cons]
theorem split_blanks (s : ByteArray) : (splitB ⟨#[32]⟩ 0 (countB s ⟨#[32]⟩) s).map (·.data.toList) = splitS s.data.toList := by
  rw [splitB_data, show countB s ⟨#[32]⟩ = s.data.toList.count 32 from count_one 32 _]
  exact splitK_s _
theorem splitS_ne (s : List UInt8) : splitS s ≠ [] := by
  cases s with
  | nil => simp [splitS]
  | cons c r =>
    unfold splitS
    split
    · simp
    · split <;> simp
theorem splitS_len (s : List UInt8) : (splitS s).length ≤ s.length + 1 := by
  induction s with
  | nil => simp [splitS]
  | cons c r ih =>
    unfold splitS
    split
    · simp; omega
    · split
      · simp
      · rename_i x xs hx
        rw [hx] at ih
        simp at ih ⊢
        omega
theorem splitS_sum (s : List UInt8) : ∀ w ∈ splitS s, w.length ≤ s.length := by
  induction s with
  | nil => intro w hw; simp [splitS] at hw; subst hw; simp
  | cons c r ih =>
    intro w hw
    unfold splitS at hw
    split at hw
    · simp at hw
      rcases hw with rfl | hw
      · simp
      · have := ih w hw; simp; omega
    · split at hw
      · simp at hw; subst hw; simp
      · rename_i x xs hx
        simp at hw
        rcases hw with rfl | hw
        · have := ih x (by rw [hx]; simp); simp; omega
        · have := ih w (by rw [hx]; simp [hw]); simp; omega
theorem splitS_app (w t : List UInt8) (h : (32 : UInt8) ∉ w) : splitS (w ++ 32 :: t) = w :: splitS t := by
  induction w with
  | nil => simp [splitS]
  | cons c r ih =>
    simp at h
    have hc : ¬ c = 32 := fun e => h.1 e.symm
    rw [List.cons_append, splitS, if_neg hc, ih h.2]
theorem splitS_one (w : List UInt8) (h : (32 : UInt8) ∉ w) : splitS w = [w] := by
  induction w with
  | nil => rfl
  | cons c r ih =>
    simp at h
    have hc : ¬ c = 32 := fun e => h.1 e.symm
    rw [splitS, if_neg hc, ih h.2]
theorem join_two (w v : List UInt8) (vs : List (List UInt8)) : Go.Lib.join (w :: v :: vs) [32] = w ++ 32 :: Go.Lib.join (v :: vs) [32] := by
  unfold Go.Lib.join
  simp [List.intercalate]
theorem splitS_join (w : List UInt8) (ws : List (List UInt8)) (h : ∀ x ∈ w :: ws, (32 : UInt8) ∉ x) : splitS (Go.Lib.join (w :: ws) [32]) = w :: ws := by
  induction ws generalizing w with
  | nil => rw [show Go.Lib.join [w] [32] = w by simp [Go.Lib.join, List.intercalate]]; exact splitS_one w (h w (by simp))
  | cons v vs ih => rw [join_two, splitS_app w _ (h w (by simp)), ih v (fun x hx => h x (List.mem_cons_of_mem _ hx))]

/-! ### Numbers, hexadecimal digits -/
def atoiN (w : List UInt8) : Int := match atoiAll w with
  | .ok v => v
  | _ => -1
theorem parse_snoc (l : List UInt8) (c : UInt8) : ∀ acc m, parseUint10 acc l = .ok m → parseUint10 acc (l ++ [c]) = parseUint10 m [c] := by
  induction l with
  | nil =>
    intro acc m h
    simp only [parseUint10] at h
    injection h with h
    subst h
    rfl
  | cons x r ih =>
    intro acc m h
    rw [parseUint10] at h
    rw [List.cons_append, parseUint10]
    split at h
    · rename_i h1
      rw [if_pos h1]
      split at h
      · cases h
      · rename_i h2
        rw [if_neg h2]
        split at h
        · cases h
        · rename_i h3
          rw [if_neg h3]
          exact ih _ _ h
    · cases h
theorem parse_digN : ∀ (k n : Nat), n ≤ 9999 → n < 10 ^ (k + 1) → parseUint10 0 (digN n) = .ok n
  | 0, n, h9, h => by
    have hs : n < 10 := by simpa using h
    rw [digN_small n hs]
    have hd : (UInt8.ofNat (48 + n)).toNat = 48 + n := by simp; omega
    simp only [parseUint10]
    rw [hd, if_pos ⟨by omega, by omega⟩, if_neg (by omega), if_neg (by omega)]
    congr 1
    omega
  | k + 1, n, h9, h => by
    by_cases hs : n < 10
    · exact parse_digN k n h9 (Nat.lt_of_lt_of_le (show n < 10 ^ 1 by omega) (Nat.pow_le_pow_right (by decide) (by omega)))
    · have i2 := parse_digN k (n / 10) (by omega) (by rw [Nat.pow_succ] at h; omega)
      have hd : (UInt8.ofNat (48 + n % 10)).toNat = 48 + n % 10 := by simp; omega
      rw [digN_big n hs, parse_snoc _ _ _ _ i2]
      simp only [parseUint10]
      rw [hd, if_pos ⟨by omega, by omega⟩, if_neg (by omega), if_neg (by omega)]
      congr 1
      omega
theorem digN_dig (n : Nat) (h : n ≤ 9999) : ∀ b ∈ digN n, 48 ≤ b.toNat ∧ b.toNat ≤ 57 := fun b hb => by
  have := (digN_num 4 n h (by omega)).1 b hb
  unfold digitB at this
  omega
theorem atoiN_digN (n : Nat) (h : n ≤ 9999) : atoiN (digN n) = n := by
  have hp := parse_digN 3 n h (by omega)
  have hd := digN_dig n h
  unfold atoiN
  cases hl : digN n with
  | nil => exact absurd hl (digN_ne n)
  | cons c r =>
    rw [hl] at hp hd
    have hc := hd c (by simp)
    unfold atoiAll
    simp only
    rw [if_neg (by omega)]
    unfold parseMag
    rw [if_neg (by simp), hp]
    simp only
    rw [if_neg (by omega), if_neg (by omega), if_neg (by omega)]
theorem digN_not (n : Nat) (h : n ≤ 9999) (c : UInt8) (hc : c.toNat < 48 ∨ 57 < c.toNat) (r : List UInt8) : digN n ≠ c :: r := fun e => by
  have := digN_dig n h c (by rw [e]; simp)
  omega
def hexV (c : UInt8) : Nat := (indexByte [48, 49, 50, 51, 52, 53, 54, 55, 56, 57, 97, 98, 99, 100, 101, 102] c).toNat
theorem hexV_lt (c : UInt8) : hexV c < 16 := by
  have : ∀ n : Fin 256, hexV (UInt8.ofNat n.val) < 16 := by decide +kernel
  have h := this ⟨c.toNat, c.toNat_lt⟩
  simpa using h
theorem hexV_hexC : ∀ n : Fin 16, hexV (hexC n.val) = n.val := by decide +kernel
def unhexP : List UInt8 → List UInt8
  | a :: b :: r => UInt8.ofNat (16 * hexV a + hexV b) :: unhexP r
  | _ => []
theorem unhexP_hexL (t : List UInt8) : unhexP (hexL t) = t := by
  induction t with
  | nil => rfl
  | cons b r ih =>
    have e : hexL (b :: r) = hexC (b.toNat / 16) :: hexC (b.toNat % 16) :: hexL r := rfl
    have hb := b.toNat_lt
    have h1 := hexV_hexC ⟨b.toNat / 16, by omega⟩
    have h2 := hexV_hexC ⟨b.toNat % 16, by omega⟩
    simp only at h1 h2
    rw [e, unhexP, ih, h1, h2, show 16 * (b.toNat / 16) + b.toNat % 16 = b.toNat by omega]
    simp
theorem hexC_ge : ∀ n : Fin 16, 48 ≤ (hexC n.val).toNat := by decide +kernel
theorem hexL_ge (t : List UInt8) : ∀ b ∈ hexL t, 48 ≤ b.toNat := by
  intro b hb
  unfold hexL at hb
  rw [List.mem_flatMap] at hb
  obtain ⟨c, -, hb⟩ := hb
  have hc := c.toNat_lt
  simp at hb
  rcases hb with rfl | rfl
  · exact hexC_ge ⟨c.toNat / 16, by omega⟩
  · exact hexC_ge ⟨c.toNat % 16, by omega⟩

/-! ### The step that words tell -/
def feedW : List UInt8 := [102, 101, 101, 100]
def pressW : List UInt8 := [112, 114, 101, 115, 115]
def drainW : List UInt8 := [100, 114, 97, 105, 110]
def resetW : List UInt8 := [114, 101, 115, 101, 116]
def resizeW : List UInt8 := [114, 101, 115, 105, 122, 101]
def switchW : List UInt8 := [115, 119, 105, 116, 99, 104]
def shiftW : List UInt8 := [115, 104, 105, 102, 116]
def ctrlW : List UInt8 := [99, 116, 114, 108]
def doOf (w : List UInt8) : Int := if w = feedW then 1 else if w = pressW then 2 else if w = drainW then 3 else if w = resetW then 4 else if w = resizeW then 5 else if w = switchW then 6 else 0
def numAt (ws : List (List UInt8)) (i : Nat) : Int := match ws[i]? with
  | some w => atoiN w
  | none => -1
def toldP (ws : List (List UInt8)) : Stp :=
  let d := doOf (ws[0]?.getD [])
  if d = 1 then { Stp.nil with d := 1, text := match ws[1]? with | some w => unhexP w | none => [] }
  else if d = 2 then { Stp.nil with d := 2, kind := numAt ws 1, code := numAt ws 2, shift := decide (ws[3]? = some shiftW), ctrl := decide (ws[ws.length - 1]? = some ctrlW) }
  else if d = 5 then { Stp.nil with d := 5, rows := numAt ws 1, cols := numAt ws 2 }
  else if d = 6 then { Stp.nil with d := 6, to := numAt ws 1 }
  else { Stp.nil with d := d }
theorem small_le {n m : Int} (h : small n m = true) : ∃ k : Nat, n = k ∧ (k : Int) ≤ m := by
  unfold small at h
  simp at h
  obtain ⟨k, rfl⟩ := Int.eq_ofNat_of_zero_le h.1
  exact ⟨k, rfl, h.2⟩
theorem toldP_words (y : Stp) (h : y.right = true) : toldP y.words = y := by
  have hr := (Stp.right_iff y).1 h
  obtain ⟨d, t, k, c, s, l, r, o, z⟩ := y
  obtain ⟨hd, hb, ⟨hk, hc⟩, ⟨hrr, hoo⟩, hz⟩ := hr
  simp only at hd hk hc hrr hoo hz
  obtain ⟨k, rfl, hk⟩ := small_le hk
  obtain ⟨c, rfl, hc⟩ := small_le hc
  obtain ⟨r, rfl, hrr⟩ := small_le hrr
  obtain ⟨o, rfl, hoo⟩ := small_le hoo
  obtain ⟨z, rfl, hz⟩ := small_le hz
  have nk := atoiN_digN k (by omega)
  have nc := atoiN_digN c (by omega)
  have nr := atoiN_digN r (by omega)
  have no := atoiN_digN o (by omega)
  have nz := atoiN_digN z (by omega)
  have cs : digN c ≠ ctrlW := digN_not c (by omega) 99 (by decide) _
  clear h
  obtain rfl | rfl | rfl | rfl | rfl | rfl : d = 1 ∨ d = 2 ∨ d = 3 ∨ d = 4 ∨ d = 5 ∨ d = 6 := by omega
  · simp [Stp.bare, Stp.nil] at hb
    obtain ⟨rfl, rfl, rfl, rfl, rfl, rfl, rfl⟩ := hb
    by_cases he : t = []
    · subst he; rfl
    · have : Stp.words ⟨1, t, 0, 0, false, false, 0, 0, 0⟩ = [feedW, hexL t] := by unfold Stp.words; simp [he]; rfl
      simp [Stp.nil] at *
      rw [this]
      simp [toldP, doOf, feedW, unhexP_hexL, Stp.nil]
  · simp [Stp.bare, Stp.nil] at hb
    obtain ⟨rfl, rfl, rfl, rfl⟩ := hb
    cases s <;> cases l <;> simp [Stp.words, toldP, doOf, feedW, pressW, numAt, nk, nc, shiftW, ctrlW, Stp.nil] <;> first | rfl | (intro e; exact absurd e cs)
  · simp [Stp.bare, Stp.nil] at hb
    simp [hb, Stp.words, toldP, doOf, feedW, pressW, drainW, Stp.nil]
  · simp [Stp.bare, Stp.nil] at hb
    simp [hb, Stp.words, toldP, doOf, feedW, pressW, drainW, resetW, Stp.nil]
  · simp [Stp.bare, Stp.nil] at hb
    simp [hb, Stp.words, toldP, doOf, feedW, pressW, drainW, resetW, resizeW, numAt, nr, no, Stp.nil]
  · simp [Stp.bare, Stp.nil] at hb
    simp [hb, Stp.words, toldP, doOf, feedW, pressW, drainW, resetW, resizeW, switchW, numAt, nz, Stp.nil]
theorem words_clean (y : Stp) (h : y.right = true) : ∀ w ∈ y.words, ∀ b ∈ w, 48 ≤ b.toNat := by
  have hr := (Stp.right_iff y).1 h
  obtain ⟨d, t, k, c, s, l, r, o, z⟩ := y
  obtain ⟨hd, hb, ⟨hk, hc⟩, ⟨hrr, hoo⟩, hz⟩ := hr
  simp only at hd hk hc hrr hoo hz
  obtain ⟨k, rfl, hk⟩ := small_le hk
  obtain ⟨c, rfl, hc⟩ := small_le hc
  obtain ⟨r, rfl, hrr⟩ := small_le hrr
  obtain ⟨o, rfl, hoo⟩ := small_le hoo
  obtain ⟨z, rfl, hz⟩ := small_le hz
  have gk := fun b hb => (digN_dig k (by omega) b hb).1
  have gc := fun b hb => (digN_dig c (by omega) b hb).1
  have gr := fun b hb => (digN_dig r (by omega) b hb).1
  have go := fun b hb => (digN_dig o (by omega) b hb).1
  have gz := fun b hb => (digN_dig z (by omega) b hb).1
  have gt := hexL_ge t
  clear h hb
  obtain rfl | rfl | rfl | rfl | rfl | rfl : d = 1 ∨ d = 2 ∨ d = 3 ∨ d = 4 ∨ d = 5 ∨ d = 6 := by omega
  · by_cases he : t = []
    · simp [Stp.words, he]
    · simp [Stp.words, he]; exact gt
  · cases s <;> cases l <;> simp [Stp.words] <;> exact ⟨gk, gc⟩
  · simp [Stp.words]
  · simp [Stp.words]
  · simp [Stp.words]; exact ⟨gr, go⟩
  · simp [Stp.words]; exact gz
theorem words_cons (y : Stp) : ∃ w ws, y.words = w :: ws := by
  unfold Stp.words
  repeat' split
  all_goals exact ⟨_, _, rfl⟩

/-! ### Lines -/
theorem trim_lf (l : List UInt8) : trimSuffix (l ++ [10]) [10] = l := by
  unfold trimSuffix hasSuffix
  simp
theorem line_split (y : Stp) (h : y.right = true) : splitS (trimSuffix y.line [10]) = y.words := by
  rw [← Stp.line_words y h, trim_lf]
  have hc := words_clean y h
  obtain ⟨w, ws, hw⟩ := words_cons y
  rw [hw] at hc ⊢
  refine splitS_join w ws fun x hx h32 => ?_
  have := hc x hx 32 h32
  exact absurd this (by decide)
theorem line_lf (y : Stp) (h : y.right = true) : ∃ b, y.line = b ++ [10] ∧ (10 : UInt8) ∉ b := by
  refine ⟨Go.Lib.join y.words [32], (Stp.line_words y h).symm, ?_⟩
  have hc := words_clean y h
  generalize y.words = ws at hc
  intro hm
  cases ws with
  | nil => simp [Go.Lib.join, List.intercalate] at hm
  | cons w r =>
    induction r generalizing w with
    | nil =>
      rw [show Go.Lib.join [w] [32] = w by simp [Go.Lib.join, List.intercalate]] at hm
      exact absurd (hc w (by simp) 10 hm) (by decide)
    | cons v vs ih =>
      rw [join_two] at hm
      simp at hm
      rcases hm with hm | hm
      · exact absurd (hc w (by simp) 10 hm) (by decide)
      · exact ih v (fun x hx => hc x (List.mem_cons_of_mem _ hx)) hm
/-- The step whose line a text is. -/
def stepOf (t : List UInt8) : Option Stp :=
  if (toldP (splitS (trimSuffix t [10]))).right = true ∧ (toldP (splitS (trimSuffix t [10]))).line = t then some (toldP (splitS (trimSuffix t [10]))) else none
theorem stepOf_line (y : Stp) (h : y.right = true) : stepOf y.line = some y := by
  unfold stepOf
  rw [line_split y h, toldP_words y h, if_pos ⟨h, rfl⟩]
theorem stepOf_some {t : List UInt8} {y : Stp} (h : stepOf t = some y) : y.right = true ∧ y.line = t := by
  unfold stepOf at h
  split at h
  · rename_i hh
    obtain rfl := Option.some.inj h
    exact hh
  · cases h
theorem stepOf_none {t : List UInt8} (h : stepOf t = none) (y : Stp) (hr : y.right = true) : y.line ≠ t := fun e => by
  rw [← e, stepOf_line y hr] at h
  cases h
def linesOf : List UInt8 → List (List UInt8)
  | [] => []
  | c :: r => if c = 10 then [10] :: linesOf r else match linesOf r with
    | [] => [[c]]
    | x :: xs => (c :: x) :: xs
/-- Where the first line ends. -/
def cutN (s : List UInt8) : Nat := if indexByte s 10 = -1 then s.length else (indexByte s 10).toNat + 1
theorem linesOf_nil {r : List UInt8} (h : linesOf r = []) : r = [] := by
  cases r with
  | nil => rfl
  | cons c r =>
    unfold linesOf at h
    split at h
    · cases h
    · split at h <;> cases h
theorem linesOf_cut (s : List UInt8) (h : s ≠ []) : linesOf s = s.take (cutN s) :: linesOf (s.drop (cutN s)) := by
  induction s with
  | nil => exact absurd rfl h
  | cons c r ih =>
    unfold cutN
    by_cases hc : c = 10
    · subst hc
      simp [linesOf, indexByte]
    · have e : indexByte (c :: r) 10 = if indexByte r 10 = -1 then -1 else indexByte r 10 + 1 := by
        rw [indexByte, if_neg (by simpa using hc)]
        simp
      have hge := indexByte_ge r 10
      by_cases hr : r = []
      · subst hr
        simp [linesOf, hc, indexByte]
      · have ih' := ih hr
        rw [linesOf, if_neg hc, ih']
        unfold cutN
        rw [e]
        by_cases h1 : indexByte r 10 = -1
        · simp [h1]
        · rw [if_neg h1, if_neg h1, if_neg (by omega), show (indexByte r 10 + 1).toNat + 1 = ((indexByte r 10).toNat + 1) + 1 by omega]
          simp
theorem cutN_pos (s : List UInt8) (h : s ≠ []) : 0 < cutN s := by
  unfold cutN
  split
  · cases s with
    | nil => exact absurd rfl h
    | cons c r => simp
  · omega
theorem linesOf_flat (s : List UInt8) : (linesOf s).flatten = s := by
  induction s with
  | nil => rfl
  | cons c r ih =>
    unfold linesOf
    split
    · rename_i hc; simp [ih, hc]
    · split
      · rename_i hn
        rw [linesOf_nil hn]; rfl
      · rename_i x xs hx
        rw [hx] at ih
        simp at ih ⊢
        exact ih
theorem linesOf_app (b rest : List UInt8) (h : (10 : UInt8) ∉ b) : linesOf (b ++ 10 :: rest) = (b ++ [10]) :: linesOf rest := by
  induction b with
  | nil => simp [linesOf]
  | cons c r ih =>
    simp at h
    have hc : ¬ c = 10 := fun e => h.1 e.symm
    rw [List.cons_append, linesOf, if_neg hc, ih h.2]
    rfl
/-- Steps whose lines these are. -/
def parseL : List (List UInt8) → Option (List Stp)
  | [] => some []
  | t :: r => match stepOf t with
    | none => none
    | some x => match parseL r with
      | none => none
      | some xs => some (x :: xs)
theorem parseL_lines (L : List Stp) (h : ∀ x ∈ L, x.right = true) : parseL (linesOf (L.flatMap Stp.line)) = some L := by
  induction L with
  | nil => rfl
  | cons x r ih =>
    obtain ⟨b, hb, hn⟩ := line_lf x (h x (by simp))
    rw [List.flatMap_cons, hb, List.append_assoc]
    rw [show [(10 : UInt8)] ++ r.flatMap Stp.line = 10 :: r.flatMap Stp.line from rfl, linesOf_app b _ hn, ← hb, parseL, stepOf_line x (h x (by simp)), ih (fun y hy => h y (by simp [hy]))]
theorem parseL_some {ls : List (List UInt8)} {L : List Stp} (h : parseL ls = some L) : (∀ x ∈ L, x.right = true) ∧ L.flatMap Stp.line = ls.flatten := by
  induction ls generalizing L with
  | nil => obtain rfl := Option.some.inj h; exact ⟨by simp, rfl⟩
  | cons t r ih =>
    unfold parseL at h
    split at h
    · cases h
    · rename_i x hx
      split at h
      · cases h
      · rename_i xs hxs
        obtain rfl := Option.some.inj h
        obtain ⟨h1, h2⟩ := ih hxs
        obtain ⟨k1, k2⟩ := stepOf_some hx
        refine ⟨fun y hy => ?_, by rw [List.flatMap_cons, h2, k2]; rfl⟩
        rcases List.mem_cons.1 hy with rfl | hy
        · exact k1
        · exact h1 y hy
end Vz
