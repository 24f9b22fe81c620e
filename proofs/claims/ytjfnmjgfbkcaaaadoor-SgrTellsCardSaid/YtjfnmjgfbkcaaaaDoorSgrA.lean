/- Walks: sgr.May, right, coloured, colour. -/
import Derived.Test.YtjfnmjgfbkcaaaaDoorProg
import Derived.Test.YtjfnmjgfbkcaaaaDoorSgrBits
import Derived.WalkKit
import Derived.Lib.Hide
namespace Go.Proofs.YtjfnmjgfbkcaaaaDoor
open Go.RowKit

theorem ret1 {a b : Value} (h : a = b) : Ending.returned a = .returned b := by rw [h]
theorem ret_tup2 {a b : Value} {a' b' : Value} (h : a = a') (h' : b = b') : Ending.returned (.tuple #[a, b]) = .returned (.tuple #[a', b']) := by rw [h, h']

theorem t64_eq (n : Nat) (hn : n < 16384) : (bits .and .i64 (n : Int) 64 == 0) = decide (n / 64 % 2 = 0) := by
  have h := (Vz.land_bits n hn).2.2.2.1
  have t64 : (bits .and .i64 (n : Int) 64 == 0) = _ := Vz.and_test0 n 64 (by omega) (by decide)
  rw [t64]
  rcases Nat.mod_two_eq_zero_or_one (n / 64) with e | e <;> rw [e] at h ⊢ <;> simp [bne] at h ⊢ <;> exact h

set_option maxHeartbeats 1000000 in
theorem smay_yes (n : Nat) (h : Vz.MayP n) (w : World) :
    Calls Tryd.prog 12 #[.int .i64 n] w fun e w' => e = .returned (.int .i64 0) ∧ w = w' := by
  have hn := h.1
  have h7 := h.2.1
  have b1 : (bits .and .i64 (n : Int) 128 != 0) = false := by
    rw [show (128 : Int) = ((128 : Nat) : Int) from rfl, Vz.and_test n 128 (by omega) (by decide), (Vz.land_more n hn).1]
    simp [h7]
  by_cases h3 : n / 64 % 2 = 0
  · have b2 : (bits .and .i64 (n : Int) 64 == 0) = true := by rw [t64_eq n hn]; simp [h3]
    have b3 : (bits .and .i64 (n : Int) 16128 != 0) = false := by
      rw [show (16128 : Int) = ((16128 : Nat) : Int) from rfl, Vz.and_test n 16128 (by omega) (by decide), (Vz.land_more n hn).2]
      have : n < 64 := Vz.mayP_small n h h3
      rw [Nat.div_eq_of_lt (by omega)]; rfl
    clear h h3 h7
    go_enter Tryd.func12, Tryd.ntmps12
    go_wp2
    go_ret
    exact ⟨rfl, rfl⟩
  · have b2 : (bits .and .i64 (n : Int) 64 == 0) = false := by rw [t64_eq n hn]; simp [h3]
    clear h h3 h7
    go_enter Tryd.func12, Tryd.ntmps12
    go_wp2
    go_ret
    exact ⟨rfl, rfl⟩

set_option maxHeartbeats 1000000 in
theorem smay_no (a : Int) (h : Vz.mayI a = false) (w : World) :
    Calls Tryd.prog 12 #[.int .i64 a] w fun e w' => e = .returned (.int .i64 1) ∧ w = w' := by
  by_cases h0 : a < 0
  · clear h
    go_enter Tryd.func12, Tryd.ntmps12
    go_wp2
    go_ret
    exact ⟨rfl, rfl⟩
  by_cases h1 : 16383 < a
  · clear h
    go_enter Tryd.func12, Tryd.ntmps12
    go_wp2
    go_ret
    exact ⟨rfl, rfl⟩
  obtain ⟨n, rfl⟩ := Int.eq_ofNat_of_zero_le (by omega : 0 ≤ a)
  have hn : n < 16384 := by omega
  have hb : ¬ Vz.MayP n := fun e => by rw [(Vz.mayP_iff n).2 e] at h; cases h
  clear h0 h1 h
  by_cases h7 : n / 128 % 2 = 0
  · have b1 : (bits .and .i64 (n : Int) 128 != 0) = false := by
      rw [show (128 : Int) = ((128 : Nat) : Int) from rfl, Vz.and_test n 128 (by omega) (by decide), (Vz.land_more n hn).1]
      simp [h7]
    unfold Vz.MayP at hb
    have b2 : (bits .and .i64 (n : Int) 64 == 0) = true := by rw [t64_eq n hn]; simp; omega
    have b3 : (bits .and .i64 (n : Int) 16128 != 0) = true := by
      rw [show (16128 : Int) = ((16128 : Nat) : Int) from rfl, Vz.and_test n 16128 (by omega) (by decide), (Vz.land_more n hn).2]
      have : n / 256 ≠ 0 := by omega
      simp [bne]; omega
    clear h7 hb
    go_enter Tryd.func12, Tryd.ntmps12
    go_wp2
    go_ret
    exact ⟨rfl, rfl⟩
  · have b1 : (bits .and .i64 (n : Int) 128 != 0) = true := by
      rw [show (128 : Int) = ((128 : Nat) : Int) from rfl, Vz.and_test n 128 (by omega) (by decide), (Vz.land_more n hn).1]
      simp; omega
    clear h7 hb
    go_enter Tryd.func12, Tryd.ntmps12
    go_wp2
    go_ret
    exact ⟨rfl, rfl⟩

/-- Attributes that may be, or none. -/
def startN (a : Int) : Nat := if Vz.mayI a = true then a.toNat else 0
theorem startN_may (a : Int) : Vz.MayP (startN a) := by
  unfold startN
  split
  · rename_i h
    have := Vz.mayI_ge h
    obtain ⟨n, rfl⟩ := Int.eq_ofNat_of_zero_le this
    exact (Vz.mayP_iff n).1 h
  · exact Vz.mayP_zero
theorem startN_of (n : Nat) (h : Vz.MayP n) : startN n = n := by unfold startN; rw [if_pos ((Vz.mayP_iff n).2 h)]; rfl

theorem right_any (a : Int) (w : World) :
    Calls Tryd.prog 22 #[.int .i64 a] w fun e w' => e = .returned (.int .i64 (startN a)) ∧ w = w' := by
  cases hm : Vz.mayI a with
  | false =>
    have HM := Lib.hid (smay_no a hm w)
    have HS : Hid (startN a = 0) := by show _ = _; unfold startN; rw [hm]; rfl
    clear hm
    go_enter Tryd.func22, Tryd.ntmps22
    go_wp2_with (go_at_call 12; refine HM.out.mono ?_; rintro e w1 ⟨rfl, rfl⟩)
    go_ret
    exact ⟨ret1 (by rw [HS.out]; rfl), rfl⟩
  | true =>
    obtain ⟨n, rfl⟩ := Int.eq_ofNat_of_zero_le (Vz.mayI_ge hm)
    have hp := (Vz.mayP_iff n).1 hm
    have HM := Lib.hid (smay_yes n hp w)
    have HS := Lib.hid (startN_of n hp)
    clear hm hp
    go_enter Tryd.func22, Tryd.ntmps22
    go_wp2_with (go_at_call 12; refine HM.out.mono ?_; rintro e w1 ⟨rfl, rfl⟩)
    go_ret
    exact ⟨ret1 (by rw [HS.out]; rfl), rfl⟩

theorem coloured_any (n : Nat) (h : Vz.MayP n) (w : World) :
    Calls Tryd.prog 31 #[.int .i64 n] w fun e w' => e = .returned (.int .i64 (Vz.colN n)) ∧ w = w' := by
  have hn := h.1
  by_cases h6 : n / 64 % 2 = 0
  · have b2 : (bits .and .i64 (n : Int) 64 == 0) = true := by rw [t64_eq n hn]; simp [h6]
    have hl := Vz.mayP_small n h h6
    have e2 : bits .or .i64 (n : Int) 1856 = ((n + 1856 : Nat) : Int) := by
      rw [show (1856 : Int) = ((1856 : Nat) : Int) from rfl, Vz.or64 n 1856 (by omega) (by decide), Vz.col_or n hl]
    have HC : Hid (Vz.colN n = n + 1856) := by show _ = _; unfold Vz.colN; rw [if_neg (by omega)]
    have HE := Lib.hid e2
    clear h h6 hl e2
    go_enter Tryd.func31, Tryd.ntmps31
    go_wp2
    go_ret
    exact ⟨ret1 (by rw [HC.out, ← HE.out]; rfl), rfl⟩
  · have b2 : (bits .and .i64 (n : Int) 64 == 0) = false := by rw [t64_eq n hn]; simp [h6]
    have HC : Hid (Vz.colN n = n) := by show _ = _; unfold Vz.colN; rw [if_pos (by omega)]
    clear h h6
    go_enter Tryd.func31, Tryd.ntmps31
    go_wp2
    go_ret
    exact ⟨ret1 (by rw [HC.out]; rfl), rfl⟩

theorem fore_bits (n : Nat) (k : Nat) (h : Vz.MayP n) (hk : k < 8) : bits .or .i64 (bits .andNot .i64 (Vz.colN n : Int) 1792) ((k : Int) * 256) = ((Vz.colN n - Vz.colN n / 256 % 8 * 256 + k * 256 : Nat) : Int) := by
  obtain ⟨hc, -, -⟩ := Vz.mayP_colN n h
  have hc := hc.1
  generalize Vz.colN n = c at hc
  rw [show (1792 : Int) = ((1792 : Nat) : Int) from rfl, Vz.andNot64 c 1792 (by omega) (by decide), (Vz.col_bits c hc).2.1, show ((k : Int) * 256) = ((k * 256 : Nat) : Int) by simp,
    Vz.or64 _ _ (by omega) (by omega), Vz.fore_or _ k (by omega) (by omega) hk]
theorem back_bits (n : Nat) (k : Nat) (h : Vz.MayP n) (hk : k < 8) : bits .or .i64 (bits .andNot .i64 (Vz.colN n : Int) 14336) ((k : Int) * 2048) = ((Vz.colN n % 2048 + k * 2048 : Nat) : Int) := by
  obtain ⟨hc, -, -⟩ := Vz.mayP_colN n h
  have hc := hc.1
  generalize Vz.colN n = c at hc
  rw [show (14336 : Int) = ((14336 : Nat) : Int) from rfl, Vz.andNot64 c 14336 (by omega) (by decide), (Vz.col_bits c hc).2.2.1, show ((k : Int) * 2048) = ((k * 2048 : Nat) : Int) by simp,
    Vz.or64 _ _ (by omega) (by omega), Vz.back_or _ k (by omega) hk]

set_option maxHeartbeats 2000000 in
theorem colour_any (n : Nat) (x : Int) (h : Vz.MayP n) (w : World) :
    Calls Tryd.prog 38 #[.int .i64 n, .int .i64 x] w fun e w' => e = .returned (.int .i64 (Vz.colourN n x)) ∧ w = w' := by
  have hn := h.1
  have HC := Lib.hid (coloured_any n h w)
  by_cases f : 30 ≤ x ∧ x < 38
  · obtain ⟨f1, f2⟩ := f
    have hb := fore_bits n (x - 30).toNat h (by omega)
    rw [show (((x - 30).toNat : Nat) : Int) = x - 30 by omega] at hb
    have HR : Hid (Vz.colourN n x = Vz.colN n - Vz.colN n / 256 % 8 * 256 + (x - 30).toNat * 256) := by show _ = _; unfold Vz.colourN; rw [if_pos ⟨f1, f2⟩]
    have HB := Lib.hid hb
    clear h hb
    go_enter Tryd.func38, Tryd.ntmps38
    go_wp2_with (go_at_call 31; refine HC.out.mono ?_; rintro e w1 ⟨rfl, rfl⟩)
    go_ret
    exact ⟨ret1 (by rw [HR.out, ← HB.out]; rfl), rfl⟩
  by_cases g : 40 ≤ x ∧ x < 48
  · obtain ⟨f1, f2⟩ := g
    have hb := back_bits n (x - 40).toNat h (by omega)
    rw [show (((x - 40).toNat : Nat) : Int) = x - 40 by omega] at hb
    have HR : Hid (Vz.colourN n x = Vz.colN n % 2048 + (x - 40).toNat * 2048) := by show _ = _; unfold Vz.colourN; rw [if_neg f, if_pos ⟨f1, f2⟩]
    have HB := Lib.hid hb
    clear h hb f
    go_enter Tryd.func38, Tryd.ntmps38
    go_wp2_with (go_at_call 31; refine HC.out.mono ?_; rintro e w1 ⟨rfl, rfl⟩)
    go_ret
    exact ⟨ret1 (by rw [HR.out, ← HB.out]; rfl), rfl⟩
  have c1 : (decide (30 ≤ x) && decide (x < 38)) = false := by simp; omega
  have c2 : (decide (40 ≤ x) && decide (x < 48)) = false := by simp; omega
  by_cases h6 : n / 64 % 2 = 0
  · have b2 : (bits .and .i64 (n : Int) 64 == 0) = true := by rw [t64_eq n hn]; simp [h6]
    have HR : Hid (Vz.colourN n x = n) := by show _ = _; unfold Vz.colourN; rw [if_neg f, if_neg g, if_pos h6]
    clear h h6
    rcases (by omega : x < 30 ∨ (38 ≤ x ∧ x < 40) ∨ 48 ≤ x) with i | ⟨i, j⟩ | i
    all_goals
      clear f g c1 c2
      go_enter Tryd.func38, Tryd.ntmps38
      go_wp2
      go_ret
      exact ⟨ret1 (by rw [HR.out]; rfl), rfl⟩
  · have b2 : (bits .and .i64 (n : Int) 64 == 0) = false := by rw [t64_eq n hn]; simp [h6]
    by_cases x1 : x = 39
    · subst x1
      have e1 : bits .or .i64 (n : Int) 1792 = ((n - n / 256 % 8 * 256 + 1792 : Nat) : Int) := by
        rw [show (1792 : Int) = ((1792 : Nat) : Int) from rfl, Vz.or64 n 1792 (by omega) (by decide), (Vz.col_bits n hn).1]
      have HR : Hid (Vz.colourN n 39 = n - n / 256 % 8 * 256 + 1792) := by show _ = _; unfold Vz.colourN; rw [if_neg f, if_neg g, if_neg h6, if_pos rfl]
      have HE := Lib.hid e1
      clear h h6 f g c1 c2 e1
      go_enter Tryd.func38, Tryd.ntmps38
      go_wp2
      go_ret
      exact ⟨ret1 (by rw [HR.out, ← HE.out]; rfl), rfl⟩
    by_cases x2 : x = 49
    · subst x2
      have e1 : bits .andNot .i64 (n : Int) 14336 = ((n % 2048 : Nat) : Int) := by
        rw [show (14336 : Int) = ((14336 : Nat) : Int) from rfl, Vz.andNot64 n 14336 (by omega) (by decide), (Vz.col_bits n hn).2.2.1]
      have HR : Hid (Vz.colourN n 49 = n % 2048) := by show _ = _; unfold Vz.colourN; rw [if_neg f, if_neg g, if_neg h6, if_neg x1, if_pos rfl]
      have HE := Lib.hid e1
      clear h h6 f g c1 c2 e1 x1
      go_enter Tryd.func38, Tryd.ntmps38
      go_wp2
      go_ret
      exact ⟨ret1 (by rw [HR.out, ← HE.out]; rfl), rfl⟩
    have HR : Hid (Vz.colourN n x = n) := by show _ = _; unfold Vz.colourN; rw [if_neg f, if_neg g, if_neg h6, if_neg x1, if_neg x2]
    have d1 : (x == 39) = false := by simp [x1]
    have d2 : (x == 49) = false := by simp [x2]
    clear h h6
    rcases (by omega : x < 30 ∨ (38 ≤ x ∧ x < 40) ∨ 48 ≤ x) with i | ⟨i, j⟩ | i
    all_goals
      clear f g c1 c2
      go_enter Tryd.func38, Tryd.ntmps38
      go_wp2
      go_ret
      exact ⟨ret1 (by rw [HR.out]; rfl), rfl⟩
end Go.Proofs.YtjfnmjgfbkcaaaaDoor
