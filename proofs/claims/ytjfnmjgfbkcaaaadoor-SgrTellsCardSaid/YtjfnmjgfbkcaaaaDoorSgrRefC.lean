/- Walks: bit, Number, Apply of vizardref13. -/
import Derived.Test.YtjfnmjgfbkcaaaaDoorSgrRefB
namespace Go.Proofs.YtjfnmjgfbkcaaaaDoor
open Go.RowKit

theorem lkOf_eq (m : Nat) (k : Lk) (h0 : k.b0 = ((m : Int) % 2 == 1)) (h1 : k.b1 = ((m : Int) / 2 % 2 == 1)) (h2 : k.b2 = ((m : Int) / 4 % 2 == 1)) (h3 : k.b3 = ((m : Int) / 8 % 2 == 1)) (h4 : k.b4 = ((m : Int) / 16 % 2 == 1)) (h5 : k.b5 = ((m : Int) / 32 % 2 == 1)) (h6 : k.b6 = ((m : Int) / 64 % 2 == 1)) (h7 : k.f = (m : Int) / 256 % 8) (h8 : k.g = (m : Int) / 2048) : k = lkOf m := by
  obtain ⟨b0, b1, b2, b3, b4, b5, b6, f, g⟩ := k
  simp only at h0 h1 h2 h3 h4 h5 h6 h7 h8
  unfold lkOf
  rw [h0, h1, h2, h3, h4, h5, h6, h7, h8]
theorem beq_same {a b : Int} (h : a = b) : (a == 1) = (b == 1) := by rw [h]
theorem lk_colN (n : Nat) (hn : Vz.MayP n) : (lkOf n).paint = lkOf (Vz.colN n) := by
  unfold Vz.MayP at hn
  unfold Lk.paint Vz.colN
  by_cases h : n / 64 % 2 = 1
  · rw [if_pos h, if_pos]
    show ((n : Int) / 64 % 2 == 1) = true
    rw [beq_iff_eq]; omega
  · rw [if_neg h, if_neg (by show ¬ ((n : Int) / 64 % 2 == 1) = true; rw [beq_iff_eq]; omega)]
    apply lkOf_eq
    all_goals dsimp only [lkOf]
    all_goals first | (refine beq_same ?_; omega) | (symm; rw [beq_iff_eq]; omega) | omega
set_option maxHeartbeats 8000000 in
theorem lk_one (n : Nat) (x : Int) (hn : Vz.MayP n) : (lkOf n).one x = lkOf (Vz.oneN n x) := by
  have hc := lk_colN n hn
  obtain ⟨c1, c2, c3⟩ := Vz.mayP_colN n hn
  unfold Vz.MayP at hn c1
  by_cases x0 : x = 0
  · subst x0
    show Lk.zero = lkOf 0
    unfold Lk.zero lkOf
    simp
  by_cases x1 : x = 1
  · subst x1
    apply lkOf_eq _ { lkOf n with b0 := true }
    all_goals (rw [show Vz.oneN n 1 = n + 1 - n / 1 % 2 * 1 from rfl]; dsimp only [lkOf])
    all_goals first | (refine beq_same ?_; omega) | (symm; rw [beq_iff_eq]; omega) | omega
  by_cases x2 : x = 2
  · subst x2
    apply lkOf_eq _ { lkOf n with b1 := true }
    all_goals (rw [show Vz.oneN n 2 = n + 2 - n / 2 % 2 * 2 from rfl]; dsimp only [lkOf])
    all_goals first | (refine beq_same ?_; omega) | (symm; rw [beq_iff_eq]; omega) | omega
  by_cases x4 : x = 4
  · subst x4
    apply lkOf_eq _ { lkOf n with b2 := true }
    all_goals (rw [show Vz.oneN n 4 = n + 4 - n / 4 % 2 * 4 from rfl]; dsimp only [lkOf])
    all_goals first | (refine beq_same ?_; omega) | (symm; rw [beq_iff_eq]; omega) | omega
  by_cases x5 : x = 5
  · subst x5
    apply lkOf_eq _ { lkOf n with b3 := true }
    all_goals (rw [show Vz.oneN n 5 = n + 8 - n / 8 % 2 * 8 from rfl]; dsimp only [lkOf])
    all_goals first | (refine beq_same ?_; omega) | (symm; rw [beq_iff_eq]; omega) | omega
  by_cases x7 : x = 7
  · subst x7
    apply lkOf_eq _ { lkOf n with b4 := true }
    all_goals (rw [show Vz.oneN n 7 = n + 16 - n / 16 % 2 * 16 from rfl]; dsimp only [lkOf])
    all_goals first | (refine beq_same ?_; omega) | (symm; rw [beq_iff_eq]; omega) | omega
  by_cases x8 : x = 8
  · subst x8
    apply lkOf_eq _ { lkOf n with b5 := true }
    all_goals (rw [show Vz.oneN n 8 = n + 32 - n / 32 % 2 * 32 from rfl]; dsimp only [lkOf])
    all_goals first | (refine beq_same ?_; omega) | (symm; rw [beq_iff_eq]; omega) | omega
  by_cases y22 : x = 22
  · subst y22
    apply lkOf_eq _ { lkOf n with b0 := false, b1 := false }
    all_goals (rw [show Vz.oneN n 22 = n - n % 4 from rfl]; dsimp only [lkOf])
    all_goals first | (refine beq_same ?_; omega) | (symm; rw [beq_eq_false_iff_ne]; omega) | omega
  by_cases y24 : x = 24
  · subst y24
    apply lkOf_eq _ { lkOf n with b2 := false }
    all_goals (rw [show Vz.oneN n 24 = n - n / 4 % 2 * 4 from rfl]; dsimp only [lkOf])
    all_goals first | (refine beq_same ?_; omega) | (symm; rw [beq_eq_false_iff_ne]; omega) | omega
  by_cases y25 : x = 25
  · subst y25
    apply lkOf_eq _ { lkOf n with b3 := false }
    all_goals (rw [show Vz.oneN n 25 = n - n / 8 % 2 * 8 from rfl]; dsimp only [lkOf])
    all_goals first | (refine beq_same ?_; omega) | (symm; rw [beq_eq_false_iff_ne]; omega) | omega
  by_cases y27 : x = 27
  · subst y27
    apply lkOf_eq _ { lkOf n with b4 := false }
    all_goals (rw [show Vz.oneN n 27 = n - n / 16 % 2 * 16 from rfl]; dsimp only [lkOf])
    all_goals first | (refine beq_same ?_; omega) | (symm; rw [beq_eq_false_iff_ne]; omega) | omega
  by_cases y28 : x = 28
  · subst y28
    apply lkOf_eq _ { lkOf n with b5 := false }
    all_goals (rw [show Vz.oneN n 28 = n - n / 32 % 2 * 32 from rfl]; dsimp only [lkOf])
    all_goals first | (refine beq_same ?_; omega) | (symm; rw [beq_eq_false_iff_ne]; omega) | omega
  by_cases z39 : x = 39
  · subst z39
    rw [show Vz.oneN n 39 = if n / 64 % 2 = 0 then n else n - n / 256 % 8 * 256 + 1792 from rfl, show (lkOf n).one 39 = if (lkOf n).b6 = true then { lkOf n with f := 7 } else lkOf n from rfl]
    by_cases h : n / 64 % 2 = 0
    · rw [if_pos h, if_neg (by show ¬ ((n : Int) / 64 % 2 == 1) = true; rw [beq_iff_eq]; omega)]
    · rw [if_neg h, if_pos (by show ((n : Int) / 64 % 2 == 1) = true; rw [beq_iff_eq]; omega)]
      apply lkOf_eq
      all_goals dsimp only [lkOf]
      all_goals first | (refine beq_same ?_; omega) | omega
  by_cases z49 : x = 49
  · subst z49
    rw [show Vz.oneN n 49 = if n / 64 % 2 = 0 then n else n % 2048 from rfl, show (lkOf n).one 49 = if (lkOf n).b6 = true then { lkOf n with g := 0 } else lkOf n from rfl]
    by_cases h : n / 64 % 2 = 0
    · rw [if_pos h, if_neg (by show ¬ ((n : Int) / 64 % 2 == 1) = true; rw [beq_iff_eq]; omega)]
    · rw [if_neg h, if_pos (by show ((n : Int) / 64 % 2 == 1) = true; rw [beq_iff_eq]; omega)]
      apply lkOf_eq
      all_goals dsimp only [lkOf]
      all_goals first | (refine beq_same ?_; omega) | omega
  rw [Lk.one_else _ x ⟨x0, x1, x2, x4, x5, x7, x8, y22, y24, y25, y27, y28, z39, z49⟩, hc]
  by_cases f : 30 ≤ x ∧ x ≤ 37
  · rw [if_pos f, show Vz.oneN n x = Vz.colN n - Vz.colN n / 256 % 8 * 256 + (x - 30).toNat * 256 by
      unfold Vz.oneN Vz.colourN; simp only [x0, x1, x2, x4, x5, x7, x8, y22, y24, y25, y27, y28, if_false]; rw [if_pos ⟨f.1, by omega⟩]]
    generalize Vz.colN n = c at c1 c2 c3
    apply lkOf_eq
    all_goals dsimp only [lkOf]
    all_goals first | (refine beq_same ?_; omega) | omega
  by_cases g : 40 ≤ x ∧ x ≤ 47
  · rw [if_neg f, if_pos g, show Vz.oneN n x = Vz.colN n % 2048 + (x - 40).toNat * 2048 by
      unfold Vz.oneN Vz.colourN; simp only [x0, x1, x2, x4, x5, x7, x8, y22, y24, y25, y27, y28, if_false]; rw [if_neg (by omega), if_pos ⟨g.1, by omega⟩]]
    generalize Vz.colN n = c at c1 c2 c3
    apply lkOf_eq
    all_goals dsimp only [lkOf]
    all_goals first | (refine beq_same ?_; omega) | omega
  rw [if_neg f, if_neg g]
  congr 1
  unfold Vz.oneN Vz.colourN
  simp only [x0, x1, x2, x4, x5, x7, x8, y22, y24, y25, y27, y28, z39, z49, if_false]
  rw [if_neg (by omega), if_neg (by omega)]
  simp

def bitV (b : Bool) (c : Int) : Int := if b = true then c else 0
theorem bitV_le (b : Bool) (c : Int) (h : 0 ≤ c) : 0 ≤ bitV b c ∧ bitV b c ≤ c := by unfold bitV; split <;> omega
theorem rbit_any (b : Bool) (c : Int) (w : World) : Calls Tryd.prog 40 #[.bool b, .int .i64 c] w fun e w' => e = .returned (.int .i64 (bitV b c)) ∧ w = w' := by
  cases b
  all_goals
    go_enter Tryd.func40, Tryd.ntmps40
    go_wp2
    go_ret
    exact ⟨rfl, rfl⟩
def Lk.num (k : Lk) : Int := bitV k.b0 1 + bitV k.b1 2 + bitV k.b2 4 + bitV k.b3 8 + bitV k.b4 16 + bitV k.b5 32 + bitV k.b6 64 + 256 * k.f + 2048 * k.g
theorem bitV_mod (x c : Int) : bitV (x % 2 == 1) c = c * (x % 2) := by
  unfold bitV
  rcases (by omega : x % 2 = 0 ∨ x % 2 = 1) with h | h <;> rw [h] <;> simp
theorem num_lkOf (n : Nat) (hn : Vz.MayP n) : (lkOf n).num = n := by
  unfold Lk.num lkOf
  simp only [bitV_mod]
  unfold Vz.MayP at hn
  omega

set_option maxRecDepth 100000 in
set_option maxHeartbeats 4000000 in
theorem number_any (k : Lk) (h1 : 0 ≤ k.f) (h2 : k.f ≤ 7) (h3 : 0 ≤ k.g) (h4 : k.g ≤ 7) (w : World) :
    Calls Tryd.prog 26 #[k.v] w fun e w' => e = .returned (.int .i64 k.num) ∧ Below w.heap.size w w' := by
  obtain ⟨b0, b1, b2, b3, b4, b5, b6, f, g⟩ := k
  obtain ⟨p0, q0⟩ := bitV_le b0 1 (by decide)
  obtain ⟨p1, q1⟩ := bitV_le b1 2 (by decide)
  obtain ⟨p2, q2⟩ := bitV_le b2 4 (by decide)
  obtain ⟨p3, q3⟩ := bitV_le b3 8 (by decide)
  obtain ⟨p4, q4⟩ := bitV_le b4 16 (by decide)
  obtain ⟨p5, q5⟩ := bitV_le b5 32 (by decide)
  obtain ⟨p6, q6⟩ := bitV_le b6 64 (by decide)
  simp only at h1 h2 h3 h4
  have HB : Hid (∀ b c W, Calls Tryd.prog 40 #[.bool b, .int .i64 c] W fun e w' => e = .returned (.int .i64 (bitV b c)) ∧ w' = W) := fun b c W => (rbit_any b c W).mono fun _ _ h => ⟨h.1, h.2.symm⟩
  show Calls _ _ #[.agg #[.bool b0, .bool b1, .bool b2, .bool b3, .bool b4, .bool b5, .bool b6, .int .i64 f, .int .i64 g]] _ _
  go_enter Tryd.func26, Tryd.ntmps26
  go_wp2
  go_quiet (exact Calls.quiet_of_same (HB.out _ _ _))
  go_wp2
  go_ret
  exact ⟨rfl, below_drewN ((Below.refl _ _).alloc (Nat.le_refl _) _) nq⟩
end Go.Proofs.YtjfnmjgfbkcaaaaDoor
