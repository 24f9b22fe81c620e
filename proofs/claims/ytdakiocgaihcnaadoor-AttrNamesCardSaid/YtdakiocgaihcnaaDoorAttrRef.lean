/- Walks: vizardref03.May, Colours, Paint; awake of vizardlaw03. -/
import Derived.Test.YtdakiocgaihcnaaDoorNames
namespace Go.Proofs.YtdakiocgaihcnaaDoor
open Go.RowKit

set_option maxHeartbeats 1000000 in
theorem rmay_any (a : Int) (h1 : -9223372036854775808 ≤ a) (h2 : a < 9223372036854775808) (w : World) :
    Calls Tryd.prog 11 #[.int .i64 a] w fun e w' => e = .returned (.bool (Vz.mayI a)) ∧ w = w' := by
  by_cases h0 : 0 ≤ a
  · by_cases h3 : a < 16384
    · by_cases h4 : (a / 128 % 2 == 1) = true
      · have HE : Hid (Vz.mayI a = false) := by show _ = _; unfold Vz.mayI; rw [h4]; simp
        go_enter Tryd.func11, Tryd.ntmps11
        go_wp2
        go_ret
        exact ⟨ret1 (by rw [HE.out]; rfl), rfl⟩
      · have h4' : (a / 128 % 2 == 1) = false := by simpa using h4
        clear h4
        by_cases h5 : (a / 64 % 2 == 1) = true
        · have HE : Hid (Vz.mayI a = true) := by show _ = _; unfold Vz.mayI; rw [h4', h5, decide_eq_true h0, decide_eq_true h3]; rfl
          go_enter Tryd.func11, Tryd.ntmps11
          go_wp2
          go_ret
          exact ⟨ret1 (by rw [HE.out]; rfl), rfl⟩
        · have h5' : (a / 64 % 2 == 1) = false := by simpa using h5
          clear h5
          by_cases h6 : a < 64
          · have HE : Hid (Vz.mayI a = true) := by show _ = _; unfold Vz.mayI; rw [h4', h5', decide_eq_true h0, decide_eq_true h3, decide_eq_true h6]; rfl
            go_enter Tryd.func11, Tryd.ntmps11
            go_wp2
            go_ret
            exact ⟨ret1 (by rw [HE.out]; rfl), rfl⟩
          · have HE : Hid (Vz.mayI a = false) := by show _ = _; unfold Vz.mayI; rw [h4', h5', decide_eq_true h0, decide_eq_true h3, decide_eq_false h6]; rfl
            go_enter Tryd.func11, Tryd.ntmps11
            go_wp2
            go_ret
            exact ⟨ret1 (by rw [HE.out]; rfl), rfl⟩
    · have HE : Hid (Vz.mayI a = false) := by show _ = _; unfold Vz.mayI; rw [decide_eq_false h3]; simp
      go_enter Tryd.func11, Tryd.ntmps11
      go_wp2
      go_ret
      exact ⟨ret1 (by rw [HE.out]; rfl), rfl⟩
  · have HE : Hid (Vz.mayI a = false) := by show _ = _; unfold Vz.mayI; rw [decide_eq_false h0]; simp
    go_enter Tryd.func11, Tryd.ntmps11
    go_wp2
    go_ret
    exact ⟨ret1 (by rw [HE.out]; rfl), rfl⟩

set_option maxHeartbeats 4000000 in
theorem rcolours_any (a : Int) (h1 : -9223372036854775808 ≤ a) (h2 : a < 9223372036854775808) (w : World) :
    Calls Tryd.prog 10 #[.int .i64 a] w fun e w' => e = .returned (.tuple #[.int .i64 (Vz.coloursI a).1, .int .i64 (Vz.coloursI a).2]) ∧ w = w' := by
  cases hm : Vz.mayI a with
  | false =>
    have HM := Lib.hid (rmay_any a h1 h2 w)
    rw [hm] at HM
    have HE := Lib.hid (Vz.coloursI_not hm)
    clear hm
    go_enter Tryd.func10, Tryd.ntmps10
    go_wp2_with (go_at_call 11; refine HM.out.mono ?_; rintro e w1 ⟨rfl, rfl⟩)
    go_ret2
    exact ⟨ret_tup2 (by rw [HE.out]; rfl) (by rw [HE.out]; rfl), rfl⟩
  | true =>
    have HM := Lib.hid (rmay_any a h1 h2 w)
    rw [hm] at HM
    have hC := Vz.coloursI_may hm
    obtain ⟨ha, ha'⟩ := Vz.mayI_lt hm
    cases b16 : (a / 16 % 2 == 1) <;> cases b32 : (a / 32 % 2 == 1) <;> cases b64 : (a / 64 % 2 == 1)
    all_goals
      rw [b16, b32, b64] at hC
      have HE2 := Lib.hid hC
      clear hC hm
      go_enter Tryd.func10, Tryd.ntmps10
      go_wp2_with (first | (go_at_call 11; refine HM.out.mono ?_; rintro e w1 ⟨rfl, rfl⟩) | go_in)
      go_ret2
      exact ⟨ret_tup2 (by rw [HE2.out]; rfl) (by rw [HE2.out]; rfl), rfl⟩

set_option maxHeartbeats 4000000 in
theorem rpaint_any (n : Nat) (f b : Int) (hn : n < 16384) (h1 : -1 ≤ f) (h2 : f ≤ 7) (h3 : -1 ≤ b) (h4 : b ≤ 7) (w : World) :
    Calls Tryd.prog 13 #[.int .i64 n, .int .i64 f, .int .i64 b] w fun e w' => e = .returned (.int .i64 (Vz.paintI n f b)) ∧ w = w' := by
  have hE : Vz.paintI n f b = (n : Int) % 64 + 64 + 256 * Vz.pickF n f + 2048 * Vz.pickB n b := rfl
  unfold Vz.pickF Vz.pickB at hE
  cases b64 : ((n : Int) / 64 % 2 == 1) <;> by_cases hf : 0 ≤ f <;> by_cases hb : 0 ≤ b
  all_goals
    first | rw [if_pos hf] at hE | rw [if_neg hf] at hE
    first | rw [if_pos hb] at hE | rw [if_neg hb] at hE
    try rw [b64] at hE
    try simp only [if_true, Bool.false_eq_true, if_false, Int.mul_zero, Int.add_zero] at hE
    have HE := Lib.hid hE
    clear hE
    go_enter Tryd.func13, Tryd.ntmps13
    go_wp2
    go_ret
    exact ⟨ret1 (by rw [HE.out]; rfl), rfl⟩

set_option maxHeartbeats 1000000 in
theorem awake_any (w : World) (t : TypeId) (fr : Nat × Nat) (hg : w.heap[0]? = some (.cells names12a t fr)) :
    Calls Tryd.prog 12 #[] w fun e w' => e = .returned (.bool true) ∧ Below w.heap.size w w' := by
  have HP := Lib.hid (paint_ok 1 1 (-1) (by decide) (by decide) (by decide) (by decide) (by decide) w)
  rw [show Vz.paintI (1 : Nat) 1 (-1) = 321 from by decide] at HP
  have HC := Lib.hid (colours_any 16 (by decide) (by decide) w)
  rw [show Vz.coloursI 16 = (0, 7) from by decide] at HC
  have HN := Lib.hid (names_any 321 (by decide) w t fr hg)
  rw [show (Vz.namesL 321) = [98, 111, 108, 100, 44, 102, 111, 114, 101, 61, 49, 44, 98, 97, 99, 107, 61, 48] from by decide +kernel] at HN
  go_enter Tryd.func12, Tryd.ntmps12
  go_wp2_with fail
  refine HP.out.mono ?_
  rintro e w1 ⟨rfl, rfl⟩
  go_wp2_with fail
  refine HC.out.mono ?_
  rintro e w1 ⟨rfl, rfl⟩
  go_wp2_with fail
  refine HN.out.mono ?_
  rintro e w1 ⟨rfl, hB⟩
  go_wp2_with fail
  go_ret
  exact ⟨rfl, hB⟩
end Go.Proofs.YtdakiocgaihcnaaDoor
