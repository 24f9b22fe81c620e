/- Walks: attr.May, own, Colours, Paint, Mask, Keep; the reference's May. -/
import Derived.Test.YtdakiocgaihcnaaDoorProg
import Derived.Test.YtdakiocgaihcnaaDoorAttrPlainB
import Derived.WalkKit
import Derived.Lib.Hide
namespace Go.Proofs.YtdakiocgaihcnaaDoor
open Go.RowKit

theorem ret1 {a b : Value} (h : a = b) : Ending.returned a = .returned b := by rw [h]
theorem ret_tup2 {a b : Value} {a' b' : Value} (h : a = a') (h' : b = b') : Ending.returned (.tuple #[a, b]) = .returned (.tuple #[a', b']) := by rw [h, h']

set_option maxHeartbeats 1000000 in
theorem may_yes (n : Nat) (hn : n < 9223372036854775808) (h : Vz.mayI n = true) (w : World) :
    Calls Tryd.prog 15 #[.int .i64 n] w fun e w' => e = .returned (.int .i64 0) ∧ w = w' := by
  rw [Vz.mayT_eq] at h
  unfold Vz.mayT at h
  simp only [Bool.and_eq_true, Bool.not_eq_true', beq_iff_eq] at h
  obtain ⟨h1, h2⟩ := h
  have b1 : (bits .andNot .i64 (n : Int) 16255 != 0) = false := by
    rw [show (16255 : Int) = ((16255 : Nat) : Int) from rfl, Vz.andNot64 n 16255 hn (by decide), h1]; rfl
  by_cases h3 : (n &&& 64) = 0
  · have b2 : (bits .and .i64 (n : Int) 64 == 0) = true := by
      rw [show (64 : Int) = ((64 : Nat) : Int) from rfl, Vz.and64 n 64 hn (by decide), h3]; rfl
    have b3 : (bits .and .i64 (n : Int) 16128 != 0) = false := by
      rw [show (16128 : Int) = ((16128 : Nat) : Int) from rfl, Vz.and64 n 16128 hn (by decide)]
      simp [h3] at h2
      rw [h2]; rfl
    clear h1 h2 h3
    go_enter Tryd.func15, Tryd.ntmps15
    go_wp2
    go_ret
    exact ⟨rfl, rfl⟩
  · have b2 : (bits .and .i64 (n : Int) 64 == 0) = false := by
      rw [show (64 : Int) = ((64 : Nat) : Int) from rfl, Vz.and64 n 64 hn (by decide), beq_eq_false_iff_ne]; omega
    clear h1 h2 h3
    go_enter Tryd.func15, Tryd.ntmps15
    go_wp2
    go_ret
    exact ⟨rfl, rfl⟩

set_option maxHeartbeats 1000000 in
theorem may_no (a : Int) (ha : a < 9223372036854775808) (h : Vz.mayI a = false) (w : World) :
    Calls Tryd.prog 15 #[.int .i64 a] w fun e w' => e = .returned (.int .i64 1) ∧ w = w' := by
  by_cases h0 : a < 0
  · go_enter Tryd.func15, Tryd.ntmps15
    go_wp2
    go_ret
    exact ⟨rfl, rfl⟩
  obtain ⟨n, rfl⟩ := Int.eq_ofNat_of_zero_le (by omega : 0 ≤ a)
  have hn : n < 9223372036854775808 := by omega
  clear h0 ha
  rw [Vz.mayT_eq] at h
  unfold Vz.mayT at h
  by_cases h1 : (n ^^^ (n &&& 16255)) = 0
  · have b1 : (bits .andNot .i64 (n : Int) 16255 != 0) = false := by
      rw [show (16255 : Int) = ((16255 : Nat) : Int) from rfl, Vz.andNot64 n 16255 hn (by decide), h1]; rfl
    simp [h1] at h
    obtain ⟨h2, h3⟩ := h
    have b2 : (bits .and .i64 (n : Int) 64 == 0) = true := by
      rw [show (64 : Int) = ((64 : Nat) : Int) from rfl, Vz.and64 n 64 hn (by decide), h2]; rfl
    have b3 : (bits .and .i64 (n : Int) 16128 != 0) = true := by
      rw [show (16128 : Int) = ((16128 : Nat) : Int) from rfl, Vz.and64 n 16128 hn (by decide), bne_iff_ne]; omega
    clear h1 h2 h3
    go_enter Tryd.func15, Tryd.ntmps15
    go_wp2
    go_ret
    exact ⟨rfl, rfl⟩
  · have b1 : (bits .andNot .i64 (n : Int) 16255 != 0) = true := by
      rw [show (16255 : Int) = ((16255 : Nat) : Int) from rfl, Vz.andNot64 n 16255 hn (by decide), bne_iff_ne]; omega
    clear h h1
    go_enter Tryd.func15, Tryd.ntmps15
    go_wp2
    go_ret
    exact ⟨rfl, rfl⟩

theorem int_test (n k : Nat) : ((n : Int) / k % 2 == 1) = (n / k % 2 == 1) := by
  rw [Bool.eq_iff_iff]; simp; omega

theorem own_eq (c : Bool) (n : Nat) (hn : n < 16384) (t64 : (bits .and .i64 (n : Int) 64 == 0) = !c) (w : World) :
    Calls Tryd.prog 23 #[.int .i64 n] w fun e w' => e = .returned (.tuple #[.int .i64 (if c = true then (n : Int) / 256 % 8 else 7), .int .i64 (if c = true then (n : Int) / 2048 % 8 else 0)]) ∧ w = w' := by
  cases c
  · simp only [Bool.not_false] at t64
    go_enter Tryd.func23, Tryd.ntmps23
    go_wp2
    go_ret2
    exact ⟨rfl, rfl⟩
  · simp only [Bool.not_true] at t64
    go_enter Tryd.func23, Tryd.ntmps23
    go_wp2
    go_ret2
    exact ⟨rfl, rfl⟩
theorem pick_eq (c old : Int) (w : World) :
    Calls Tryd.prog 24 #[.int .i64 c, .int .i64 old] w fun e w' => e = .returned (.int .i64 (if 0 ≤ c then c else old)) ∧ w = w' := by
  by_cases h : c < 0
  · go_enter Tryd.func24, Tryd.ntmps24
    go_wp2
    go_ret
    exact ⟨rfl, rfl⟩
  · go_enter Tryd.func24, Tryd.ntmps24
    go_wp2
    go_ret
    exact ⟨rfl, rfl⟩

set_option maxHeartbeats 4000000 in
theorem colours_any (a : Int) (h1 : -9223372036854775808 ≤ a) (h2 : a < 9223372036854775808) (w : World) :
    Calls Tryd.prog 9 #[.int .i64 a] w fun e w' => e = .returned (.tuple #[.int .i64 (Vz.coloursI a).1, .int .i64 (Vz.coloursI a).2]) ∧ w = w' := by
  cases hm : Vz.mayI a with
  | false =>
    have HM := Lib.hid (may_no a h2 hm w)
    have HE := Lib.hid (Vz.coloursI_not hm)
    clear hm
    go_enter Tryd.func9, Tryd.ntmps9
    go_wp2_with (go_at_call 15; refine HM.out.mono ?_; rintro e w1 ⟨rfl, rfl⟩)
    go_ret2
    exact ⟨ret_tup2 (by rw [HE.out]; rfl) (by rw [HE.out]; rfl), rfl⟩
  | true =>
    obtain ⟨n, rfl⟩ : ∃ n : Nat, a = n := ⟨a.toNat, by have := Vz.mayI_lt hm; omega⟩
    have hn : n < 16384 := by have := Vz.mayI_lt hm; omega
    have hn' : n < 9223372036854775808 := by omega
    have HM := Lib.hid (may_yes n hn' hm w)
    obtain ⟨_, l16, l32, l64, _⟩ := Vz.land_bits n hn
    have t16 : (bits .and .i64 (n : Int) 16 != 0) = _ := Vz.and_test n 16 hn' (by decide)
    have t32 : (bits .and .i64 (n : Int) 32 != 0) = _ := Vz.and_test n 32 hn' (by decide)
    have t64 : (bits .and .i64 (n : Int) 64 == 0) = _ := Vz.and_test0 n 64 hn' (by decide)
    rw [l16] at t16
    rw [l32] at t32
    have l64' : (n &&& 64 == 0) = !(n / 64 % 2 == 1) := by rw [← l64]; simp [bne]
    rw [l64'] at t64
    have hC := Vz.coloursI_may hm
    have i16 : ((n : Int) / 16 % 2 == 1) = _ := int_test n 16
    have i32 : ((n : Int) / 32 % 2 == 1) = _ := int_test n 32
    have i64 : ((n : Int) / 64 % 2 == 1) = _ := int_test n 64
    cases b16 : (n / 16 % 2 == 1) <;> cases b32 : (n / 32 % 2 == 1) <;> cases b64 : (n / 64 % 2 == 1)
    all_goals
      rw [b16] at t16 i16
      rw [b32] at t32 i32
      rw [b64] at t64 i64
      rw [i16, i32, i64] at hC
      have HE2 := Lib.hid hC
      clear hC i16 i32 i64 hm l16 l32 l64 l64' b16 b32 b64
      simp only [Bool.not_true, Bool.not_false] at t64
      go_enter Tryd.func9, Tryd.ntmps9
      go_wp2_with (first | (go_at_call 15; refine HM.out.mono ?_; rintro e w1 ⟨rfl, rfl⟩) | go_in)
      go_ret2
      exact ⟨ret_tup2 (by rw [HE2.out]; rfl) (by rw [HE2.out]; rfl), rfl⟩

set_option maxHeartbeats 1000000 in
theorem paint_may (a f b : Int) (h2 : a < 9223372036854775808) (hm : Vz.mayI a = false) (w : World) :
    Calls Tryd.prog 8 #[.int .i64 a, .int .i64 f, .int .i64 b] w fun e w' => e = .returned (.tuple #[.int .i64 0, .int .i64 1]) ∧ w = w' := by
  have HM := Lib.hid (may_no a h2 hm w)
  go_enter Tryd.func8, Tryd.ntmps8
  go_wp2_with (go_at_call 15; refine HM.out.mono ?_; rintro e w1 ⟨rfl, rfl⟩)
  go_ret2
  exact ⟨rfl, rfl⟩

set_option maxHeartbeats 2000000 in
theorem paint_range (n : Nat) (f b : Int) (hm : Vz.mayI n = true) (h : ¬ (-1 ≤ f ∧ f ≤ 7 ∧ -1 ≤ b ∧ b ≤ 7)) (w : World) :
    Calls Tryd.prog 8 #[.int .i64 n, .int .i64 f, .int .i64 b] w fun e w' => e = .returned (.tuple #[.int .i64 0, .int .i64 11]) ∧ w = w' := by
  have hn : n < 16384 := by have := Vz.mayI_lt hm; omega
  have HM := Lib.hid (may_yes n (by omega) hm w)
  by_cases h1 : f < -1
  · clear h
    go_enter Tryd.func8, Tryd.ntmps8
    go_wp2_with (go_at_call 15; refine HM.out.mono ?_; rintro e w1 ⟨rfl, rfl⟩)
    go_ret2
    exact ⟨rfl, rfl⟩
  by_cases h2 : 7 < f
  · clear h
    go_enter Tryd.func8, Tryd.ntmps8
    go_wp2_with (go_at_call 15; refine HM.out.mono ?_; rintro e w1 ⟨rfl, rfl⟩)
    go_ret2
    exact ⟨rfl, rfl⟩
  by_cases h3 : b < -1
  · clear h
    go_enter Tryd.func8, Tryd.ntmps8
    go_wp2_with (go_at_call 15; refine HM.out.mono ?_; rintro e w1 ⟨rfl, rfl⟩)
    go_ret2
    exact ⟨rfl, rfl⟩
  have h4 : 7 < b := by omega
  clear h
  go_enter Tryd.func8, Tryd.ntmps8
  go_wp2_with (go_at_call 15; refine HM.out.mono ?_; rintro e w1 ⟨rfl, rfl⟩)
  go_ret2
  exact ⟨rfl, rfl⟩

set_option maxRecDepth 100000 in
set_option maxHeartbeats 4000000 in
theorem paint_ok (n : Nat) (f b : Int) (hm : Vz.mayI n = true) (h1 : -1 ≤ f) (h2 : f ≤ 7) (h3 : -1 ≤ b) (h4 : b ≤ 7) (w : World) :
    Calls Tryd.prog 8 #[.int .i64 n, .int .i64 f, .int .i64 b] w fun e w' => e = .returned (.tuple #[.int .i64 (Vz.paintI n f b), .int .i64 0]) ∧ w = w' := by
  have hn : n < 16384 := by have := Vz.mayI_lt hm; omega
  have hn' : n < 9223372036854775808 := by omega
  have HM := Lib.hid (may_yes n hn' hm w)
  obtain ⟨_, _, _, l64, _⟩ := Vz.land_bits n hn
  have t64 : (bits .and .i64 (n : Int) 64 == 0) = _ := Vz.and_test0 n 64 hn' (by decide)
  have l64' : (n &&& 64 == 0) = !(n / 64 % 2 == 1) := by rw [← l64]; simp [bne]
  rw [l64'] at t64
  have i64 : ((n : Int) / 64 % 2 == 1) = _ := int_test n 64
  have hP := Vz.or_paint n (Vz.pickF n f) (Vz.pickB n b) hn (Vz.pickF_lo n f) (Vz.pickF_hi n f h2) (Vz.pickB_lo n b) (Vz.pickB_hi n b h4)
  have HP := Lib.hid hP
  rw [← i64] at t64
  have HO := Lib.hid (own_eq _ n hn t64 w)
  have HF := Lib.hid (Vz.pickF_lo n f)
  have b1 := Vz.pickF_lo n f
  have b2 := Vz.pickF_hi n f h2
  have b3 := Vz.pickB_lo n b
  have b4 := Vz.pickB_hi n b h4
  have K1 := Lib.hid (pick_eq f (if ((n : Int) / 64 % 2 == 1) = true then (n : Int) / 256 % 8 else 7) w)
  have K2 := Lib.hid (pick_eq b (if ((n : Int) / 64 % 2 == 1) = true then (n : Int) / 2048 % 8 else 0) w)
  change Hid (Calls _ _ _ _ fun e w' => e = .returned (.int .i64 (Vz.pickF n f)) ∧ w = w') at K1
  change Hid (Calls _ _ _ _ fun e w' => e = .returned (.int .i64 (Vz.pickB n b)) ∧ w = w') at K2
  change Hid (_ = Vz.paintI n f b) at HP
  generalize (if ((n : Int) / 64 % 2 == 1) = true then (n : Int) / 256 % 8 else 7) = x at HO K1
  generalize (if ((n : Int) / 64 % 2 == 1) = true then (n : Int) / 2048 % 8 else 0) = y at HO K2
  generalize Vz.pickF n f = F at HP K1 b1 b2
  generalize Vz.pickB n b = B at HP K2 b3 b4
  clear l64 l64' i64 hn' hm t64 hP HF
  go_enter Tryd.func8, Tryd.ntmps8
  go_wp2_with fail
  refine HM.out.mono ?_
  rintro e w1 ⟨rfl, rfl⟩
  go_wp2_with fail
  refine HO.out.mono ?_
  rintro e w1 ⟨rfl, rfl⟩
  go_wp2_with fail
  refine K1.out.mono ?_
  rintro e w1 ⟨rfl, rfl⟩
  go_wp2_with fail
  refine K2.out.mono ?_
  rintro e w1 ⟨rfl, rfl⟩
  go_wp2_with fail
  go_ret2
  exact ⟨ret_tup2 (by rw [← HP.out]; rfl) rfl, rfl⟩
end Go.Proofs.YtdakiocgaihcnaaDoor
