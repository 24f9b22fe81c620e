import Derived.Test.YtliacdaddncmaaaGreatDoorLT
import Derived.Test.YtliacdaddncmaaaGreatDoorLU

/- Walks: attr.Mask, attr.Keep; snap.Name. -/
namespace Go.Proofs.YtliacdaddncmaaaGreatDoor
open Go.RowKit
set_option linter.unusedSimpArgs false
set_option linter.unusedVariables false

theorem maskN_le (p : Int) : maskN p ≤ 16383 := by
  unfold maskN
  repeat' split
  all_goals decide
theorem mask_any (p : Int) (w : World) :
    Calls Tryz.prog 78 #[.int .i64 p] w fun e w' => e = .returned (.int .i64 (maskN p : Nat)) ∧ w = w' := by
  by_cases h2 : p = 2
  · subst h2
    go_enter Tryz.func78, Tryz.ntmps78
    go_wp2
    go_ret
    exact ⟨rfl, rfl⟩
  · by_cases h3 : p = 3
    · subst h3
      clear h2
      go_enter Tryz.func78, Tryz.ntmps78
      go_wp2
      go_ret
      exact ⟨rfl, rfl⟩
    · by_cases h4 : p = 4
      · subst h4
        clear h2 h3
        go_enter Tryz.func78, Tryz.ntmps78
        go_wp2
        go_ret
        exact ⟨rfl, rfl⟩
      · have HB : Hid (maskN p = 0) := by show _ = _; unfold maskN; rw [if_neg h2, if_neg h3, if_neg h4]
        go_enter Tryz.func78, Tryz.ntmps78
        go_wp2
        go_ret
        exact ⟨ret1 (by rw [HB.out]; rfl), rfl⟩
theorem keep_any (p a : Int) (ha : a < 9223372036854775808) (w : World) :
    Calls Tryz.prog 50 #[.int .i64 p, .int .i64 a] w fun e w' => e = .returned (.int .i64 (keepA p a)) ∧ w = w' := by
  cases hm : Vz.mayI a with
  | false =>
    have HK : Hid (keepA p a = 0) := by show _ = _; unfold keepA; rw [if_neg (by rw [hm]; decide)]
    have HM := Lib.hid (amay_no a ha hm w)
    clear ha
    go_enter Tryz.func50, Tryz.ntmps50
    go_wp2_with (go_at_call 65; refine HM.out.mono ?_; rintro e w1 ⟨rfl, rfl⟩)
    go_ret
    exact ⟨ret1 (by rw [HK.out]; rfl), rfl⟩
  | true =>
    have hr := Vz.mayI_lt hm
    obtain ⟨n, rfl⟩ := Int.eq_ofNat_of_zero_le (show 0 ≤ a by omega)
    have hn : n < 16384 := by omega
    have HM := Lib.hid (amay_yes n (by omega) hm w)
    have HK := Lib.hid (mask_any p w)
    have hb := maskN_le p
    have hand : bits .and .i64 (n : Int) (maskN p : Nat) = ((n &&& maskN p : Nat) : Int) := Vz.and64 n _ (by omega) (by omega)
    have HA := Lib.hid hand
    have HV : Hid (keepA p (n : Int) = ((n &&& maskN p : Nat) : Int)) := by show _ = _; unfold keepA; rw [if_pos hm]; rfl
    clear hand hm hr ha
    generalize maskN p = m at hb HK HA HV
    go_enter Tryz.func50, Tryz.ntmps50
    go_wp2_with (first | (go_at_call 65; refine HM.out.mono ?_; rintro e w1 ⟨rfl, rfl⟩) | (go_at_call 78; refine HK.out.mono ?_; rintro e w1 ⟨rfl, rfl⟩))
    go_ret
    exact ⟨ret1 (by rw [HV.out, ← HA.out]; rfl), rfl⟩
theorem keepA_may (p a : Int) : 0 ≤ keepA p a ∧ keepA p a < 16384 := by
  unfold keepA
  split
  · have : a.toNat &&& maskN p ≤ maskN p := Nat.and_le_right
    have := maskN_le p
    omega
  · omega
theorem name_any (p : Int) (w : World) : Calls Tryz.prog 20 #[.int .i64 p] w fun e w' => e = .returned (.string ⟨(nameB p).toArray⟩) ∧ w = w' := by
  by_cases h1 : p = 1
  · subst h1
    go_enter Tryz.func20, Tryz.ntmps20
    go_wp2
    go_ret
    exact ⟨rfl, rfl⟩
  · by_cases h2 : p = 2
    · subst h2
      clear h1
      go_enter Tryz.func20, Tryz.ntmps20
      go_wp2
      go_ret
      exact ⟨rfl, rfl⟩
    · by_cases h3 : p = 3
      · subst h3
        clear h1 h2
        go_enter Tryz.func20, Tryz.ntmps20
        go_wp2
        go_ret
        exact ⟨rfl, rfl⟩
      · by_cases h4 : p = 4
        · subst h4
          clear h1 h2 h3
          go_enter Tryz.func20, Tryz.ntmps20
          go_wp2
          go_ret
          exact ⟨rfl, rfl⟩
        · have HB : Hid (nameB p = []) := by show _ = _; unfold nameB; rw [if_neg h1, if_neg h2, if_neg h3, if_neg h4]
          go_enter Tryz.func20, Tryz.ntmps20
          go_wp2
          go_ret
          exact ⟨ret1 (by rw [HB.out]; rfl), rfl⟩
end Go.Proofs.YtliacdaddncmaaaGreatDoor
