/- The walk of ParamsZeros. -/
import Derived.Test.YtdakiocgaihcnaaAwakeP
import Derived.Test.YtdakiocgaihcnaaPlainB
namespace Go.Proofs.Ytdakiocgaihcnaa
open Go.RowKit

theorem data_append' (a b : ByteArray) : (a ++ b).data.toList = a.data.toList ++ b.data.toList := by
  rw [ByteArray.data_append]; simp

theorem digit_at (s : ByteArray) (h : ∀ j, (hj : j < s.size) → Vz.digitB s[j]) : ∀ x ∈ s.data.toList, Vz.digitB x := by
  intro x hx
  obtain ⟨j, hj, rfl⟩ := List.getElem_of_mem hx
  exact h j (by rw [Lib.size_eq]; exact hj)

set_option maxHeartbeats 4000000 in
theorem law_zeros (s : ByteArray) (z : Int) (hs : s.size ≤ maxLen) (_h1 : (Lit.int .i64 z).wf = true) (w : World) :
    Calls Try.prog 5 #[.string s, .int .i64 z] w fun e w' => e = .returned (.bool true) ∧ Below w.heap.size w w' := by
  unfold maxLen at hs
  by_cases hl : s.size < 1
  · go_enter Try.func5, Try.ntmps5
    go_wp2_with (go_at_call 9; refine (awake_any _).mono ?_; rintro e w2 ⟨rfl, hB2⟩)
    go_ret
    exact ⟨rfl, hB2⟩
  by_cases hl2 : 300 < s.size
  · go_enter Try.func5, Try.ntmps5
    go_wp2_with (go_at_call 9; refine (awake_any _).mono ?_; rintro e w2 ⟨rfl, hB2⟩)
    go_ret
    exact ⟨rfl, hB2⟩
  by_cases hz : z < 0
  · go_enter Try.func5, Try.ntmps5
    go_wp2_with (go_at_call 9; refine (awake_any _).mono ?_; rintro e w2 ⟨rfl, hB2⟩)
    go_ret
    exact ⟨rfl, hB2⟩
  obtain ⟨z, rfl⟩ := Int.eq_ofNat_of_zero_le (by omega : 0 ≤ z)
  clear hz
  by_cases hz2 : 300 < z
  · go_enter Try.func5, Try.ntmps5
    go_wp2_with (go_at_call 9; refine (awake_any _).mono ?_; rintro e w2 ⟨rfl, hB2⟩)
    go_ret
    exact ⟨rfl, hB2⟩
  go_enter Try.func5, Try.ntmps5
  go_wp2
  go_loop [5, 6] (fun v i => ∃ (k : Nat) (t : ByteArray), k ≤ z ∧ i = .int .i64 k ∧ v = .string t ∧ t.data.toList = List.replicate k 48) (fun _ i => z - (intOf i).toNat)
  case atStart => exact ⟨0, _, Nat.zero_le _, rfl, rfl, rfl⟩
  case round =>
    obtain ⟨k, t, hk, rfl, rfl, ht⟩ := hrel
    have hts : t.size ≤ 300 := by rw [Lib.size_eq, ht]; simp; omega
    have HT := Lib.hid ht
    clear ht
    by_cases hlt : k < z
    · go_wp2
      exact ⟨⟨k + 1, t ++ ⟨#[48]⟩, by omega, by go_num, rfl, by rw [data_append', HT.out]; simp [List.replicate_succ']⟩, by simp [intOf]; omega⟩
    · obtain rfl : k = z := by omega
      go_wp2
      go_loop [4, 7] (fun _ i => ∃ (j : Nat), j ≤ s.size ∧ i = .int .i64 j ∧ ∀ i, (hi : i < s.size) → i < j → Vz.digitB s[i]) (fun _ i => s.size - (intOf i).toNat)
      case atStart => exact ⟨0, Nat.zero_le _, rfl, fun i _ h => absurd h (by omega)⟩
      case round =>
        obtain ⟨j, hj, rfl, hd⟩ := hrel
        have HD := Lib.hid hd
        clear hd
        by_cases hlt2 : j < s.size
        · by_cases hdg : (s[j].toNat : Int) < 48 ∨ 57 < (s[j].toNat : Int)
          · go_wp2_with (go_at_call 9; refine (awake_any _).mono ?_; rintro e w2 ⟨rfl, hB2⟩)
            all_goals
              go_ret
              exact ⟨rfl, hB2⟩
          · have hd1 : (48 : Int) ≤ (s[j].toNat : Int) := by omega
            have hd2 : (s[j].toNat : Int) ≤ 57 := by omega
            go_wp2
            exact ⟨⟨j + 1, by omega, by go_num, fun i hi hij => by
              rcases Nat.lt_succ_iff_lt_or_eq.1 hij with h | h
              · exact HD.out i hi h
              · subst h; exact ⟨hd1, hd2⟩⟩, by simp [intOf]; omega⟩
        · have hdig := digit_at s (fun i hi => HD.out i hi (by omega))
          have hne : s.data.toList ≠ [] := fun h => by have := Lib.size_eq s; rw [h, List.length_nil] at this; omega
          obtain ⟨v, hv0, hn1, hn2⟩ := Vz.numbers_zeros s.data.toList hne hdig k
          have hA := numbers_any s (by omega) w
          have hZ := fun W => numbers_any (t ++ s) (by rw [Lib.size_eq, data_append', List.length_append, ← Lib.size_eq, ← Lib.size_eq]; omega) W
          rw [hn1] at hA
          rw [data_append', HT.out, hn2] at hZ
          have HA := Lib.hid hA
          have HZ := Lib.hid hZ
          clear hA hZ hn1 hn2 hdig hne
          go_wp2_with fail
          refine HA.out.mono ?_
          rintro e w1 ⟨u, rfl, hown, hB1⟩
          obtain ⟨A, c, rfl, hI⟩ := Ints.of_own hown
          clear hown
          go_wp2_with fail
          refine (HZ.out w1).mono ?_
          rintro e w2 ⟨u', rfl, hown', hB2⟩
          obtain ⟨A', c', rfl, hI'⟩ := Ints.of_own hown'
          clear hown' HZ HA
          have hI2 := (hI.below hB2 (Nat.le_refl _)).more hB2.size
          clear hI
          go_wp2_with fail
          refine (ints_any _ _ _ _ _ _ _ _ _ _ hI2 hI' (by simp) (by simp)).mono ?_
          rintro e w3 ⟨rfl, q, rfl⟩
          rw [decide_eq_true (p := [v] = [v]) rfl]
          have hI3 : Ints w2.heap.size w2 A 1 [v] := hI2
          obtain ⟨bb, oo, rfl, hc⟩ := hI3.at_ (k := 0) (by omega)
          rw [show ([v] : List Int)[0]?.getD 0 = v from rfl, Nat.add_zero] at hc
          clear hI2 hI' hI3
          go_wp2_with fail
          refine (awake_any _).mono ?_
          rintro e w5 ⟨rfl, hB5⟩
          go_wp2_with fail
          go_ret
          exact ⟨rfl, below_join (below_drewN (below_join hB1 hB2) q) hB5⟩
end Go.Proofs.Ytdakiocgaihcnaa
