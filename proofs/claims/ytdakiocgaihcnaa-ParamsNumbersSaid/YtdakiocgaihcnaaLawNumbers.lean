/- The walk of ParamsNumbers. -/
import Derived.Test.YtdakiocgaihcnaaAwakeP
import Derived.Test.YtdakiocgaihcnaaRefNumbers
import Derived.Test.YtdakiocgaihcnaaPlainB
namespace Go.Proofs.Ytdakiocgaihcnaa
open Go.RowKit

theorem or_in {l : List Int} {k : Nat} (hk : k < l.length) (hv : 0 ≤ l[k]?.getD 0) (o : Int) : orL l k o = l[k]?.getD 0 := by
  unfold orL; rw [if_pos ⟨by omega, by omega, by simpa using hv⟩]; simp
theorem or_low {l : List Int} {k : Nat} (hv : ¬ 0 ≤ l[k]?.getD 0) (o : Int) : orL l k o = o := by
  unfold orL; rw [if_neg (by rintro ⟨_, _, e⟩; rw [Int.toNat_natCast] at e; exact hv e)]
theorem or_far {l : List Int} {k : Nat} (hk : ¬ k < l.length) (o : Int) : orL l k o = o := by
  unfold orL; rw [if_neg (by rintro ⟨_, e, _⟩; omega)]
theorem or_neg {l : List Int} {i : Int} (h : ¬ 0 ≤ i) (o : Int) : orL l i o = o := by
  unfold orL; rw [if_neg (by rintro ⟨e, _⟩; exact h e)]

set_option maxHeartbeats 2000000 in
theorem law_numbers (s : ByteArray) (i o : Int) (hs : s.size ≤ maxLen) (_h1 : (Lit.int .i64 i).wf = true) (_h2 : (Lit.int .i64 o).wf = true) (w : World) :
    Calls Try.prog 3 #[.string s, .int .i64 i, .int .i64 o] w fun e w' => e = .returned (.bool true) ∧ Below w.heap.size w w' := by
  unfold maxLen at hs
  by_cases hl : 500 < s.size
  · go_enter Try.func3, Try.ntmps3
    go_wp2_with (go_at_call 9; refine (awake_any _).mono ?_; rintro e w2 ⟨rfl, hB2⟩)
    go_ret
    exact ⟨rfl, hB2⟩
  · have hlen := Vz.numbers_len s.data.toList
    rw [← Lib.size_eq] at hlen
    have hA := numbers_any s (by omega) w
    have hR := fun W => refNumbers_any s (by omega) W
    generalize Vz.numbers s.data.toList = NN at hA hR hlen
    obtain ⟨l, b⟩ := NN
    simp only at hA hR hlen
    go_enter Try.func3, Try.ntmps3
    go_wp2_with fail
    refine hA.mono ?_
    rintro e w1 ⟨v, rfl, hown, hB1⟩
    obtain ⟨A, c, rfl, hI⟩ := Ints.of_own hown
    clear hA hown
    have HR := Lib.hid (hR w1)
    clear hR
    go_wp2_with fail
    refine HR.out.mono ?_
    rintro e w2 ⟨v', rfl, hown', hB2⟩
    obtain ⟨A', c', rfl, hI'⟩ := Ints.of_own hown'
    clear HR hown'
    have hI2 := (hI.below hB2 (Nat.le_refl _)).more hB2.size
    clear hI
    by_cases h0 : 0 ≤ i
    · obtain ⟨k, rfl⟩ := Int.eq_ofNat_of_zero_le h0
      clear h0
      by_cases hk : k < l.length
      · obtain ⟨bb, oo, rfl, hc⟩ := hI'.at_ hk
        obtain ⟨x, hx⟩ : ∃ x, l[k]?.getD 0 = x := ⟨_, rfl⟩
        rw [hx] at hc
        have HK := Lib.hid hk
        have HX := Lib.hid hx
        clear hx
        by_cases hv : 0 ≤ x
        · have HO := Lib.hid ((or_in HK.out (by rw [HX.out]; exact hv) o).trans HX.out)
          go_wp2_with fail
          refine (ints_any _ _ _ _ _ _ _ _ _ _ hI2 hI' (by omega) (by omega)).mono ?_
          rintro e w3 ⟨rfl, q, rfl⟩
          rw [decide_eq_true (p := l = l) rfl]
          have hI3 := hI'.drewN q
          clear hI2 hI'
          go_wp2_with fail
          refine (or_any _ _ _ _ _ _ _ _ hI3 (by omega)).mono ?_
          rintro e w4 ⟨rfl, rfl⟩
          rw [HO.out]
          go_wp2_with fail
          refine (awake_any _).mono ?_
          rintro e w5 ⟨rfl, hB5⟩
          go_wp2_with fail
          go_ret
          exact ⟨rfl, below_join (below_drewN (below_join hB1 hB2) q) hB5⟩
        · have HO := Lib.hid (or_low (l := l) (k := k) (by rw [HX.out]; exact hv) o)
          go_wp2_with fail
          refine (ints_any _ _ _ _ _ _ _ _ _ _ hI2 hI' (by omega) (by omega)).mono ?_
          rintro e w3 ⟨rfl, q, rfl⟩
          rw [decide_eq_true (p := l = l) rfl]
          have hI3 := hI'.drewN q
          clear hI2 hI'
          go_wp2_with fail
          refine (or_any _ _ _ _ _ _ _ _ hI3 (by omega)).mono ?_
          rintro e w4 ⟨rfl, rfl⟩
          rw [HO.out]
          go_wp2_with fail
          refine (awake_any _).mono ?_
          rintro e w5 ⟨rfl, hB5⟩
          go_wp2_with fail
          go_ret
          exact ⟨rfl, below_join (below_drewN (below_join hB1 hB2) q) hB5⟩
      · have HO := Lib.hid (or_far hk o)
        go_wp2_with fail
        refine (ints_any _ _ _ _ _ _ _ _ _ _ hI2 hI' (by omega) (by omega)).mono ?_
        rintro e w3 ⟨rfl, q, rfl⟩
        rw [decide_eq_true (p := l = l) rfl]
        have hI3 := hI'.drewN q
        clear hI2 hI'
        go_wp2_with fail
        refine (or_any _ _ _ _ _ _ _ _ hI3 (by omega)).mono ?_
        rintro e w4 ⟨rfl, rfl⟩
        rw [HO.out]
        go_wp2_with fail
        refine (awake_any _).mono ?_
        rintro e w5 ⟨rfl, hB5⟩
        go_wp2_with fail
        go_ret
        exact ⟨rfl, below_join (below_drewN (below_join hB1 hB2) q) hB5⟩
    · have HO := Lib.hid (or_neg (l := l) h0 o)
      go_wp2_with fail
      refine (ints_any _ _ _ _ _ _ _ _ _ _ hI2 hI' (by omega) (by omega)).mono ?_
      rintro e w3 ⟨rfl, q, rfl⟩
      rw [decide_eq_true (p := l = l) rfl]
      have hI3 := hI'.drewN q
      clear hI2 hI'
      go_wp2_with fail
      refine (or_any _ _ _ _ _ _ _ _ hI3 (by omega)).mono ?_
      rintro e w4 ⟨rfl, rfl⟩
      rw [HO.out]
      go_wp2_with fail
      refine (awake_any _).mono ?_
      rintro e w5 ⟨rfl, hB5⟩
      go_wp2_with fail
      go_ret
      exact ⟨rfl, below_join (below_drewN (below_join hB1 hB2) q) hB5⟩
end Go.Proofs.Ytdakiocgaihcnaa
