/- The walk of AttrNames, over the contract of the reference's Names. -/
import Derived.Test.YtdakiocgaihcnaaDoorRefParse
namespace Go.Proofs.YtdakiocgaihcnaaDoor
open Go.RowKit

theorem parseR_cases (l : List UInt8) : (∃ p : Nat, parseR l = .tuple #[.int .i64 p, .int .i64 0] ∧ ∀ r, Found l r → r = p) ∨ (parseR l = .tuple #[.int .i64 0, .int .i64 14] ∧ ∀ r, Found l r → r = -1) := by
  by_cases hc : Vz.mayI (Vz.parseL l) = true ∧ Vz.namesL (Vz.parseL l) = l
  · refine Or.inl ⟨Vz.parseL l, by unfold parseR; rw [if_pos hc], fun r h => ?_⟩
    rcases h with ⟨n, hm, hn, rfl⟩ | ⟨rfl, hall⟩
    · have : Vz.parseL l = n := by rw [← hn]; exact Vz.parse_names n hm
      rw [this]
    · exact absurd hc.2 (hall _ hc.1)
  · refine Or.inr ⟨by unfold parseR; rw [if_neg hc], fun r h => ?_⟩
    rcases h with ⟨n, hm, hn, rfl⟩ | ⟨rfl, hall⟩
    · have : Vz.parseL l = n := by rw [← hn]; exact Vz.parse_names n hm
      exact absurd ⟨by rw [this]; exact hm, by rw [this]; exact hn⟩ hc
    · rfl

set_option maxRecDepth 100000 in
set_option maxHeartbeats 2000000 in
theorem law_names (hN : NamesOk) (a : Int) (s : ByteArray) (h1 : -9223372036854775808 ≤ a) (h2 : a < 9223372036854775808) (w : World) (mx : Int) (hmx : w.cell? ⟨1, 0, none⟩ = some (.int .i64 mx)) (hml : 1 < w.heap.size) (t : TypeId) (fr : Nat × Nat) (hg : w.heap[0]? = some (.cells names12a t fr)) :
    Calls Tryd.prog 6 #[.int .i64 a, .string s] w fun e w' => e = .returned (.bool true) ∧ Below w.heap.size w w' := by
  have HAW := Lib.hid (fun W => awake_after w W t fr hg)
  by_cases hs : s.size ≤ 100
  · obtain ⟨X, HA, HB⟩ : ∃ X : ByteArray, Hid (Calls Tryd.prog 14 #[.int .i64 a] w fun e w' => e = .returned (.string X) ∧ Below w.heap.size w w') ∧ Hid (∀ W, Calls Tryd.prog 20 #[.int .i64 a] W fun e w' => e = .returned (.string X) ∧ Below W.heap.size W w') := by
      cases hm : Vz.mayI a with
      | false =>
        refine ⟨⟨#[]⟩, (names_no a h2 hm w).mono ?_, fun W => (rnames_no a h1 h2 hm W).mono ?_⟩
        · rintro e w' ⟨rfl, rfl⟩
          exact ⟨rfl, Below.refl _ _⟩
        · rintro e w' ⟨rfl, rfl⟩
          exact ⟨rfl, Below.refl _ _⟩
      | true =>
        obtain ⟨ha, _⟩ := Vz.mayI_lt hm
        obtain ⟨n, rfl⟩ := Int.eq_ofNat_of_zero_le ha
        exact ⟨_, names_any n hm w t fr hg, fun W => hN n hm W⟩
    have hglt : 0 < w.heap.size := (Array.getElem?_eq_some_iff.1 hg).1
    have HP : Hid (∀ W, Below w.heap.size w W → Calls Tryd.prog 21 #[.string s] W fun e w' => e = .returned (parseR s.data.toList) ∧ Below W.heap.size W w') := fun W hB =>
      parse_any s (by omega) mx W ((hB.cell hml).trans hmx) t fr ((hB.block _ hglt).trans hg)
    have HQ := Lib.hid (fun W => rparse_any hN s W)
    have hq : (X.toList == X.toList) = true := by simp
    clear hN hg hmx hml hglt h1 h2
    rcases parseR_cases s.data.toList with ⟨p, hR, hCA⟩ | ⟨hR, hCA⟩
    · rw [hR] at HP
      have HCA := Lib.hid hCA
      clear hR hCA
      go_enter Tryd.func6, Tryd.ntmps6
      go_wp2_with fail
      refine HA.out.mono ?_
      rintro e w1 ⟨rfl, hB1⟩
      go_wp2_with fail
      refine (HB.out _).mono ?_
      rintro e w2 ⟨rfl, hB2⟩
      have HB12 := Lib.hid (below_join hB1 hB2)
      clear hB1 hB2
      go_wp2_with fail
      refine (HP.out _ HB12.out).mono ?_
      rintro e w3 ⟨rfl, hB3⟩
      have HB13 := Lib.hid (below_join HB12.out hB3)
      clear hB3
      go_wp2_with fail
      refine (HQ.out _).mono ?_
      rintro e w4 ⟨r, rfl, hF, hB4⟩
      obtain rfl := HCA.out r hF
      have HA4 := Lib.hid (HAW.out w4 (below_join HB13.out hB4))
      clear hF hB4
      go_wp2_with (go_at_call 12; refine HA4.out.mono ?_; rintro e w5 ⟨rfl, hB5⟩)
      go_ret
      exact ⟨rfl, hB5⟩
    · rw [hR] at HP
      have HCA := Lib.hid hCA
      clear hR hCA
      go_enter Tryd.func6, Tryd.ntmps6
      go_wp2_with fail
      refine HA.out.mono ?_
      rintro e w1 ⟨rfl, hB1⟩
      go_wp2_with fail
      refine (HB.out _).mono ?_
      rintro e w2 ⟨rfl, hB2⟩
      have HB12 := Lib.hid (below_join hB1 hB2)
      clear hB1 hB2
      go_wp2_with fail
      refine (HP.out _ HB12.out).mono ?_
      rintro e w3 ⟨rfl, hB3⟩
      have HB13 := Lib.hid (below_join HB12.out hB3)
      clear hB3
      go_wp2_with fail
      refine (HQ.out _).mono ?_
      rintro e w4 ⟨r, rfl, hF, hB4⟩
      obtain rfl := HCA.out r hF
      have HA4 := Lib.hid (HAW.out w4 (below_join HB13.out hB4))
      clear hF hB4
      go_wp2_with (go_at_call 12; refine HA4.out.mono ?_; rintro e w5 ⟨rfl, hB5⟩)
      go_ret
      exact ⟨rfl, hB5⟩
  · go_enter Tryd.func6, Tryd.ntmps6
    have HA0 := Lib.hid (HAW.out w (Below.refl _ _))
    go_wp2_with fail
    refine HA0.out.mono ?_
    rintro e w2 ⟨rfl, hB2⟩
    go_wp2_with fail
    go_ret
    exact ⟨rfl, hB2⟩
end Go.Proofs.YtdakiocgaihcnaaDoor
