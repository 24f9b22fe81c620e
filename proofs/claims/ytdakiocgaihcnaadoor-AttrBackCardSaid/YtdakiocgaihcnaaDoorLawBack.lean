/- The walk of AttrBack. -/
import Derived.Test.YtdakiocgaihcnaaDoorBackPlain
import Derived.Test.YtdakiocgaihcnaaDoorParseB
namespace Go.Proofs.YtdakiocgaihcnaaDoor
open Go.RowKit

theorem parseR_names (n : Nat) (hm : Vz.mayI n = true) : parseR (Vz.namesL n) = .tuple #[.int .i64 n, .int .i64 0] := by
  unfold parseR
  rw [Vz.parse_names n hm, if_pos ⟨hm, rfl⟩]

set_option maxRecDepth 100000 in
set_option maxHeartbeats 4000000 in
theorem law_back (a p l0 l1 : Int) (h1 : -9223372036854775808 ≤ a) (h2 : a < 9223372036854775808) (w : World) (mx : Int) (hmx : w.cell? ⟨1, 0, none⟩ = some (.int .i64 mx)) (hml : 1 < w.heap.size) (t : TypeId) (fr : Nat × Nat) (hg : w.heap[0]? = some (.cells names12a t fr)) :
    Calls Tryd.prog 7 #[.int .i64 a, .int .i64 p, .agg #[.int .i64 l0, .int .i64 l1]] w fun e w' => e = .returned (.bool true) ∧ Below w.heap.size w w' := by
  have HR := Lib.hid (fun W => rmay_any a h1 h2 W)
  have HAW := Lib.hid (fun W => awake_after w W t fr hg)
  have hB0 : Below w.heap.size w (w.alloc (.cells #[.int .i64 l0, .int .i64 l1] 44)) := (Below.refl _ _).alloc (Nat.le_refl _) _
  cases hm : Vz.mayI a with
  | false =>
    rw [hm] at HR
    clear hm hg h1 h2 hmx hml
    go_enter Tryd.func7, Tryd.ntmps7
    go_wp2_with fail
    refine (HR.out _).mono ?_
    rintro e w1 ⟨rfl, rfl⟩
    go_wp2_with fail
    refine (HAW.out _ hB0).mono ?_
    rintro e w2 ⟨rfl, hB2⟩
    go_wp2_with fail
    go_ret
    exact ⟨rfl, hB2⟩
  | true =>
    rw [hm] at HR
    obtain ⟨ha, ha'⟩ := Vz.mayI_lt hm
    obtain ⟨n, rfl⟩ := Int.eq_ofNat_of_zero_le ha
    have hn : n < 16384 := by omega
    have HN := Lib.hid (fun W h => names_after n hm w W t fr hg h)
    have hns : (⟨(Vz.namesL n).toArray⟩ : ByteArray).size ≤ 1000 := by
      show (Vz.namesL n).toArray.size ≤ 1000
      have := Vz.join_len n
      unfold Vz.namesL
      split
      · decide
      · simp only [List.size_toArray]; omega
    have hglt : 0 < w.heap.size := (Array.getElem?_eq_some_iff.1 hg).1
    have HP : Hid (∀ W, Below w.heap.size w W → Calls Tryd.prog 21 #[.string ⟨(Vz.namesL n).toArray⟩] W fun e w' => e = .returned (.tuple #[.int .i64 n, .int .i64 0]) ∧ Below w.heap.size w w' ∧ Below W.heap.size W w') := by
      intro W hB
      have h := parse_any _ hns mx W ((hB.cell hml).trans hmx) t fr ((hB.block _ hglt).trans hg)
      rw [show (⟨(Vz.namesL n).toArray⟩ : ByteArray).data.toList = Vz.namesL n from by simp, parseR_names n hm] at h
      refine h.mono ?_
      rintro e w2 ⟨rfl, h2⟩
      exact ⟨rfl, below_join hB h2, h2⟩
    have hkm := keep_may p n hm
    have hkl : n &&& (bitsL p).sum ≤ n := Nat.and_le_left
    have hkk : (n &&& (bitsL p).sum) &&& (bitsL p).sum = n &&& (bitsL p).sum := by rw [Nat.and_assoc, Nat.and_self]
    have HK1 := Lib.hid (fun W => keep_yes p n hm W)
    have HK2 := Lib.hid (fun W => keep_yes p _ hkm W)
    rw [hkk] at HK2
    have HM := Lib.hid (fun W => may_yes _ (by omega) hkm W)
    generalize n &&& (bitsL p).sum = k at hkm hkl HK1 HK2 HM
    have hcr := Vz.col_range n hm
    have HC := Lib.hid (fun W => colours_any n (by omega) (by omega) W)
    generalize Vz.coloursI n = cc at hcr HC
    obtain ⟨c1, c2⟩ := cc
    obtain ⟨g1, g2, g3, g4, g5⟩ := hcr
    simp only [] at g1 g2 g3 g4 g5 HC
    have H0 := Lib.hid (fun W => colours_any 0 (by decide) (by decide) W)
    rw [show Vz.coloursI 0 = (7, 0) from by decide] at H0
    have hrow : (w.alloc (.cells #[.int .i64 l0, .int .i64 l1] 44)).heap[w.heap.size]? = some (.cells #[.int .i64 l0, .int .i64 l1] 44 (0, 0)) := by
      show (w.heap.push _)[w.heap.size]? = _
      simp
    have hsz : w.heap.size < (w.alloc (.cells #[.int .i64 l0, .int .i64 l1] 44)).heap.size := by rw [World.size_alloc]; omega
    have HROW := Lib.hid hrow
    have HSZ := Lib.hid hsz
    have HB0 := Lib.hid hB0
    have HMM := Lib.hid hm
    have hpp : ∃ (c : Nat) (er : Int), (∀ W, Calls Tryd.prog 8 #[.int .i64 n, .int .i64 l0, .int .i64 l1] W fun e w' => e = .returned (.tuple #[.int .i64 c, .int .i64 er]) ∧ W = w') ∧
        ((er = 11) ∨ (er = 0 ∧ c < 16384 ∧ Vz.mayI c = true ∧ (c : Int) % 64 = (n : Int) % 64 ∧ Vz.paintI c (-1) (-1) = c)) := by
      by_cases hh : -1 ≤ l0 ∧ l0 ≤ 7 ∧ -1 ≤ l1 ∧ l1 ≤ 7
      · obtain ⟨c, e1, e2, e3, e4, e5⟩ := Vz.back_paint n l0 l1 hh.2.1 hh.2.2.2
        refine ⟨c, 0, fun W => ?_, Or.inr ⟨rfl, e2, e3, e4, e5⟩⟩
        rw [← e1]
        exact paint_ok n l0 l1 hm hh.1 hh.2.1 hh.2.2.1 hh.2.2.2 W
      · exact ⟨0, 11, fun W => paint_range n l0 l1 hm hh W, Or.inl rfl⟩
    obtain ⟨c, er, hpc, hcase⟩ := hpp
    have HPC := Lib.hid hpc
    have HCASE := Lib.hid hcase
    clear hrow hsz hB0 hm hpc hcase hg h1 h2 hmx hml hglt hns hkm hkk ha ha'
    generalize (⟨(Vz.namesL n).toArray⟩ : ByteArray) = s at HN HP
    go_enter Tryd.func7, Tryd.ntmps7
    go_wp2_with fail
    refine (HR.out _).mono ?_
    rintro e w1 ⟨rfl, rfl⟩
    go_wp2_with fail
    refine (HN.out _ HB0.out).mono ?_
    rintro e w1 ⟨rfl, hB1, hC1⟩
    go_wp2_with fail
    refine (HP.out _ hB1).mono ?_
    rintro e w2 ⟨rfl, hB2, hC2⟩
    have hrow2 : w2.heap[w.heap.size]? = some (.cells #[.int .i64 l0, .int .i64 l1] 44 (0, 0)) :=
      (hC2.block _ (Nat.lt_of_lt_of_le HSZ.out hC1.size)).trans ((hC1.block _ HSZ.out).trans HROW.out)
    have c0 : w2.cell? ⟨w.heap.size, 0, none⟩ = some (.int .i64 l0) := cell_of_row _ _ _ _ _ _ hrow2
    have c1' : w2.cell? ⟨w.heap.size, 1, none⟩ = some (.int .i64 l1) := cell_of_row _ _ _ _ _ _ hrow2
    have HB2 := Lib.hid hB2
    have HC2 := Lib.hid hC2
    have HC1 := Lib.hid hC1
    have HB1 := Lib.hid hB1
    clear hB1 hB2 hC1 hC2 hrow2
    go_wp2_with fail
    refine (HK1.out _).mono ?_
    rintro e w3 ⟨rfl, rfl⟩
    go_wp2_with fail
    refine (HK2.out _).mono ?_
    rintro e w3 ⟨rfl, rfl⟩
    go_wp2_with fail
    refine (HM.out _).mono ?_
    rintro e w3 ⟨rfl, rfl⟩
    go_wp2_with fail
    refine (HC.out _).mono ?_
    rintro e w3 ⟨rfl, rfl⟩
    by_cases q32 : n / 32 % 2 = 1
    · obtain rfl : c1 = c2 := g5 (by omega)
      clear g5
      go_wp2_with fail
      refine (HPC.out _).mono ?_
      rintro e w3 ⟨rfl, rfl⟩
      obtain rfl | ⟨rfl, k1, k2, k3, k4⟩ := HCASE.out
      · have HA := Lib.hid (HAW.out _ HB2.out)
        go_wp2_with (go_at_call 12; refine HA.out.mono ?_; rintro e w3 ⟨rfl, hB3⟩)
        go_ret
        exact ⟨rfl, hB3⟩
      · have HQ := Lib.hid (paint_ok c (-1) (-1) k2 (by decide) (by decide) (by decide) (by decide) w2)
        rw [k4] at HQ
        have HY := Lib.hid (may_yes c (by omega) k2 w2)
        have HA := Lib.hid (HAW.out _ HB2.out)
        clear k2 k4
        go_wp2_with fail
        refine HQ.out.mono ?_
        rintro e w3 ⟨rfl, rfl⟩
        go_wp2_with fail
        refine (H0.out _).mono ?_
        rintro e w3 ⟨rfl, rfl⟩
        go_wp2_with fail
        refine HY.out.mono ?_
        rintro e w3 ⟨rfl, rfl⟩
        go_wp2_with (go_at_call 12; refine HA.out.mono ?_; rintro e w3 ⟨rfl, hB3⟩)
        go_ret
        exact ⟨rfl, hB3⟩
    · clear g5
      have q32' : n / 32 % 2 = 0 := by omega
      go_wp2_with fail
      refine (HPC.out _).mono ?_
      rintro e w3 ⟨rfl, rfl⟩
      obtain rfl | ⟨rfl, k1, k2, k3, k4⟩ := HCASE.out
      · have HA := Lib.hid (HAW.out _ HB2.out)
        go_wp2_with (go_at_call 12; refine HA.out.mono ?_; rintro e w3 ⟨rfl, hB3⟩)
        go_ret
        exact ⟨rfl, hB3⟩
      · have HQ := Lib.hid (paint_ok c (-1) (-1) k2 (by decide) (by decide) (by decide) (by decide) w2)
        rw [k4] at HQ
        have HY := Lib.hid (may_yes c (by omega) k2 w2)
        have HA := Lib.hid (HAW.out _ HB2.out)
        clear k2 k4
        go_wp2_with fail
        refine HQ.out.mono ?_
        rintro e w3 ⟨rfl, rfl⟩
        go_wp2_with fail
        refine (H0.out _).mono ?_
        rintro e w3 ⟨rfl, rfl⟩
        go_wp2_with fail
        refine HY.out.mono ?_
        rintro e w3 ⟨rfl, rfl⟩
        go_wp2_with (go_at_call 12; refine HA.out.mono ?_; rintro e w3 ⟨rfl, hB3⟩)
        go_ret
        exact ⟨rfl, hB3⟩
end Go.Proofs.YtdakiocgaihcnaaDoor
