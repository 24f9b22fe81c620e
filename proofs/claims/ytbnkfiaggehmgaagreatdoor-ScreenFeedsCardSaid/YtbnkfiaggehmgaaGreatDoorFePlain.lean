import Derived.Test.YtbnkfiaggehmgaaGreatDoorGY
import Derived.Test.YtbnkfiaggehmgaaGreatDoorGI

/- Plain: Feed by n, and back. -/
namespace Go.Proofs.YtbnkfiaggehmgaaGreatDoor
open Go.RowKit
set_option linter.unusedSimpArgs false
set_option linter.unusedVariables false

/-- The row that a feed by n ends on. -/
def fedRow (S : Vz.Sr) (n : Int) : Int := max 0 (min (S.pl.at_.row + n) ((S.D.R : Int) - 1))
theorem fed_pl {S : Vz.Sr} {n : Int} (hin : S.pl.at_.inS S.D.R S.D.C) (hm : S.D.may) (hn : -300 ≤ n ∧ n ≤ 300) : (feedS S n).pl = ⟨⟨fedRow S n, S.pl.at_.col⟩, false⟩ := by
  have hM := Vz.Gd.may_mayS hm
  obtain ⟨q1, q2, q3, q4⟩ := hin
  obtain ⟨m1, m2, m3, m4⟩ := hm
  show Vz.stepP S.D.R S.D.C S.pl (Vz.cutF n) 0 = _
  unfold Vz.stepP
  rw [Vz.nearP_id _ _ _ hM ⟨q1, q2, q3, q4⟩]
  have e1 : Vz.cutF n = n := by unfold Vz.cutF; omega
  have e2 : Vz.cutI n = n := by unfold Vz.cutI; omega
  have e3 : Vz.cutI 0 = 0 := by decide
  rw [e1]
  simp only [e2, e3]
  unfold Vz.nearP
  rw [if_pos hM]
  unfold Vz.nearI fedRow
  simp only
  congr 2
  omega
theorem fed_over {S : Vz.Sr} {n : Int} (hn : -300 ≤ n ∧ n ≤ 300) : Vz.overF S.D.R S.pl.at_.row (Vz.cutF n) = S.pl.at_.row + n - fedRow S n := by
  have e1 : Vz.cutF n = n := by unfold Vz.cutF; omega
  rw [e1]
  rfl
theorem fed_in {S : Vz.Sr} {n : Int} (hn : -300 ≤ n ∧ n ≤ 300) {i j : Nat} (hi : i < S.D.R) (h0 : 0 ≤ (i : Int) + (S.pl.at_.row + n - fedRow S n)) (h1 : (i : Int) + (S.pl.at_.row + n - fedRow S n) < S.D.R) : (feedS S n).D.X i j = S.D.X ((i : Int) + (S.pl.at_.row + n - fedRow S n)).toNat j := by
  show (match Vz.rollAt 0 (S.D.R - 1) (Vz.overF S.D.R S.pl.at_.row (Vz.cutF n)) i with | none => Vz.Cl.blank | some k => S.D.X k j) = _
  rw [fed_over hn]
  generalize S.pl.at_.row + n - fedRow S n = ov at *
  unfold Vz.rollAt
  rw [if_pos (by omega), if_neg (by omega)]
theorem fed_out {S : Vz.Sr} {n : Int} (hn : -300 ≤ n ∧ n ≤ 300) {i j : Nat} (hi : i < S.D.R) (h : ¬ (0 ≤ (i : Int) + (S.pl.at_.row + n - fedRow S n) ∧ (i : Int) + (S.pl.at_.row + n - fedRow S n) < S.D.R)) : (feedS S n).D.X i j = Vz.Cl.blank := by
  show (match Vz.rollAt 0 (S.D.R - 1) (Vz.overF S.D.R S.pl.at_.row (Vz.cutF n)) i with | none => Vz.Cl.blank | some k => S.D.X k j) = _
  rw [fed_over hn]
  generalize S.pl.at_.row + n - fedRow S n = ov at *
  unfold Vz.rollAt
  rw [if_pos (by omega), if_pos (by omega)]
theorem Like.fed {S : Vz.Sr} {n : Int} (hin : S.pl.at_.inS S.D.R S.D.C) (hm : S.D.may) (hn : -300 ≤ n ∧ n ≤ 300) (h0 : S.pl.at_.row + n - fedRow S n = 0) : Like (feedS (feedS S n) (-n)) { S with pl := ⟨S.pl.at_, false⟩ } := by
  have hpl := fed_pl hin hm hn
  obtain ⟨q1, q2, q3, q4⟩ := hin
  have hrow : (feedS S n).pl.at_.row = S.pl.at_.row + n := by rw [hpl]; show fedRow S n = _; omega
  have hcol : (feedS S n).pl.at_.col = S.pl.at_.col := by rw [hpl]
  have hfr : 0 ≤ S.pl.at_.row + n ∧ S.pl.at_.row + n < S.D.R := by unfold fedRow at h0; omega
  have hin1 : (feedS S n).pl.at_.inS (feedS S n).D.R (feedS S n).D.C := by
    refine ⟨by rw [hrow]; omega, by rw [hrow]; exact hfr.2, by rw [hcol]; exact q3, by rw [hcol]; exact q4⟩
  have hm1 : (feedS S n).D.may := hm
  have hpl2 := fed_pl (n := -n) hin1 hm1 (by omega)
  have hfr2 : fedRow (feedS S n) (-n) = S.pl.at_.row := by
    unfold fedRow
    rw [hrow]
    show max 0 (min (S.pl.at_.row + n + -n) ((S.D.R : Int) - 1)) = _
    omega
  refine ⟨?_, rfl, rfl, fun i j hi hj => ?_, fun c hc => rfl⟩
  · rw [hpl2, hfr2, hcol]
  · have hi' : i < S.D.R := hi
    rw [fed_in (S := feedS S n) (n := -n) (by omega) hi' (by rw [hrow, hfr2]; omega) (by rw [hrow, hfr2]; show _ < (S.D.R : Int); omega)]
    rw [hrow, hfr2, show ((i : Int) + (S.pl.at_.row + n + -n - S.pl.at_.row)).toNat = i by omega]
    rw [fed_in hn hi' (by omega) (by omega), h0, show ((i : Int) + 0).toNat = i by omega]
end Go.Proofs.YtbnkfiaggehmgaaGreatDoor
