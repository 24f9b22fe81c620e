import Derived.Test.YtbnkfiaggehmgaaGreatDoorGY
import Derived.Test.YtbnkfiaggehmgaaGreatDoorGU
import Derived.Test.YtbnkfiaggehmgaaGreatDoorGV

/- Plain: sizes behind calls; a screen that is made greater, and as it was again. -/
namespace Go.Proofs.YtbnkfiaggehmgaaGreatDoor
open Go.RowKit
set_option linter.unusedSimpArgs false
set_option linter.unusedVariables false

theorem wipe_dims (D : Vz.Gd) (a b : Vz.Ps) (c : Vz.Cl) (gd : Bool) : (wipeD D a b c gd).R = D.R ∧ (wipeD D a b c gd).C = D.C := by
  unfold wipeD
  split <;> exact ⟨rfl, rfl⟩
theorem draw_dims (S : Vz.Sr) (o : Vz.Op) : (drawS S o).D.R = S.D.R ∧ (drawS S o).D.C = S.D.C := by
  unfold drawS
  split
  · split
    · unfold putGS
      split <;> exact ⟨rfl, rfl⟩
    · exact ⟨putD_R _ _ _ _ _, putD_C _ _ _ _ _⟩
  · split
    · exact wipe_dims _ _ _ _ _
    · split
      · show (partD S o.n o.c o.gd).R = _ ∧ (partD S o.n o.c o.gd).C = _
        unfold partD
        split
        · exact wipe_dims _ _ _ _ _
        · exact ⟨rfl, rfl⟩
      · split
        · show (linesD _ _ _ _ _).R = _ ∧ (linesD _ _ _ _ _).C = _
          unfold linesD
          split <;> exact ⟨rfl, rfl⟩
        · split
          · show (charsD _ _ _ _ _ _).R = _ ∧ (charsD _ _ _ _ _ _).C = _
            unfold charsD
            split
            · split <;> exact ⟨rfl, rfl⟩
            · exact ⟨rfl, rfl⟩
          · exact ⟨rfl, rfl⟩
/-- A size as the law's calls leave it. -/
def SmallD (D : Vz.Gd) : Prop := D.R ≤ 8 ∧ D.C ≤ 20
theorem SmallD.does {S : Vz.Sr} {o : Vz.Op} (h : SmallD S.D) (ho : fewO o) : SmallD (doesR S o).1.D := by
  unfold doesR
  by_cases h0 : o.ask = 0 ∨ o.ask = 7 ∨ o.ask = 8 ∨ o.ask = 9 ∨ o.ask = 10
  · rw [if_pos h0]
    have := draw_dims S o
    exact ⟨by show (drawS S o).D.R ≤ 8; rw [this.1]; exact h.1, by show (drawS S o).D.C ≤ 20; rw [this.2]; exact h.2⟩
  rw [if_neg h0]
  by_cases h1 : o.ask = 1
  · rw [if_pos h1]
    exact h
  rw [if_neg h1]
  by_cases h2 : o.ask = 2
  · rw [if_pos h2]
    exact h
  rw [if_neg h2]
  by_cases h3 : o.ask = 3
  · rw [if_pos h3]
    exact h
  rw [if_neg h3]
  by_cases h4 : o.ask = 4
  · rw [if_pos h4]
    show SmallD (tabS S o.n).D
    unfold tabS
    split <;> exact h
  rw [if_neg h4]
  by_cases h5 : o.ask = 5
  · rw [if_pos h5]
    show SmallD (stopS S o.n (!o.gd)).D
    unfold stopS
    split <;> exact h
  rw [if_neg h5]
  by_cases h6 : o.ask = 6
  · rw [if_pos h6]
    show SmallD (stopsS S o.n).D
    unfold stopsS
    split <;> exact h
  rw [if_neg h6]
  by_cases h11 : o.ask = 11
  · rw [if_pos h11]
    show SmallD (freeO S _).D
    unfold freeO
    split <;> exact h
  rw [if_neg h11]
  by_cases h12 : o.ask = 12
  · rw [if_pos h12]
    cases hm : Vz.mayS o.a.row o.a.col
    · rw [if_neg Bool.false_ne_true]
      exact h
    · rw [if_pos rfl]
      obtain ⟨k1, k2⟩ := ho h12 hm
      show o.a.row.toNat ≤ 8 ∧ o.a.col.toNat ≤ 20
      omega
  rw [if_neg h12]
  by_cases h13 : o.ask = 13
  · rw [if_pos h13]
    cases inB o.a S.D.R S.D.C
    · rw [if_neg Bool.false_ne_true]
      exact h
    · rw [if_pos rfl]
      exact h
  rw [if_neg h13]
  cases inB o.a S.D.R S.D.C
  · rw [if_neg Bool.false_ne_true]
    exact h
  · rw [if_pos rfl]
    exact h
theorem run_small (S : Vz.Sr) (L : List Vz.Op) (h : SmallD S.D) (hL : ∀ k, k < L.length → fewO (L[k]?.getD Vz.Op.nil)) : SmallD (runS S L).D := by
  have : ∀ k, k ≤ L.length → SmallD (runS S (L.take k)).D := by
    intro k
    induction k with
    | zero => intro _; exact h
    | succ k ih =>
      intro hk
      rw [runS_step S L (by omega)]
      exact (ih (by omega)).does (hL k (by omega))
  have := this L.length (Nat.le_refl _)
  rwa [List.take_length] at this
/-- Greater, and as it was again. -/
theorem Like.grown {S : Vz.Sr} {R C : Nat} (hin : S.pl.at_.inS S.D.R S.D.C) (hm : S.D.may) (hM : Vz.mayS R C = true) (hR : S.D.R ≤ R) (hC : S.D.C ≤ C) : Like (resizeS (resizeS S R C) S.D.R S.D.C) { S with pl := ⟨S.pl.at_, false⟩ } := by
  obtain ⟨q1, q2, q3, q4⟩ := hin
  have e1 : Vz.nearP R C S.pl.at_ = S.pl.at_ := Vz.nearP_id _ _ _ hM ⟨q1, by omega, q3, by omega⟩
  have e2 : Vz.nearP S.D.R S.D.C S.pl.at_ = S.pl.at_ := Vz.nearP_id _ _ _ (Vz.Gd.may_mayS hm) ⟨q1, q2, q3, q4⟩
  refine ⟨?_, rfl, rfl, fun i j hi hj => ?_, fun c hc => ?_⟩
  · show (⟨S.pl.at_, false⟩ : Vz.Pl) = ⟨Vz.nearP S.D.R S.D.C (Vz.nearP R C S.pl.at_), false⟩
    rw [e1, e2]
  · have hi' : i < S.D.R := hi
    have hj' : j < S.D.C := hj
    show S.D.X i j = (if i < R ∧ j < C then (if i < S.D.R ∧ j < S.D.C then S.D.X i j else Vz.Cl.blank) else Vz.Cl.blank)
    rw [if_pos ⟨by omega, by omega⟩, if_pos ⟨hi', hj'⟩]
  · have hc' : c < S.D.C := hc
    show S.T c = ((S.T c && decide (c < C)) && decide (c < S.D.C))
    rw [decide_eq_true hc', decide_eq_true (show c < C by omega), Bool.and_true, Bool.and_true]
theorem resized_in {S : Vz.Sr} {R C i j : Nat} (hi : i < S.D.R) (hj : j < S.D.C) : (resizeS S R C).D.X i j = S.D.X i j := by
  show (if i < S.D.R ∧ j < S.D.C then S.D.X i j else Vz.Cl.blank) = S.D.X i j
  rw [if_pos ⟨hi, hj⟩]
theorem resized_out {S : Vz.Sr} {R C i j : Nat} (h : ¬ (i < S.D.R ∧ j < S.D.C)) : (resizeS S R C).D.X i j = Vz.Cl.blank := by
  show (if i < S.D.R ∧ j < S.D.C then S.D.X i j else Vz.Cl.blank) = Vz.Cl.blank
  rw [if_neg h]
end Go.Proofs.YtbnkfiaggehmgaaGreatDoor
