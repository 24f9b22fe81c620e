import Derived.Test.YtncgigapgklhcaaGreatDoorHT
import Derived.Test.YtncgigapgklhcaaGreatDoorGuCore

/- Plain: what bytes leave as it is: sizes, glyphs that may be, guarded cells. -/
namespace Go.Proofs.YtncgigapgklhcaaGreatDoor
open Go.RowKit
set_option linter.unusedSimpArgs false
set_option linter.unusedVariables false

/-- All that is there is such. -/
def AllD (P : Vz.Cl → Prop) (D : Vz.Gd) : Prop := ∀ i j, P (D.X i j)
/-- What a call leaves of a grid: sizes, and cells that were there or are blank, or the one that is put. -/
structure FromD (c : Vz.Cl) (D D' : Vz.Gd) : Prop where
  R : D'.R = D.R
  C : D'.C = D.C
  X : ∀ P : Vz.Cl → Prop, P Vz.Cl.blank → P c → AllD P D → AllD P D'
theorem FromD.refl (c : Vz.Cl) (D : Vz.Gd) : FromD c D D := ⟨rfl, rfl, fun _ _ _ h => h⟩
theorem FromD.trans {c : Vz.Cl} {A B C : Vz.Gd} (h : FromD c A B) (k : FromD c B C) : FromD c A C := ⟨k.R.trans h.R, k.C.trans h.C, fun P hb hc ha => k.X P hb hc (h.X P hb hc ha)⟩
theorem FromD.roll (c : Vz.Cl) (D : Vz.Gd) (a b : Nat) (n : Int) : FromD c D (D.roll a b n Vz.Cl.blank) := by
  refine ⟨rfl, rfl, fun P hb hc ha i j => ?_⟩
  show P (match Vz.rollAt a b n i with | none => Vz.Cl.blank | some k => D.X k j)
  cases Vz.rollAt a b n i with
  | none => exact hb
  | some k => exact ha k j
theorem FromD.set (D : Vz.Gd) (i j : Nat) (c : Vz.Cl) : FromD c D (D.set i j c) := by
  refine ⟨rfl, rfl, fun P hb hc ha k l => ?_⟩
  show P (if k = i ∧ l = j then c else D.X k l)
  split
  · exact hc
  · exact ha k l
theorem FromD.rise (c : Vz.Cl) (D : Vz.Gd) (b : Bool) : FromD c D (riseD D b Vz.Cl.blank) := by
  cases b
  · exact FromD.refl c D
  · exact FromD.roll c D _ _ _
theorem FromD.put (D : Vz.Gd) (pl : Vz.Pl) (c : Vz.Cl) (wrap : Int) : FromD c D (putD D pl c wrap Vz.Cl.blank).1 :=
  ((FromD.rise c D _).trans (FromD.set _ _ _ c)).trans (FromD.rise c _ _)
theorem FromD.wipe (c : Vz.Cl) (D : Vz.Gd) (a b : Vz.Ps) (g : Bool) : FromD c D (wipeD D a b Vz.Cl.blank g) := by
  unfold wipeD
  split
  · exact FromD.refl c D
  · refine ⟨rfl, rfl, fun P hb hc ha i j => ?_⟩
    show P (if within a b i j = true then wipeX g Vz.Cl.blank (D.X i j) else D.X i j)
    split
    · unfold wipeX
      split
      · exact ha i j
      · exact hb
    · exact ha i j
theorem FromD.slide (c : Vz.Cl) (D : Vz.Gd) (row a b : Nat) (n : Int) : FromD c D (D.slide row a b n Vz.Cl.blank) := by
  refine ⟨rfl, rfl, fun P hb hc ha i j => ?_⟩
  show P (if i = row then (match Vz.rollAt a b n j with | none => Vz.Cl.blank | some k => D.X row k) else D.X i j)
  split
  · cases Vz.rollAt a b n j with
    | none => exact hb
    | some k => exact ha row k
  · exact ha i j
theorem FromD.chars (c : Vz.Cl) (D : Vz.Gd) (row col : Nat) (n : Int) (g : Bool) : FromD c D (charsD D row col n Vz.Cl.blank g) := by
  unfold charsD
  split
  · split
    · exact FromD.refl c D
    · exact FromD.slide c D _ _ _ _
  · exact FromD.slide c D _ _ _ _
theorem FromD.lines (c : Vz.Cl) (D : Vz.Gd) (row : Nat) (n : Int) (g : Bool) : FromD c D (linesD D row n Vz.Cl.blank g) := by
  unfold linesD
  split
  · exact FromD.refl c D
  · exact FromD.roll c D _ _ _
theorem FromD.part (c : Vz.Cl) (S : Vz.Sr) (k : Int) (g : Bool) : FromD c S.D (partD S k Vz.Cl.blank g) := by
  unfold partD
  split
  · exact FromD.wipe c _ _ _ _
  · exact FromD.refl c _
theorem FromD.clear (c : Vz.Cl) (S : Vz.Sr) (g : Bool) : FromD c S.D (clearS S g).D := FromD.part c S 1 g
theorem FromD.partS (c : Vz.Cl) (S : Vz.Sr) (k : Int) (g : Bool) : FromD c S.D (Go.Proofs.YtncgigapgklhcaaGreatDoor.partS S k Vz.Cl.blank g).D := FromD.part c S k g
theorem FromD.feed (c : Vz.Cl) (S : Vz.Sr) (n : Int) : FromD c S.D (feedS S n).D := FromD.roll c _ _ _ _
theorem FromD.lfeed (c : Vz.Cl) (S : Vz.Sr) (g : Bool) : FromD c S.D (lfeedS S g).D := by
  unfold lfeedS
  split
  · exact FromD.feed c S 1
  · split <;> exact FromD.refl c _
theorem FromD.putg (S : Vz.Sr) (c : Vz.Cl) : FromD c S.D (putGS S c).D := by
  unfold putGS
  cases openN S.D S.pl.at_ 1 with
  | none => exact FromD.refl c _
  | some q => exact FromD.set _ _ _ c
theorem FromD.putAny (S : Vz.Sr) (c : Vz.Cl) (g : Bool) : FromD c S.D (putAny S c g).D := by
  unfold Go.Proofs.YtncgigapgklhcaaGreatDoor.putAny
  split
  · exact FromD.putg S c
  · exact FromD.put _ _ _ _
theorem tabS_D (S : Vz.Sr) (n : Int) : (tabS S n).D = S.D := by
  unfold tabS
  split <;> rfl
theorem stopS_D (S : Vz.Sr) (c : Int) (b : Bool) : (stopS S c b).D = S.D := by
  unfold stopS
  split <;> rfl
theorem stopsS_D (S : Vz.Sr) (n : Int) : (stopsS S n).D = S.D := by
  unfold stopsS
  split <;> rfl
theorem freeS_D (S : Vz.Sr) (n : Int) : (freeS S n).D = S.D := by
  unfold freeS freeO
  cases openN S.D S.pl.at_ n <;> rfl
theorem FromD.of_eq {c : Vz.Cl} {D D' : Vz.Gd} (h : D' = D) : FromD c D D' := h ▸ FromD.refl c D
theorem ite_P {α : Type} {p : Prop} [Decidable p] {a b : α} {P : α → Prop} (h1 : p → P a) (h2 : ¬ p → P b) : P (if p then a else b) := by
  by_cases h : p
  · rw [if_pos h]; exact h1 h
  · rw [if_neg h]; exact h2 h
theorem FromD.ground (A : Ad) (b : Nat) : FromD (cellA A b) A.S.D (groundA A b).1.S.D := by
  unfold groundA
  repeat' refine ite_P (P := fun x : Ad × Bool => FromD (cellA A b) A.S.D x.1.S.D) (fun _ => ?_) (fun _ => ?_)
  all_goals first
    | exact FromD.refl _ _
    | exact FromD.of_eq (by show (pushA _ _).S.D = _; rw [pushA_S])
    | exact FromD.of_eq (tabS_D _ _)
    | exact FromD.clear _ _ _
    | exact FromD.partS _ _ _ _
    | exact FromD.lfeed _ (columnS A.S 0) _
    | exact FromD.lfeed _ _ _
    | exact FromD.putAny _ _ _
theorem FromD.one (c : Vz.Cl) (A : Ad) (b : Nat) : FromD c A.S.D (oneA A b).1.S.D := by
  unfold oneA
  repeat' refine ite_P (P := fun x : Ad × Bool => FromD c A.S.D x.1.S.D) (fun _ => ?_) (fun _ => ?_)
  all_goals first
    | exact FromD.refl _ _
    | exact FromD.of_eq (by show (pushA _ _).S.D = _; rw [pushA_S])
    | exact FromD.of_eq (tabS_D _ _)
    | exact FromD.of_eq (stopS_D _ _ _)
    | exact FromD.of_eq (stopsS_D _ _)
    | exact FromD.clear _ _ _
    | exact FromD.partS _ _ _ _
    | exact FromD.lines _ _ _ _ _
    | exact FromD.chars _ _ _ _ _ _
    | (show FromD c A.S.D (if A.pr = true then stepS A.S (-1) 0 else feedS A.S (-1)).D
       split
       · exact FromD.refl _ _
       · exact FromD.feed _ _ _)
theorem FromD.end_ (c : Vz.Cl) (A : Ad) (l : List UInt8) : FromD c A.S.D (endA A l).1.S.D := by
  cases l with
  | nil => exact FromD.refl _ _
  | cons x l =>
    unfold endA
    simp only
    split
    · unfold addrA
      split <;> exact FromD.refl _ _
    · split
      · unfold dyesA
        split <;> exact FromD.refl _ _
      · exact FromD.one c A _
theorem FromD.takeC (A : Ad) (b : UInt8) : FromD (cellA A b.toNat) A.S.D (takeC A b).1.S.D := by
  unfold Go.Proofs.YtncgigapgklhcaaGreatDoor.takeC
  split
  · exact FromD.refl _ _
  · split
    · exact FromD.ground A b.toNat
    · split
      · exact FromD.refl _ _
      · exact FromD.end_ _ { A with seq := [] } _
theorem restA_D (A : Ad) (b : Bool) : (restA A b).S.D = A.S.D := by
  unfold restA
  split
  · exact freeS_D _ _
  · rfl
theorem FromD.take (A : Ad) (b : UInt8) : FromD (cellA A b.toNat) A.S.D (takeA A b).S.D := by
  unfold takeA
  rw [restA_D]
  exact FromD.takeC A b

/-! ### Glyphs -/
def okG (x : Vz.Cl) : Prop := 32 ≤ x.g ∧ x.g ≤ 126 ∧ ¬ (97 ≤ x.g ∧ x.g ≤ 122)
theorem okG_fold (A : Ad) (b : Nat) (h : 32 ≤ b ∧ b ≤ 126) : okG (cellA A b) := by
  unfold okG cellA foldG
  simp only
  split <;> omega
theorem AllD.ground {A : Ad} (b : Nat) (h : AllD okG A.S.D) : AllD okG (groundA A b).1.S.D := by
  by_cases hb : 32 ≤ b ∧ b ≤ 126
  · exact (FromD.ground A b).X okG ⟨by decide, by decide, by decide⟩ (okG_fold A b hb) h
  · have hx := (FromD.ground A b).X
    have h0 : AllD okG (groundA A b).1.S.D ∨ groundA A b = (A, false) ∨ True := .inr (.inr trivial)
    have key : ∀ c, FromD c A.S.D (groundA A b).1.S.D := by
      intro c
      unfold groundA
      repeat' refine ite_P (P := fun x : Ad × Bool => FromD c A.S.D x.1.S.D) (fun _ => ?_) (fun _ => ?_)
      all_goals first
        | exact FromD.refl _ _
        | exact FromD.of_eq (by show (pushA _ _).S.D = _; rw [pushA_S])
        | exact FromD.of_eq (tabS_D _ _)
        | exact FromD.clear _ _ _
        | exact FromD.partS _ _ _ _
        | exact FromD.lfeed _ (columnS A.S 0) _
        | exact FromD.lfeed _ _ _
        | exact absurd (by assumption) hb
    exact (key Vz.Cl.blank).X okG ⟨by decide, by decide, by decide⟩ ⟨by decide, by decide, by decide⟩ h
theorem AllD.take {A : Ad} (b : UInt8) (h : AllD okG A.S.D) : AllD okG (takeA A b).S.D := by
  unfold takeA
  rw [restA_D]
  have hbl : okG Vz.Cl.blank := ⟨by decide, by decide, by decide⟩
  unfold takeC
  split
  · exact h
  · split
    · exact AllD.ground _ h
    · split
      · exact h
      · exact (FromD.end_ Vz.Cl.blank { A with seq := [] } _).X okG hbl hbl h
theorem AllD.feed {A : Ad} (l : List UInt8) (h : AllD okG A.S.D) : AllD okG (feedA A l).S.D := by
  induction l generalizing A with
  | nil => exact h
  | cons b l ih => exact ih (AllD.take _ h)
theorem AllD.new (R C : Nat) : AllD okG (newA R C).S.D := fun i j => ⟨by show (32 : Int) ≤ 32; decide, by show (32 : Int) ≤ 126; decide, by show ¬ ((97 : Int) ≤ 32 ∧ (32 : Int) ≤ 122); decide⟩
theorem feedA_RC (A : Ad) (l : List UInt8) : (feedA A l).S.D.R = A.S.D.R ∧ (feedA A l).S.D.C = A.S.D.C := by
  induction l generalizing A with
  | nil => exact ⟨rfl, rfl⟩
  | cons b l ih =>
    have h1 := ih (takeA A (b % 128))
    have h2 := FromD.take A (b % 128)
    exact ⟨h1.1.trans h2.R, h1.2.trans h2.C⟩

/-! ### Sequences that may be -/
theorem okSeq_len {l : List UInt8} (h : okSeq l) : l.length ≤ 3 := by
  rcases h with rfl | rfl | rfl | rfl | ⟨x, rfl⟩ <;> simp
theorem one_seq (A : Ad) (b : Nat) : (oneA A b).1.seq = A.seq := by
  unfold oneA
  repeat' refine ite_P (P := fun x : Ad × Bool => x.1.seq = A.seq) (fun _ => ?_) (fun _ => ?_)
  all_goals first | rfl | exact pushA_seq _ _
theorem ground_seq (A : Ad) (b : Nat) : (groundA A b).1.seq = A.seq := by
  unfold groundA
  repeat' refine ite_P (P := fun x : Ad × Bool => x.1.seq = A.seq) (fun _ => ?_) (fun _ => ?_)
  all_goals first | rfl | exact pushA_seq _ _
theorem end_seq (A : Ad) (l : List UInt8) : (endA A l).1.seq = A.seq := by
  cases l with
  | nil => rfl
  | cons x l =>
    unfold endA
    simp only
    split
    · unfold addrA
      split <;> rfl
    · split
      · unfold dyesA
        split <;> rfl
      · exact one_seq A _
theorem rest_seq (A : Ad) (b : Bool) : (restA A b).seq = A.seq := by
  unfold restA
  split <;> rfl

/-! ### Guarded cells -/
theorem KeptG.of_eq {D D' : Vz.Gd} (h : D' = D) : KeptG D D' := h ▸ KeptG.refl D
theorem lfeed_D (S : Vz.Sr) : (lfeedS S true).D = S.D := by
  unfold lfeedS
  rw [if_neg (by decide)]
  split <;> rfl
theorem KeptG.partS (S : Vz.Sr) (k : Int) (c : Vz.Cl) : KeptG S.D (partD S k c true) := by
  unfold partD
  split
  · exact KeptG.wipe _ _ _ _
  · exact KeptG.refl _
theorem KeptG.clear (S : Vz.Sr) : KeptG S.D (clearS S true).D := KeptG.partS S 1 Vz.Cl.blank
theorem KeptG.putAny (S : Vz.Sr) (c : Vz.Cl) : KeptG S.D (putAny S c true).D := by
  unfold Go.Proofs.YtncgigapgklhcaaGreatDoor.putAny
  rw [if_pos rfl]
  unfold putGS
  cases ho : openN S.D S.pl.at_ 1 with
  | none => exact KeptG.refl _
  | some q => exact KeptG.guard ho
theorem pushA_pr (A : Ad) (l : List UInt8) : (pushA A l).pr = A.pr := by
  unfold pushA
  split <;> rfl
theorem guard_ground {A : Ad} (b : Nat) (h : A.pr = true) : (groundA A b).1.pr = true ∧ KeptG A.S.D (groundA A b).1.S.D := by
  obtain ⟨S, q, over, gd, pr, attr, seq⟩ := A
  obtain rfl : pr = true := h
  unfold groundA
  repeat' refine ite_P (P := fun x : Ad × Bool => x.1.pr = true ∧ KeptG S.D x.1.S.D) (fun _ => ?_) (fun _ => ?_)
  all_goals first
    | exact ⟨rfl, KeptG.refl _⟩
    | exact ⟨pushA_pr _ _, KeptG.of_eq (congrArg Vz.Sr.D (pushA_S _ _))⟩
    | exact ⟨rfl, KeptG.of_eq (tabS_D _ _)⟩
    | exact ⟨rfl, KeptG.clear _⟩
    | exact ⟨rfl, KeptG.of_eq (lfeed_D (columnS S 0))⟩
    | exact ⟨rfl, KeptG.of_eq (lfeed_D _)⟩
    | exact ⟨rfl, KeptG.putAny _ _⟩
theorem guard_one {A : Ad} (b : Nat) (h : A.pr = true) (hin : A.S.pl.at_.inS A.S.D.R A.S.D.C) (h' : (oneA A b).1.pr = true) : KeptG A.S.D (oneA A b).1.S.D := by
  obtain ⟨q1, q2, q3, q4⟩ := hin
  have hcol : ∀ n, KeptG A.S.D (linesS (columnS A.S 0) n Vz.Cl.blank true).D := fun n => by
    refine KeptG.lines _ _ _ _ ?_
    show (Vz.nearP A.S.D.R A.S.D.C ⟨A.S.pl.at_.row, 0⟩).row.toNat < A.S.D.R
    unfold Vz.nearP
    split
    · unfold Vz.nearI
      simp only
      omega
    · unfold Vz.Ps.nil
      simp only
      omega
  by_cases hb : b = 42
  · subst hb
    cases h'
  · unfold oneA
    rw [if_neg hb, h]
    clear h'
    repeat' refine ite_P (P := fun x : Ad × Bool => KeptG A.S.D x.1.S.D) (fun _ => ?_) (fun _ => ?_)
    · exact KeptG.clear A.S
    · exact KeptG.partS A.S 5 Vz.Cl.blank
    · exact KeptG.partS A.S 2 Vz.Cl.blank
    · exact hcol 1
    · exact hcol (-1)
    · exact KeptG.chars A.S.D _ _ 1 Vz.Cl.blank
    · exact KeptG.chars A.S.D _ _ (-1) Vz.Cl.blank
    · exact KeptG.refl _
    · exact KeptG.refl _
    · exact KeptG.of_eq (stopS_D A.S _ _)
    · exact KeptG.of_eq (stopsS_D A.S _)
    · exact KeptG.of_eq (tabS_D A.S _)
    · exact KeptG.of_eq (tabS_D A.S _)
    · exact KeptG.refl _
    · exact KeptG.of_eq (congrArg Vz.Sr.D (pushA_S A _))
    · exact KeptG.refl _
theorem guard_end {A : Ad} (l : List UInt8) (h : A.pr = true) (hin : A.S.pl.at_.inS A.S.D.R A.S.D.C) (h' : (endA A l).1.pr = true) : KeptG A.S.D (endA A l).1.S.D := by
  cases l with
  | nil => exact KeptG.refl _
  | cons x l =>
    unfold endA at h' ⊢
    simp only at h' ⊢
    split
    · unfold addrA
      split <;> exact KeptG.refl _
    · split
      · unfold dyesA
        split <;> exact KeptG.refl _
      · rename_i h1 h2
        rw [if_neg h1, if_neg h2] at h'
        exact guard_one _ h hin h'
theorem rest_pr (A : Ad) (b : Bool) : (restA A b).pr = A.pr := by
  unfold restA
  split <;> rfl
/-- With Protect on ahead and behind, no guarded cell is turned. -/
theorem guard_take {A : Ad} (b : UInt8) (h : A.pr = true) (hin : A.S.pl.at_.inS A.S.D.R A.S.D.C) (h' : (takeA A b).pr = true) : KeptG A.S.D (takeA A b).S.D := by
  unfold takeA at h' ⊢
  rw [rest_pr] at h'
  rw [restA_D]
  unfold takeC at h' ⊢
  split
  · exact KeptG.refl _
  · rename_i h1
    rw [if_neg h1] at h'
    split
    · exact (guard_ground _ h).2
    · rename_i h2
      rw [if_neg h2] at h'
      split
      · exact KeptG.refl _
      · rename_i h3
        rw [if_neg h3] at h'
        exact guard_end (A := { A with seq := [] }) _ h hin h'
theorem roundI_onto (n f : Nat) (by_ : Int) (hby : by_ = 1 ∨ by_ = -1) (h : 0 < n) (q : Nat) (hq : q < n) : ∃ i, i < n ∧ Vz.roundI n f by_ i = q := by
  have hn : (0 : Int) < (n : Int) := by omega
  rcases hby with rfl | rfl
  · refine ⟨(((q : Int) - f) % n).toNat, ?_, ?_⟩
    · have h1 := Int.emod_nonneg ((q : Int) - f) (show (n : Int) ≠ 0 by omega)
      have h2 := Int.emod_lt_of_pos ((q : Int) - f) hn
      omega
    · have h1 := Int.emod_nonneg ((q : Int) - f) (show (n : Int) ≠ 0 by omega)
      unfold Vz.roundI
      rw [Int.toNat_of_nonneg h1, Int.mul_one, Int.add_emod, Int.emod_emod, ← Int.add_emod, show (f : Int) + (q - f) = q by omega, Int.emod_eq_of_lt (by omega) (by omega)]
      omega
  · refine ⟨(((f : Int) - q) % n).toNat, ?_, ?_⟩
    · have h1 := Int.emod_nonneg ((f : Int) - q) (show (n : Int) ≠ 0 by omega)
      have h2 := Int.emod_lt_of_pos ((f : Int) - q) hn
      omega
    · have h1 := Int.emod_nonneg ((f : Int) - q) (show (n : Int) ≠ 0 by omega)
      unfold Vz.roundI
      rw [Int.toNat_of_nonneg h1, Int.mul_neg, Int.mul_one, ← Int.sub_eq_add_neg, Int.sub_emod, Int.emod_emod, ← Int.sub_emod, show (f : Int) - (f - q) = q by omega, Int.emod_eq_of_lt (by omega) (by omega)]
      omega
theorem open_none {D : Vz.Gd} {p : Vz.Ps} {by_ : Int} (hby : by_ = 1 ∨ by_ = -1) (h : openN D p by_ = none) (i j : Nat) (hi : i < D.R) (hj : j < D.C) : (D.X i j).gd = true := by
  have hlt : i * D.C + j < D.R * D.C := Nat.lt_of_lt_of_le (show i * D.C + j < (i + 1) * D.C by rw [Nat.succ_mul]; omega) (Nat.mul_le_mul_right D.C hi)
  obtain ⟨k, hk, he⟩ := roundI_onto (D.R * D.C) (nearN D.R D.C p) by_ hby (by omega) _ hlt
  unfold openN at h
  have h1 := List.find?_eq_none.1 h (i * D.C + j) (List.mem_map.2 ⟨k, List.mem_range.2 hk, he⟩)
  obtain ⟨e1, e2⟩ := div_at D.C i j hj
  unfold freeN at h1
  rw [e1, e2] at h1
  simpa using h1
theorem open_some {D : Vz.Gd} {p : Vz.Ps} {by_ : Int} {q : Nat} (h : openN D p by_ = some q) : q < D.R * D.C ∧ (D.X (q / D.C) (q % D.C)).gd = false := by
  have hf := List.find?_some h
  have hm := List.mem_of_find?_eq_some h
  obtain ⟨k, hk, rfl⟩ := List.mem_map.1 hm
  have hk' := List.mem_range.1 hk
  refine ⟨Vz.roundI_lt _ _ _ _ (by omega), ?_⟩
  unfold freeN at hf
  simpa using hf
/-- Behind the rest, with Protect on: where the cursor stands is guarded only if all is. -/
theorem rest_guard {A : Ad} (b : Bool) (h : A.pr = true) (hm : A.S.D.may) (hg : (atD (restA A b).S.D (restA A b).S.pl.at_).gd = true) (i j : Nat) (hi : i < A.S.D.R) (hj : j < A.S.D.C) : (A.S.D.X i j).gd = true := by
  unfold restA at hg
  by_cases hc : (atD A.S.D A.S.pl.at_).gd = true
  · rw [if_pos ⟨h, hc⟩] at hg
    simp only at hg
    unfold freeS freeO at hg
    cases ho : openN A.S.D A.S.pl.at_ (if b = true then -1 else 1) with
    | none => exact open_none (by cases b <;> simp) ho i j hi hj
    | some q =>
      rw [ho] at hg
      simp only at hg
      obtain ⟨h1, h2⟩ := open_some ho
      obtain ⟨m1, m2, m3, m4⟩ := hm
      have hr : q / A.S.D.C < A.S.D.R := (Nat.div_lt_iff_lt_mul (by omega)).2 h1
      have hcc : q % A.S.D.C < A.S.D.C := Nat.mod_lt _ (by omega)
      unfold openP atD at hg
      rw [Vz.nearP_id _ _ _ (Vz.Gd.may_mayS ⟨m1, m2, m3, m4⟩) ⟨Int.natCast_nonneg _, by show ((q / A.S.D.C : Nat) : Int) < _; omega, Int.natCast_nonneg _, by show ((q % A.S.D.C : Nat) : Int) < _; omega⟩] at hg
      simp only [Int.toNat_natCast] at hg
      rw [h2] at hg
      cases hg
  · rw [if_neg (fun e => hc e.2)] at hg
    exact absurd hg hc
end Go.Proofs.YtncgigapgklhcaaGreatDoor
