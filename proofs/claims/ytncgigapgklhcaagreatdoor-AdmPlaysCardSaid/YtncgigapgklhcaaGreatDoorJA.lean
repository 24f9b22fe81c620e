import Derived.Test.YtncgigapgklhcaaGreatDoorHY
import Derived.Test.YtncgigapgklhcaaGreatDoorHM
import Derived.Test.YtncgigapgklhcaaGreatDoorHP
import Derived.Test.YtncgigapgklhcaaGreatDoorHL
import Derived.Test.YtncgigapgklhcaaGreatDoorHT

set_option maxRecDepth 100000
set_option maxHeartbeats 16000000
namespace Go.Proofs.YtncgigapgklhcaaGreatDoor
open Go.RowKit
set_option linter.unusedSimpArgs false
set_option linter.unusedVariables false
/- Walks: a terminal's Modes, Attr, Pending, Drop. -/
section
attribute [local go_sem] alloc_drewN setCell_drewN World.cell?_alloc_some frozen_alloc_some size_f0 size_f1
theorem tm_attr {w : World} {tp sp qp : Nat} {FT : Nat → Prop} {A : Ad} (h : Term w tp sp qp FT A) : Calls Tryz.prog 20 #[.pointer (some ⟨tp, 0, none⟩)] w fun e w' => e = .returned (.int .i64 A.attr) ∧ w = w' := by
 obtain ⟨lb, fr, F, V, h, hF⟩ := h
 obtain ⟨t0, t1, t2, t3, t4, t5, f2, f3, f4, f5⟩ := row6 h.box
 clear h hF
 go_enter Tryz.func20, Tryz.ntmps20
 go_wp2_with fail
 go_ret
 exact ⟨rfl, rfl⟩
theorem tm_pending {w : World} {tp sp qp : Nat} {FT : Nat → Prop} {A : Ad} (h : Term w tp sp qp FT A) : Calls Tryz.prog 21 #[.pointer (some ⟨tp, 0, none⟩)] w fun e w' => e = .returned (.string ⟨A.seq.toArray⟩) ∧ w = w' := by
 obtain ⟨lb, fr, F, V, h, hF⟩ := h
 obtain ⟨t0, t1, t2, t3, t4, t5, f2, f3, f4, f5⟩ := row6 h.box
 have hcv := conv_own h.own
 clear h hF
 go_enter Tryz.func21, Tryz.ntmps21
 go_wp2_with fail
 go_ret
 exact ⟨rfl, rfl⟩
theorem tm_modes {w : World} {tp sp qp : Nat} {FT : Nat → Prop} {A : Ad} (h : Term w tp sp qp FT A) : Calls Tryz.prog 19 #[.pointer (some ⟨tp, 0, none⟩)] w fun e w' => e = .returned (.agg #[.bool A.gd, .bool A.pr]) ∧ Below w.heap.size w w' := by
 obtain ⟨lb, fr, F, V, h, hF⟩ := h
 have hx := heap_alloc_new w (.cells #[.bool false, .bool false] 45)
 obtain ⟨x0, x1, g0, g1⟩ := row2 hx
 obtain ⟨t0, t1, t2, t3, t4, t5, f2, f3, f4, f5⟩ := row6 (h.below (below1 w (.cells #[.bool false, .bool false] 45))).box
 have HX := Lib.hid hx
 clear hx h hF
 go_enter Tryz.func19, Tryz.ntmps19
 go_wp2_with fail
 exact bodyPost_ret (v := .agg #[.bool A.gd, .bool A.pr]) (by simp [results, Tryz.results19, go_sem, x0, x1]) rfl ⟨rfl, below1 _ _⟩
theorem tm_drop {w : World} {tp sp qp : Nat} {FT : Nat → Prop} {A : Ad} (h : Term w tp sp qp FT A) : Calls Tryz.prog 18 #[.pointer (some ⟨tp, 0, none⟩)] w fun e w' => e = .returned (.tuple #[]) ∧ TermTo w w' tp sp qp FT { A with seq := [] } := by
 obtain ⟨lb, fr, F, V, h, hF⟩ := h
 obtain ⟨t0, t1, t2, t3, t4, t5, f2, f3, f4, f5⟩ := row6 h.box
 have HT : Hid (TermTo w (w.setCell ⟨tp, 5, none⟩ (.slice none 0 0)) tp sp qp FT { A with seq := [] }) := by
  refine Term.boxed (gd := A.gd) (pr := A.pr) (attr := A.attr) h hF (heap_set_same h.box 5 (.slice none 0 0)) (World.ownsRow_nil _ _ _ _) (.inl rfl) (fun k hk => by cases hk) ⟨rfl, rfl, rfl, Nat.le_of_eq (World.size_setCell _ _ _).symm, fun k hk hn => heap_setCell_other _ _ _ _ (show k ≠ tp from fun e => hn (.inl e))⟩
 clear h hF
 go_enter Tryz.func18, Tryz.ntmps18
 go_wp2_with fail
 go_end0
 exact ⟨rfl, HT.out⟩
end
section
def KeptG (D D' : Vz.Gd) : Prop := D'.R = D.R ∧ D'.C = D.C ∧ ∀ i j, i < D.R → j < D.C → (D.X i j).gd = true → D'.X i j = D.X i j
theorem KeptG.refl (D : Vz.Gd) : KeptG D D := ⟨rfl, rfl, fun _ _ _ _ _ => rfl⟩
theorem KeptG.trans {A B C : Vz.Gd} (h : KeptG A B) (k : KeptG B C) : KeptG A C :=
 ⟨k.1.trans h.1, k.2.1.trans h.2.1, fun i j hi hj hg => (k.2.2 i j (by rw [h.1]; exact hi) (by rw [h.2.1]; exact hj) (by rw [h.2.2 i j hi hj hg]; exact hg)).trans (h.2.2 i j hi hj hg)⟩
theorem KeptG.guard {D : Vz.Gd} {c : Vz.Cl} {p : Vz.Ps} {q : Nat} (h : openN D p 1 = some q) : KeptG D (guardD D c q) := by
 have hf := List.find?_some h
 unfold freeN at hf
 refine ⟨rfl, rfl, fun i j hi hj hg => ?_⟩
 show (if i = q / D.C ∧ j = q % D.C then c else D.X i j) = D.X i j
 rw [if_neg]
 rintro ⟨rfl, rfl⟩
 rw [hg] at hf
 cases hf
theorem KeptG.wipe (D : Vz.Gd) (a b : Vz.Ps) (c : Vz.Cl) : KeptG D (wipeD D a b c true) := by
 unfold wipeD
 split
 · exact KeptG.refl D
 · refine ⟨rfl, rfl, fun i j hi hj hg => ?_⟩
   show (if within a b i j = true then wipeX true c (D.X i j) else D.X i j) = D.X i j
   split
   · unfold wipeX
     rw [if_pos ⟨rfl, hg⟩]
   · rfl
theorem roll_out {a b : Nat} {n : Int} {i : Nat} (h : i < a ∨ b < i) : Vz.rollAt a b n i = some i := by
 unfold Vz.rollAt
 rw [if_neg (by omega)]
theorem guardN_no {D : Vz.Gd} {row : Int} {k : Nat} (h : guardN D row k = 0) (m : Nat) (hm : m < k) (hr : row ≤ ((m / D.C : Nat) : Int)) : (D.X (m / D.C) (m % D.C)).gd = false := by
 induction k with
 | zero => omega
 | succ k ih =>
   unfold guardN at h
   have h1 : guardN D row k = 0 := by omega
   rcases Nat.lt_or_ge m k with hl | hl
   · exact ih h1 hl
   · obtain rfl : m = k := by omega
     by_cases hg : (D.X (m / D.C) (m % D.C)).gd = true
     · rw [if_pos ⟨hr, hg⟩] at h
       omega
     · simpa using hg
theorem KeptG.lines (D : Vz.Gd) (row : Nat) (n : Int) (x : Vz.Cl) (hr : row < D.R) : KeptG D (linesD D row n x true) := by
 unfold linesD
 by_cases h : 0 < guardN D row (D.R * D.C)
 · rw [if_pos ⟨rfl, h⟩]
   exact KeptG.refl D
 · rw [if_neg (fun e => h e.2)]
   refine ⟨rfl, rfl, fun i j hi hj hg => ?_⟩
   by_cases hri : i < row
   · show (match Vz.rollAt row (D.R - 1) (-(Vz.cutI n)) i with | none => x | some k => D.X k j) = D.X i j
     rw [roll_out (.inl hri)]
   · have h0 : guardN D row (D.R * D.C) = 0 := by omega
     have hlt : i * D.C + j < D.R * D.C := Nat.lt_of_lt_of_le (show i * D.C + j < (i + 1) * D.C by rw [Nat.succ_mul]; omega) (Nat.mul_le_mul_right D.C hi)
     obtain ⟨e1, e2⟩ := div_at D.C i j hj
     have := guardN_no h0 (i * D.C + j) hlt (by rw [e1]; omega)
     rw [e1, e2, hg] at this
     cases this
theorem lastN_free {D : Vz.Gd} {r : Nat} : ∀ (k t : Nat), (D.X r t).gd = false → ∀ j, t ≤ j → j ≤ lastN D r k t → (D.X r j).gd = false
 | 0, t, h, j, h1, h2 => by
   have : j = t := by unfold lastN at h2; omega
   subst this
   exact h
 | k + 1, t, h, j, h1, h2 => by
   unfold lastN at h2
   by_cases hf : freeAt D r ((t : Int) + 1) = true
   · rw [if_pos hf] at h2
     have hg : (D.X r (t + 1)).gd = false := by
      unfold freeAt at hf
      simp only [Bool.and_eq_true] at hf
      have := hf.2
      unfold atD at this
      have e : ((t : Int) + 1).toNat = t + 1 := by omega
      simp only [Int.toNat_natCast, e] at this
      simpa using this
     rcases Nat.lt_or_ge t j with hl | hl
     · exact lastN_free k (t + 1) hg j hl h2
     · obtain rfl : j = t := by omega
       exact h
   · rw [if_neg hf] at h2
     obtain rfl : j = t := by omega
     exact h
theorem KeptG.chars (D : Vz.Gd) (row col : Nat) (n : Int) (x : Vz.Cl) : KeptG D (charsD D row col n x true) := by
 unfold charsD
 rw [if_pos rfl]
 by_cases hg0 : (D.X row col).gd = true
 · rw [if_pos hg0]
   exact KeptG.refl D
 · rw [if_neg hg0]
   refine ⟨rfl, rfl, fun i j hi hj hg => ?_⟩
   show (if i = row then (match Vz.rollAt col (lastF D row col) (-(Vz.cutI n)) j with | none => x | some k => D.X row k) else D.X i j) = D.X i j
   by_cases he : i = row
   · subst he
     rw [if_pos rfl]
     by_cases hin : col ≤ j ∧ j ≤ lastF D i col
     · have := lastN_free (D := D) (r := i) (D.C - col) col (by simpa using hg0) j hin.1 hin.2
       rw [hg] at this
       cases this
     · rw [roll_out (by omega)]
   · rw [if_neg he]
end
section
def AllD (P : Vz.Cl → Prop) (D : Vz.Gd) : Prop := ∀ i j, P (D.X i j)
structure FromD (c : Vz.Cl) (D D' : Vz.Gd) : Prop where
 R : D'.R = D.R
 C : D'.C = D.C
 X : ∀ P : Vz.Cl → Prop, P Vz.Cl.blank → P c → AllD P D → AllD P D'
theorem FromD.refl (c : Vz.Cl) (D : Vz.Gd) : FromD c D D := ⟨rfl, rfl, fun _ _ _ h => h⟩
theorem FromD.trans {c : Vz.Cl} {A B C : Vz.Gd} (h : FromD c A B) (k : FromD c B C) : FromD c A C := ⟨k.R.trans h.R, k.C.trans h.C, fun P hb hc ha => k.X P hb hc (h.X P hb hc ha)⟩
theorem FromD.roll (c : Vz.Cl) (D : Vz.Gd) (a b : Nat) (n : Int) : FromD c D (D.roll a b n Vz.Cl.blank) := by
 refine ⟨rfl, rfl, fun P hb hc ha i j => ?_⟩
 show P (match Vz.rollAt a b n i with | none => Vz.Cl.blank | some k => D.X k j)
 cases Vz.rollAt a b n i with
 | none => exact hb
 | some k => exact ha k j
theorem FromD.set (D : Vz.Gd) (i j : Nat) (c : Vz.Cl) : FromD c D (D.set i j c) := by
 refine ⟨rfl, rfl, fun P hb hc ha k l => ?_⟩
 show P (if k = i ∧ l = j then c else D.X k l)
 split
 · exact hc
 · exact ha k l
theorem FromD.rise (c : Vz.Cl) (D : Vz.Gd) (b : Bool) : FromD c D (riseD D b Vz.Cl.blank) := by
 cases b
 · exact FromD.refl c D
 · exact FromD.roll c D _ _ _
theorem FromD.put (D : Vz.Gd) (pl : Vz.Pl) (c : Vz.Cl) (wrap : Int) : FromD c D (putD D pl c wrap Vz.Cl.blank).1 :=
 ((FromD.rise c D _).trans (FromD.set _ _ _ c)).trans (FromD.rise c _ _)
theorem FromD.wipe (c : Vz.Cl) (D : Vz.Gd) (a b : Vz.Ps) (g : Bool) : FromD c D (wipeD D a b Vz.Cl.blank g) := by
 unfold wipeD
 split
 · exact FromD.refl c D
 · refine ⟨rfl, rfl, fun P hb hc ha i j => ?_⟩
   show P (if within a b i j = true then wipeX g Vz.Cl.blank (D.X i j) else D.X i j)
   split
   · unfold wipeX
     split
     · exact ha i j
     · exact hb
   · exact ha i j
theorem FromD.slide (c : Vz.Cl) (D : Vz.Gd) (row a b : Nat) (n : Int) : FromD c D (D.slide row a b n Vz.Cl.blank) := by
 refine ⟨rfl, rfl, fun P hb hc ha i j => ?_⟩
 show P (if i = row then (match Vz.rollAt a b n j with | none => Vz.Cl.blank | some k => D.X row k) else D.X i j)
 split
 · cases Vz.rollAt a b n j with
   | none => exact hb
   | some k => exact ha row k
 · exact ha i j
theorem FromD.chars (c : Vz.Cl) (D : Vz.Gd) (row col : Nat) (n : Int) (g : Bool) : FromD c D (charsD D row col n Vz.Cl.blank g) := by
 unfold charsD
 split
 · split
   · exact FromD.refl c D
   · exact FromD.slide c D _ _ _ _
 · exact FromD.slide c D _ _ _ _
theorem FromD.lines (c : Vz.Cl) (D : Vz.Gd) (row : Nat) (n : Int) (g : Bool) : FromD c D (linesD D row n Vz.Cl.blank g) := by
 unfold linesD
 split
 · exact FromD.refl c D
 · exact FromD.roll c D _ _ _
theorem FromD.part (c : Vz.Cl) (S : Vz.Sr) (k : Int) (g : Bool) : FromD c S.D (partD S k Vz.Cl.blank g) := by
 unfold partD
 split
 · exact FromD.wipe c _ _ _ _
 · exact FromD.refl c _
theorem FromD.clear (c : Vz.Cl) (S : Vz.Sr) (g : Bool) : FromD c S.D (clearS S g).D := FromD.part c S 1 g
theorem FromD.partS (c : Vz.Cl) (S : Vz.Sr) (k : Int) (g : Bool) : FromD c S.D (Go.Proofs.YtncgigapgklhcaaGreatDoor.partS S k Vz.Cl.blank g).D := FromD.part c S k g
theorem FromD.feed (c : Vz.Cl) (S : Vz.Sr) (n : Int) : FromD c S.D (feedS S n).D := FromD.roll c _ _ _ _
theorem FromD.lfeed (c : Vz.Cl) (S : Vz.Sr) (g : Bool) : FromD c S.D (lfeedS S g).D := by
 unfold lfeedS
 split
 · exact FromD.feed c S 1
 · split <;> exact FromD.refl c _
theorem FromD.putg (S : Vz.Sr) (c : Vz.Cl) : FromD c S.D (putGS S c).D := by
 unfold putGS
 cases openN S.D S.pl.at_ 1 with
 | none => exact FromD.refl c _
 | some q => exact FromD.set _ _ _ c
theorem FromD.putAny (S : Vz.Sr) (c : Vz.Cl) (g : Bool) : FromD c S.D (putAny S c g).D := by
 unfold Go.Proofs.YtncgigapgklhcaaGreatDoor.putAny
 split
 · exact FromD.putg S c
 · exact FromD.put _ _ _ _
theorem tabS_D (S : Vz.Sr) (n : Int) : (tabS S n).D = S.D := by
 unfold tabS
 split <;> rfl
theorem stopS_D (S : Vz.Sr) (c : Int) (b : Bool) : (stopS S c b).D = S.D := by
 unfold stopS
 split <;> rfl
theorem stopsS_D (S : Vz.Sr) (n : Int) : (stopsS S n).D = S.D := by
 unfold stopsS
 split <;> rfl
theorem freeS_D (S : Vz.Sr) (n : Int) : (freeS S n).D = S.D := by
 unfold freeS freeO
 cases openN S.D S.pl.at_ n <;> rfl
theorem FromD.of_eq {c : Vz.Cl} {D D' : Vz.Gd} (h : D' = D) : FromD c D D' := h ▸ FromD.refl c D
theorem ite_P {α : Type} {p : Prop} [Decidable p] {a b : α} {P : α → Prop} (h1 : p → P a) (h2 : ¬ p → P b) : P (if p then a else b) := by
 by_cases h : p
 · rw [if_pos h]; exact h1 h
 · rw [if_neg h]; exact h2 h
theorem FromD.ground (A : Ad) (b : Nat) : FromD (cellA A b) A.S.D (groundA A b).1.S.D := by
 unfold groundA
 repeat' refine ite_P (P := fun x : Ad × Bool => FromD (cellA A b) A.S.D x.1.S.D) (fun _ => ?_) (fun _ => ?_)
 all_goals first
  | exact FromD.refl _ _
  | exact FromD.of_eq (by show (pushA _ _).S.D = _; rw [pushA_S])
  | exact FromD.of_eq (tabS_D _ _)
  | exact FromD.clear _ _ _
  | exact FromD.partS _ _ _ _
  | exact FromD.lfeed _ (columnS A.S 0) _
  | exact FromD.lfeed _ _ _
  | exact FromD.putAny _ _ _
theorem FromD.one (c : Vz.Cl) (A : Ad) (b : Nat) : FromD c A.S.D (oneA A b).1.S.D := by
 unfold oneA
 repeat' refine ite_P (P := fun x : Ad × Bool => FromD c A.S.D x.1.S.D) (fun _ => ?_) (fun _ => ?_)
 all_goals first
  | exact FromD.refl _ _
  | exact FromD.of_eq (by show (pushA _ _).S.D = _; rw [pushA_S])
  | exact FromD.of_eq (tabS_D _ _)
  | exact FromD.of_eq (stopS_D _ _ _)
  | exact FromD.of_eq (stopsS_D _ _)
  | exact FromD.clear _ _ _
  | exact FromD.partS _ _ _ _
  | exact FromD.lines _ _ _ _ _
  | exact FromD.chars _ _ _ _ _ _
  | (show FromD c A.S.D (if A.pr = true then stepS A.S (-1) 0 else feedS A.S (-1)).D
     split
     · exact FromD.refl _ _
     · exact FromD.feed _ _ _)
theorem FromD.end_ (c : Vz.Cl) (A : Ad) (l : List UInt8) : FromD c A.S.D (endA A l).1.S.D := by
 cases l with
 | nil => exact FromD.refl _ _
 | cons x l =>
   unfold endA
   simp only
   split
   · unfold addrA
     split <;> exact FromD.refl _ _
   · split
     · unfold dyesA
       split <;> exact FromD.refl _ _
     · exact FromD.one c A _
theorem FromD.takeC (A : Ad) (b : UInt8) : FromD (cellA A b.toNat) A.S.D (takeC A b).1.S.D := by
 unfold Go.Proofs.YtncgigapgklhcaaGreatDoor.takeC
 split
 · exact FromD.refl _ _
 · split
   · exact FromD.ground A b.toNat
   · split
     · exact FromD.refl _ _
     · exact FromD.end_ _ { A with seq := [] } _
theorem restA_D (A : Ad) (b : Bool) : (restA A b).S.D = A.S.D := by
 unfold restA
 split
 · exact freeS_D _ _
 · rfl
theorem FromD.take (A : Ad) (b : UInt8) : FromD (cellA A b.toNat) A.S.D (takeA A b).S.D := by
 unfold takeA
 rw [restA_D]
 exact FromD.takeC A b
/-! ### Glyphs -/
def okG (x : Vz.Cl) : Prop := 32 ≤ x.g ∧ x.g ≤ 126 ∧ ¬ (97 ≤ x.g ∧ x.g ≤ 122)
theorem okG_fold (A : Ad) (b : Nat) (h : 32 ≤ b ∧ b ≤ 126) : okG (cellA A b) := by
 unfold okG cellA foldG
 simp only
 split <;> omega
theorem AllD.ground {A : Ad} (b : Nat) (h : AllD okG A.S.D) : AllD okG (groundA A b).1.S.D := by
 by_cases hb : 32 ≤ b ∧ b ≤ 126
 · exact (FromD.ground A b).X okG ⟨by decide, by decide, by decide⟩ (okG_fold A b hb) h
 · have hx := (FromD.ground A b).X
   have h0 : AllD okG (groundA A b).1.S.D ∨ groundA A b = (A, false) ∨ True := .inr (.inr trivial)
   have key : ∀ c, FromD c A.S.D (groundA A b).1.S.D := by
    intro c
    unfold groundA
    repeat' refine ite_P (P := fun x : Ad × Bool => FromD c A.S.D x.1.S.D) (fun _ => ?_) (fun _ => ?_)
    all_goals first
     | exact FromD.refl _ _
     | exact FromD.of_eq (by show (pushA _ _).S.D = _; rw [pushA_S])
     | exact FromD.of_eq (tabS_D _ _)
     | exact FromD.clear _ _ _
     | exact FromD.partS _ _ _ _
     | exact FromD.lfeed _ (columnS A.S 0) _
     | exact FromD.lfeed _ _ _
     | exact absurd (by assumption) hb
   exact (key Vz.Cl.blank).X okG ⟨by decide, by decide, by decide⟩ ⟨by decide, by decide, by decide⟩ h
theorem AllD.take {A : Ad} (b : UInt8) (h : AllD okG A.S.D) : AllD okG (takeA A b).S.D := by
 unfold takeA
 rw [restA_D]
 have hbl : okG Vz.Cl.blank := ⟨by decide, by decide, by decide⟩
 unfold takeC
 split
 · exact h
 · split
   · exact AllD.ground _ h
   · split
     · exact h
     · exact (FromD.end_ Vz.Cl.blank { A with seq := [] } _).X okG hbl hbl h
theorem AllD.feed {A : Ad} (l : List UInt8) (h : AllD okG A.S.D) : AllD okG (feedA A l).S.D := by
 induction l generalizing A with
 | nil => exact h
 | cons b l ih => exact ih (AllD.take _ h)
theorem AllD.new (R C : Nat) : AllD okG (newA R C).S.D := fun i j => ⟨by show (32 : Int) ≤ 32; decide, by show (32 : Int) ≤ 126; decide, by show ¬ ((97 : Int) ≤ 32 ∧ (32 : Int) ≤ 122); decide⟩
/-! ### Sequences that may be -/
theorem one_seq (A : Ad) (b : Nat) : (oneA A b).1.seq = A.seq := by
 unfold oneA
 repeat' refine ite_P (P := fun x : Ad × Bool => x.1.seq = A.seq) (fun _ => ?_) (fun _ => ?_)
 all_goals first | rfl | exact pushA_seq _ _
theorem ground_seq (A : Ad) (b : Nat) : (groundA A b).1.seq = A.seq := by
 unfold groundA
 repeat' refine ite_P (P := fun x : Ad × Bool => x.1.seq = A.seq) (fun _ => ?_) (fun _ => ?_)
 all_goals first | rfl | exact pushA_seq _ _
theorem rest_seq (A : Ad) (b : Bool) : (restA A b).seq = A.seq := by
 unfold restA
 split <;> rfl
/-! ### Guarded cells -/
theorem KeptG.of_eq {D D' : Vz.Gd} (h : D' = D) : KeptG D D' := h ▸ KeptG.refl D
theorem KeptG.partS (S : Vz.Sr) (k : Int) (c : Vz.Cl) : KeptG S.D (partD S k c true) := by
 unfold partD
 split
 · exact KeptG.wipe _ _ _ _
 · exact KeptG.refl _
theorem KeptG.clear (S : Vz.Sr) : KeptG S.D (clearS S true).D := KeptG.partS S 1 Vz.Cl.blank
theorem KeptG.putAny (S : Vz.Sr) (c : Vz.Cl) : KeptG S.D (putAny S c true).D := by
 unfold Go.Proofs.YtncgigapgklhcaaGreatDoor.putAny
 rw [if_pos rfl]
 unfold putGS
 cases ho : openN S.D S.pl.at_ 1 with
 | none => exact KeptG.refl _
 | some q => exact KeptG.guard ho
end
end Go.Proofs.YtncgigapgklhcaaGreatDoor
