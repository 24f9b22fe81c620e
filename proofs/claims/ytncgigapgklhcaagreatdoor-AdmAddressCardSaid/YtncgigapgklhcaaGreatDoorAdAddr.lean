import Derived.Test.YtncgigapgklhcaaGreatDoorHT

/- Plain: what the bytes of a place that is told, and of a place that is asked for, leave. -/
namespace Go.Proofs.YtncgigapgklhcaaGreatDoor
open Go.RowKit
set_option linter.unusedSimpArgs false
set_option linter.unusedVariables false

theorem rest_free {A : Ad} (h : A.pr = false) (b : Bool) : restA A b = A := by
  unfold restA
  rw [if_neg (by rw [h]; simp)]
theorem addr_pr {A : Ad} (r c : Int) : (addrA A r c).pr = A.pr := by
  unfold addrA
  split <;> rfl
theorem addr_seq {A : Ad} (r c : Int) : (addrA A r c).seq = A.seq := by
  unfold addrA
  split <;> rfl
theorem addr_q {A : Ad} (r c : Int) : (addrA A r c).q = A.q := by
  unfold addrA
  split <;> rfl
theorem take_27 {A : Ad} (h : A.pr = false) : takeA A 27 = { A with seq := [27] } := by
  unfold takeA takeC
  rw [if_pos rfl]
  exact rest_free (A := { A with seq := [27] }) h false
theorem take_61 {A : Ad} (h : A.pr = false) (hs : A.seq = [27]) : takeA A 61 = { A with seq := [27, 61] } := by
  unfold takeA takeC
  rw [if_neg (by decide), if_neg (by rw [hs]; decide), if_pos (.inl ⟨by rw [hs]; rfl, .inl rfl⟩)]
  refine (rest_free (A := { A with seq := A.seq ++ [61] }) h false).trans ?_
  rw [hs]
  rfl
theorem take_row {A : Ad} (h : A.pr = false) (hs : A.seq = [27, 61]) (b : UInt8) (hb : b ≠ 27) : takeA A b = { A with seq := [27, 61, b] } := by
  unfold takeA takeC
  rw [if_neg hb, if_neg (by rw [hs]; decide), if_pos (.inr ⟨by rw [hs]; rfl, by rw [hs]; rfl⟩)]
  refine (rest_free (A := { A with seq := A.seq ++ [b] }) h false).trans ?_
  rw [hs]
  rfl
theorem take_col {A : Ad} (h : A.pr = false) (x : UInt8) (hs : A.seq = [27, 61, x]) (b : UInt8) (hb : b ≠ 27) : takeA A b = addrA { A with seq := [] } ((x.toNat : Int) - 32) ((b.toNat : Int) - 32) := by
  unfold takeA takeC
  rw [if_neg hb, if_neg (by rw [hs]; simp), if_neg (by
      rintro (⟨hh, _⟩ | ⟨hh, _⟩)
      · rw [hs] at hh
        simp at hh
      · rw [hs] at hh
        simp at hh)]
  have he : endA { A with seq := [] } (A.seq ++ [b]).tail = (addrA { A with seq := [] } ((x.toNat : Int) - 32) ((b.toNat : Int) - 32), false) := by
    rw [hs]
    rfl
  rw [he]
  exact rest_free (by rw [addr_pr]; exact h) false
theorem take_63 {A : Ad} (h : A.pr = false) (hs : A.seq = [27]) : takeA A 63 = pushA { A with seq := [] } [toldA A.S.pl.at_.row, toldA A.S.pl.at_.col, 13] := by
  unfold takeA takeC
  rw [if_neg (by decide), if_neg (by rw [hs]; decide), if_neg (by
      rintro (⟨_, hh⟩ | ⟨hh, _⟩)
      · exact absurd hh (by decide)
      · rw [hs] at hh
        exact absurd hh (by decide))]
  have he : endA { A with seq := [] } (A.seq ++ [63]).tail = (pushA { A with seq := [] } [toldA A.S.pl.at_.row, toldA A.S.pl.at_.col, 13], false) := by
    rw [hs]
    rfl
  rw [he]
  refine rest_free ?_ false
  show (pushA { A with seq := [] } _).pr = false
  unfold pushA
  split <;> exact h
/-- The place that is wanted. -/
def wantP (R C : Nat) (r c : Int) : Vz.Ps := if 0 ≤ r ∧ r < (R : Int) ∧ 0 ≤ c ∧ c < (C : Int) then ⟨r, c⟩ else ⟨0, 0⟩
theorem addr_new (R C : Nat) (hm : Vz.mayS R C = true) (r c : Int) : (addrA (newA R C) r c).S.pl = ⟨wantP R C r c, false⟩ := by
  unfold addrA wantP
  by_cases h : 0 ≤ r ∧ r < (R : Int) ∧ 0 ≤ c ∧ c < (C : Int)
  · rw [if_pos (show 0 ≤ r ∧ r < ((newA R C).S.D.R : Int) ∧ 0 ≤ c ∧ c < ((newA R C).S.D.C : Int) from h), if_pos h]
    show (⟨Vz.nearP R C ⟨r, c⟩, false⟩ : Vz.Pl) = _
    rw [Vz.nearP_id R C ⟨r, c⟩ hm ⟨h.1, h.2.1, h.2.2.1, h.2.2.2⟩]
  · rw [if_neg (show ¬ (0 ≤ r ∧ r < ((newA R C).S.D.R : Int) ∧ 0 ≤ c ∧ c < ((newA R C).S.D.C : Int)) from h), if_neg h]
    rfl
/-- What is fed. -/
def askL (b d : UInt8) : List UInt8 := [27, 61, b, d, 27, 63]
theorem feed_ask (R C : Nat) (b d : UInt8) (hb : b % 128 ≠ 27) (hd : d % 128 ≠ 27) :
    feedA (newA R C) (askL b d) = pushA { addrA (newA R C) (((b % 128).toNat : Int) - 32) (((d % 128).toNat : Int) - 32) with seq := [] } [toldA (addrA (newA R C) (((b % 128).toNat : Int) - 32) (((d % 128).toNat : Int) - 32)).S.pl.at_.row, toldA (addrA (newA R C) (((b % 128).toNat : Int) - 32) (((d % 128).toNat : Int) - 32)).S.pl.at_.col, 13] := by
  unfold askL
  show takeA (takeA (takeA (takeA (takeA (takeA (newA R C) 27) 61) (b % 128)) (d % 128)) 27) 63 = _
  rw [take_27 (A := newA R C) rfl, take_61 rfl rfl, take_row rfl rfl _ hb, take_col rfl _ rfl _ hd]
  show takeA (takeA (addrA (newA R C) _ _) 27) 63 = _
  have hp : (addrA (newA R C) (((b % 128).toNat : Int) - 32) (((d % 128).toNat : Int) - 32)).pr = false := addr_pr _ _
  rw [take_27 hp]
  exact take_63 (A := { addrA (newA R C) (((b % 128).toNat : Int) - 32) (((d % 128).toNat : Int) - 32) with seq := [27] }) hp rfl
theorem ask_pl (R C : Nat) (hm : Vz.mayS R C = true) (b d : UInt8) (hb : b % 128 ≠ 27) (hd : d % 128 ≠ 27) :
    (feedA (newA R C) (askL b d)).S.pl = ⟨wantP R C (((b % 128).toNat : Int) - 32) (((d % 128).toNat : Int) - 32), false⟩ := by
  rw [feed_ask R C b d hb hd, pushA_S]
  exact addr_new R C hm _ _
theorem ask_q (R C : Nat) (hm : Vz.mayS R C = true) (b d : UInt8) (hb : b % 128 ≠ 27) (hd : d % 128 ≠ 27) :
    (feedA (newA R C) (askL b d)).q = [toldA (wantP R C (((b % 128).toNat : Int) - 32) (((d % 128).toNat : Int) - 32)).row, toldA (wantP R C (((b % 128).toNat : Int) - 32) (((d % 128).toNat : Int) - 32)).col, 13] := by
  rw [feed_ask R C b d hb hd, addr_new R C hm _ _]
  unfold pushA
  have hq : (addrA (newA R C) (((b % 128).toNat : Int) - 32) (((d % 128).toNat : Int) - 32)).q = [] := addr_q _ _
  rw [if_neg (by show ¬ 20 < (addrA _ _ _).q.length + _; rw [hq]; simp)]
  show (addrA _ _ _).q ++ _ = _
  rw [hq]
  rfl
end Go.Proofs.YtncgigapgklhcaaGreatDoor
