/- Walk: SgrBack of vizardlaw13. -/
import Derived.Test.YtjfnmjgfbkcaaaaDoorLawTwice
import Derived.Test.YtjfnmjgfbkcaaaaDoorSgrRow
namespace Go.Proofs.YtjfnmjgfbkcaaaaDoor
open Go.RowKit

/-- sgr.Tell of attributes that may be. -/
theorem tell_ints (n : Nat) (hm : Vz.MayP n) (w : World) :
    Calls Tryd.prog 15 #[.int .i64 n] w fun e w' => ∃ A c, e = .returned (.tuple #[.slice A (tellL n).length c, .int .i64 0]) ∧ Ints w'.heap.size w' A (tellL n).length (tellL n) ∧ Below w.heap.size w w' :=
  (tell_any n hm w).mono fun e w' ⟨v, he, hown, hb⟩ => by
    obtain ⟨A, c, rfl, hI⟩ := Ints.of_own hown
    exact ⟨A, c, he, hI, hb⟩

set_option maxRecDepth 100000 in
set_option maxHeartbeats 8000000 in
theorem law_back (a b : Int) (A : Option Addr) (m c : Nat) (zs : List Int) (w : World) (h : IsRow .i64 w A m c zs) :
    Calls Tryd.prog 4 #[.int .i64 a, .int .i64 b, .slice A m c] w fun e w' => e = .returned (.bool true) ∧ Below w.heap.size w w' := by
  have HW := Lib.hid awake_any
  by_cases h100 : 100 < m
  · clear h
    go_enter Tryd.func4, Tryd.ntmps4
    go_wp2_with fail
    refine (HW.out _).mono ?_
    rintro e w4 ⟨rfl, hb4⟩
    go_wp2_with fail
    go_ret
    exact ⟨rfl, hb4⟩
  have HI := Lib.hid h.ints
  clear h
  generalize zs.take m = L at HI
  have HA := Lib.hid apply_any
  have HT := Lib.hid tell_ints
  have HY := Lib.hid smay_yes
  have HR := Lib.hid (applyN_may b L)
  have HE := Lib.hid (apply_tell a (applyN b L) HR.out)
  generalize hr : applyN b L = r at HR HE
  have HRR := Lib.hid hr
  have HL := Lib.hid (tellL_len r)
  clear hr
  cases hm : Vz.mayI a with
  | false =>
    have HN := Lib.hid (tell_no a hm)
    clear hm
    go_enter Tryd.func4, Tryd.ntmps4
    go_wp2_with fail
    refine (HN.out _).mono ?_
    rintro e w1 ⟨rfl, rfl⟩
    go_wp2_with fail
    refine (HA.out w.heap.size b A m c L (by omega) _ HI.out (Nat.le_refl _)).mono ?_
    rintro e w2 ⟨rfl, hb2⟩
    rw [HRR.out]
    go_wp2_with fail
    refine (HT.out r HR.out _).mono ?_
    rintro e w3 ⟨A3, c3, rfl, hI3, hb3⟩
    have HI3 := Lib.hid hI3
    have hb03 := below_join hb2 hb3
    clear hI3
    go_wp2_with fail
    refine (HY.out r HR.out _).mono ?_
    rintro e w4 ⟨rfl, rfl⟩
    go_wp2_with fail
    refine (HA.out _ a A3 _ c3 _ (by have := HL.out; omega) _ HI3.out (Nat.le_refl _)).mono ?_
    rintro e w5 ⟨rfl, hb5⟩
    rw [HE.out]
    go_wp2_with fail
    refine (HW.out _).mono ?_
    rintro e w6 ⟨rfl, hb6⟩
    go_wp2_with fail
    go_ret
    exact ⟨rfl, below_join (below_join hb03 hb5) hb6⟩
  | true =>
    obtain ⟨n, rfl⟩ := Int.eq_ofNat_of_zero_le (Vz.mayI_ge hm)
    have hp := (Vz.mayP_iff n).1 hm
    have HTN := Lib.hid (tell_ints n hp)
    have HEN := Lib.hid (apply_tell b n hp)
    have HLN := Lib.hid (tellL_len n)
    clear hm hp
    go_enter Tryd.func4, Tryd.ntmps4
    go_wp2_with fail
    refine (HTN.out _).mono ?_
    rintro e w1 ⟨A1, c1, rfl, hI1, hb1⟩
    have HI1 := Lib.hid hI1
    clear hI1
    go_wp2_with fail
    refine (HA.out _ b A1 _ c1 _ (by have := HLN.out; omega) _ HI1.out (Nat.le_refl _)).mono ?_
    rintro e w2' ⟨rfl, hb2'⟩
    rw [HEN.out]
    have hb02' := below_join hb1 hb2'
    go_wp2_with fail
    refine (HA.out w.heap.size b A m c L (by omega) _ (HI.out.below hb02' (Nat.le_refl _)) hb02'.size).mono ?_
    rintro e w2 ⟨rfl, hb2⟩
    rw [HRR.out]
    go_wp2_with fail
    refine (HT.out r HR.out _).mono ?_
    rintro e w3 ⟨A3, c3, rfl, hI3, hb3⟩
    have HI3 := Lib.hid hI3
    have hb03 := below_join (below_join hb02' hb2) hb3
    clear hI3
    go_wp2_with fail
    refine (HY.out r HR.out _).mono ?_
    rintro e w4 ⟨rfl, rfl⟩
    go_wp2_with fail
    refine (HA.out _ (n : Int) A3 _ c3 _ (by have := HL.out; omega) _ HI3.out (Nat.le_refl _)).mono ?_
    rintro e w5 ⟨rfl, hb5⟩
    rw [HE.out]
    go_wp2_with fail
    refine (HW.out _).mono ?_
    rintro e w6 ⟨rfl, hb6⟩
    go_wp2_with fail
    go_ret
    exact ⟨rfl, below_join (below_join hb03 hb5) hb6⟩
end Go.Proofs.YtjfnmjgfbkcaaaaDoor
