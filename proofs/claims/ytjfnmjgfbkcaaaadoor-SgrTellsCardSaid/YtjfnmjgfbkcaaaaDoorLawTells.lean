/- Walk: SgrTells of vizardlaw13. -/
import Derived.Test.YtjfnmjgfbkcaaaaDoorRefText
import Derived.Test.YtjfnmjgfbkcaaaaDoorRefTell
import Derived.Test.YtjfnmjgfbkcaaaaDoorSgrResB
import Derived.Test.YtjfnmjgfbkcaaaaDoorLawSgrBack
import Derived.Deep.RegionWith
import Derived.Deep.DeepCutAuto
namespace Go.Proofs.YtjfnmjgfbkcaaaaDoor
open Go.RowKit

theorem rtell_ints (n : Nat) (hm : Vz.MayP n) (w : World) :
    Calls Tryd.prog 17 #[.int .i64 n] w fun e w' => ∃ A c, e = .returned (.slice A (tellL n).length c) ∧ Ints w'.heap.size w' A (tellL n).length (tellL n) ∧ Below w.heap.size w w' :=
  (rtell_any n hm w).mono fun e w' ⟨v, he, hown, hb⟩ => by
    obtain ⟨A, c, rfl, hI⟩ := Ints.of_own hown
    exact ⟨A, c, he, hI, hb⟩
/-- What is wanted, told by the fields. -/
def wantV (k : Lk) : Value :=
  .agg #[.int .i64 (if k.b4 = true then (if k.b6 = true then k.g else 0) else (if k.b6 = true then k.f else 7)), .int .i64 (if k.b4 = true then (if k.b6 = true then k.f else 7) else (if k.b6 = true then k.g else 0)), .bool k.b0, .bool k.b1, .bool k.b2, .bool k.b3, .bool k.b5]
theorem nat_b (n m : Nat) : ((n : Int) / m % 2 == 1) = (n / m % 2 == 1) := by
  rw [show (n : Int) / m = ((n / m : Nat) : Int) by simp, Bool.eq_iff_iff, beq_iff_eq, beq_iff_eq]
  omega
theorem res_want (n : Nat) (h : Vz.MayP n) : resV n = wantV (lkOf n) := by
  have e0 : ((n : Int) % 2 == 1) = (n % 2 == 1) := by rw [Bool.eq_iff_iff, beq_iff_eq, beq_iff_eq]; omega
  have e1 := nat_b n 2
  have e2 := nat_b n 4
  have e3 := nat_b n 8
  have e4 := nat_b n 16
  have e5 := nat_b n 32
  have e6 := nat_b n 64
  have hc1 : ((Vz.colN n / 256 % 8 : Nat) : Int) = if ((n : Int) / 64 % 2 == 1) = true then (n : Int) / 256 % 8 else 7 := by
    rw [show ((n : Int) / 64 % 2 == 1) = (n / 64 % 2 == 1) from e6]
    unfold Vz.colN
    by_cases h6 : n / 64 % 2 = 1
    · rw [if_pos h6, if_pos (by simp [h6])]; omega
    · have := Vz.mayP_small n h (by omega)
      rw [if_neg h6, if_neg (by simp [h6])]
      clear h e0 e1 e2 e3 e4 e5 e6 h6
      omega
  have hc2 : ((Vz.colN n / 2048 : Nat) : Int) = if ((n : Int) / 64 % 2 == 1) = true then (n : Int) / 2048 else 0 := by
    rw [show ((n : Int) / 64 % 2 == 1) = (n / 64 % 2 == 1) from e6]
    unfold Vz.colN
    by_cases h6 : n / 64 % 2 = 1
    · rw [if_pos h6, if_pos (by simp [h6])]; omega
    · have := Vz.mayP_small n h (by omega)
      rw [if_neg h6, if_neg (by simp [h6])]
      clear h e0 e1 e2 e3 e4 e5 e6 h6
      omega
  show resV n = .agg #[.int .i64 (if ((n : Int) / 16 % 2 == 1) = true then (if ((n : Int) / 64 % 2 == 1) = true then (n : Int) / 2048 else 0) else (if ((n : Int) / 64 % 2 == 1) = true then (n : Int) / 256 % 8 else 7)), .int .i64 (if ((n : Int) / 16 % 2 == 1) = true then (if ((n : Int) / 64 % 2 == 1) = true then (n : Int) / 256 % 8 else 7) else (if ((n : Int) / 64 % 2 == 1) = true then (n : Int) / 2048 else 0)), .bool ((n : Int) % 2 == 1), .bool ((n : Int) / 2 % 2 == 1), .bool ((n : Int) / 4 % 2 == 1), .bool ((n : Int) / 8 % 2 == 1), .bool ((n : Int) / 32 % 2 == 1)]
  rw [← hc1, ← hc2, e0, show ((n : Int) / 2 % 2 == 1) = (n / 2 % 2 == 1) from e1, show ((n : Int) / 4 % 2 == 1) = (n / 4 % 2 == 1) from e2, show ((n : Int) / 8 % 2 == 1) = (n / 8 % 2 == 1) from e3, show ((n : Int) / 16 % 2 == 1) = (n / 16 % 2 == 1) from e4, show ((n : Int) / 32 % 2 == 1) = (n / 32 % 2 == 1) from e5, resV_eq]
  unfold resW
  generalize Vz.colN n / 256 % 8 = c1
  generalize Vz.colN n / 2048 = c2
  rcases Nat.mod_two_eq_zero_or_one (n / 16) with e | e
  · rw [e]; rfl
  · rw [e]; rfl

theorem want_cells {W w6 : World} {b : Nat} {t : TypeId} {F G : Int} {b0 b1 b2 b3 b5 : Bool} (h : W.heap[b]? = some (.cells #[.int .i64 F, .int .i64 G, .bool b0, .bool b1, .bool b2, .bool b3, .bool b5] t (0, 0))) (hb : Below W.heap.size W w6) :
    w6.cell? ⟨b, 0, none⟩ = some (.int .i64 F) ∧ w6.cell? ⟨b, 1, none⟩ = some (.int .i64 G) ∧ w6.cell? ⟨b, 2, none⟩ = some (.bool b0) ∧ w6.cell? ⟨b, 3, none⟩ = some (.bool b1) ∧ w6.cell? ⟨b, 4, none⟩ = some (.bool b2) ∧ w6.cell? ⟨b, 5, none⟩ = some (.bool b3) ∧ w6.cell? ⟨b, 6, none⟩ = some (.bool b5) := by
  have h6 := (hb.block b (Array.getElem?_eq_some_iff.1 h).1).trans h
  refine ⟨?_, ?_, ?_, ?_, ?_, ?_, ?_⟩
  all_goals (rw [cell_of_row w6 b _ _ _ _ h6]; rfl)

set_option maxRecDepth 100000 in
set_option maxHeartbeats 2000000 in
theorem law_tells (a : Int) (A : Option Addr) (m c : Nat) (zs : List Int) (w : World) (h : IsRow .i64 w A m c zs) (ht : PowTab w) :
    Calls Tryd.prog 7 #[.int .i64 a, .slice A m c] w fun e w' => e = .returned (.bool true) ∧ Below w.heap.size w w' := by
  have HW := Lib.hid awake_any
  by_cases h100 : 100 < m
  · clear h ht
    go_enter Tryd.func7, Tryd.ntmps7
    go_wp2_with fail
    refine (HW.out _).mono ?_
    rintro e w4 ⟨rfl, hb4⟩
    go_wp2_with fail
    go_ret
    exact ⟨rfl, hb4⟩
  have HI := Lib.hid h.ints
  clear h
  generalize zs.take m = L at HI
  have HTX := Lib.hid text_any
  have HRX := Lib.hid rtext_any
  have HPT := Lib.hid ht
  have HOF := Lib.hid (rof_any a)
  have hres := fun W => resolve_any a W
  rw [res_want _ (startN_may a)] at hres
  have HR := Lib.hid hres
  clear hres ht
  cases hm : Vz.mayI a with
  | false =>
    have HN := Lib.hid (tell_no a hm)
    rw [hm] at HOF
    generalize lkOf (startN a) = kk at HOF HR
    unfold Lk.v at HOF
    clear hm
    go_enter Tryd.func7, Tryd.ntmps7
    go_wp2_with fail
    refine (HOF.out _).mono ?_
    rintro e w1 ⟨rfl, hb1⟩
    have hx1 : LBox (w1.alloc (.cells kk.cs 25)) w1.heap.size kk := row_new w1 _
    have hb1' := hb1.alloc hb1.size (.cells kk.cs 25)
    go_wp2_with fail
    refine (HN.out _).mono ?_
    rintro e w2 ⟨rfl, rfl⟩
    go_wp2_with fail
    refine (HTX.out w.heap.size A m c L (by omega) _ (HI.out.below hb1' (Nat.le_refl _)) hb1'.size (HPT.out.below hb1')).mono ?_
    rintro e w4 ⟨rfl, hb4⟩
    have hb04 := below_join hb1' hb4
    have hx4 := LBox.below hx1 hb4
    go_wp2_with fail
    refine (HRX.out w.heap.size A m c L (by omega) _ (HI.out.below hb04 (Nat.le_refl _))).mono ?_
    rintro e w5 ⟨rfl, rfl⟩
    clear hb1 hb1' hb4 hx1
    obtain ⟨c0, c1, c2, c3, c4, c5, c6, c7, c8⟩ := hx4.cells
    obtain ⟨b0, b1, b2, b3, b4, b5, b6, f, g⟩ := kk
    simp only at c0 c1 c2 c3 c4 c5 c6 c7 c8
    have hlt4 := hx4.lt
    clear hx4
    cases b6 <;> cases b4
    · have HRV := Lib.hid HR
      simp only [wantV, Bool.false_eq_true, if_false, if_true] at HRV
      have hrow := row_new w4 (.cells #[.int .i64 7, .int .i64 0, .bool b0, .bool b1, .bool b2, .bool b3, .bool b5] 43)
      have HROW := Lib.hid hrow
      clear hrow
      go_upto_region 15 with fail
      go_region_with (first | (go_at_call 20; refine (HRV.out _).mono ?_; rintro e w6 ⟨rfl, hb6⟩; obtain ⟨d0, d1, d2, d3, d4, d5, d6⟩ := want_cells (W := (w4.alloc _).drewN 1) HROW.out hb6) | (go_at_call 10; refine (HW.out _).mono ?_; rintro e w7 ⟨rfl, hb7⟩))
      all_goals
        go_wp2_with fail
        go_ret
        exact ⟨rfl, below_join (below_join (below_drewN (hb04.alloc hb04.size _) 1) hb6) hb7⟩
    · have HRV := Lib.hid HR
      simp only [wantV, Bool.false_eq_true, if_false, if_true] at HRV
      have hrow := row_new w4 (.cells #[.int .i64 0, .int .i64 7, .bool b0, .bool b1, .bool b2, .bool b3, .bool b5] 43)
      have HROW := Lib.hid hrow
      clear hrow
      go_upto_region 15 with fail
      go_region_with (first | (go_at_call 20; refine (HRV.out _).mono ?_; rintro e w6 ⟨rfl, hb6⟩; obtain ⟨d0, d1, d2, d3, d4, d5, d6⟩ := want_cells (W := (w4.alloc _).drewN 1) HROW.out hb6) | (go_at_call 10; refine (HW.out _).mono ?_; rintro e w7 ⟨rfl, hb7⟩))
      all_goals
        go_wp2_with fail
        go_ret
        exact ⟨rfl, below_join (below_join (below_drewN (hb04.alloc hb04.size _) 1) hb6) hb7⟩
    · have HRV := Lib.hid HR
      simp only [wantV, Bool.false_eq_true, if_false, if_true] at HRV
      have hrow := row_new w4 (.cells #[.int .i64 f, .int .i64 g, .bool b0, .bool b1, .bool b2, .bool b3, .bool b5] 43)
      have HROW := Lib.hid hrow
      clear hrow
      go_upto_region 15 with fail
      go_region_with (first | (go_at_call 20; refine (HRV.out _).mono ?_; rintro e w6 ⟨rfl, hb6⟩; obtain ⟨d0, d1, d2, d3, d4, d5, d6⟩ := want_cells (W := (w4.alloc _).drewN 1) HROW.out hb6) | (go_at_call 10; refine (HW.out _).mono ?_; rintro e w7 ⟨rfl, hb7⟩))
      all_goals
        go_wp2_with fail
        go_ret
        exact ⟨rfl, below_join (below_join (below_drewN (hb04.alloc hb04.size _) 1) hb6) hb7⟩
    · have HRV := Lib.hid HR
      simp only [wantV, Bool.false_eq_true, if_false, if_true] at HRV
      have hrow := row_new w4 (.cells #[.int .i64 g, .int .i64 f, .bool b0, .bool b1, .bool b2, .bool b3, .bool b5] 43)
      have HROW := Lib.hid hrow
      clear hrow
      go_upto_region 15 with fail
      go_region_with (first | (go_at_call 20; refine (HRV.out _).mono ?_; rintro e w6 ⟨rfl, hb6⟩; obtain ⟨d0, d1, d2, d3, d4, d5, d6⟩ := want_cells (W := (w4.alloc _).drewN 1) HROW.out hb6) | (go_at_call 10; refine (HW.out _).mono ?_; rintro e w7 ⟨rfl, hb7⟩))
      all_goals
        go_wp2_with fail
        go_ret
        exact ⟨rfl, below_join (below_join (below_drewN (hb04.alloc hb04.size _) 1) hb6) hb7⟩
  | true =>
    obtain ⟨n, rfl⟩ := Int.eq_ofNat_of_zero_le (Vz.mayI_ge hm)
    have hp := (Vz.mayP_iff n).1 hm
    have HTN := Lib.hid (tell_ints n hp)
    have HRT := Lib.hid (rtell_ints n hp)
    have HLN := Lib.hid (tellL_len n)
    have HIN := Lib.hid ints_any
    rw [hm] at HOF
    generalize lkOf (startN (n : Int)) = kk at HOF HR
    generalize tellL n = TL at HTN HRT HLN
    unfold Lk.v at HOF
    clear hm hp
    go_enter Tryd.func7, Tryd.ntmps7
    go_wp2_with fail
    refine (HOF.out _).mono ?_
    rintro e w1 ⟨rfl, hb1⟩
    have hx1 : LBox (w1.alloc (.cells kk.cs 25)) w1.heap.size kk := row_new w1 _
    have hb1' := hb1.alloc hb1.size (.cells kk.cs 25)
    go_wp2_with fail
    refine (HTN.out _).mono ?_
    rintro e w2 ⟨A1, c1, rfl, hI1, hb2⟩
    have HI1 := Lib.hid hI1
    have hb02 := below_join hb1' hb2
    have hx2 := LBox.below hx1 hb2
    clear hI1
    go_wp2_with fail
    refine (HRT.out _).mono ?_
    rintro e w3 ⟨A2, c2, rfl, hI2, hb3⟩
    have HI2 := Lib.hid hI2
    have hb03 := below_join hb02 hb3
    have hx3 := LBox.below hx2 hb3
    clear hI2
    go_wp2_with fail
    refine (HIN.out w3.heap.size A1 A2 _ _ c1 c2 TL TL _ ((HI1.out.below hb3 (Nat.le_refl _)).more hb3.size) HI2.out (by have := HLN.out; omega) (by have := HLN.out; omega)).mono ?_
    rintro e w3' ⟨rfl, q, rfl⟩
    rw [decide_eq_true (p := TL = TL) rfl]
    go_wp2_with fail
    refine (HTX.out w.heap.size A m c L (by omega) _ (HI.out.below (below_drewN hb03 q) (Nat.le_refl _)) hb03.size (HPT.out.below (below_drewN hb03 q))).mono ?_
    rintro e w4 ⟨rfl, hb4⟩
    have hb04 := below_join (below_drewN hb03 q) hb4
    have hx4 := LBox.below (W := w3.drewN q) hx3 hb4
    go_wp2_with fail
    refine (HRX.out w.heap.size A m c L (by omega) _ (HI.out.below hb04 (Nat.le_refl _))).mono ?_
    rintro e w5 ⟨rfl, rfl⟩
    clear hb1 hb1' hb4 hx1 hb2 hb3 hb02 hb03 hx2 hx3
    obtain ⟨c0, c1, c2, c3, c4, c5, c6, c7, c8⟩ := hx4.cells
    obtain ⟨b0, b1, b2, b3, b4, b5, b6, f, g⟩ := kk
    simp only at c0 c1 c2 c3 c4 c5 c6 c7 c8
    have hlt4 := hx4.lt
    clear hx4
    cases b6 <;> cases b4
    · have HRV := Lib.hid HR
      simp only [wantV, Bool.false_eq_true, if_false, if_true] at HRV
      have hrow := row_new w4 (.cells #[.int .i64 7, .int .i64 0, .bool b0, .bool b1, .bool b2, .bool b3, .bool b5] 43)
      have HROW := Lib.hid hrow
      clear hrow
      go_upto_region 15 with fail
      go_region_with (first | (go_at_call 20; refine (HRV.out _).mono ?_; rintro e w6 ⟨rfl, hb6⟩; obtain ⟨d0, d1, d2, d3, d4, d5, d6⟩ := want_cells (W := (w4.alloc _).drewN 1) HROW.out hb6) | (go_at_call 10; refine (HW.out _).mono ?_; rintro e w7 ⟨rfl, hb7⟩))
      all_goals
        go_wp2_with fail
        go_ret
        exact ⟨rfl, below_join (below_join (below_drewN (hb04.alloc hb04.size _) 1) hb6) hb7⟩
    · have HRV := Lib.hid HR
      simp only [wantV, Bool.false_eq_true, if_false, if_true] at HRV
      have hrow := row_new w4 (.cells #[.int .i64 0, .int .i64 7, .bool b0, .bool b1, .bool b2, .bool b3, .bool b5] 43)
      have HROW := Lib.hid hrow
      clear hrow
      go_upto_region 15 with fail
      go_region_with (first | (go_at_call 20; refine (HRV.out _).mono ?_; rintro e w6 ⟨rfl, hb6⟩; obtain ⟨d0, d1, d2, d3, d4, d5, d6⟩ := want_cells (W := (w4.alloc _).drewN 1) HROW.out hb6) | (go_at_call 10; refine (HW.out _).mono ?_; rintro e w7 ⟨rfl, hb7⟩))
      all_goals
        go_wp2_with fail
        go_ret
        exact ⟨rfl, below_join (below_join (below_drewN (hb04.alloc hb04.size _) 1) hb6) hb7⟩
    · have HRV := Lib.hid HR
      simp only [wantV, Bool.false_eq_true, if_false, if_true] at HRV
      have hrow := row_new w4 (.cells #[.int .i64 f, .int .i64 g, .bool b0, .bool b1, .bool b2, .bool b3, .bool b5] 43)
      have HROW := Lib.hid hrow
      clear hrow
      go_upto_region 15 with fail
      go_region_with (first | (go_at_call 20; refine (HRV.out _).mono ?_; rintro e w6 ⟨rfl, hb6⟩; obtain ⟨d0, d1, d2, d3, d4, d5, d6⟩ := want_cells (W := (w4.alloc _).drewN 1) HROW.out hb6) | (go_at_call 10; refine (HW.out _).mono ?_; rintro e w7 ⟨rfl, hb7⟩))
      all_goals
        go_wp2_with fail
        go_ret
        exact ⟨rfl, below_join (below_join (below_drewN (hb04.alloc hb04.size _) 1) hb6) hb7⟩
    · have HRV := Lib.hid HR
      simp only [wantV, Bool.false_eq_true, if_false, if_true] at HRV
      have hrow := row_new w4 (.cells #[.int .i64 g, .int .i64 f, .bool b0, .bool b1, .bool b2, .bool b3, .bool b5] 43)
      have HROW := Lib.hid hrow
      clear hrow
      go_upto_region 15 with fail
      go_region_with (first | (go_at_call 20; refine (HRV.out _).mono ?_; rintro e w6 ⟨rfl, hb6⟩; obtain ⟨d0, d1, d2, d3, d4, d5, d6⟩ := want_cells (W := (w4.alloc _).drewN 1) HROW.out hb6) | (go_at_call 10; refine (HW.out _).mono ?_; rintro e w7 ⟨rfl, hb7⟩))
      all_goals
        go_wp2_with fail
        go_ret
        exact ⟨rfl, below_join (below_join (below_drewN (hb04.alloc hb04.size _) 1) hb6) hb7⟩
end Go.Proofs.YtjfnmjgfbkcaaaaDoor
