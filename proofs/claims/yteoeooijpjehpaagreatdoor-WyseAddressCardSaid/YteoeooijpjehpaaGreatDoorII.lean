import Derived.Test.YteoeooijpjehpaaGreatDoorIC
import Derived.Test.YteoeooijpjehpaaGreatDoorIG
import Derived.Test.YteoeooijpjehpaaGreatDoorIE
import Derived.Test.YteoeooijpjehpaaGreatDoorHR

set_option maxRecDepth 100000
set_option maxHeartbeats 16000000
namespace Go.Proofs.YteoeooijpjehpaaGreatDoor
open Go.RowKit
set_option linter.unusedSimpArgs false
set_option linter.unusedVariables false
/- Walks: a Wyse 60's tab. -/
section
attribute [local go_sem] alloc_drewN setCell_drewN World.cell?_alloc_some frozen_alloc_some size_f0 size_f1
def ftabO (S : Vz.Sr) (o : Option FT) : Vz.Sr :=
 match o with
 | none => S
 | some f => moveS S ⟨(f.1 : Int), (f.2.1 : Int)⟩
theorem ftabO_eq {S : Vz.Sr} {i j : Nat} (hi : S.pl.at_.row = (i : Int)) (hj : S.pl.at_.col = (j : Int)) : ftabS S = ftabO S (tabF S.D (i * S.D.C + j)) := by
 unfold ftabS ftabO
 rw [hi, hj]
 rfl
theorem wys_tab {w : World} {tp sp qp : Nat} {A : Wy} {F : Nat → Prop} {S : Vz.Sr} (h : Wys w tp sp qp A F S) : Calls Tryz.prog 88 #[.pointer (some ⟨tp, 0, none⟩)] w fun e w' => e = .returned (.tuple #[]) ∧ ScrTo w w' sp F (if A.pr = true then ftabS S else tabS S 1) := by
 have HA := Lib.hid (fun W (hb : Below w.heap.size w W) => h.below hb)
 obtain ⟨t0, t1, t2, t3, _⟩ := h.cells
 cases hpr : A.pr
 · rw [hpr] at t3
   have HC := Lib.hid (scr_tab sp F S 1 w h.scr (by decide))
   have HE : Hid ((if false = true then ftabS S else tabS S 1) = tabS S 1) := rfl
   rw [HE.out]
   clear h
   go_enter Tryz.func88, Tryz.ntmps88
   go_wp2_with (go_at_call 125; refine HC.out.mono ?_; rintro e w1 ⟨rfl, ht⟩; have HT := Lib.hid ht; clear ht)
   exact bodyPost_ret (results_none rfl _ _ _) rfl ⟨rfl, HT.out⟩
 · rw [hpr] at t3
   have HCU := Lib.hid (scr_cursor sp F S w h.scr)
   have HRO := Lib.hid (fun W (hb : Below w.heap.size w W) => scr_rows sp F S W (h.below hb).scr)
   obtain ⟨q1, q2, q3, q4⟩ := h.scr.here.1
   have hmm := h.scr.here.2
   obtain ⟨i, hi⟩ : ∃ i : Nat, S.pl.at_.row = (i : Int) := ⟨S.pl.at_.row.toNat, by omega⟩
   obtain ⟨j, hj⟩ : ∃ j : Nat, S.pl.at_.col = (j : Int) := ⟨S.pl.at_.col.toNat, by omega⟩
   obtain ⟨o, ho⟩ : ∃ o, o = tabF S.D (i * S.D.C + j) := ⟨_, rfl⟩
   have he : ftabS S = ftabO S o := by rw [ho]; exact ftabO_eq hi hj
   obtain ⟨x, y, bo, hx, hy⟩ : ∃ (x y : Int) (bo : Bool), tabR o = .tuple #[.agg #[.int .i64 x, .int .i64 y], .bool bo] ∧ ftabO S o = if bo = true then moveS S ⟨x, y⟩ else S := by
    cases o with
    | none => exact ⟨0, 0, false, rfl, rfl⟩
    | some f => exact ⟨f.1, f.2.1, true, rfl, rfl⟩
   obtain ⟨x, y, bo, hx, hy⟩ : ∃ (x y : Int) (bo : Bool), tabR o = .tuple #[.agg #[.int .i64 x, .int .i64 y], .bool bo] ∧ ftabO S o = if bo = true then moveS S ⟨x, y⟩ else S := by
    cases o with
    | none => exact ⟨0, 0, false, rfl, rfl⟩
    | some f => exact ⟨f.1, f.2.1, true, rfl, rfl⟩
   obtain ⟨x, y, bo, hx, hy⟩ : ∃ (x y : Int) (bo : Bool), tabR o = .tuple #[.agg #[.int .i64 x, .int .i64 y], .bool bo] ∧ ftabO S o = if bo = true then moveS S ⟨x, y⟩ else S := by
    cases o with
    | none => exact ⟨0, 0, false, rfl, rfl⟩
    | some f => exact ⟨f.1, f.2.1, true, rfl, rfl⟩
   obtain ⟨x, y, bo, hx, hy⟩ : ∃ (x y : Int) (bo : Bool), tabR o = .tuple #[.agg #[.int .i64 x, .int .i64 y], .bool bo] ∧ ftabO S o = if bo = true then moveS S ⟨x, y⟩ else S := by
    cases o with
    | none => exact ⟨0, 0, false, rfl, rfl⟩
    | some f => exact ⟨f.1, f.2.1, true, rfl, rfl⟩
   obtain ⟨x, y, bo, hx, hy⟩ : ∃ (x y : Int) (bo : Bool), tabR o = .tuple #[.agg #[.int .i64 x, .int .i64 y], .bool bo] ∧ ftabO S o = if bo = true then moveS S ⟨x, y⟩ else S := by
    cases o with
    | none => exact ⟨0, 0, false, rfl, rfl⟩
    | some f => exact ⟨f.1, f.2.1, true, rfl, rfl⟩
   have HFT : Hid (∀ (B : Nat) (W : World) (OB : Nat) (G K : Nat → Nat), RowsAt B W OB S.D G K → Calls Tryz.prog 126 #[.slice (some ⟨OB, 0, none⟩) S.D.R S.D.R, .agg #[.int .i64 (i : Int), .int .i64 (j : Int)]] W fun e w' => e = .returned (.tuple #[.agg #[.int .i64 x, .int .i64 y], .bool bo]) ∧ Below W.heap.size W w') := fun B W OB G K hr => by
    rw [← hx, ho]
    exact ftab_ok hr hmm i j (by omega) (by omega)
   have HE : Hid ((if true = true then ftabS S else tabS S 1) = if bo = true then moveS S ⟨x, y⟩ else S) := he.trans hy
   rw [HE.out]
   rw [hi, hj] at HCU
   have HSC := Lib.hid h.scr
   clear h q1 q2 q3 q4 hmm hi hj ho he hx hy
   go_enter Tryz.func88, Tryz.ntmps88
   go_upto_region 3 with (go_at_call 22; refine HCU.out.mono ?_; rintro e w1 ⟨rfl, hb1⟩; have HB1 := Lib.hid (hb1.alloc hb1.size (.cells #[.int .i64 (i : Int), .int .i64 (j : Int)] 49)); have HZ1 := Lib.hid hb1.size; clear hb1)
   have HB2 : Hid (Below w.heap.size w (w1.alloc (.cells #[.int .i64 (i : Int), .int .i64 (j : Int)] 49)).drew) := HB1.out.drew
   have HX2 : Hid ((w1.alloc (.cells #[.int .i64 (i : Int), .int .i64 (j : Int)] 49)).drew.heap[w1.heap.size]? = some (.cells #[.int .i64 (i : Int), .int .i64 (j : Int)] 49 (0, 0))) := heap_alloc_new w1 _
   have HC1 : Hid (((w1.alloc (.cells #[.int .i64 (i : Int), .int .i64 (j : Int)] 49)).drew.alloc (.cells #[.int .i64 0, .int .i64 0] 49)).heap[w1.heap.size + 1]? = some (.cells #[.int .i64 0, .int .i64 0] 49 (0, 0))) := by
    have := heap_alloc_new (w1.alloc (.cells #[.int .i64 (i : Int), .int .i64 (j : Int)] 49)).drew (.cells #[.int .i64 0, .int .i64 0] 49)
    rwa [show (w1.alloc (.cells #[.int .i64 (i : Int), .int .i64 (j : Int)] 49)).drew.heap.size = w1.heap.size + 1 from World.size_alloc _ _] at this
   refine wp_region_noPanic ?_
   refine wp_region_k (S := fun W : World => Below w.heap.size w W ∧ W.heap[w1.heap.size]? = some (.cells #[.int .i64 (i : Int), .int .i64 (j : Int)] 49 (0, 0))) 6 (by kernel_rfl) (⟨HB2.out, HX2.out⟩) (fun hHeld => ?_)
   refine kSK 0 hHeld ?_
   refine kSK 1 hHeld ?_
   refine kSK 2 hHeld ?_
   refine kTK (v := ?_) 3 [4] hHeld ?y4 ?_
   case y4 => (intro W hSw; obtain ⟨y0, _⟩ := (HA.out _ hSw.1).cells; obtain ⟨p0, p1, _⟩ := row2 hSw.2; go_simp; try with_reducible rfl)
   refine kTK (v := ?_) 5 [] hHeld ?y5 ?_
   case y5 => (intro W hSw; obtain ⟨y0, _⟩ := (HA.out _ hSw.1).cells; obtain ⟨p0, p1, _⟩ := row2 hSw.2; go_simp; try with_reducible rfl)
   try refine kNK ?_
   refine wpAnyK_ready (rs := [4, 10]) (by kernel_rfl) (by simp) ?_
   refine AllReadyK.cons rfl (fun KQ hKQ => ?_) (AllReadyK.cons rfl (fun KQ hKQ => ?_) AllReadyK.nil)
   focus
    go_simp
    go_at_call 38
    refine (HRO.out _ hHeld.1).mono ?_
    rintro e w2 ⟨OB, G, K, rfl, hr2, hb2⟩
    have HR2 : Hid (∀ W, Below w2.heap.size w2 W → RowsAt _ W OB S.D G K) := fun W hb => hr2.below hb
    have HB3 := Lib.hid (show Below w.heap.size w w2 ∧ w2.heap[w1.heap.size]? = some (.cells #[.int .i64 (i : Int), .int .i64 (j : Int)] 49 (0, 0)) from ⟨Below.later hHeld.1 hb2 hHeld.1.size, (hb2.block _ (block_lt hHeld.2)).trans hHeld.2⟩)
    try (have HZ := Lib.hid ((hb2.block _ (block_lt HC9.out)).trans HC9.out); clear HC9; have HC9 := Lib.hid HZ.out; clear HZ)
    clear hb2 hr2
    go_wp2_with fail
    refine hKQ.out _ _ (HB3.out) ?_
    clear hHeld hKQ KQ
    intro hHeld
    try refine kNK ?_
    refine wpAnyK_ready (rs := [6, 10]) (by kernel_rfl) (by simp) ?_
    refine AllReadyK.free rfl (by kernel_rfl) (fun KQ hKQ => ?_) (AllReadyK.cons rfl (fun KQ hKQ => ?_) AllReadyK.nil)
    focus
     go_simp
     go_at_call 126
     refine (HFT.out _ _ OB G K (by first | exact HR2.out _ (Below.refl _ _) | exact HR2.out _ (below1 _ _))).mono ?_
     rintro e w3 ⟨rfl, hb3⟩
     have HB33 := Lib.hid (show Below w.heap.size w w3 from Below.later hHeld.1 hb3 hHeld.1.size)
     try (have HZ := Lib.hid ((hb3.block _ (block_lt HC9.out)).trans HC9.out); clear HC9; have HC9 := Lib.hid HZ.out; clear HZ; obtain ⟨l0, l1, n0, n1⟩ := row2 HC9.out)
     clear hb3
     go_wp2_with fail
     refine hKQ.out _ _ ?_
     clear hKQ KQ
     try refine kNK ?_
     refine kBK 7 ?_
     refine kBK 8 ?_
     refine kBK 9 ?_
     try refine kNK ?_
     refine kPK 10 fun KQ hKQ => ?_
     go_simp
     first | (have HC9 : Hid ((w2.alloc (.cells #[.int .i64 0, .int .i64 0] 49)).heap[w2.heap.size]? = some (.cells #[.int .i64 0, .int .i64 0] 49 (0, 0))) := heap_alloc_new w2 _) | (have HC9 := Lib.hid HC1.out)
     refine hKQ.out _ _ ?_
     clear hKQ KQ
     try refine kNK ?_
     refine kPK 11 fun KQ hKQ => ?_
     go_simp
     refine hKQ.out _ _ ?_
     clear hKQ KQ
     try refine kNK ?_
     refine kBK 12 ?_
     try refine kNK ?_
     refine wpAnyK_done (by kernel_rfl) ?_ _
     refine NoPanic.normal ?_
    rotate_left 1
    focus
     go_simp
     first | (have HC9 : Hid ((w2.alloc (.cells #[.int .i64 0, .int .i64 0] 49)).heap[w2.heap.size]? = some (.cells #[.int .i64 0, .int .i64 0] 49 (0, 0))) := heap_alloc_new w2 _) | (have HC9 := Lib.hid HC1.out)
     refine hKQ.out _ _ (⟨hHeld.1.alloc hHeld.1.size _, (Below.heap_alloc _ _ _ (block_lt hHeld.2)).trans hHeld.2⟩) ?_
     clear hHeld hKQ KQ
     intro hHeld
     try refine kNK ?_
     refine kPK 6 fun KQ hKQ => ?_
     go_simp
     go_at_call 126
     refine (HFT.out _ _ OB G K (by first | exact HR2.out _ (Below.refl _ _) | exact HR2.out _ (below1 _ _))).mono ?_
     rintro e w3 ⟨rfl, hb3⟩
     have HB33 := Lib.hid (show Below w.heap.size w w3 from Below.later hHeld.1 hb3 hHeld.1.size)
     try (have HZ := Lib.hid ((hb3.block _ (block_lt HC9.out)).trans HC9.out); clear HC9; have HC9 := Lib.hid HZ.out; clear HZ; obtain ⟨l0, l1, n0, n1⟩ := row2 HC9.out)
     clear hb3
     go_wp2_with fail
     refine hKQ.out _ _ ?_
     clear hKQ KQ
     try refine kNK ?_
     refine kBK 7 ?_
     refine kBK 8 ?_
     refine kBK 9 ?_
     try refine kNK ?_
     refine kPK 11 fun KQ hKQ => ?_
     go_simp
     refine hKQ.out _ _ ?_
     clear hKQ KQ
     try refine kNK ?_
     refine kBK 12 ?_
     try refine kNK ?_
     refine wpAnyK_done (by kernel_rfl) ?_ _
     refine NoPanic.normal ?_
    rotate_left 1
   rotate_left 2
   focus
    go_simp
    first | (have HC9 : Hid ((w2.alloc (.cells #[.int .i64 0, .int .i64 0] 49)).heap[w2.heap.size]? = some (.cells #[.int .i64 0, .int .i64 0] 49 (0, 0))) := heap_alloc_new w2 _) | (have HC9 := Lib.hid HC1.out)
    refine hKQ.out _ _ (⟨hHeld.1.alloc hHeld.1.size _, (Below.heap_alloc _ _ _ (block_lt hHeld.2)).trans hHeld.2⟩) ?_
    clear hHeld hKQ KQ
    intro hHeld
    try refine kNK ?_
    refine kOK 4 fun KQ hKQ => ?_
    go_simp
    go_at_call 38
    refine (HRO.out _ hHeld.1).mono ?_
    rintro e w2 ⟨OB, G, K, rfl, hr2, hb2⟩
    have HR2 : Hid (∀ W, Below w2.heap.size w2 W → RowsAt _ W OB S.D G K) := fun W hb => hr2.below hb
    have HB3 := Lib.hid (show Below w.heap.size w w2 ∧ w2.heap[w1.heap.size]? = some (.cells #[.int .i64 (i : Int), .int .i64 (j : Int)] 49 (0, 0)) from ⟨Below.later hHeld.1 hb2 hHeld.1.size, (hb2.block _ (block_lt hHeld.2)).trans hHeld.2⟩)
    try (have HZ := Lib.hid ((hb2.block _ (block_lt HC9.out)).trans HC9.out); clear HC9; have HC9 := Lib.hid HZ.out; clear HZ)
    clear hb2 hr2
    go_wp2_with fail
    refine hKQ.out _ _ (HB3.out) ?_
    clear hHeld hKQ KQ
    intro hHeld
    try refine kNK ?_
    refine kPK 6 fun KQ hKQ => ?_
    go_simp
    go_at_call 126
    refine (HFT.out _ _ OB G K (by first | exact HR2.out _ (Below.refl _ _) | exact HR2.out _ (below1 _ _))).mono ?_
    rintro e w3 ⟨rfl, hb3⟩
    have HB33 := Lib.hid (show Below w.heap.size w w3 from Below.later hHeld.1 hb3 hHeld.1.size)
    try (have HZ := Lib.hid ((hb3.block _ (block_lt HC9.out)).trans HC9.out); clear HC9; have HC9 := Lib.hid HZ.out; clear HZ; obtain ⟨l0, l1, n0, n1⟩ := row2 HC9.out)
    clear hb3
    go_wp2_with fail
    refine hKQ.out _ _ ?_
    clear hKQ KQ
    try refine kNK ?_
    refine kBK 7 ?_
    refine kBK 8 ?_
    refine kBK 9 ?_
    try refine kNK ?_
    refine kPK 11 fun KQ hKQ => ?_
    go_simp
    refine hKQ.out _ _ ?_
    clear hKQ KQ
    try refine kNK ?_
    refine kBK 12 ?_
    try refine kNK ?_
    refine wpAnyK_done (by kernel_rfl) ?_ _
    refine NoPanic.normal ?_
   rotate_left 1
   · have HB4 : Hid (Below w.heap.size w (w3.alloc (.cells #[.int .i64 x, .int .i64 y] 49))) := HB33.out.alloc HB33.out.size _
     have HCC : Hid ((w3.alloc (.cells #[.int .i64 x, .int .i64 y] 49)).heap[w3.heap.size]? = some (.cells #[.int .i64 x, .int .i64 y] 49 (0, 0))) := heap_alloc_new _ _
     clear HB33 HC1 HX2 HB2 HB3 HR2
     clear HC9
     generalize (w3.alloc (.cells #[.int .i64 x, .int .i64 y] 49)) = W4 at *
     generalize w3.heap.size = cb at *
     obtain ⟨k0, k1, _⟩ := row2 HCC.out
     cases bo
     · go_wp2_with fail
       all_goals (
        go_end0
        exact ⟨rfl, ScrTo.after HB4.out (ScrTo.refl (HA.out _ HB4.out).scr)⟩)
     · go_upto_region 5 with fail
       have HB5 := Lib.hid HB4.out.drew
       have HC5 : Hid (W4.drew.heap[cb]? = some (.cells #[.int .i64 x, .int .i64 y] 49 (0, 0))) := HCC.out
       clear k0 k1 HB4 HCC
       refine wp_region_noPanic ?_
       refine wp_region_k (S := fun W : World => Below w.heap.size w W ∧ W.heap[cb]? = some (.cells #[.int .i64 x, .int .i64 y] 49 (0, 0))) 5 (by kernel_rfl) (⟨HB5.out, HC5.out⟩) (fun hHeld => ?_)
       refine kSK 0 hHeld ?_
       refine kSK 1 hHeld ?_
       refine kSK 2 hHeld ?_
       refine kTK (v := ?_) 3 [] hHeld ?y4 ?_
       case y4 => (intro W hSw; obtain ⟨y0, _⟩ := (HA.out _ hSw.1).cells; obtain ⟨p0, p1, _⟩ := row2 hSw.2; go_simp; try with_reducible rfl)
       refine kTK (v := ?_) 4 [] hHeld ?y5 ?_
       case y5 => (intro W hSw; obtain ⟨y0, _⟩ := (HA.out _ hSw.1).cells; obtain ⟨p0, p1, _⟩ := row2 hSw.2; go_simp; try with_reducible rfl)
       try refine kNK ?_
       refine kPK 5 fun KQ hKQ => ?_
       go_simp
       go_at_call 59
       refine (scr_move sp F S ⟨x, y⟩ _ (HA.out _ HB5.out).scr).mono ?_
       rintro e w6 ⟨rfl, ht⟩
       have HT := Lib.hid ht
       clear ht
       go_wp2_with fail
       refine hKQ.out _ _ ?_
       clear hKQ KQ
       try refine kNK ?_
       refine wpAnyK_done (by kernel_rfl) ?_ _
       refine NoPanic.normal ?_
       go_wp2_with fail
       all_goals (
        go_end0
        exact ⟨rfl, ScrTo.after HB5.out HT.out⟩)
   · have hz2 : w.heap.size ≤ w2.heap.size := HB3.out.1.size
     have HB4 : Hid (Below w.heap.size w (((w3.setCell ⟨w2.heap.size, 0, none⟩ (.int .i64 x)).setCell ⟨w2.heap.size, 1, none⟩ (.int .i64 y)))) := (HB33.out.setCell (p := ⟨w2.heap.size, 0, none⟩) (by show w.heap.size ≤ w2.heap.size; omega) _).setCell (p := ⟨w2.heap.size, 1, none⟩) (by show w.heap.size ≤ w2.heap.size; omega) _
     have HCC : Hid ((((w3.setCell ⟨w2.heap.size, 0, none⟩ (.int .i64 x)).setCell ⟨w2.heap.size, 1, none⟩ (.int .i64 y))).heap[w2.heap.size]? = some (.cells #[.int .i64 x, .int .i64 y] 49 (0, 0))) := set_two HC9.out _ _
     clear HB33 HC1 HX2 HB2 HB3 HR2
     clear l0 l1 n0 n1 HC9 hz2
     generalize (((w3.setCell ⟨w2.heap.size, 0, none⟩ (.int .i64 x)).setCell ⟨w2.heap.size, 1, none⟩ (.int .i64 y))) = W4 at *
     generalize w2.heap.size = cb at *
     obtain ⟨k0, k1, _⟩ := row2 HCC.out
     cases bo
     · go_wp2_with fail
       all_goals (
        go_end0
        exact ⟨rfl, ScrTo.after HB4.out (ScrTo.refl (HA.out _ HB4.out).scr)⟩)
     · go_upto_region 5 with fail
       have HB5 := Lib.hid HB4.out.drew
       have HC5 : Hid (W4.drew.heap[cb]? = some (.cells #[.int .i64 x, .int .i64 y] 49 (0, 0))) := HCC.out
       clear k0 k1 HB4 HCC
       refine wp_region_noPanic ?_
       refine wp_region_k (S := fun W : World => Below w.heap.size w W ∧ W.heap[cb]? = some (.cells #[.int .i64 x, .int .i64 y] 49 (0, 0))) 5 (by kernel_rfl) (⟨HB5.out, HC5.out⟩) (fun hHeld => ?_)
       refine kSK 0 hHeld ?_
       refine kSK 1 hHeld ?_
       refine kSK 2 hHeld ?_
       refine kTK (v := ?_) 3 [] hHeld ?y4 ?_
       case y4 => (intro W hSw; obtain ⟨y0, _⟩ := (HA.out _ hSw.1).cells; obtain ⟨p0, p1, _⟩ := row2 hSw.2; go_simp; try with_reducible rfl)
       refine kTK (v := ?_) 4 [] hHeld ?y5 ?_
       case y5 => (intro W hSw; obtain ⟨y0, _⟩ := (HA.out _ hSw.1).cells; obtain ⟨p0, p1, _⟩ := row2 hSw.2; go_simp; try with_reducible rfl)
       try refine kNK ?_
       refine kPK 5 fun KQ hKQ => ?_
       go_simp
       go_at_call 59
       refine (scr_move sp F S ⟨x, y⟩ _ (HA.out _ HB5.out).scr).mono ?_
       rintro e w6 ⟨rfl, ht⟩
       have HT := Lib.hid ht
       clear ht
       go_wp2_with fail
       refine hKQ.out _ _ ?_
       clear hKQ KQ
       try refine kNK ?_
       refine wpAnyK_done (by kernel_rfl) ?_ _
       refine NoPanic.normal ?_
       go_wp2_with fail
       all_goals (
        go_end0
        exact ⟨rfl, ScrTo.after HB5.out HT.out⟩)
   · have hz1 : w.heap.size ≤ w1.heap.size := HZ1.out
     have HB4 : Hid (Below w.heap.size w (((w3.setCell ⟨w1.heap.size + 1, 0, none⟩ (.int .i64 x)).setCell ⟨w1.heap.size + 1, 1, none⟩ (.int .i64 y)))) := (HB33.out.setCell (p := ⟨w1.heap.size + 1, 0, none⟩) (by show w.heap.size ≤ w1.heap.size + 1; omega) _).setCell (p := ⟨w1.heap.size + 1, 1, none⟩) (by show w.heap.size ≤ w1.heap.size + 1; omega) _
     have HCC : Hid ((((w3.setCell ⟨w1.heap.size + 1, 0, none⟩ (.int .i64 x)).setCell ⟨w1.heap.size + 1, 1, none⟩ (.int .i64 y))).heap[w1.heap.size + 1]? = some (.cells #[.int .i64 x, .int .i64 y] 49 (0, 0))) := set_two HC9.out _ _
     clear HB33 HC1 HX2 HB2 HB3 HR2
     clear l0 l1 n0 n1 HC9 hz1
     generalize (((w3.setCell ⟨w1.heap.size + 1, 0, none⟩ (.int .i64 x)).setCell ⟨w1.heap.size + 1, 1, none⟩ (.int .i64 y))) = W4 at *
     generalize w1.heap.size + 1 = cb at *
     obtain ⟨k0, k1, _⟩ := row2 HCC.out
     cases bo
     · go_wp2_with fail
       all_goals (
        go_end0
        exact ⟨rfl, ScrTo.after HB4.out (ScrTo.refl (HA.out _ HB4.out).scr)⟩)
     · go_upto_region 5 with fail
       have HB5 := Lib.hid HB4.out.drew
       have HC5 : Hid (W4.drew.heap[cb]? = some (.cells #[.int .i64 x, .int .i64 y] 49 (0, 0))) := HCC.out
       clear k0 k1 HB4 HCC
       refine wp_region_noPanic ?_
       refine wp_region_k (S := fun W : World => Below w.heap.size w W ∧ W.heap[cb]? = some (.cells #[.int .i64 x, .int .i64 y] 49 (0, 0))) 5 (by kernel_rfl) (⟨HB5.out, HC5.out⟩) (fun hHeld => ?_)
       refine kSK 0 hHeld ?_
       refine kSK 1 hHeld ?_
       refine kSK 2 hHeld ?_
       refine kTK (v := ?_) 3 [] hHeld ?y4 ?_
       case y4 => (intro W hSw; obtain ⟨y0, _⟩ := (HA.out _ hSw.1).cells; obtain ⟨p0, p1, _⟩ := row2 hSw.2; go_simp; try with_reducible rfl)
       refine kTK (v := ?_) 4 [] hHeld ?y5 ?_
       case y5 => (intro W hSw; obtain ⟨y0, _⟩ := (HA.out _ hSw.1).cells; obtain ⟨p0, p1, _⟩ := row2 hSw.2; go_simp; try with_reducible rfl)
       try refine kNK ?_
       refine kPK 5 fun KQ hKQ => ?_
       go_simp
       go_at_call 59
       refine (scr_move sp F S ⟨x, y⟩ _ (HA.out _ HB5.out).scr).mono ?_
       rintro e w6 ⟨rfl, ht⟩
       have HT := Lib.hid ht
       clear ht
       go_wp2_with fail
       refine hKQ.out _ _ ?_
       clear hKQ KQ
       try refine kNK ?_
       refine wpAnyK_done (by kernel_rfl) ?_ _
       refine NoPanic.normal ?_
       go_wp2_with fail
       all_goals (
        go_end0
        exact ⟨rfl, ScrTo.after HB5.out HT.out⟩)
theorem pushW_eq (A : Wy) (l : List UInt8) : pushW A l = { A with q := pushQ A.most A.q l, over := pushO A.most A.q l A.over } := by
 unfold pushW pushQ pushO
 split <;> rfl
theorem wground_9 {w : World} {tp sp qp : Nat} {A : Wy} {F : Nat → Prop} {S : Vz.Sr} (h : Wys w tp sp qp A F S) : Calls Tryz.prog 54 #[.pointer (some ⟨tp, 0, none⟩), .int .u8 9] w fun e w' => e = .returned (.bool false) ∧ ScrTo w w' sp F (if A.pr = true then ftabS S else tabS S 1) := by
 have HC := Lib.hid (wys_tab h)
 generalize (if A.pr = true then ftabS S else tabS S 1) = S' at *
 clear h
 go_enter Tryz.func54, Tryz.ntmps54
 go_wp2_with (go_at_call 88; refine HC.out.mono ?_; rintro e w1 ⟨rfl, ht⟩; have HT := Lib.hid ht; clear ht)
 go_ret
 exact ⟨rfl, HT.out⟩
theorem wground_5 {w : World} {tp sp qp lb fr : Nat} {A : Wy} (h : w.heap[tp]? = some (.cells (wyB sp qp A) 75 (0, 0))) (hq : QueAt w qp lb fr A.most A.q A.over) : Calls Tryz.prog 54 #[.pointer (some ⟨tp, 0, none⟩), .int .u8 5] w fun e w' => e = .returned (.bool false) ∧ QueTo w w' qp lb A.most (pushQ A.most A.q [87, 89, 54, 48, 13]) (pushO A.most A.q [87, 89, 54, 48, 13] A.over) := by
 obtain ⟨t0, t1, _⟩ := row10 h
 have hb := below1 w (.cells #[.string ⟨[87, 89, 54, 48, 13].toArray⟩] 9)
 have hl := hq.lt
 have HP := Lib.hid (que_push qp lb fr A.most A.q A.over w.heap.size [87, 89, 54, 48, 13] _ (hq.below hb) (heap_alloc_new w _) (by omega) (by omega) (by decide))
 have HB := Lib.hid hb
 clear h hq hb
 go_enter Tryz.func54, Tryz.ntmps54
 go_wp2_with (go_at_call 86; refine HP.out.mono ?_; rintro e w1 ⟨rfl, ht⟩; have HT := Lib.hid (QueTo.after HB.out ht); clear ht)
 go_ret
 exact ⟨rfl, HT.out⟩
theorem wground_put {w : World} {tp sp qp : Nat} {A : Wy} {F : Nat → Prop} {S : Vz.Sr} (h : Wys w tp sp qp A F S) (b : Nat) (hb : 32 ≤ b ∧ b ≤ 126) : Calls Tryz.prog 54 #[.pointer (some ⟨tp, 0, none⟩), .int .u8 b] w fun e w' => e = .returned (.bool false) ∧ ScrTo w w' sp F (putAny (if A.ins = true then charsS S 1 Vz.Cl.blank A.pr else S) ⟨setG A.gr b, A.attr, A.gd, 0⟩ A.pr) := by
 have HA := Lib.hid (fun W (hb : Below w.heap.size w W) => h.below hb)
 have HG : Hid (∀ W : World, Calls Tryz.prog 92 #[.int .i64 (if A.gr = true then 4 else 1), .int .u8 b] W fun e w' => e = .returned (.int .i32 (setG A.gr b)) ∧ Below W.heap.size W w') := fun W => by
  cases A.gr
  · exact glyph_of of_plain b (by omega) W
  · exact glyph_of of_wyse b (by omega) W
 obtain ⟨t0, t1, t2, t3, t4, _⟩ := h.cells
 have e5 : ((b : Int) == 5) = false := by simp; omega
 have e8 : ((b : Int) == 8) = false := by simp; omega
 have e9 : ((b : Int) == 9) = false := by simp; omega
 have e11 : ((b : Int) == 11) = false := by simp; omega
 have e12 : ((b : Int) == 12) = false := by simp; omega
 have e13 : ((b : Int) == 13) = false := by simp; omega
 have e26 : ((b : Int) == 26) = false := by simp; omega
 have e30 : ((b : Int) == 30) = false := by simp; omega
 have e10 : ((b : Int) == 10) = false := by simp; omega
 have z1 : (32 : Int) ≤ (b : Int) := by omega
 have z2 : (b : Int) ≤ 126 := by omega
 have HB : Hid (Below w.heap.size w w.drew) := (Below.refl _ _).drew
 have HP : Hid (∀ W : World, Below w.heap.size w W → Calls Tryz.prog 91 #[.pointer (some ⟨tp, 0, none⟩), .agg #[.int .i32 (setG A.gr b), .int .i64 A.attr, .bool false, .int .i64 0]] W fun e w' => e = .returned (.tuple #[]) ∧ ScrTo W w' sp F (putAny (if A.ins = true then charsS S 1 Vz.Cl.blank A.pr else S) ⟨setG A.gr b, A.attr, A.gd, 0⟩ A.pr)) := fun W hb => wys_put (h.below hb) (setG A.gr b) A.attr 0
 generalize putAny (if A.ins = true then charsS S 1 Vz.Cl.blank A.pr else S) ⟨setG A.gr b, A.attr, A.gd, 0⟩ A.pr = S' at *
 generalize hgl : setG A.gr b = gl at *
 clear h hb hgl
 cases hgr : A.gr
 all_goals (
  rw [hgr] at t4 HG
  go_enter Tryz.func54, Tryz.ntmps54
  go_upto_region 7 with fail
  clear t0 t1 t2 t3 t4
  refine wp_region_noPanic ?_
  refine wp_region_k (S := fun W : World => Below w.heap.size w W) 9 (by kernel_rfl) (HB.out) (fun hHeld => ?_)
  refine kSK 0 hHeld ?_
  refine kSK 1 hHeld ?_
  refine kSK 2 hHeld ?_
  refine kSK 4 hHeld ?_
  refine kSK 5 hHeld ?_
  try refine kNK ?_
  refine kSK 6 hHeld ?_
  refine kTK (v := ?_) 7 [8] hHeld ?y7 ?_
  case y7 => (intro W hSw; obtain ⟨y0, y1, y2, y3, y4, y5, y6, y7, _⟩ := (HA.out _ hSw).cells; go_simp; try with_reducible rfl)
  try refine kNK ?_
  refine kOK 3 fun KQ hKQ => ?_
  go_simp
  go_at_call 92
  refine (HG.out _).mono ?_
  rintro e w1 ⟨rfl, hb1⟩
  have HB1 := Lib.hid (Below.later hHeld hb1 hHeld.size)
  clear hb1
  go_wp2_with fail
  refine hKQ.out _ _ (HB1.out) ?_
  clear hHeld hKQ KQ
  intro hHeld
  try refine kNK ?_
  refine kSK 8 hHeld ?_
  try refine kNK ?_
  refine kPK 9 fun KQ hKQ => ?_
  go_simp
  go_at_call 91
  refine (HP.out _ HB1.out).mono ?_
  rintro e w2 ⟨rfl, ht⟩
  have HT := Lib.hid ht
  clear ht
  go_wp2_with fail
  refine hKQ.out _ _ ?_
  clear hKQ KQ
  try refine kNK ?_
  refine wpAnyK_done (by kernel_rfl) ?_ _
  refine NoPanic.normal ?_
  go_wp2_with fail
  go_ret
  exact ⟨rfl, ScrTo.after HB1.out HT.out⟩)
theorem wground_none (tp b : Nat) (w : World) (hb : b < 32 ∨ 126 < b) (hn : b ≠ 5 ∧ b ≠ 8 ∧ b ≠ 9 ∧ b ≠ 11 ∧ b ≠ 12 ∧ b ≠ 13 ∧ b ≠ 26 ∧ b ≠ 30 ∧ b ≠ 10) : Calls Tryz.prog 54 #[.pointer (some ⟨tp, 0, none⟩), .int .u8 b] w fun e w' => e = .returned (.bool false) ∧ w = w' := by
 have e5 : ((b : Int) == 5) = false := by simp; omega
 have e8 : ((b : Int) == 8) = false := by simp; omega
 have e9 : ((b : Int) == 9) = false := by simp; omega
 have e11 : ((b : Int) == 11) = false := by simp; omega
 have e12 : ((b : Int) == 12) = false := by simp; omega
 have e13 : ((b : Int) == 13) = false := by simp; omega
 have e26 : ((b : Int) == 26) = false := by simp; omega
 have e30 : ((b : Int) == 30) = false := by simp; omega
 have e10 : ((b : Int) == 10) = false := by simp; omega
 clear hn
 by_cases h1 : b < 32
 · have z1 : ¬ (32 : Int) ≤ (b : Int) := by omega
   clear hb h1
   go_enter Tryz.func54, Tryz.ntmps54
   go_wp2_with fail
   go_ret
   exact ⟨rfl, rfl⟩
 · have z1 : (32 : Int) ≤ (b : Int) := by omega
   have z2 : ¬ (b : Int) ≤ 126 := by omega
   clear hb h1
   go_enter Tryz.func54, Tryz.ntmps54
   go_wp2_with fail
   go_ret
   exact ⟨rfl, rfl⟩
end
section
theorem WyAt.wys {w : World} {tp sp qp lb fr : Nat} {F : Nat → Prop} {A : Wy} (h : WyAt w tp sp qp lb fr F A) : Wys w tp sp qp A F A.S := ⟨h.box, h.scr, h.ntp⟩
theorem wys_ground {w : World} {tp sp qp lb fr : Nat} {F FT : Nat → Prop} {A : Wy} (h : WyAt w tp sp qp lb fr F A) (hF : ∀ k, FT k ↔ footY tp qp lb F k) (b : Nat) : Calls Tryz.prog 54 #[.pointer (some ⟨tp, 0, none⟩), .int .u8 b] w fun e w' => e = .returned (.bool (groundW A b).2) ∧ WTermTo w w' tp sp qp FT (groundW A b).1 := by
 unfold groundW
 by_cases h5 : b = 5
 · subst h5
   rw [if_pos rfl]
   rw [pushW_eq]
   exact (wground_5 h.box h.que).mono fun e w' h' => ⟨h'.1, WTerm.queTo h hF h'.2⟩
 rw [if_neg h5]
 by_cases h8 : b = 8
 · subst h8
   rw [if_pos rfl]
   exact (wground_8 h.wys).mono fun e w' h' => ⟨h'.1, WTerm.scrTo h hF h'.2⟩
 rw [if_neg h8]
 by_cases h9 : b = 9
 · subst h9
   rw [if_pos rfl]
   exact (wground_9 h.wys).mono fun e w' h' => ⟨h'.1, WTerm.scrTo h hF h'.2⟩
 rw [if_neg h9]
 by_cases h10 : b = 10
 · subst h10
   rw [if_pos rfl]
   exact (wground_10 h.wys).mono fun e w' h' => ⟨h'.1, WTerm.scrTo h hF h'.2⟩
 rw [if_neg h10]
 by_cases h11 : b = 11
 · subst h11
   rw [if_pos rfl]
   exact (wground_11 h.wys).mono fun e w' h' => ⟨h'.1, WTerm.scrTo h hF h'.2⟩
 rw [if_neg h11]
 by_cases h12 : b = 12
 · subst h12
   rw [if_pos rfl]
   exact (wground_12 h.wys).mono fun e w' h' => ⟨h'.1, WTerm.scrTo h hF h'.2⟩
 rw [if_neg h12]
 by_cases h13 : b = 13
 · subst h13
   rw [if_pos rfl]
   exact (wground_13 h.wys).mono fun e w' h' => ⟨h'.1, WTerm.scrTo h hF h'.2⟩
 rw [if_neg h13]
 by_cases h26 : b = 26
 · subst h26
   rw [if_pos rfl]
   exact (wground_26 h.wys).mono fun e w' h' => ⟨h'.1, WTerm.scrTo h hF h'.2⟩
 rw [if_neg h26]
 by_cases h30 : b = 30
 · subst h30
   rw [if_pos rfl]
   exact (wground_30 h.wys).mono fun e w' h' => ⟨h'.1, WTerm.scrTo h hF h'.2⟩
 rw [if_neg h30]
 by_cases hs : 32 ≤ b ∧ b ≤ 126
 · rw [if_pos hs]
   exact (wground_put h.wys b hs).mono fun e w' h' => ⟨h'.1, WTerm.scrTo h hF h'.2⟩
 rw [if_neg hs]
 exact (wground_none tp b w (by omega) ⟨h5, h8, h9, h11, h12, h13, h26, h30, h10⟩).mono fun e w' h' => ⟨h'.1, h'.2 ▸ WTermTo.refl ⟨lb, fr, F, h, hF⟩⟩
end
end Go.Proofs.YteoeooijpjehpaaGreatDoor
