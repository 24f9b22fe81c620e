import Derived.Test.YtmgeghoalmonoaaGreatDoorRemN

/- Walks: a list of items: take. -/
namespace Go.Proofs.YtmgeghoalmonoaaGreatDoor
open Go.RowKit
set_option linter.unusedSimpArgs false
set_option linter.unusedVariables false
set_option maxRecDepth 100000
attribute [local go_sem] alloc_drewN setCell_drewN World.cell?_alloc_some frozen_alloc_some

abbrev It := Bool × Int × ByteArray
def itV (x : It) : Value := .agg #[.bool x.1, .int .i64 x.2.1, .string x.2.2]
def itZ : It := (false, 0, ⟨#[]⟩)
def rowI (L : List It) : List Value := L.flatMap fun x => [.bool x.1, .int .i64 x.2.1, .string x.2.2]
theorem rowI_len (L : List It) : (rowI L).length = L.length * 3 := by
  induction L with
  | nil => rfl
  | cons x l ih => simp only [rowI, List.flatMap_cons, List.length_append, List.length_cons, List.length_nil] at ih ⊢; omega
/-- A list in memory: what is not taken off lies behind o. -/
def LstV (W : World) (lb N : Nat) (L : List It) : Prop :=
  ∃ a cap, W.heap[lb]? = some (.cells #[.slice a L.length cap] 231 (0, 0)) ∧ L.length ≤ cap ∧
    (L = [] ∨ ∃ g o cur, a = some ⟨g, o, none⟩ ∧ g < N ∧ W.heap[g]? = some (.cells cur 191 (0, 0)) ∧ (cur.toList.drop o).take (L.length * 3) = rowI L)
theorem LstV.below {W W' : World} {lb N : Nat} {L : List It} (h : LstV W lb N L) (hb : Below W.heap.size W W') : LstV W' lb N L := by
  obtain ⟨a, cap, h1, h2, h3⟩ := h
  refine ⟨a, cap, (hb.block _ (block_lt h1)).trans h1, h2, h3.imp id ?_⟩
  rintro ⟨g, o, cur, e, hgN, hg, hr⟩
  exact ⟨g, o, cur, e, hgN, (hb.block _ (block_lt hg)).trans hg, hr⟩
theorem LstV.lt {W : World} {lb N : Nat} {L : List It} (h : LstV W lb N L) : lb < W.heap.size := by
  obtain ⟨a, cap, h1, _⟩ := h
  exact block_lt h1
theorem rowI_first {cur : Array Value} {o : Nat} {x : It} {L : List It} (h : (cur.toList.drop o).take ((L.length + 1) * 3) = rowI (x :: L)) :
    (cur[o]? = some (.bool x.1) ∧ cur[o + 1]? = some (.int .i64 x.2.1) ∧ cur[o + 2]? = some (.string x.2.2)) ∧ (cur.toList.drop (o + 3)).take (L.length * 3) = rowI L := by
  have key : ∀ i, i < 3 → cur[o + i]? = ([Value.bool x.1, .int .i64 x.2.1, .string x.2.2] : List Value)[i]? := fun i hi => by
    have e1 : ((cur.toList.drop o).take ((L.length + 1) * 3))[i]? = cur[o + i]? := by
      rw [List.getElem?_take_of_lt (by omega), List.getElem?_drop, Array.getElem?_toList]
    rw [← e1, h]
    show (([Value.bool x.1, .int .i64 x.2.1, .string x.2.2] : List Value) ++ rowI L)[i]? = _
    rw [List.getElem?_append_left hi]
  refine ⟨⟨key 0 (by omega), key 1 (by omega), key 2 (by omega)⟩, ?_⟩
  have e2 : rowI L = (rowI (x :: L)).drop 3 := rfl
  rw [e2, ← h, List.drop_take, List.drop_drop]
  congr 1
  omega
/-- The box of what is taken: behind the answer's. -/
def TwoB (w W : World) : Prop := Below w.heap.size w W ∧ W.heap[w.heap.size]? = some (.cells #[.bool false, .int .i64 0, .string ⟨#[]⟩] 191 (0, 0)) ∧ W.heap[w.heap.size + 1]? = some (.cells #[.bool false, .int .i64 0, .string ⟨#[]⟩] 191 (0, 0))
theorem TwoB.new (w : World) : TwoB w ((w.alloc (.cells #[.bool false, .int .i64 0, .string ⟨#[]⟩] 191)).alloc (.cells #[.bool false, .int .i64 0, .string ⟨#[]⟩] 191)) := by
  refine ⟨(below1 _ _).alloc (by simp) _, ?_, ?_⟩
  · exact (Below.heap_alloc _ _ _ (by rw [World.size_alloc]; omega)).trans (heap_alloc_new _ _)
  · have := heap_alloc_new (w.alloc (.cells #[.bool false, .int .i64 0, .string ⟨#[]⟩] 191)) (.cells #[.bool false, .int .i64 0, .string ⟨#[]⟩] 191)
    rwa [World.size_alloc] at this
theorem row3c {W : World} {k : Nat} {a b c : Value} {t : TypeId} (h : W.heap[k]? = some (.cells #[a, b, c] t (0, 0))) : (W.cell? ⟨k, 0, none⟩ = some a ∧ W.cell? ⟨k, 1, none⟩ = some b ∧ W.cell? ⟨k, 2, none⟩ = some c) ∧ W.frozen? ⟨k, 0, none⟩ = false ∧ W.frozen? ⟨k, 1, none⟩ = false ∧ W.frozen? ⟨k, 2, none⟩ = false :=
  ⟨⟨cell_row h 0, cell_row h 1, cell_row h 2⟩, frozen_row h 0, frozen_row h 1, frozen_row h 2⟩
set_option maxHeartbeats 4000000 in
theorem take_no (lb N : Nat) (w : World) (h : LstV w lb N []) : Calls Tryz.prog 113 #[.pointer (some ⟨lb, 0, none⟩)] w fun e w' => e = .returned (.tuple #[itV itZ, .bool false]) ∧ Below w.heap.size w w' := by
  obtain ⟨a, cap, h1, h2, -⟩ := h
  have HT : Hid (TwoB w _) := TwoB.new w
  obtain ⟨W0, hW0⟩ : ∃ W, ((w.alloc (.cells #[.bool false, .int .i64 0, .string ⟨#[]⟩] 191)).alloc (.cells #[.bool false, .int .i64 0, .string ⟨#[]⟩] 191)) = W := ⟨_, rfl⟩
  rw [hW0] at HT
  have HL := cell_row ((HT.out.1.block _ (block_lt h1)).trans h1) 0
  simp only [List.length_nil] at HL
  go_enter Tryz.func113, Tryz.ntmps113
  go_upto_region 2 with fail
  try rw [hW0]
  clear hW0 h1
  obtain ⟨⟨x0, x1, x2⟩, g0, g1, g2⟩ := row3c HT.out.2.1
  obtain ⟨⟨y0, y1, y2⟩, k0, k1, k2⟩ := row3c HT.out.2.2
  have hz := heap_set_same (heap_set_same (heap_set_same HT.out.2.1 0 (.bool false)) 1 (.int .i64 0)) 2 (.string ⟨#[]⟩)
  have hbe : Below w.heap.size w (((W0.setCell ⟨w.heap.size, 0, none⟩ (.bool false)).setCell ⟨w.heap.size, 1, none⟩ (.int .i64 0)).setCell ⟨w.heap.size, 2, none⟩ (.string ⟨#[]⟩)) := ((HT.out.1.setCell (p := ⟨w.heap.size, 0, none⟩) (Nat.le_refl _) _).setCell (p := ⟨w.heap.size, 1, none⟩) (Nat.le_refl _) _).setCell (p := ⟨w.heap.size, 2, none⟩) (Nat.le_refl _) _
  obtain ⟨WZ, hWZ⟩ : ∃ W, W = (((W0.setCell ⟨w.heap.size, 0, none⟩ (.bool false)).setCell ⟨w.heap.size, 1, none⟩ (.int .i64 0)).setCell ⟨w.heap.size, 2, none⟩ (.string ⟨#[]⟩)) := ⟨_, rfl⟩
  rw [← hWZ] at hz hbe
  obtain ⟨⟨z0, z1, z2⟩, -⟩ := row3c hz
  have HBE := Lib.hid hbe
  clear hz hbe
  go_wp2_with fail
  refine bodyPost_ret (v := .tuple #[itV itZ, .bool false]) (by rw [← hWZ]; simp [itV, itZ, results, Tryz.results113, go_sem, z0, z1, z2]) rfl ?_
  rw [← hWZ]
  exact ⟨rfl, HBE.out⟩
set_option maxHeartbeats 8000000 in
theorem take_ok (lb N : Nat) (x : It) (L : List It) (w : World) (h : LstV w lb N (x :: L)) (hsm : L.length ≤ 1000) : Calls Tryz.prog 113 #[.pointer (some ⟨lb, 0, none⟩)] w fun e w' => e = .returned (.tuple #[itV x, .bool true]) ∧ LstV w' lb N L ∧ Keeps (fun k => k = lb) w w' := by
  obtain ⟨a, cap, h1, h2, h3⟩ := h
  obtain ⟨g, o, cur, rfl, hgN, hg, hr⟩ := h3.resolve_left (by simp)
  obtain ⟨⟨r0, r1, r2⟩, hr'⟩ := rowI_first hr
  clear hr h3
  have HT : Hid (TwoB w _) := TwoB.new w
  obtain ⟨W0, hW0⟩ : ∃ W, ((w.alloc (.cells #[.bool false, .int .i64 0, .string ⟨#[]⟩] 191)).alloc (.cells #[.bool false, .int .i64 0, .string ⟨#[]⟩] 191)) = W := ⟨_, rfl⟩
  rw [hW0] at HT
  have HBX : Hid (W0.heap[lb]? = some (.cells #[.slice (some ⟨g, o, none⟩) (L.length + 1) cap] 231 (0, 0))) := (HT.out.1.block _ (block_lt h1)).trans h1
  have HG : Hid (W0.heap[g]? = some (.cells cur 191 (0, 0))) := (HT.out.1.block _ (block_lt hg)).trans hg
  have hlt1 := block_lt h1
  have hlt2 := block_lt hg
  have HCUR : Hid (∀ W : World, W.heap[g]? = some (.cells cur 191 (0, 0)) → W.cell? ⟨g, o, none⟩ = some (.bool x.1) ∧ W.cell? ⟨g, o + 1, none⟩ = some (.int .i64 x.2.1) ∧ W.cell? ⟨g, o + 2, none⟩ = some (.string x.2.2)) := fun W hW => ⟨(cell_row hW o).trans r0, (cell_row hW (o + 1)).trans r1, (cell_row hW (o + 2)).trans r2⟩
  clear r0 r1 r2 h1 hg
  have hn0 : ¬ ((L.length + 1 : Nat) : Int) = 0 := by omega
  have hn1 : (1 : Int) ≤ ((L.length + 1 : Nat) : Int) := by omega
  have hn2 : (0 : Int) < ((L.length + 1 : Nat) : Int) := by omega
  have hn3 : L.length + 1 ≤ cap := h2
  obtain ⟨nn, hnn⟩ : ∃ nn, nn = L.length + 1 := ⟨_, rfl⟩
  rw [← hnn] at hn0 hn1 hn2 hn3 HBX
  have hn4 : 0 < nn := by omega
  have hn5 : 1 ≤ nn := hn4
  have HNN := Lib.hid hnn
  clear hnn
  have c0 := cell_row HBX.out 0
  have hff : W0.frozen? ⟨lb, 0, none⟩ = false := frozen_row HBX.out 0
  go_enter Tryz.func113, Tryz.ntmps113
  go_upto_region 2 with fail
  try rw [hW0]
  clear hW0
  go_upto_region 4 with fail
  clear c0 hff
  have hne1 : lb ≠ w.heap.size + 1 := by omega
  have hne2 : g ≠ w.heap.size + 1 := by omega
  have HS0 : Hid (W0.heap[lb]? = some (.cells #[.slice (some ⟨g, o, none⟩) nn cap] 231 (0, 0)) ∧ W0.heap[g]? = some (.cells cur 191 (0, 0))) := ⟨HBX.out, HG.out⟩
  have HSK : Hid (∀ W : World, ∀ v0 v1 v2, (W.heap[lb]? = some (.cells #[.slice (some ⟨g, o, none⟩) nn cap] 231 (0, 0)) ∧ W.heap[g]? = some (.cells cur 191 (0, 0))) → ((((W.setCell ⟨w.heap.size + 1, 0, none⟩ v0).setCell ⟨w.heap.size + 1, 1, none⟩ v1).setCell ⟨w.heap.size + 1, 2, none⟩ v2).heap[lb]? = some (.cells #[.slice (some ⟨g, o, none⟩) nn cap] 231 (0, 0)) ∧ (((W.setCell ⟨w.heap.size + 1, 0, none⟩ v0).setCell ⟨w.heap.size + 1, 1, none⟩ v1).setCell ⟨w.heap.size + 1, 2, none⟩ v2).heap[g]? = some (.cells cur 191 (0, 0)))) := by
    rintro W v0 v1 v2 ⟨a1, a2⟩
    exact ⟨(heap_setCell_other _ _ _ _ hne1).trans ((heap_setCell_other _ _ _ _ hne1).trans ((heap_setCell_other _ _ _ _ hne1).trans a1)), (heap_setCell_other _ _ _ _ hne2).trans ((heap_setCell_other _ _ _ _ hne2).trans ((heap_setCell_other _ _ _ _ hne2).trans a2))⟩
  obtain ⟨WA, hWA⟩ : ∃ W, W = W0.drew := ⟨_, rfl⟩
  have HSA : Hid (WA.heap[lb]? = some (.cells #[.slice (some ⟨g, o, none⟩) nn cap] 231 (0, 0)) ∧ WA.heap[g]? = some (.cells cur 191 (0, 0))) := by show _ ∧ _; rw [hWA]; exact HS0.out
  have HTA : Hid (Below w.heap.size w WA ∧ WA.heap[w.heap.size]? = some (.cells #[.bool false, .int .i64 0, .string ⟨#[]⟩] 191 (0, 0)) ∧ Keeps (fun k => k = lb) w WA) := by show _ ∧ _; rw [hWA]; exact ⟨HT.out.1.drew, HT.out.2.1, Keeps.of_below HT.out.1.drew⟩
  have HXA : Hid (WA.heap[w.heap.size + 1]? = some (.cells #[.bool false, .int .i64 0, .string ⟨#[]⟩] 191 (0, 0))) := by show _ = _; rw [hWA]; exact HT.out.2.2
  refine wp_region_noPanic ?_
  refine wp_region_k (S := fun W : World => (W.heap[lb]? = some (.cells #[.slice (some ⟨g, o, none⟩) nn cap] 231 (0, 0)) ∧ W.heap[g]? = some (.cells cur 191 (0, 0)))) 15 (by kernel_rfl) (HS0.out) (fun hHeld => ?_)
  refine kSK 0 hHeld ?_
  refine kSK 1 hHeld ?_
  refine kSK 2 hHeld ?_
  refine kSK 3 hHeld ?_
  refine kTK (v := ?_) 4 [] hHeld ?y5 ?_
  case y5 => (intro W hSw; have c0 := cell_row hSw.1 0; obtain ⟨r0, r1, r2⟩ := HCUR.out _ hSw.2; go_simp; try with_reducible rfl)
  try refine kNK ?_
  refine kSK 5 hHeld ?_
  refine kTK (v := ?_) 6 [] hHeld ?y7 ?_
  case y7 => (intro W hSw; have c0 := cell_row hSw.1 0; obtain ⟨r0, r1, r2⟩ := HCUR.out _ hSw.2; go_simp; try with_reducible rfl)
  refine kSK 7 hHeld ?_
  refine kSK 8 hHeld ?_
  refine kSK 9 hHeld ?_
  try refine kNK ?_
  refine kTK (v := ?_) 10 [] hHeld ?y11 ?_
  case y11 => (intro W hSw; have c0 := cell_row hSw.1 0; obtain ⟨r0, r1, r2⟩ := HCUR.out _ hSw.2; go_simp; try with_reducible rfl)
  refine kSK 11 hHeld ?_
  try refine kNK ?_
  refine kOK 12 fun KQ hKQ => ?_
  rw [← hWA]
  rw [← hWA] at hHeld
  obtain ⟨⟨y0, y1, y2⟩, k0, k1, k2⟩ := row3c HXA.out
  clear hWA
  go_simp
  refine hKQ.out _ _ (HSK.out _ _ _ _ hHeld) ?_
  clear hHeld hKQ KQ
  intro hHeld
  try refine kNK ?_
  refine kSK 13 hHeld ?_
  refine kSK 14 hHeld ?_
  try refine kNK ?_
  refine kPK 15 fun KQ hKQ => ?_
  go_simp
  have c0 := cell_row HSA.out.1 0
  have hff := frozen_row HSA.out.1 0
  go_simp
  refine hKQ.out _ _ ?_
  clear hKQ KQ
  try refine kNK ?_
  refine wpAnyK_done (by kernel_rfl) ?_ _
  refine NoPanic.normal ?_
  have hz1 := heap_set_same (heap_set_same (heap_set_same HXA.out 0 (.bool x.1)) 1 (.int .i64 x.2.1)) 2 (.string x.2.2)
  have hkp := HSK.out WA (.bool x.1) (.int .i64 x.2.1) (.string x.2.2) HSA.out
  have hne3 : w.heap.size ≠ w.heap.size + 1 := by omega
  have hzz : (((WA.setCell ⟨w.heap.size + 1, 0, none⟩ (.bool x.1)).setCell ⟨w.heap.size + 1, 1, none⟩ (.int .i64 x.2.1)).setCell ⟨w.heap.size + 1, 2, none⟩ (.string x.2.2)).heap[w.heap.size]? = some (.cells #[.bool false, .int .i64 0, .string ⟨#[]⟩] 191 (0, 0)) :=
    (heap_setCell_other _ _ _ _ hne3).trans ((heap_setCell_other _ _ _ _ hne3).trans ((heap_setCell_other _ _ _ _ hne3).trans HTA.out.2.1))
  have hkk : Keeps (fun k => k = lb) w (((WA.setCell ⟨w.heap.size + 1, 0, none⟩ (.bool x.1)).setCell ⟨w.heap.size + 1, 1, none⟩ (.int .i64 x.2.1)).setCell ⟨w.heap.size + 1, 2, none⟩ (.string x.2.2)) :=
    Keeps.of_below (((HTA.out.1.setCell (p := ⟨w.heap.size + 1, 0, none⟩) (Nat.le_succ _) _).setCell (p := ⟨w.heap.size + 1, 1, none⟩) (Nat.le_succ _) _).setCell (p := ⟨w.heap.size + 1, 2, none⟩) (Nat.le_succ _) _)
  generalize ((WA.setCell ⟨w.heap.size + 1, 0, none⟩ (.bool x.1)).setCell ⟨w.heap.size + 1, 1, none⟩ (.int .i64 x.2.1)).setCell ⟨w.heap.size + 1, 2, none⟩ (.string x.2.2) = WB at *
  have HAV : Hid (nn = 1 ∨ (if cap = 1 then some (⟨g, o, none⟩ : Addr) else some ⟨g, o + 3, none⟩) = some ⟨g, o + 3, none⟩) := by
    show _ ∨ _
    by_cases hc : cap = 1
    · exact .inl (by omega)
    · exact .inr (if_neg hc)
  generalize (if cap = 1 then some (⟨g, o, none⟩ : Addr) else some ⟨g, o + 3, none⟩) = av at *
  have hb1 := heap_set_same hkp.1 0 (.slice av (nn - 1) (cap - 1))
  have hgl : g ≠ lb := by
    rintro rfl
    have e := HSA.out.1.symm.trans HSA.out.2
    injection e with e
    injection e with _ e2
    exact absurd e2 (by decide)
  have hb2 : (WB.setCell ⟨lb, 0, none⟩ (.slice av (nn - 1) (cap - 1))).heap[g]? = _ := (heap_setCell_other _ _ _ _ hgl).trans hkp.2
  have hb3 : (WB.setCell ⟨lb, 0, none⟩ (.slice av (nn - 1) (cap - 1))).heap[w.heap.size]? = _ := (heap_setCell_other _ _ _ _ (show w.heap.size ≠ lb by omega)).trans hzz
  have hb4 : (WB.setCell ⟨lb, 0, none⟩ (.slice av (nn - 1) (cap - 1))).heap[w.heap.size + 1]? = some (.cells #[.bool x.1, .int .i64 x.2.1, .string x.2.2] 191 (0, 0)) := (heap_setCell_other _ _ _ _ (show w.heap.size + 1 ≠ lb by omega)).trans hz1
  have hb5 := hkk.setCell' (p := ⟨lb, 0, none⟩) rfl (.slice av (nn - 1) (cap - 1))
  generalize WB.setCell ⟨lb, 0, none⟩ (.slice av (nn - 1) (cap - 1)) = WC at *
  have HB1 := Lib.hid hb1
  have HB2 := Lib.hid hb2
  have HB5 := Lib.hid hb5
  obtain ⟨⟨x0, x1, x2⟩, g0, g1, g2⟩ := row3c hb3
  obtain ⟨⟨y0, y1, y2⟩, k0, k1, k2⟩ := row3c hb4
  have hz := heap_set_same (heap_set_same (heap_set_same hb3 0 (.bool x.1)) 1 (.int .i64 x.2.1)) 2 (.string x.2.2)
  have HQ : Hid (∀ v0 v1 v2, ∃ W, W = (((WC.setCell ⟨w.heap.size, 0, none⟩ v0).setCell ⟨w.heap.size, 1, none⟩ v1).setCell ⟨w.heap.size, 2, none⟩ v2) ∧ LstV W lb N L ∧ Keeps (fun k => k = lb) w W) := by
    intro v0 v1 v2
    refine ⟨_, rfl, ⟨av, cap - 1, ?_, by have := HNN.out; omega, ?_⟩, ?_⟩
    · refine (heap_setCell_other _ _ _ _ (show lb ≠ w.heap.size by omega)).trans ((heap_setCell_other _ _ _ _ (show lb ≠ w.heap.size by omega)).trans ((heap_setCell_other _ _ _ _ (show lb ≠ w.heap.size by omega)).trans (HB1.out.trans ?_)))
      have : nn - 1 = L.length := by have := HNN.out; omega
      rw [this]
      rfl
    · rcases HAV.out with e | e
      · exact .inl (List.eq_nil_of_length_eq_zero (by have := HNN.out; omega))
      · exact .inr ⟨g, o + 3, cur, e, hgN, (heap_setCell_other _ _ _ _ (show g ≠ w.heap.size by omega)).trans ((heap_setCell_other _ _ _ _ (show g ≠ w.heap.size by omega)).trans ((heap_setCell_other _ _ _ _ (show g ≠ w.heap.size by omega)).trans HB2.out)), hr'⟩
    · have key : ∀ (W : World) (i : Nat) (v : Value), Keeps (fun k => k = lb) w W → Keeps (fun k => k = lb) w (W.setCell ⟨w.heap.size, i, none⟩ v) := fun W i v hk => ⟨hk.os, hk.tape, hk.output, by simp [World.setCell]; exact hk.size, fun k hlt hn => (heap_setCell_other _ _ _ _ (show k ≠ w.heap.size by omega)).trans (hk.block k hlt hn)⟩
      exact key _ _ _ (key _ _ _ (key _ _ _ HB5.out))
  obtain ⟨WZ, hWZ, hL, hK⟩ := HQ.out (.bool x.1) (.int .i64 x.2.1) (.string x.2.2)
  rw [← hWZ] at hz
  obtain ⟨⟨z0, z1, z2⟩, -⟩ := row3c hz
  have HFL := Lib.hid hL
  have HFK := Lib.hid hK
  clear hz hL hK hb1 hb2 hb3 hb4 hb5 hkp hkk hzz hz1
  go_wp2_with fail
  refine bodyPost_ret (v := .tuple #[itV x, .bool true]) (by rw [← hWZ]; simp [itV, results, Tryz.results113, go_sem, z0, z1, z2]) rfl ?_
  rw [← hWZ]
  exact ⟨rfl, HFL.out, HFK.out⟩
end Go.Proofs.YtmgeghoalmonoaaGreatDoor
