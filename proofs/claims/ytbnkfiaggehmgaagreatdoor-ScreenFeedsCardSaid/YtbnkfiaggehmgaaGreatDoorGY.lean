import Derived.Test.YtbnkfiaggehmgaaGreatDoorGW
import Derived.Test.YtbnkfiaggehmgaaGreatDoorGX
import Derived.Test.YtbnkfiaggehmgaaGreatDoorGS
import Derived.Test.YtbnkfiaggehmgaaGreatDoorGF

/- Walks: vizardref06.Of. -/
namespace Go.Proofs.YtbnkfiaggehmgaaGreatDoor
open Go.RowKit
set_option linter.unusedSimpArgs false
set_option linter.unusedVariables false
attribute [local go_sem] alloc_drewN setCell_drewN World.cell?_alloc_some frozen_alloc_some size_f0 size_f1

/-- The cells of a grid, one behind the other. -/
def flatD (D : Vz.Gd) (q : Nat) : Vz.Cl := D.X (q / D.C) (q % D.C)
theorem flatD_at (D : Vz.Gd) (i j : Nat) (hj : j < D.C) : flatD D (i * D.C + j) = D.X i j := by
  obtain ⟨e1, e2⟩ := div_at D.C i j hj
  unfold flatD
  rw [e1, e2]
theorem cellsL_add (f : Nat → Vz.Cl) (a b : Nat) : cellsL f (a + b) = cellsL f a ++ cellsL (fun j => f (a + j)) b := by
  induction b with
  | zero => simp [cellsL]
  | succ b ih => rw [show a + (b + 1) = a + b + 1 from rfl, cellsL_succ, ih, cellsL_succ, List.append_assoc]
theorem cellsL_row (D : Vz.Gd) (k : Nat) : cellsL (flatD D) ((k + 1) * D.C) = cellsL (flatD D) (k * D.C) ++ cellsL (D.X k) D.C := by
  rw [Nat.succ_mul, cellsL_add]
  congr 1
  exact cellsL_congr _ _ _ fun j hj => flatD_at D k j hj
/-- Block g is a grid of the document's answer. -/
structure RefG (W : World) (g LB cap : Nat) (D : Vz.Gd) : Prop where
  box : W.heap[g]? = some (.cells #[.int .i64 D.R, .int .i64 D.C, .slice (some ⟨LB, 0, none⟩) (D.R * D.C) cap] 90 (0, 0))
  own : W.ownsRow LB 24 4 (.slice (some ⟨LB, 0, none⟩) (D.R * D.C) cap) (D.R * D.C) (cellsL (flatD D) (D.R * D.C))
  ne : g ≠ LB
theorem RefG.below {W W' : World} {g LB cap : Nat} {D : Vz.Gd} (h : RefG W g LB cap D) (hb : Below W.heap.size W W') : RefG W' g LB cap D :=
  ⟨(hb.block _ (block_lt h.box)).trans h.box, own_block h.own (hb.block _ (own_lt h.own)), h.ne⟩
theorem RefG.cells {W : World} {g LB cap : Nat} {D : Vz.Gd} (h : RefG W g LB cap D) {q : Nat} (hq : q < D.R * D.C) : W.cell? ⟨LB, q * 4, none⟩ = some (.int .i32 (flatD D q).g) ∧ W.cell? ⟨LB, q * 4 + 1, none⟩ = some (.int .i64 (flatD D q).a) ∧ W.cell? ⟨LB, q * 4 + 2, none⟩ = some (.bool (flatD D q).gd) ∧ W.cell? ⟨LB, q * 4 + 3, none⟩ = some (.int .i64 (flatD D q).m) := by
  have hr := (RowC.of_own4 h.own).congr (g := Vz.flatC (flatD D)) fun i hi => cellsL_getD _ _ _ hi
  have e : q * 4 = 4 * q := by omega
  rw [e]
  refine ⟨?_, ?_, ?_, ?_⟩
  · rw [hr.cell (by omega), Vz.flatC_0]
  · rw [hr.cell (by omega), Vz.flatC_1]
  · rw [hr.cell (by omega), Vz.flatC_2]
  · rw [hr.cell (by omega), Vz.flatC_3]
theorem row_news {W : World} {B OB : Nat} {D : Vz.Gd} {G K : Nat → Nat} (h : RowsAt B W OB D G K) {i : Nat} (hi : i < D.R) : ∀ (j : Nat) (u : Value), (cellsL (D.X i) D.C)[j]? = some u → W.cell? ((⟨G i, 0, none⟩ : Addr).add j) = some u := by
  intro j u hj
  have hlt : j < D.C * 4 := by
    have := (List.getElem?_eq_some_iff.1 hj).1
    rwa [cellsL_len] at this
  rw [add_none, Nat.zero_add, (h.row i hi).cell hlt, ← cellsL_getD _ _ _ hlt]
  simp only [List.getD, hj, Option.getD_some]
theorem own_set {W : World} {base g : Nat} {e : TypeId} {size n : Nat} {v : Value} {xs : List Value} (h : W.ownsRow base e size v n xs) (hg : g < base) (i : Nat) (u : Value) : (W.setCell ⟨g, i, none⟩ u).ownsRow base e size v n xs := by
  obtain ⟨hl, h⟩ := h
  refine ⟨hl, ?_⟩
  rcases h with h | ⟨g', cap', cur, hv, hb, hg', rest⟩
  · exact .inl h
  · exact .inr ⟨g', cap', cur, hv, hb, (heap_setCell_other _ _ _ _ (by show g' ≠ g; omega)).trans hg', rest⟩
set_option maxRecDepth 100000 in
set_option maxHeartbeats 8000000 in
theorem of_rows (B OB : Nat) (D : Vz.Gd) (G K : Nat → Nat) (w : World) (h : RowsAt B w OB D G K) (hm : D.may) :
    Calls Tryz.prog 28 #[.slice (some ⟨OB, 0, none⟩) D.R D.R] w fun e w' => ∃ LB cap, e = .returned (.pointer (some ⟨w.heap.size, 0, none⟩)) ∧ RefG w' w.heap.size LB cap D ∧ w.heap.size ≤ LB ∧ Below w.heap.size w w' := by
  obtain ⟨m1, m2, m3, m4⟩ := hm
  obtain ⟨i0, hi, hz0, hz1, hz2⟩ := info_three infoCell
  have H := Lib.hid h
  have hRC : D.R * D.C ≤ 255 * 255 := Nat.mul_le_mul m2 m4
  have HX0 : Hid ((w.alloc (.cells #[.int .i64 D.R, .int .i64 0, .slice none 0 0] 90)).heap[w.heap.size]? = some (.cells #[.int .i64 D.R, .int .i64 0, .slice none 0 0] 90 (0, 0))) := heap_alloc_new _ _
  have HB0 : Hid (Below w.heap.size w (w.alloc (.cells #[.int .i64 D.R, .int .i64 0, .slice none 0 0] 90))) := below1 _ _
  clear h
  go_enter Tryz.func28, Tryz.ntmps28
  go_wp2_with fail
  go_loopw [4] (fun i wr => ∃ (k : Nat) (c0 : Int) (v : Value), k ≤ D.R ∧ i = .int .i64 (k : Int) ∧ wr.heap[w.heap.size]? = some (.cells #[.int .i64 D.R, .int .i64 c0, v] 90 (0, 0)) ∧ (k = 0 ∨ c0 = D.C) ∧ wr.ownsRow (w.heap.size + 1) 24 4 v (k * D.C) (cellsL (flatD D) (k * D.C)) ∧ Below w.heap.size w wr) (fun i _ => D.R - (intOf i).toNat)
  case atStart => exact ⟨0, 0, _, Nat.zero_le _, rfl, HX0.out, .inl rfl, by rw [Nat.zero_mul]; exact World.ownsRow_nil _ _ _ _, HB0.out⟩
  case round =>
    obtain ⟨k, c0, v, hk, rfl, hbx, hc0, hown, hb⟩ := hrel
    by_cases hlt : k < D.R
    · have hkz : (k : Int) < (D.R : Int) := by omega
      have hwk : IntKind.i64.wrap ((k : Int) + 1) = ((k + 1 : Nat) : Int) := by rw [wrap_in (by omega) (by omega)]; rfl
      obtain ⟨b0, b1, b2, f0, f1, f2⟩ := row3 hbx
      have hA := H.out.below hb
      have hlk : wr.cell? ⟨OB, k, none⟩ = some (.slice (some ⟨G k, 0, none⟩) D.C (K k)) := hA.outer.cell hlt
      have hbx1 : (wr.setCell ⟨w.heap.size, 1, none⟩ (.int .i64 D.C)).drew.heap[w.heap.size]? = some (.cells #[.int .i64 D.R, .int .i64 D.C, v] 90 (0, 0)) := heap_set_same hbx 1 _
      have hb1 : Below w.heap.size w (wr.setCell ⟨w.heap.size, 1, none⟩ (.int .i64 D.C)).drew := (hb.setCell (p := ⟨w.heap.size, 1, none⟩) (Nat.le_refl _) _).drew
      have HS0 := Lib.hid (And.intro hbx1 hb1)
      have HOB : Hid (∀ W, Below w.heap.size w W → W.cell? ⟨OB, k, none⟩ = some (.slice (some ⟨G k, 0, none⟩) D.C (K k))) := fun W hbW => (H.out.below hbW).outer.cell hlt
      have HNW : Hid (∀ (j : Nat) (u : Value), (cellsL (D.X k) D.C)[j]? = some u → (wr.setCell ⟨w.heap.size, 1, none⟩ (.int .i64 D.C)).drew.cell? ((⟨G k, 0, none⟩ : Addr).add j) = some u) := row_news (H.out.below hb1) hlt
      have HOWN : Hid ((wr.setCell ⟨w.heap.size, 1, none⟩ (.int .i64 D.C)).drew.ownsRow (w.heap.size + 1) 24 4 v (k * D.C) (cellsL (flatD D) (k * D.C))) := own_below (own_set hown (Nat.lt_succ_self _) 1 _) (Below.refl _ _).drew
      have hsz : w.heap.size + 1 ≤ (wr.setCell ⟨w.heap.size, 1, none⟩ (.int .i64 D.C)).drew.heap.size := by rw [show (wr.setCell ⟨w.heap.size, 1, none⟩ (.int .i64 D.C)).drew.heap.size = wr.heap.size from World.size_setCell _ _ _]; exact block_lt hbx
      have hkc : k * D.C + D.C ≤ D.R * D.C := by rw [← Nat.succ_mul]; exact Nat.mul_le_mul_right D.C hlt
      have HVB : Hid (∀ j, v.ownBlock = some j → w.heap.size + 1 ≤ j) := fun j hj => (HOWN.out.lt j hj).1
      obtain ⟨nn, hnn⟩ : ∃ nn, k * D.C + D.C = nn + 1 := ⟨k * D.C + D.C - 1, by omega⟩
      clear hA hbx hown hb hbx1 hb1 hc0
      go_upto_region 6 with fail
      refine wp_region_noPanic ?_
      refine wp_region_k (S := fun W : World => W.heap[w.heap.size]? = some (.cells #[.int .i64 D.R, .int .i64 D.C, v] 90 (0, 0)) ∧ Below w.heap.size w W) 12 (by kernel_rfl) (HS0.out) (fun hHeld => ?_)
      refine wpAnyK_pure (i := 0) (v := ?_) rfl rfl (by kernel_rfl) (by kernel_rfl) (by kernel_rfl) (by kernel_rfl) (fun _ _ _ h => h) (Or.inl ⟨by rfl, ?hy1⟩) (fun _ => hHeld) ?_
      case hy1 => (intro W hSw; refine Or.inl ?_; go_simp; try with_reducible rfl)
      try simp only [Act.put, List.getElem_toArray, List.getElem_cons_zero, List.getElem_cons_succ, List.setIfInBounds_toArray, List.set_cons_zero, List.set_cons_succ]
      refine wpAnyK_pure (i := 1) (v := ?_) rfl rfl (by kernel_rfl) (by kernel_rfl) (by kernel_rfl) (by kernel_rfl) (fun _ _ _ h => h) (Or.inl ⟨by rfl, ?hy2⟩) (fun _ => hHeld) ?_
      case hy2 => (intro W hSw; refine Or.inl ?_; go_simp; try with_reducible rfl)
      try simp only [Act.put, List.getElem_toArray, List.getElem_cons_zero, List.getElem_cons_succ, List.setIfInBounds_toArray, List.set_cons_zero, List.set_cons_succ]
      refine wpAnyK_pure (i := 2) (v := ?_) rfl rfl (by kernel_rfl) (by kernel_rfl) (by kernel_rfl) (by kernel_rfl) (fun _ _ _ h => h) (Or.inl ⟨by rfl, ?hy3⟩) (fun _ => hHeld) ?_
      case hy3 => (intro W hSw; refine Or.inl ?_; go_simp; try with_reducible rfl)
      try simp only [Act.put, List.getElem_toArray, List.getElem_cons_zero, List.getElem_cons_succ, List.setIfInBounds_toArray, List.set_cons_zero, List.set_cons_succ]
      refine wpAnyK_pure (i := 3) (v := ?_) rfl rfl (by kernel_rfl) (by kernel_rfl) (by kernel_rfl) (by kernel_rfl) (fun _ _ _ h => h) (Or.inl ⟨by rfl, ?hy4⟩) (fun _ => hHeld) ?_
      case hy4 => (intro W hSw; refine Or.inl ?_; go_simp; try with_reducible rfl)
      try simp only [Act.put, List.getElem_toArray, List.getElem_cons_zero, List.getElem_cons_succ, List.setIfInBounds_toArray, List.set_cons_zero, List.set_cons_succ]
      refine wpAnyK_take (i := 4) (v := ?_) [] rfl (by kernel_rfl) rfl (by kernel_rfl) (by kernel_rfl) (by kernel_rfl) (by kernel_rfl) (fun _ _ _ h => h) (Or.inl ⟨by rfl, ?hy5⟩) hHeld ?_
      case hy5 => (intro W hSw; refine Or.inl ?_; have hlk2 := HOB.out _ hSw.2; obtain ⟨y0, y1, y2, _⟩ := row3 hSw.1; go_simp; try with_reducible rfl)
      try simp only [Act.put, List.getElem_toArray, List.getElem_cons_zero, List.getElem_cons_succ, List.setIfInBounds_toArray, List.set_cons_zero, List.set_cons_succ]
      refine wpAnyK_pure (i := 5) (v := ?_) rfl rfl (by kernel_rfl) (by kernel_rfl) (by kernel_rfl) (by kernel_rfl) (fun _ _ _ h => h) (Or.inl ⟨by rfl, ?hy6⟩) (fun _ => hHeld) ?_
      case hy6 => (intro W hSw; refine Or.inl ?_; go_simp; try with_reducible rfl)
      try simp only [Act.put, List.getElem_toArray, List.getElem_cons_zero, List.getElem_cons_succ, List.setIfInBounds_toArray, List.set_cons_zero, List.set_cons_succ]
      refine wpAnyK_pure (i := 6) (v := ?_) rfl rfl (by kernel_rfl) (by kernel_rfl) (by kernel_rfl) (by kernel_rfl) (fun _ _ _ h => h) (Or.inl ⟨by rfl, ?hy7⟩) (fun _ => hHeld) ?_
      case hy7 => (intro W hSw; refine Or.inl ?_; go_simp; try with_reducible rfl)
      try simp only [Act.put, List.getElem_toArray, List.getElem_cons_zero, List.getElem_cons_succ, List.setIfInBounds_toArray, List.set_cons_zero, List.set_cons_succ]
      refine wpAnyK_pure (i := 7) (v := ?_) rfl rfl (by kernel_rfl) (by kernel_rfl) (by kernel_rfl) (by kernel_rfl) (fun _ _ _ h => h) (Or.inl ⟨by rfl, ?hy8⟩) (fun _ => hHeld) ?_
      case hy8 => (intro W hSw; refine Or.inl ?_; go_simp; try with_reducible rfl)
      try simp only [Act.put, List.getElem_toArray, List.getElem_cons_zero, List.getElem_cons_succ, List.setIfInBounds_toArray, List.set_cons_zero, List.set_cons_succ]
      refine wpAnyK_take (i := 8) (v := ?_) [] rfl (by kernel_rfl) rfl (by kernel_rfl) (by kernel_rfl) (by kernel_rfl) (by kernel_rfl) (fun _ _ _ h => h) (Or.inl ⟨by rfl, ?hy9⟩) hHeld ?_
      case hy9 => (intro W hSw; refine Or.inl ?_; have hlk2 := HOB.out _ hSw.2; obtain ⟨y0, y1, y2, _⟩ := row3 hSw.1; go_simp; try with_reducible rfl)
      try simp only [Act.put, List.getElem_toArray, List.getElem_cons_zero, List.getElem_cons_succ, List.setIfInBounds_toArray, List.set_cons_zero, List.set_cons_succ]
      refine wpAnyK_ready (rs := [9]) (by kernel_rfl) (by simp) ?_
      refine AllReadyK.cons rfl (fun KQ hKQ => ?_) AllReadyK.nil
      rw [if_pos (by rfl)]
      refine wp_append_own _ (.tmp 27) (.tmp 31) 88 rfl (w.heap.size + 1) 24 i0 (.agg #[.int .i32 0, .int .i64 0, .bool false, .int .i64 0]) 4 32 Tryz.underlying88 hi hz0 hz1 hz2 rfl (by decide) v (k * D.C) (cellsL (flatD D) (k * D.C)) rfl HOWN.out ⟨G k, 0, none⟩ D.C (K k) (cellsL (D.X k) D.C) rfl (cellsL_len _ _) HNW.out (cellsL_one _ _) (by unfold maxLen; omega) (by omega) hsz ?_
      intro v' w5 hown5 hgrow5 _
      rw [hnn] at hown5
      obtain ⟨g', cap', rfl⟩ := own_succ hown5
      rw [← hnn] at hown5
      have HOWN5 := Lib.hid hown5
      have hx5 := (hgrow5.block _ (block_lt HS0.out.1) (fun e => by have := HVB.out _ e.symm; omega)).trans HS0.out.1
      obtain ⟨u0, u1, u2, g0, g1, g2⟩ := row3 hx5
      have HX5 := Lib.hid hx5
      have HB5 : Hid (Below w.heap.size w w5) := HS0.out.2.grown hgrow5 HS0.out.2.size (fun j e => by have := HVB.out j e; omega)
      clear hown5 hgrow5 hx5
      refine hKQ.out _ _ (⟨HX5.out, HB5.out⟩) (fun hHeld2 => ?_)
      clear hHeld hKQ KQ
      have hHeld := hHeld2
      clear hHeld2
      try simp only [Act.put, List.getElem_toArray, List.getElem_cons_zero, List.getElem_cons_succ, List.setIfInBounds_toArray, List.set_cons_zero, List.set_cons_succ]
      refine wpAnyK_pure (i := 10) (v := ?_) rfl rfl (by kernel_rfl) (by kernel_rfl) (by kernel_rfl) (by kernel_rfl) (fun _ _ _ h => h) (Or.inl ⟨by rfl, ?hy10⟩) (fun _ => hHeld) ?_
      case hy10 => (intro W hSw; refine Or.inl ?_; go_simp; try with_reducible rfl)
      try simp only [Act.put, List.getElem_toArray, List.getElem_cons_zero, List.getElem_cons_succ, List.setIfInBounds_toArray, List.set_cons_zero, List.set_cons_succ]
      refine wpAnyK_pure (i := 11) (v := ?_) rfl rfl (by kernel_rfl) (by kernel_rfl) (by kernel_rfl) (by kernel_rfl) (fun _ _ _ h => h) (Or.inl ⟨by rfl, ?hy11⟩) (fun _ => hHeld) ?_
      case hy11 => (intro W hSw; refine Or.inl ?_; go_simp; try with_reducible rfl)
      try simp only [Act.put, List.getElem_toArray, List.getElem_cons_zero, List.getElem_cons_succ, List.setIfInBounds_toArray, List.set_cons_zero, List.set_cons_succ]
      refine wpAnyK_ready (rs := [12]) (by kernel_rfl) (by simp) ?_
      refine AllReadyK.free rfl (by kernel_rfl) (fun KQ hKQ => ?_) AllReadyK.nil
      go_simp
      refine hKQ.out _ _ ?_
      clear hKQ KQ
      try simp only [Act.put, List.getElem_toArray, List.getElem_cons_zero, List.getElem_cons_succ, List.setIfInBounds_toArray, List.set_cons_zero, List.set_cons_succ]
      refine wpAnyK_done (by kernel_rfl) ?_ _
      refine NoPanic.normal ?_
      go_wp2_with fail
      rw [← hnn]
      exact ⟨⟨k + 1, _, _, by omega, rfl, heap_set_same HX5.out 2 _, .inr rfl, by rw [cellsL_row, Nat.succ_mul]; exact own_set HOWN5.out (Nat.lt_succ_self _) 2 _, HB5.out.setCell (p := ⟨w.heap.size, 2, none⟩) (Nat.le_refl _) _⟩, by simp [intOf]; omega⟩
    · obtain rfl : k = D.R := by omega
      have hpos : 0 < D.R * D.C := Nat.mul_pos (by omega) (by omega)
      obtain ⟨n, hn⟩ : ∃ n, D.R * D.C = n + 1 := ⟨D.R * D.C - 1, by omega⟩
      have hown' := hown
      rw [hn] at hown'
      obtain ⟨LB, cap, rfl⟩ := own_succ hown'
      rw [← hn] at hbx hown
      have hc : c0 = D.C := by
        rcases hc0 with h | h
        · omega
        · exact h
      subst hc
      have HBX := Lib.hid hbx
      have HOWN := Lib.hid hown
      have HB := Lib.hid hb
      clear hbx hown hown' hb hc0
      go_wp2_with fail
      go_ret
      have hge : w.heap.size + 1 ≤ LB := (HOWN.out.lt LB rfl).1
      exact ⟨LB, cap, rfl, ⟨HBX.out, own_base HOWN.out, by omega⟩, by omega, HB.out⟩
end Go.Proofs.YtbnkfiaggehmgaaGreatDoor

/- Walks: the law's alike and equal, where they answer true. -/
namespace Go.Proofs.YtbnkfiaggehmgaaGreatDoor
open Go.RowKit
set_option linter.unusedSimpArgs false
set_option linter.unusedVariables false
attribute [local go_sem] alloc_drewN setCell_drewN World.cell?_alloc_some frozen_alloc_some size_f0 size_f1

theorem run_neq_self (g a m : Int) (d : Bool) (w : World) : Sem.run Tryz.prog (binOp .neq 24 (.agg #[.int .i32 g, .int .i64 a, .bool d, .int .i64 m]) (.agg #[.int .i32 g, .int .i64 a, .bool d, .int .i64 m])) w = .ok (.bool false) w := by
  have h := run_neq_cell ⟨g, a, d, m⟩ ⟨g, a, d, m⟩ w
  rw [eqC_iff.2 rfl] at h
  exact h
theorem run_neqp_self (a b : Int) (w : World) : Sem.run Tryz.prog (binOp .neq 30 (.agg #[.int .i64 a, .int .i64 b]) (.agg #[.int .i64 a, .int .i64 b])) w = .ok (.bool false) w := by
  have h := run_neq_ps ⟨a, b⟩ ⟨a, b⟩ w
  rw [eqP_iff.2 rfl] at h
  exact h
attribute [local go_sem 3000] run_neq_self run_neqp_self
theorem RefG.congr {W : World} {g LB cap : Nat} {D D' : Vz.Gd} (h : RefG W g LB cap D) (hR : D'.R = D.R) (hC : D'.C = D.C) (hX : ∀ i j, i < D.R → j < D.C → D'.X i j = D.X i j) : RefG W g LB cap D' := by
  refine ⟨by rw [hR, hC]; exact h.box, ?_, h.ne⟩
  have e : cellsL (flatD D') (D'.R * D'.C) = cellsL (flatD D) (D.R * D.C) := by
    rw [hR, hC]
    refine cellsL_congr _ _ _ fun q hq => ?_
    unfold flatD
    rw [hC]
    rcases Nat.eq_zero_or_pos D.C with h0 | h0
    · rw [h0, Nat.mul_zero] at hq; omega
    · obtain ⟨h1, h2⟩ := place_of q D.R D.C h0 hq
      exact hX _ _ h1 h2
  rw [e, hR, hC]
  exact h.own
set_option maxRecDepth 100000 in
set_option maxHeartbeats 8000000 in
theorem alike_yes (ga LA ca gb LB cb : Nat) (D : Vz.Gd) (w : World) (ha : RefG w ga LA ca D) (hb : RefG w gb LB cb D) (hm : D.may) :
    Calls Tryz.prog 27 #[.pointer (some ⟨ga, 0, none⟩), .pointer (some ⟨gb, 0, none⟩)] w fun e w' => e = .returned (.bool true) ∧ Below w.heap.size w w' := by
  obtain ⟨m1, m2, m3, m4⟩ := hm
  have hRC : D.R * D.C ≤ 255 * 255 := Nat.mul_le_mul m2 m4
  have HA := Lib.hid (fun W (h : Below w.heap.size w W) => ha.below h)
  have HB := Lib.hid (fun W (h : Below w.heap.size w W) => hb.below h)
  have HB0 : Hid (Below w.heap.size w w.drew) := (Below.refl _ _).drew
  clear ha hb
  go_enter Tryz.func27, Tryz.ntmps27
  go_upto_region 1 with fail
  refine wp_region_noPanic ?_
  refine wp_region_k (S := fun W : World => Below w.heap.size w W) 999 (by kernel_rfl) (HB0.out) (fun hHeld => ?_)
  refine wpAnyK_pure (i := 0) (v := ?_) rfl rfl (by kernel_rfl) (by kernel_rfl) (by kernel_rfl) (by kernel_rfl) (fun _ _ _ h => h) (Or.inl ⟨by rfl, ?hy1⟩) (fun _ => hHeld) ?_
  case hy1 => (intro W hSw; refine Or.inl ?_; go_simp; try with_reducible rfl)
  try simp only [Act.put, List.getElem_toArray, List.getElem_cons_zero, List.getElem_cons_succ, List.setIfInBounds_toArray, List.set_cons_zero, List.set_cons_succ]
  refine wpAnyK_pure (i := 1) (v := ?_) rfl rfl (by kernel_rfl) (by kernel_rfl) (by kernel_rfl) (by kernel_rfl) (fun _ _ _ h => h) (Or.inl ⟨by rfl, ?hy2⟩) (fun _ => hHeld) ?_
  case hy2 => (intro W hSw; refine Or.inl ?_; go_simp; try with_reducible rfl)
  try simp only [Act.put, List.getElem_toArray, List.getElem_cons_zero, List.getElem_cons_succ, List.setIfInBounds_toArray, List.set_cons_zero, List.set_cons_succ]
  refine wpAnyK_pure (i := 2) (v := ?_) rfl rfl (by kernel_rfl) (by kernel_rfl) (by kernel_rfl) (by kernel_rfl) (fun _ _ _ h => h) (Or.inl ⟨by rfl, ?hy3⟩) (fun _ => hHeld) ?_
  case hy3 => (intro W hSw; refine Or.inl ?_; go_simp; try with_reducible rfl)
  try simp only [Act.put, List.getElem_toArray, List.getElem_cons_zero, List.getElem_cons_succ, List.setIfInBounds_toArray, List.set_cons_zero, List.set_cons_succ]
  refine wpAnyK_held (i := 3) (v := ?_) rfl (by decide) (by kernel_rfl) (by kernel_rfl) (by kernel_rfl) (by kernel_rfl) (fun _ _ _ h => h) (Or.inl ⟨by rfl, ?hy4⟩) hHeld ?_
  case hy4 => (intro W hSw; refine Or.inl ?_; obtain ⟨a0, a1, a2, _⟩ := row3 (HA.out _ hSw).box; obtain ⟨b0, b1, b2, _⟩ := row3 (HB.out _ hSw).box; go_simp; try with_reducible rfl)
  try simp only [Act.put, List.getElem_toArray, List.getElem_cons_zero, List.getElem_cons_succ, List.setIfInBounds_toArray, List.set_cons_zero, List.set_cons_succ]
  refine wpAnyK_pure (i := 4) (v := ?_) rfl rfl (by kernel_rfl) (by kernel_rfl) (by kernel_rfl) (by kernel_rfl) (fun _ _ _ h => h) (Or.inl ⟨by rfl, ?hy5⟩) (fun _ => hHeld) ?_
  case hy5 => (intro W hSw; refine Or.inl ?_; go_simp; try with_reducible rfl)
  try simp only [Act.put, List.getElem_toArray, List.getElem_cons_zero, List.getElem_cons_succ, List.setIfInBounds_toArray, List.set_cons_zero, List.set_cons_succ]
  refine wpAnyK_pure (i := 5) (v := ?_) rfl rfl (by kernel_rfl) (by kernel_rfl) (by kernel_rfl) (by kernel_rfl) (fun _ _ _ h => h) (Or.inl ⟨by rfl, ?hy6⟩) (fun _ => hHeld) ?_
  case hy6 => (intro W hSw; refine Or.inl ?_; go_simp; try with_reducible rfl)
  try simp only [Act.put, List.getElem_toArray, List.getElem_cons_zero, List.getElem_cons_succ, List.setIfInBounds_toArray, List.set_cons_zero, List.set_cons_succ]
  refine wpAnyK_pure (i := 6) (v := ?_) rfl rfl (by kernel_rfl) (by kernel_rfl) (by kernel_rfl) (by kernel_rfl) (fun _ _ _ h => h) (Or.inl ⟨by rfl, ?hy7⟩) (fun _ => hHeld) ?_
  case hy7 => (intro W hSw; refine Or.inl ?_; go_simp; try with_reducible rfl)
  try simp only [Act.put, List.getElem_toArray, List.getElem_cons_zero, List.getElem_cons_succ, List.setIfInBounds_toArray, List.set_cons_zero, List.set_cons_succ]
  refine wpAnyK_held (i := 7) (v := ?_) rfl (by decide) (by kernel_rfl) (by kernel_rfl) (by kernel_rfl) (by kernel_rfl) (fun _ _ _ h => h) (Or.inl ⟨by rfl, ?hy8⟩) hHeld ?_
  case hy8 => (intro W hSw; refine Or.inl ?_; obtain ⟨a0, a1, a2, _⟩ := row3 (HA.out _ hSw).box; obtain ⟨b0, b1, b2, _⟩ := row3 (HB.out _ hSw).box; go_simp; try with_reducible rfl)
  try simp only [Act.put, List.getElem_toArray, List.getElem_cons_zero, List.getElem_cons_succ, List.setIfInBounds_toArray, List.set_cons_zero, List.set_cons_succ]
  refine wpAnyK_pure (i := 8) (v := ?_) rfl rfl (by kernel_rfl) (by kernel_rfl) (by kernel_rfl) (by kernel_rfl) (fun _ _ _ h => h) (Or.inl ⟨by rfl, ?hy9⟩) (fun _ => hHeld) ?_
  case hy9 => (intro W hSw; refine Or.inl ?_; go_simp; try with_reducible rfl)
  try simp only [Act.put, List.getElem_toArray, List.getElem_cons_zero, List.getElem_cons_succ, List.setIfInBounds_toArray, List.set_cons_zero, List.set_cons_succ]
  refine wpAnyK_pure (i := 9) (v := ?_) rfl rfl (by kernel_rfl) (by kernel_rfl) (by kernel_rfl) (by kernel_rfl) (fun _ _ _ h => h) (Or.inl ⟨by rfl, ?hy10⟩) (fun _ => hHeld) ?_
  case hy10 => (intro W hSw; refine Or.inl ?_; go_simp; try with_reducible rfl)
  try simp only [Act.put, List.getElem_toArray, List.getElem_cons_zero, List.getElem_cons_succ, List.setIfInBounds_toArray, List.set_cons_zero, List.set_cons_succ]
  refine wpAnyK_pure (i := 10) (v := ?_) rfl rfl (by kernel_rfl) (by kernel_rfl) (by kernel_rfl) (by kernel_rfl) (fun _ _ _ h => h) (Or.inl ⟨by rfl, ?hy11⟩) (fun _ => hHeld) ?_
  case hy11 => (intro W hSw; refine Or.inl ?_; go_simp; try with_reducible rfl)
  try simp only [Act.put, List.getElem_toArray, List.getElem_cons_zero, List.getElem_cons_succ, List.setIfInBounds_toArray, List.set_cons_zero, List.set_cons_succ]
  refine wpAnyK_pure (i := 11) (v := ?_) rfl rfl (by kernel_rfl) (by kernel_rfl) (by kernel_rfl) (by kernel_rfl) (fun _ _ _ h => h) (Or.inl ⟨by rfl, ?hy12⟩) (fun _ => hHeld) ?_
  case hy12 => (intro W hSw; refine Or.inl ?_; go_simp; try with_reducible rfl)
  try simp only [Act.put, List.getElem_toArray, List.getElem_cons_zero, List.getElem_cons_succ, List.setIfInBounds_toArray, List.set_cons_zero, List.set_cons_succ]
  refine wpAnyK_pure (i := 12) (v := ?_) rfl rfl (by kernel_rfl) (by kernel_rfl) (by kernel_rfl) (by kernel_rfl) (fun _ _ _ h => h) (Or.inl ⟨by rfl, ?hy13⟩) (fun _ => hHeld) ?_
  case hy13 => (intro W hSw; refine Or.inl ?_; go_simp; try with_reducible rfl)
  try simp only [Act.put, List.getElem_toArray, List.getElem_cons_zero, List.getElem_cons_succ, List.setIfInBounds_toArray, List.set_cons_zero, List.set_cons_succ]
  refine wpAnyK_held (i := 13) (v := ?_) rfl (by decide) (by kernel_rfl) (by kernel_rfl) (by kernel_rfl) (by kernel_rfl) (fun _ _ _ h => h) (Or.inl ⟨by rfl, ?hy14⟩) hHeld ?_
  case hy14 => (intro W hSw; refine Or.inl ?_; obtain ⟨a0, a1, a2, _⟩ := row3 (HA.out _ hSw).box; obtain ⟨b0, b1, b2, _⟩ := row3 (HB.out _ hSw).box; go_simp; try with_reducible rfl)
  try simp only [Act.put, List.getElem_toArray, List.getElem_cons_zero, List.getElem_cons_succ, List.setIfInBounds_toArray, List.set_cons_zero, List.set_cons_succ]
  refine wpAnyK_pure (i := 14) (v := ?_) rfl rfl (by kernel_rfl) (by kernel_rfl) (by kernel_rfl) (by kernel_rfl) (fun _ _ _ h => h) (Or.inl ⟨by rfl, ?hy15⟩) (fun _ => hHeld) ?_
  case hy15 => (intro W hSw; refine Or.inl ?_; go_simp; try with_reducible rfl)
  try simp only [Act.put, List.getElem_toArray, List.getElem_cons_zero, List.getElem_cons_succ, List.setIfInBounds_toArray, List.set_cons_zero, List.set_cons_succ]
  refine wpAnyK_pure (i := 15) (v := ?_) rfl rfl (by kernel_rfl) (by kernel_rfl) (by kernel_rfl) (by kernel_rfl) (fun _ _ _ h => h) (Or.inl ⟨by rfl, ?hy16⟩) (fun _ => hHeld) ?_
  case hy16 => (intro W hSw; refine Or.inl ?_; go_simp; try with_reducible rfl)
  try simp only [Act.put, List.getElem_toArray, List.getElem_cons_zero, List.getElem_cons_succ, List.setIfInBounds_toArray, List.set_cons_zero, List.set_cons_succ]
  refine wpAnyK_pure (i := 16) (v := ?_) rfl rfl (by kernel_rfl) (by kernel_rfl) (by kernel_rfl) (by kernel_rfl) (fun _ _ _ h => h) (Or.inl ⟨by rfl, ?hy17⟩) (fun _ => hHeld) ?_
  case hy17 => (intro W hSw; refine Or.inl ?_; go_simp; try with_reducible rfl)
  try simp only [Act.put, List.getElem_toArray, List.getElem_cons_zero, List.getElem_cons_succ, List.setIfInBounds_toArray, List.set_cons_zero, List.set_cons_succ]
  refine wpAnyK_held (i := 17) (v := ?_) rfl (by decide) (by kernel_rfl) (by kernel_rfl) (by kernel_rfl) (by kernel_rfl) (fun _ _ _ h => h) (Or.inl ⟨by rfl, ?hy18⟩) hHeld ?_
  case hy18 => (intro W hSw; refine Or.inl ?_; obtain ⟨a0, a1, a2, _⟩ := row3 (HA.out _ hSw).box; obtain ⟨b0, b1, b2, _⟩ := row3 (HB.out _ hSw).box; go_simp; try with_reducible rfl)
  try simp only [Act.put, List.getElem_toArray, List.getElem_cons_zero, List.getElem_cons_succ, List.setIfInBounds_toArray, List.set_cons_zero, List.set_cons_succ]
  refine wpAnyK_pure (i := 18) (v := ?_) rfl rfl (by kernel_rfl) (by kernel_rfl) (by kernel_rfl) (by kernel_rfl) (fun _ _ _ h => h) (Or.inl ⟨by rfl, ?hy19⟩) (fun _ => hHeld) ?_
  case hy19 => (intro W hSw; refine Or.inl ?_; go_simp; try with_reducible rfl)
  try simp only [Act.put, List.getElem_toArray, List.getElem_cons_zero, List.getElem_cons_succ, List.setIfInBounds_toArray, List.set_cons_zero, List.set_cons_succ]
  refine wpAnyK_pure (i := 19) (v := ?_) rfl rfl (by kernel_rfl) (by kernel_rfl) (by kernel_rfl) (by kernel_rfl) (fun _ _ _ h => h) (Or.inl ⟨by rfl, ?hy20⟩) (fun _ => hHeld) ?_
  case hy20 => (intro W hSw; refine Or.inl ?_; go_simp; try with_reducible rfl)
  try simp only [Act.put, List.getElem_toArray, List.getElem_cons_zero, List.getElem_cons_succ, List.setIfInBounds_toArray, List.set_cons_zero, List.set_cons_succ]
  refine wpAnyK_pure (i := 20) (v := ?_) rfl rfl (by kernel_rfl) (by kernel_rfl) (by kernel_rfl) (by kernel_rfl) (fun _ _ _ h => h) (Or.inl ⟨by rfl, ?hy21⟩) (fun _ => hHeld) ?_
  case hy21 => (intro W hSw; refine Or.inl ?_; go_simp; try with_reducible rfl)
  try simp only [Act.put, List.getElem_toArray, List.getElem_cons_zero, List.getElem_cons_succ, List.setIfInBounds_toArray, List.set_cons_zero, List.set_cons_succ]
  refine wpAnyK_pure (i := 21) (v := ?_) rfl rfl (by kernel_rfl) (by kernel_rfl) (by kernel_rfl) (by kernel_rfl) (fun _ _ _ h => h) (Or.inl ⟨by rfl, ?hy22⟩) (fun _ => hHeld) ?_
  case hy22 => (intro W hSw; refine Or.inl ?_; go_simp; try with_reducible rfl)
  try simp only [Act.put, List.getElem_toArray, List.getElem_cons_zero, List.getElem_cons_succ, List.setIfInBounds_toArray, List.set_cons_zero, List.set_cons_succ]
  refine wpAnyK_pure (i := 22) (v := ?_) rfl rfl (by kernel_rfl) (by kernel_rfl) (by kernel_rfl) (by kernel_rfl) (fun _ _ _ h => h) (Or.inl ⟨by rfl, ?hy23⟩) (fun _ => hHeld) ?_
  case hy23 => (intro W hSw; refine Or.inl ?_; go_simp; try with_reducible rfl)
  try simp only [Act.put, List.getElem_toArray, List.getElem_cons_zero, List.getElem_cons_succ, List.setIfInBounds_toArray, List.set_cons_zero, List.set_cons_succ]
  refine wpAnyK_pure (i := 23) (v := ?_) rfl rfl (by kernel_rfl) (by kernel_rfl) (by kernel_rfl) (by kernel_rfl) (fun _ _ _ h => h) (Or.inl ⟨by rfl, ?hy24⟩) (fun _ => hHeld) ?_
  case hy24 => (intro W hSw; refine Or.inl ?_; go_simp; try with_reducible rfl)
  try simp only [Act.put, List.getElem_toArray, List.getElem_cons_zero, List.getElem_cons_succ, List.setIfInBounds_toArray, List.set_cons_zero, List.set_cons_succ]
  refine wpAnyK_held (i := 24) (v := ?_) rfl (by decide) (by kernel_rfl) (by kernel_rfl) (by kernel_rfl) (by kernel_rfl) (fun _ _ _ h => h) (Or.inl ⟨by rfl, ?hy25⟩) hHeld ?_
  case hy25 => (intro W hSw; refine Or.inl ?_; obtain ⟨a0, a1, a2, _⟩ := row3 (HA.out _ hSw).box; obtain ⟨b0, b1, b2, _⟩ := row3 (HB.out _ hSw).box; go_simp; try with_reducible rfl)
  try simp only [Act.put, List.getElem_toArray, List.getElem_cons_zero, List.getElem_cons_succ, List.setIfInBounds_toArray, List.set_cons_zero, List.set_cons_succ]
  refine wpAnyK_pure (i := 25) (v := ?_) rfl rfl (by kernel_rfl) (by kernel_rfl) (by kernel_rfl) (by kernel_rfl) (fun _ _ _ h => h) (Or.inl ⟨by rfl, ?hy26⟩) (fun _ => hHeld) ?_
  case hy26 => (intro W hSw; refine Or.inl ?_; go_simp; try with_reducible rfl)
  try simp only [Act.put, List.getElem_toArray, List.getElem_cons_zero, List.getElem_cons_succ, List.setIfInBounds_toArray, List.set_cons_zero, List.set_cons_succ]
  refine wpAnyK_pure (i := 26) (v := ?_) rfl rfl (by kernel_rfl) (by kernel_rfl) (by kernel_rfl) (by kernel_rfl) (fun _ _ _ h => h) (Or.inl ⟨by rfl, ?hy27⟩) (fun _ => hHeld) ?_
  case hy27 => (intro W hSw; refine Or.inl ?_; go_simp; try with_reducible rfl)
  try simp only [Act.put, List.getElem_toArray, List.getElem_cons_zero, List.getElem_cons_succ, List.setIfInBounds_toArray, List.set_cons_zero, List.set_cons_succ]
  refine wpAnyK_pure (i := 27) (v := ?_) rfl rfl (by kernel_rfl) (by kernel_rfl) (by kernel_rfl) (by kernel_rfl) (fun _ _ _ h => h) (Or.inl ⟨by rfl, ?hy28⟩) (fun _ => hHeld) ?_
  case hy28 => (intro W hSw; refine Or.inl ?_; go_simp; try with_reducible rfl)
  try simp only [Act.put, List.getElem_toArray, List.getElem_cons_zero, List.getElem_cons_succ, List.setIfInBounds_toArray, List.set_cons_zero, List.set_cons_succ]
  refine wpAnyK_pure (i := 28) (v := ?_) rfl rfl (by kernel_rfl) (by kernel_rfl) (by kernel_rfl) (by kernel_rfl) (fun _ _ _ h => h) (Or.inl ⟨by rfl, ?hy29⟩) (fun _ => hHeld) ?_
  case hy29 => (intro W hSw; refine Or.inl ?_; go_simp; try with_reducible rfl)
  try simp only [Act.put, List.getElem_toArray, List.getElem_cons_zero, List.getElem_cons_succ, List.setIfInBounds_toArray, List.set_cons_zero, List.set_cons_succ]
  refine wpAnyK_held (i := 29) (v := ?_) rfl (by decide) (by kernel_rfl) (by kernel_rfl) (by kernel_rfl) (by kernel_rfl) (fun _ _ _ h => h) (Or.inl ⟨by rfl, ?hy30⟩) hHeld ?_
  case hy30 => (intro W hSw; refine Or.inl ?_; obtain ⟨a0, a1, a2, _⟩ := row3 (HA.out _ hSw).box; obtain ⟨b0, b1, b2, _⟩ := row3 (HB.out _ hSw).box; go_simp; try with_reducible rfl)
  try simp only [Act.put, List.getElem_toArray, List.getElem_cons_zero, List.getElem_cons_succ, List.setIfInBounds_toArray, List.set_cons_zero, List.set_cons_succ]
  refine wpAnyK_pure (i := 30) (v := ?_) rfl rfl (by kernel_rfl) (by kernel_rfl) (by kernel_rfl) (by kernel_rfl) (fun _ _ _ h => h) (Or.inl ⟨by rfl, ?hy31⟩) (fun _ => hHeld) ?_
  case hy31 => (intro W hSw; refine Or.inl ?_; go_simp; try with_reducible rfl)
  try simp only [Act.put, List.getElem_toArray, List.getElem_cons_zero, List.getElem_cons_succ, List.setIfInBounds_toArray, List.set_cons_zero, List.set_cons_succ]
  refine wpAnyK_pure (i := 31) (v := ?_) rfl rfl (by kernel_rfl) (by kernel_rfl) (by kernel_rfl) (by kernel_rfl) (fun _ _ _ h => h) (Or.inl ⟨by rfl, ?hy32⟩) (fun _ => hHeld) ?_
  case hy32 => (intro W hSw; refine Or.inl ?_; go_simp; try with_reducible rfl)
  try simp only [Act.put, List.getElem_toArray, List.getElem_cons_zero, List.getElem_cons_succ, List.setIfInBounds_toArray, List.set_cons_zero, List.set_cons_succ]
  refine wpAnyK_pure (i := 32) (v := ?_) rfl rfl (by kernel_rfl) (by kernel_rfl) (by kernel_rfl) (by kernel_rfl) (fun _ _ _ h => h) (Or.inl ⟨by rfl, ?hy33⟩) (fun _ => hHeld) ?_
  case hy33 => (intro W hSw; refine Or.inl ?_; go_simp; try with_reducible rfl)
  try simp only [Act.put, List.getElem_toArray, List.getElem_cons_zero, List.getElem_cons_succ, List.setIfInBounds_toArray, List.set_cons_zero, List.set_cons_succ]
  refine wpAnyK_done (by kernel_rfl) ?_ _
  refine NoPanic.normal ?_
  go_wp2_with fail
  go_loopw [5] (fun i wr => ∃ k : Nat, k ≤ D.R * D.C ∧ i = .int .i64 (k : Int) ∧ Below w.heap.size w wr) (fun i _ => D.R * D.C - (intOf i).toNat)
  case atStart => exact ⟨0, Nat.zero_le _, rfl, HB0.out⟩
  case round =>
    obtain ⟨k, hk, rfl, hbr⟩ := hrel
    obtain ⟨a0, a1, a2, _⟩ := row3 (HA.out _ hbr).box
    obtain ⟨b0, b1, b2, _⟩ := row3 (HB.out _ hbr).box
    have HBR := Lib.hid hbr
    have HBD : Hid (Below w.heap.size w wr.drew) := hbr.drew
    clear hbr
    by_cases hlt : k < D.R * D.C
    · have hkz : (k : Int) < ((D.R * D.C : Nat) : Int) := by omega
      have hwk : IntKind.i64.wrap ((k : Int) + 1) = ((k + 1 : Nat) : Int) := by rw [wrap_in (by omega) (by omega)]; rfl
      go_upto_region 6 with fail
      refine wp_region_noPanic ?_
      refine wp_region_k (S := fun W : World => Below w.heap.size w W) 999 (by kernel_rfl) (HBD.out) (fun hHeld => ?_)
      refine wpAnyK_pure (i := 0) (v := ?_) rfl rfl (by kernel_rfl) (by kernel_rfl) (by kernel_rfl) (by kernel_rfl) (fun _ _ _ h => h) (Or.inl ⟨by rfl, ?hy1⟩) (fun _ => hHeld) ?_
      case hy1 => (intro W hSw; refine Or.inl ?_; go_simp; try with_reducible rfl)
      try simp only [Act.put, List.getElem_toArray, List.getElem_cons_zero, List.getElem_cons_succ, List.setIfInBounds_toArray, List.set_cons_zero, List.set_cons_succ]
      refine wpAnyK_pure (i := 1) (v := ?_) rfl rfl (by kernel_rfl) (by kernel_rfl) (by kernel_rfl) (by kernel_rfl) (fun _ _ _ h => h) (Or.inl ⟨by rfl, ?hy2⟩) (fun _ => hHeld) ?_
      case hy2 => (intro W hSw; refine Or.inl ?_; go_simp; try with_reducible rfl)
      try simp only [Act.put, List.getElem_toArray, List.getElem_cons_zero, List.getElem_cons_succ, List.setIfInBounds_toArray, List.set_cons_zero, List.set_cons_succ]
      refine wpAnyK_pure (i := 2) (v := ?_) rfl rfl (by kernel_rfl) (by kernel_rfl) (by kernel_rfl) (by kernel_rfl) (fun _ _ _ h => h) (Or.inl ⟨by rfl, ?hy3⟩) (fun _ => hHeld) ?_
      case hy3 => (intro W hSw; refine Or.inl ?_; go_simp; try with_reducible rfl)
      try simp only [Act.put, List.getElem_toArray, List.getElem_cons_zero, List.getElem_cons_succ, List.setIfInBounds_toArray, List.set_cons_zero, List.set_cons_succ]
      refine wpAnyK_held (i := 3) (v := ?_) rfl (by decide) (by kernel_rfl) (by kernel_rfl) (by kernel_rfl) (by kernel_rfl) (fun _ _ _ h => h) (Or.inl ⟨by rfl, ?hy4⟩) hHeld ?_
      case hy4 => (intro W hSw; refine Or.inl ?_; obtain ⟨a0, a1, a2, _⟩ := row3 (HA.out _ hSw).box; obtain ⟨b0, b1, b2, _⟩ := row3 (HB.out _ hSw).box; obtain ⟨p0, p1, p2, p3⟩ := (HA.out _ hSw).cells hlt; obtain ⟨q0, q1, q2, q3⟩ := (HB.out _ hSw).cells hlt; go_simp; try with_reducible rfl)
      try simp only [Act.put, List.getElem_toArray, List.getElem_cons_zero, List.getElem_cons_succ, List.setIfInBounds_toArray, List.set_cons_zero, List.set_cons_succ]
      refine wpAnyK_pure (i := 4) (v := ?_) rfl rfl (by kernel_rfl) (by kernel_rfl) (by kernel_rfl) (by kernel_rfl) (fun _ _ _ h => h) (Or.inl ⟨by rfl, ?hy5⟩) (fun _ => hHeld) ?_
      case hy5 => (intro W hSw; refine Or.inl ?_; go_simp; try with_reducible rfl)
      try simp only [Act.put, List.getElem_toArray, List.getElem_cons_zero, List.getElem_cons_succ, List.setIfInBounds_toArray, List.set_cons_zero, List.set_cons_succ]
      refine wpAnyK_pure (i := 5) (v := ?_) rfl rfl (by kernel_rfl) (by kernel_rfl) (by kernel_rfl) (by kernel_rfl) (fun _ _ _ h => h) (Or.inl ⟨by rfl, ?hy6⟩) (fun _ => hHeld) ?_
      case hy6 => (intro W hSw; refine Or.inl ?_; go_simp; try with_reducible rfl)
      try simp only [Act.put, List.getElem_toArray, List.getElem_cons_zero, List.getElem_cons_succ, List.setIfInBounds_toArray, List.set_cons_zero, List.set_cons_succ]
      refine wpAnyK_held (i := 6) (v := ?_) rfl (by decide) (by kernel_rfl) (by kernel_rfl) (by kernel_rfl) (by kernel_rfl) (fun _ _ _ h => h) (Or.inl ⟨by rfl, ?hy7⟩) hHeld ?_
      case hy7 => (intro W hSw; refine Or.inl ?_; obtain ⟨a0, a1, a2, _⟩ := row3 (HA.out _ hSw).box; obtain ⟨b0, b1, b2, _⟩ := row3 (HB.out _ hSw).box; obtain ⟨p0, p1, p2, p3⟩ := (HA.out _ hSw).cells hlt; obtain ⟨q0, q1, q2, q3⟩ := (HB.out _ hSw).cells hlt; go_simp; try with_reducible rfl)
      try simp only [Act.put, List.getElem_toArray, List.getElem_cons_zero, List.getElem_cons_succ, List.setIfInBounds_toArray, List.set_cons_zero, List.set_cons_succ]
      refine wpAnyK_pure (i := 7) (v := ?_) rfl rfl (by kernel_rfl) (by kernel_rfl) (by kernel_rfl) (by kernel_rfl) (fun _ _ _ h => h) (Or.inl ⟨by rfl, ?hy8⟩) (fun _ => hHeld) ?_
      case hy8 => (intro W hSw; refine Or.inl ?_; go_simp; try with_reducible rfl)
      try simp only [Act.put, List.getElem_toArray, List.getElem_cons_zero, List.getElem_cons_succ, List.setIfInBounds_toArray, List.set_cons_zero, List.set_cons_succ]
      refine wpAnyK_pure (i := 8) (v := ?_) rfl rfl (by kernel_rfl) (by kernel_rfl) (by kernel_rfl) (by kernel_rfl) (fun _ _ _ h => h) (Or.inl ⟨by rfl, ?hy9⟩) (fun _ => hHeld) ?_
      case hy9 => (intro W hSw; refine Or.inl ?_; go_simp; try with_reducible rfl)
      try simp only [Act.put, List.getElem_toArray, List.getElem_cons_zero, List.getElem_cons_succ, List.setIfInBounds_toArray, List.set_cons_zero, List.set_cons_succ]
      refine wpAnyK_pure (i := 9) (v := ?_) rfl rfl (by kernel_rfl) (by kernel_rfl) (by kernel_rfl) (by kernel_rfl) (fun _ _ _ h => h) (Or.inl ⟨by rfl, ?hy10⟩) (fun _ => hHeld) ?_
      case hy10 => (intro W hSw; refine Or.inl ?_; go_simp; try with_reducible rfl)
      try simp only [Act.put, List.getElem_toArray, List.getElem_cons_zero, List.getElem_cons_succ, List.setIfInBounds_toArray, List.set_cons_zero, List.set_cons_succ]
      refine wpAnyK_held (i := 10) (v := ?_) rfl (by decide) (by kernel_rfl) (by kernel_rfl) (by kernel_rfl) (by kernel_rfl) (fun _ _ _ h => h) (Or.inl ⟨by rfl, ?hy11⟩) hHeld ?_
      case hy11 => (intro W hSw; refine Or.inl ?_; obtain ⟨a0, a1, a2, _⟩ := row3 (HA.out _ hSw).box; obtain ⟨b0, b1, b2, _⟩ := row3 (HB.out _ hSw).box; obtain ⟨p0, p1, p2, p3⟩ := (HA.out _ hSw).cells hlt; obtain ⟨q0, q1, q2, q3⟩ := (HB.out _ hSw).cells hlt; go_simp; try with_reducible rfl)
      try simp only [Act.put, List.getElem_toArray, List.getElem_cons_zero, List.getElem_cons_succ, List.setIfInBounds_toArray, List.set_cons_zero, List.set_cons_succ]
      refine wpAnyK_pure (i := 11) (v := ?_) rfl rfl (by kernel_rfl) (by kernel_rfl) (by kernel_rfl) (by kernel_rfl) (fun _ _ _ h => h) (Or.inl ⟨by rfl, ?hy12⟩) (fun _ => hHeld) ?_
      case hy12 => (intro W hSw; refine Or.inl ?_; go_simp; try with_reducible rfl)
      try simp only [Act.put, List.getElem_toArray, List.getElem_cons_zero, List.getElem_cons_succ, List.setIfInBounds_toArray, List.set_cons_zero, List.set_cons_succ]
      refine wpAnyK_pure (i := 12) (v := ?_) rfl rfl (by kernel_rfl) (by kernel_rfl) (by kernel_rfl) (by kernel_rfl) (fun _ _ _ h => h) (Or.inl ⟨by rfl, ?hy13⟩) (fun _ => hHeld) ?_
      case hy13 => (intro W hSw; refine Or.inl ?_; go_simp; try with_reducible rfl)
      try simp only [Act.put, List.getElem_toArray, List.getElem_cons_zero, List.getElem_cons_succ, List.setIfInBounds_toArray, List.set_cons_zero, List.set_cons_succ]
      refine wpAnyK_held (i := 13) (v := ?_) rfl (by decide) (by kernel_rfl) (by kernel_rfl) (by kernel_rfl) (by kernel_rfl) (fun _ _ _ h => h) (Or.inl ⟨by rfl, ?hy14⟩) hHeld ?_
      case hy14 => (intro W hSw; refine Or.inl ?_; obtain ⟨a0, a1, a2, _⟩ := row3 (HA.out _ hSw).box; obtain ⟨b0, b1, b2, _⟩ := row3 (HB.out _ hSw).box; obtain ⟨p0, p1, p2, p3⟩ := (HA.out _ hSw).cells hlt; obtain ⟨q0, q1, q2, q3⟩ := (HB.out _ hSw).cells hlt; go_simp; try with_reducible rfl)
      try simp only [Act.put, List.getElem_toArray, List.getElem_cons_zero, List.getElem_cons_succ, List.setIfInBounds_toArray, List.set_cons_zero, List.set_cons_succ]
      refine wpAnyK_pure (i := 14) (v := ?_) rfl rfl (by kernel_rfl) (by kernel_rfl) (by kernel_rfl) (by kernel_rfl) (fun _ _ _ h => h) (Or.inl ⟨by rfl, ?hy15⟩) (fun _ => hHeld) ?_
      case hy15 => (intro W hSw; refine Or.inl ?_; go_simp; try with_reducible rfl)
      try simp only [Act.put, List.getElem_toArray, List.getElem_cons_zero, List.getElem_cons_succ, List.setIfInBounds_toArray, List.set_cons_zero, List.set_cons_succ]
      refine wpAnyK_done (by kernel_rfl) ?_ _
      refine NoPanic.normal ?_
      go_wp2_with fail
      exact ⟨⟨k + 1, by omega, rfl, HBD.out⟩, by simp [intOf]; omega⟩
    · obtain rfl : k = D.R * D.C := by omega
      go_wp2_with fail
      go_ret
      exact ⟨rfl, HBR.out⟩
end Go.Proofs.YtbnkfiaggehmgaaGreatDoor

/- Walks: the law's equal, where it answers true. -/
namespace Go.Proofs.YtbnkfiaggehmgaaGreatDoor
open Go.RowKit
set_option linter.unusedSimpArgs false
set_option linter.unusedVariables false
attribute [local go_sem] alloc_drewN setCell_drewN World.cell?_alloc_some frozen_alloc_some size_f0 size_f1

theorem run_eql_sz (x y : Vz.Ps) (w : World) : Sem.run Tryz.prog (binOp .eql 39 (.agg #[.int .i64 x.row, .int .i64 x.col]) (.agg #[.int .i64 y.row, .int .i64 y.col])) w = .ok (.bool (eqP x y)) w := by
  rw [eqP_cells]
  have u1 := Tryz.underlying3
  have hS : Tryz.prog.underlying 39 = some (.struct (Tryz.prog.fieldsOf 39)) := by kernel_rfl
  have hp : Tryz.prog.stoodInHeld 39 = false := by kernel_rfl
  rw [run_eql_struct, show (10000 : Nat) = 9999 + 1 from rfl, run_equalIn_agg w 9999 39 _ _ hS hp]
  simp only [Program.fieldsOf, Tryz.underlying39]
  go_simp
  by_cases h1 : x.row = y.row <;> by_cases h2 : x.col = y.col <;> simp [h1, h2]
theorem run_neq_sz (x y : Vz.Ps) (w : World) : Sem.run Tryz.prog (binOp .neq 39 (.agg #[.int .i64 x.row, .int .i64 x.col]) (.agg #[.int .i64 y.row, .int .i64 y.col])) w = .ok (.bool (!eqP x y)) w := by
  have h := run_eql_sz x y w
  rw [run_eql_struct] at h
  rw [run_neq_struct]
  revert h
  generalize Sem.run Tryz.prog (Op.equalIn 10000 39 (.agg #[.int .i64 x.row, .int .i64 x.col]) (.agg #[.int .i64 y.row, .int .i64 y.col])) w = r
  cases r with
  | ok b w1 =>
    intro h
    simp only [Result.andThen_ok, Result.ok.injEq, Value.bool.injEq] at h ⊢
    obtain ⟨h1, h2⟩ := h
    exact ⟨by rw [h1], h2⟩
  | halt e w1 => intro h; cases h
theorem run_neqs_self (a b : Int) (w : World) : Sem.run Tryz.prog (binOp .neq 39 (.agg #[.int .i64 a, .int .i64 b]) (.agg #[.int .i64 a, .int .i64 b])) w = .ok (.bool false) w := by
  have h := run_neq_sz ⟨a, b⟩ ⟨a, b⟩ w
  rw [eqP_iff.2 rfl] at h
  exact h
attribute [local go_sem 3000] run_neqs_self run_neqp_self
/-- A value that lists numbers. -/
def Nums (W : World) (v : Value) (L : List Int) : Prop := ∃ A cap, v = .slice A L.length cap ∧ ∀ k, k < L.length → ∃ g, A = some ⟨g, 0, none⟩ ∧ W.cell? ⟨g, k, none⟩ = some (.int .i64 (L.getD k 0))
theorem nums_of {W : World} {v : Value} {L : List Int} (h : Listed W v L) : Nums W v L := by
  rcases h with ⟨rfl, rfl⟩ | ⟨g, cap, rfl, hc⟩
  · exact ⟨none, 0, rfl, fun k hk => absurd hk (Nat.not_lt_zero _)⟩
  · exact ⟨_, cap, rfl, fun k hk => ⟨g, rfl, by rw [hc k _ (List.getElem?_eq_getElem hk)]; simp [List.getD, List.getElem?_eq_getElem hk]⟩⟩
theorem Nums.below {W W' : World} {v : Value} {L : List Int} (h : Nums W v L) (hb : Below W.heap.size W W') : Nums W' v L := by
  obtain ⟨A, cap, rfl, hc⟩ := h
  refine ⟨A, cap, rfl, fun k hk => ?_⟩
  obtain ⟨g, hA, hg⟩ := hc k hk
  exact ⟨g, hA, (hb.cell (World.block_lt_of_cell? _ _ hg)).trans hg⟩
theorem stopsI_congr {C : Nat} {T T' : Nat → Bool} (h : ∀ c, c < C → T c = T' c) : stopsI C T = stopsI C T' := by
  unfold stopsI Vz.stopsL
  rw [List.filter_congr (fun c hc => h c (List.mem_range.1 hc))]
/-- What two screens that are the same have alike. -/
structure Like (S C : Vz.Sr) : Prop where
  pl : C.pl = S.pl
  eR : C.D.R = S.D.R
  eC : C.D.C = S.D.C
  eX : ∀ i j, i < S.D.R → j < S.D.C → C.D.X i j = S.D.X i j
  eT : ∀ c, c < S.D.C → C.T c = S.T c
theorem Like.refl (S : Vz.Sr) : Like S S := ⟨rfl, rfl, rfl, fun _ _ _ _ => rfl, fun _ _ => rfl⟩
set_option maxRecDepth 100000 in
set_option maxHeartbeats 16000000 in
theorem equal_yes (sp cp : Nat) (F FC : Nat → Prop) (S C : Vz.Sr) (w : World) (hs : Scr w sp F S) (hc : Scr w cp FC C) (hl : Like S C) :
    Calls Tryz.prog 30 #[.pointer (some ⟨sp, 0, none⟩), .pointer (some ⟨cp, 0, none⟩)] w fun e w' => e = .returned (.bool true) ∧ Below w.heap.size w w' := by
  obtain ⟨lp, lR, lC, lX, lT⟩ := hl
  have hmay := hs.here.2
  have hst : stopsI C.D.C C.T = stopsI S.D.C S.T := by
    rw [lC]
    exact stopsI_congr fun c hcc => lT c hcc
  have HQ1 := Lib.hid (fun W (hb : Below w.heap.size w W) => scr_cursor sp F S W (hs.below hb))
  have hq2 := fun W (hb : Below w.heap.size w W) => scr_cursor cp FC C W (hc.below hb)
  rw [lp] at hq2
  have HQ2 := Lib.hid hq2
  have HL1 := Lib.hid (fun W (hb : Below w.heap.size w W) => scr_listed sp F S W (hs.below hb))
  have hl2 := fun W (hb : Below w.heap.size w W) => scr_listed cp FC C W (hc.below hb)
  rw [hst] at hl2
  have HL2 := Lib.hid hl2
  have HZ1 := Lib.hid (fun W (hb : Below w.heap.size w W) => scr_size sp F S W (hs.below hb))
  have hz2 := fun W (hb : Below w.heap.size w W) => scr_size cp FC C W (hc.below hb)
  rw [lR, lC] at hz2
  have HZ2 := Lib.hid hz2
  have HR1 := Lib.hid (fun W (hb : Below w.heap.size w W) => scr_rows sp F S W (hs.below hb))
  have HR2 := Lib.hid (fun W (hb : Below w.heap.size w W) => scr_rows cp FC C W (hc.below hb))
  have HLK := Lib.hid (And.intro lR (And.intro lC lX))
  have HM1 := Lib.hid hmay
  have HM2 := Lib.hid hc.here.2
  have hn : (stopsI S.D.C S.T).length ≤ 255 := Nat.le_trans (stopsI_len _ _) hmay.2.2.2
  clear hs hc hst hq2 hl2 hz2 lR lC lX lT hmay lp
  generalize stopsI S.D.C S.T = L at *
  have HB0 : Hid (Below w.heap.size w w) := Below.refl _ _
  go_enter Tryz.func30, Tryz.ntmps30
  go_upto_region 5 with (first
    | (go_at_call 32; refine (HL2.out _ HB3.out).mono ?_; rintro e w4 ⟨v2, rfl, ho4, -, hb4⟩; have HV2 := Lib.hid (nums_of (listed_of ho4)); have HB4 := Lib.hid (Below.later HB3.out hb4 HB3.out.size); have HV14 := Lib.hid (HV1.out.below hb4); have HXP4 := Lib.hid ((hb4.block _ (block_lt HXP3.out)).trans HXP3.out); have HXQ4 := Lib.hid ((hb4.block _ (block_lt HXQ3.out)).trans HXQ3.out); clear ho4 hb4)
    | (go_at_call 32; refine (HL1.out _ HB2.out).mono ?_; rintro e w3 ⟨v1, rfl, ho3, -, hb3⟩; have HV1 := Lib.hid (nums_of (listed_of ho3)); have HXP3 := Lib.hid ((hb3.block _ (block_lt HXP2.out)).trans HXP2.out); have HXQ3 := Lib.hid ((hb3.block _ (block_lt HXQ.out)).trans HXQ.out); have HB3 := Lib.hid (Below.later HB2.out hb3 HB2.out.size); clear ho3 hb3)
    | (go_at_call 15; refine (HQ2.out _ HB1.out).mono ?_; rintro e w2 ⟨rfl, hb2⟩; have HXQ := Lib.hid (heap_alloc_new w2 (.cells #[.int .i64 S.pl.at_.row, .int .i64 S.pl.at_.col] 30)); have HXP2 := Lib.hid ((Below.heap_alloc w2 (.cells #[.int .i64 S.pl.at_.row, .int .i64 S.pl.at_.col] 30) _ (block_lt ((hb2.block _ (block_lt HXP.out)).trans HXP.out))).trans ((hb2.block _ (block_lt HXP.out)).trans HXP.out)); have HB2 := Lib.hid (Below.later HB1.out (Below.later hb2 (below1 w2 (.cells #[.int .i64 S.pl.at_.row, .int .i64 S.pl.at_.col] 30)) hb2.size) HB1.out.size); clear hb2)
    | (go_at_call 15; refine (HQ1.out _ HB0.out).mono ?_; rintro e w1 ⟨rfl, hb1⟩; have HXP := Lib.hid (heap_alloc_new w1 (.cells #[.int .i64 S.pl.at_.row, .int .i64 S.pl.at_.col] 30)); have HB1 := Lib.hid (Below.later hb1 (below1 w1 (.cells #[.int .i64 S.pl.at_.row, .int .i64 S.pl.at_.col] 30)) hb1.size); clear hb1))
  obtain ⟨p0, p1, _⟩ := row2 HXP4.out
  obtain ⟨q0, q1, _⟩ := row2 HXQ4.out
  obtain ⟨A1, cap1, rfl, hc1⟩ := HV14.out
  obtain ⟨A2, cap2, rfl, hc2⟩ := HV2.out
  have HC1 := Lib.hid hc1
  have HC2 := Lib.hid hc2
  clear hc1 hc2
  go_wp2_with (first
    | (go_at_call 16; refine (HZ2.out _ HB5.out).mono ?_; rintro e w6 ⟨rfl, hb6⟩; have HB6 := Lib.hid (Below.later HB5.out hb6 HB5.out.size); have HB46 := Lib.hid (Below.later HB45.out hb6 HB45.out.size); clear hb6)
    | (go_at_call 16; refine (HZ1.out _ HB4.out).mono ?_; rintro e w5 ⟨rfl, hb5⟩; have HB5 := Lib.hid (Below.later HB4.out hb5 HB4.out.size); have HB45 := Lib.hid hb5; clear hb5))
  have HC1' : Hid (∀ W, Below w6.heap.size w6 W → ∀ k, k < L.length → ∃ g, A1 = some ⟨g, 0, none⟩ ∧ W.cell? ⟨g, k, none⟩ = some (.int .i64 (L.getD k 0))) := fun W hb k hk => by
    obtain ⟨g, hA, hg⟩ := HC1.out k hk
    exact ⟨g, hA, ((Below.later HB46.out hb HB46.out.size).cell (World.block_lt_of_cell? _ _ hg)).trans hg⟩
  have HC2' : Hid (∀ W, Below w6.heap.size w6 W → ∀ k, k < L.length → ∃ g, A2 = some ⟨g, 0, none⟩ ∧ W.cell? ⟨g, k, none⟩ = some (.int .i64 (L.getD k 0))) := fun W hb k hk => by
    obtain ⟨g, hA, hg⟩ := HC2.out k hk
    exact ⟨g, hA, ((Below.later HB46.out hb HB46.out.size).cell (World.block_lt_of_cell? _ _ hg)).trans hg⟩
  clear p0 p1 q0 q1
  go_loopw [11] (fun i wr => ∃ k : Nat, k ≤ L.length ∧ i = .int .i64 (k : Int) ∧ Below w6.heap.size w6 wr) (fun i _ => L.length - (intOf i).toNat)
  case atStart => exact ⟨0, Nat.zero_le _, rfl, Below.refl _ _⟩
  case round =>
    obtain ⟨k, hk, rfl, hbr⟩ := hrel
    have HBR := Lib.hid hbr
    have HBD : Hid (Below w6.heap.size w6 wr.drew) := hbr.drew
    by_cases hlt : k < L.length
    · have hkz : (k : Int) < (L.length : Int) := by omega
      have hwk : IntKind.i64.wrap ((k : Int) + 1) = ((k + 1 : Nat) : Int) := by rw [wrap_in (by omega) (by omega)]; rfl
      obtain ⟨g1, rfl, -⟩ := HC1'.out _ hbr k hlt
      obtain ⟨g2, rfl, -⟩ := HC2'.out _ hbr k hlt
      have HD1 : Hid (∀ W, Below w6.heap.size w6 W → W.cell? ⟨g1, k, none⟩ = some (.int .i64 (L.getD k 0))) := fun W hb => by
        obtain ⟨g, hA, hg⟩ := HC1'.out W hb k hlt
        injection hA with hA
        injection hA with hA
        subst hA
        exact hg
      have HD2 : Hid (∀ W, Below w6.heap.size w6 W → W.cell? ⟨g2, k, none⟩ = some (.int .i64 (L.getD k 0))) := fun W hb => by
        obtain ⟨g, hA, hg⟩ := HC2'.out W hb k hlt
        injection hA with hA
        injection hA with hA
        subst hA
        exact hg
      generalize L.getD k 0 = c at *
      clear hbr
      go_upto_region 10 with fail
      refine wp_region_noPanic ?_
      refine wp_region_k (S := fun W : World => Below w6.heap.size w6 W) 999 (by kernel_rfl) (HBD.out) (fun hHeld => ?_)
      refine wpAnyK_pure (i := 0) (v := ?_) rfl rfl (by kernel_rfl) (by kernel_rfl) (by kernel_rfl) (by kernel_rfl) (fun _ _ _ h => h) (Or.inl ⟨by rfl, ?hy1⟩) (fun _ => hHeld) ?_
      case hy1 => (intro W hSw; refine Or.inl ?_; go_simp; try with_reducible rfl)
      try simp only [Act.put, List.getElem_toArray, List.getElem_cons_zero, List.getElem_cons_succ, List.setIfInBounds_toArray, List.set_cons_zero, List.set_cons_succ]
      refine wpAnyK_pure (i := 1) (v := ?_) rfl rfl (by kernel_rfl) (by kernel_rfl) (by kernel_rfl) (by kernel_rfl) (fun _ _ _ h => h) (Or.inl ⟨by rfl, ?hy2⟩) (fun _ => hHeld) ?_
      case hy2 => (intro W hSw; refine Or.inl ?_; go_simp; try with_reducible rfl)
      try simp only [Act.put, List.getElem_toArray, List.getElem_cons_zero, List.getElem_cons_succ, List.setIfInBounds_toArray, List.set_cons_zero, List.set_cons_succ]
      refine wpAnyK_pure (i := 2) (v := ?_) rfl rfl (by kernel_rfl) (by kernel_rfl) (by kernel_rfl) (by kernel_rfl) (fun _ _ _ h => h) (Or.inl ⟨by rfl, ?hy3⟩) (fun _ => hHeld) ?_
      case hy3 => (intro W hSw; refine Or.inl ?_; go_simp; try with_reducible rfl)
      try simp only [Act.put, List.getElem_toArray, List.getElem_cons_zero, List.getElem_cons_succ, List.setIfInBounds_toArray, List.set_cons_zero, List.set_cons_succ]
      refine wpAnyK_held (i := 3) (v := ?_) rfl (by decide) (by kernel_rfl) (by kernel_rfl) (by kernel_rfl) (by kernel_rfl) (fun _ _ _ h => h) (Or.inl ⟨by rfl, ?hy4⟩) hHeld ?_
      case hy4 => (intro W hSw; refine Or.inl ?_; have d1 := HD1.out _ hSw; have d2 := HD2.out _ hSw; go_simp; try with_reducible rfl)
      try simp only [Act.put, List.getElem_toArray, List.getElem_cons_zero, List.getElem_cons_succ, List.setIfInBounds_toArray, List.set_cons_zero, List.set_cons_succ]
      refine wpAnyK_pure (i := 4) (v := ?_) rfl rfl (by kernel_rfl) (by kernel_rfl) (by kernel_rfl) (by kernel_rfl) (fun _ _ _ h => h) (Or.inl ⟨by rfl, ?hy5⟩) (fun _ => hHeld) ?_
      case hy5 => (intro W hSw; refine Or.inl ?_; go_simp; try with_reducible rfl)
      try simp only [Act.put, List.getElem_toArray, List.getElem_cons_zero, List.getElem_cons_succ, List.setIfInBounds_toArray, List.set_cons_zero, List.set_cons_succ]
      refine wpAnyK_pure (i := 5) (v := ?_) rfl rfl (by kernel_rfl) (by kernel_rfl) (by kernel_rfl) (by kernel_rfl) (fun _ _ _ h => h) (Or.inl ⟨by rfl, ?hy6⟩) (fun _ => hHeld) ?_
      case hy6 => (intro W hSw; refine Or.inl ?_; go_simp; try with_reducible rfl)
      try simp only [Act.put, List.getElem_toArray, List.getElem_cons_zero, List.getElem_cons_succ, List.setIfInBounds_toArray, List.set_cons_zero, List.set_cons_succ]
      refine wpAnyK_pure (i := 6) (v := ?_) rfl rfl (by kernel_rfl) (by kernel_rfl) (by kernel_rfl) (by kernel_rfl) (fun _ _ _ h => h) (Or.inl ⟨by rfl, ?hy7⟩) (fun _ => hHeld) ?_
      case hy7 => (intro W hSw; refine Or.inl ?_; go_simp; try with_reducible rfl)
      try simp only [Act.put, List.getElem_toArray, List.getElem_cons_zero, List.getElem_cons_succ, List.setIfInBounds_toArray, List.set_cons_zero, List.set_cons_succ]
      refine wpAnyK_held (i := 7) (v := ?_) rfl (by decide) (by kernel_rfl) (by kernel_rfl) (by kernel_rfl) (by kernel_rfl) (fun _ _ _ h => h) (Or.inl ⟨by rfl, ?hy8⟩) hHeld ?_
      case hy8 => (intro W hSw; refine Or.inl ?_; have d1 := HD1.out _ hSw; have d2 := HD2.out _ hSw; go_simp; try with_reducible rfl)
      try simp only [Act.put, List.getElem_toArray, List.getElem_cons_zero, List.getElem_cons_succ, List.setIfInBounds_toArray, List.set_cons_zero, List.set_cons_succ]
      refine wpAnyK_pure (i := 8) (v := ?_) rfl rfl (by kernel_rfl) (by kernel_rfl) (by kernel_rfl) (by kernel_rfl) (fun _ _ _ h => h) (Or.inl ⟨by rfl, ?hy9⟩) (fun _ => hHeld) ?_
      case hy9 => (intro W hSw; refine Or.inl ?_; go_simp; try with_reducible rfl)
      try simp only [Act.put, List.getElem_toArray, List.getElem_cons_zero, List.getElem_cons_succ, List.setIfInBounds_toArray, List.set_cons_zero, List.set_cons_succ]
      refine wpAnyK_done (by kernel_rfl) ?_ _
      refine NoPanic.normal ?_
      go_wp2_with fail
      exact ⟨⟨k + 1, by omega, rfl, HBD.out⟩, by simp [intOf]; omega⟩
    · obtain rfl : k = L.length := by omega
      have HB7 : Hid (Below w.heap.size w wr) := Below.later HB6.out hbr HB6.out.size
      clear hbr
      go_wp2_with (first
        | (go_at_call 27; refine (alike_yes w8.heap.size LB1 ca1 w10.heap.size LB2 ca2 S.D w11 HG19.out HG2.out HM1.out).mono ?_; rintro e w12 ⟨rfl, hb12⟩; have HB12 := Lib.hid (Below.later HB11.out hb12 HB11.out.size); clear hb12)
        | (go_at_call 28; refine (of_rows _ OB2 C.D G2 K2 w10 HA2.out HM2.out).mono ?_; rintro e w11 ⟨LB2, ca2, rfl, hg, -, hb11⟩; have HG2 := Lib.hid (hg.congr HLK.out.1.symm HLK.out.2.1.symm (fun i j hi hj => (HLK.out.2.2 i j (by rw [← HLK.out.1]; exact hi) (by rw [← HLK.out.2.1]; exact hj)).symm)); have HG19 := Lib.hid (HG18.out.below hb11); have HB11 := Lib.hid (Below.later HB10.out hb11 HB10.out.size); clear hg hb11)
        | (go_at_call 29; refine (HR2.out _ HB9.out).mono ?_; rintro e w10 ⟨OB2, G2, K2, rfl, hA, hb10⟩; have HA2 := Lib.hid hA; have HG18 := Lib.hid (HG1.out.below hb10); have HB10 := Lib.hid (Below.later HB9.out hb10 HB9.out.size); clear hA hb10)
        | (go_at_call 28; refine (of_rows _ OB1 S.D G1 K1 w8 HA1.out HM1.out).mono ?_; rintro e w9 ⟨LB1, ca1, rfl, hg, -, hb9⟩; have HG1 := Lib.hid hg; have HB9 := Lib.hid (Below.later HB8.out hb9 HB8.out.size); clear hg hb9)
        | (go_at_call 29; refine (HR1.out _ HB7.out).mono ?_; rintro e w8 ⟨OB1, G1, K1, rfl, hA, hb8⟩; have HA1 := Lib.hid hA; have HB8 := Lib.hid (Below.later HB7.out hb8 HB7.out.size); clear hA hb8))
      go_ret
      exact ⟨rfl, HB12.out⟩
end Go.Proofs.YtbnkfiaggehmgaaGreatDoor
