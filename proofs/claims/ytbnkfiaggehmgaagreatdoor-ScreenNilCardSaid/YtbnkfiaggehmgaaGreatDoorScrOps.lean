/- Walks: a screen's Size, Cursor, At, Set, Move, Step. -/
import Derived.Test.YtbnkfiaggehmgaaGreatDoorScr
import Derived.Defers
namespace Go.Proofs.YtbnkfiaggehmgaaGreatDoor
open Go.RowKit
set_option linter.unusedSimpArgs false
set_option linter.unusedVariables false
attribute [local go_sem] alloc_drewN setCell_drewN World.cell?_alloc_some frozen_alloc_some size_f0 size_f1

theorem Scr.cells {W : World} {sp : Nat} {F : Nat → Prop} {S : Vz.Sr} (h : Scr W sp F S) : ∃ gp tp mb FG, ScrAt W sp gp tp mb FG S ∧ (∀ k, F k ↔ footS sp tp mb FG k) ∧ (W.cell? ⟨sp, 0, none⟩ = some (.int .i64 S.pl.at_.row) ∧ W.cell? ⟨sp, 1, none⟩ = some (.int .i64 S.pl.at_.col) ∧ W.cell? ⟨sp, 2, none⟩ = some (.bool S.pl.pend) ∧ W.cell? ⟨sp, 3, none⟩ = some (.pointer (some ⟨gp, 0, none⟩)) ∧ W.cell? ⟨sp, 4, none⟩ = some (.pointer (some ⟨tp, 0, none⟩)) ∧ W.frozen? ⟨sp, 0, none⟩ = false ∧ W.frozen? ⟨sp, 1, none⟩ = false ∧ W.frozen? ⟨sp, 2, none⟩ = false) ∧ sp < W.heap.size := by
  obtain ⟨gp, tp, mb, FG, h, hF⟩ := h
  obtain ⟨h0, h1, h2, h3, h4, f0, f1, f2, _⟩ := row5' h.box
  exact ⟨gp, tp, mb, FG, h, hF, ⟨h0, h1, h2, h3, h4, f0, f1, f2⟩, block_lt h.box⟩
theorem set_two {W : World} {g : Nat} {a b : Value} {t : TypeId} (h : W.heap[g]? = some (.cells #[a, b] t (0, 0))) (u0 u1 : Value) :
    ((W.setCell ⟨g, 0, none⟩ u0).setCell ⟨g, 1, none⟩ u1).heap[g]? = some (.cells #[u0, u1] t (0, 0)) := by
  have h0 := heap_set_same h 0 u0
  have h1 := heap_set_same h0 1 u1
  exact h1

set_option maxRecDepth 10000 in
set_option maxHeartbeats 2000000 in
theorem scr_size (sp : Nat) (F : Nat → Prop) (S : Vz.Sr) (w : World) (h : Scr w sp F S) : Calls Tryz.prog 16 #[.pointer (some ⟨sp, 0, none⟩)] w fun e w' => e = .returned (.agg #[.int .i64 S.D.R, .int .i64 S.D.C]) ∧ Below w.heap.size w w' := by
  obtain ⟨gp, tp, mb, FG, hA, hF, ⟨c0, c1, c2, c3, c4, f0, f1, f2⟩, hlt⟩ := h.cells
  have HB : Hid (Below w.heap.size w (w.alloc (.cells #[.int .i64 0, .int .i64 0] 39))) := below1 _ _
  have HC := Lib.hid (gsize_ok gp FG S.D _ (hA.grid.below HB.out))
  have HN := Lib.hid (heap_alloc_new w (.cells #[.int .i64 0, .int .i64 0] 39))
  clear hA hF h
  go_enter Tryz.func16, Tryz.ntmps16
  go_wp2_with (go_at_call 40; refine HC.out.mono ?_; rintro e w1 ⟨rfl, hb1⟩; have HN1 := Lib.hid ((hb1.block _ (block_lt HN.out)).trans HN.out); obtain ⟨b0, b1, g0, g1⟩ := row2 HN1.out; have HB1 := Lib.hid (Below.later HB.out hb1 HB.out.size); clear hb1)
  obtain ⟨r0, r1, _⟩ := row2 (set_two HN1.out (.int .i64 S.D.R) (.int .i64 S.D.C))
  refine bodyPost_ret (v := .agg #[.int .i64 S.D.R, .int .i64 S.D.C]) (by simp [results, Tryz.results16, go_sem, r0, r1]) rfl ⟨rfl, ?_⟩
  exact (HB1.out.setCell (p := ⟨w.heap.size, 0, none⟩) (Nat.le_refl _) _).setCell (p := ⟨w.heap.size, 1, none⟩) (Nat.le_refl _) _
/-- What a screen's cells are in all worlds that leave old blocks alone. -/
theorem Scr.held {W : World} {sp : Nat} {F : Nat → Prop} {S : Vz.Sr} (h : Scr W sp F S) : ∃ gp tp mb FG, ScrAt W sp gp tp mb FG S ∧ (∀ k, F k ↔ footS sp tp mb FG k) ∧ Hid (∀ W', Below W.heap.size W W' → (W'.cell? ⟨sp, 0, none⟩ = some (.int .i64 S.pl.at_.row) ∧ W'.cell? ⟨sp, 1, none⟩ = some (.int .i64 S.pl.at_.col) ∧ W'.cell? ⟨sp, 2, none⟩ = some (.bool S.pl.pend) ∧ W'.cell? ⟨sp, 3, none⟩ = some (.pointer (some ⟨gp, 0, none⟩)) ∧ W'.cell? ⟨sp, 4, none⟩ = some (.pointer (some ⟨tp, 0, none⟩)) ∧ W'.frozen? ⟨sp, 0, none⟩ = false ∧ W'.frozen? ⟨sp, 1, none⟩ = false ∧ W'.frozen? ⟨sp, 2, none⟩ = false)) ∧ sp < W.heap.size := by
  obtain ⟨gp, tp, mb, FG, h, hF⟩ := h
  refine ⟨gp, tp, mb, FG, h, hF, fun W' hb => ?_, block_lt h.box⟩
  obtain ⟨h0, h1, h2, h3, h4, f0, f1, f2, _⟩ := row5' ((h.below hb).box)
  exact ⟨h0, h1, h2, h3, h4, f0, f1, f2⟩
set_option maxRecDepth 10000 in
set_option maxHeartbeats 2000000 in
theorem scr_cursor (sp : Nat) (F : Nat → Prop) (S : Vz.Sr) (w : World) (h : Scr w sp F S) : Calls Tryz.prog 15 #[.pointer (some ⟨sp, 0, none⟩)] w fun e w' => e = .returned (.tuple #[.agg #[.int .i64 S.pl.at_.row, .int .i64 S.pl.at_.col], .bool S.pl.pend]) ∧ Below w.heap.size w w' := by
  obtain ⟨gp, tp, mb, FG, hA, hF, HC, hlt⟩ := h.held
  have HB : Hid (Below w.heap.size w (w.alloc (.cells #[.int .i64 0, .int .i64 0] 30)).drew) := (below1 _ _).drew
  clear hA hF h
  go_enter Tryz.func15, Tryz.ntmps15
  go_upto_region 3 with fail
  refine wp_region_noPanic ?_
  refine wp_region_k (S := fun W : World => Below w.heap.size w W) 11 (by kernel_rfl) (HB.out) (fun hHeld => ?_)
  refine wpAnyK_pure (i := 0) (v := ?_) rfl rfl (by kernel_rfl) (by kernel_rfl) (by kernel_rfl) (by kernel_rfl) (fun _ _ _ h => h) (Or.inl ⟨by rfl, ?hy1⟩) (fun _ => hHeld) ?_
  case hy1 => (intro W hSw; refine Or.inl ?_; go_simp; try with_reducible rfl)
  try simp only [Act.put, List.getElem_toArray, List.getElem_cons_zero, List.getElem_cons_succ, List.setIfInBounds_toArray, List.set_cons_zero, List.set_cons_succ]
  refine wpAnyK_pure (i := 1) (v := ?_) rfl rfl (by kernel_rfl) (by kernel_rfl) (by kernel_rfl) (by kernel_rfl) (fun _ _ _ h => h) (Or.inl ⟨by rfl, ?hy2⟩) (fun _ => hHeld) ?_
  case hy2 => (intro W hSw; refine Or.inl ?_; go_simp; try with_reducible rfl)
  try simp only [Act.put, List.getElem_toArray, List.getElem_cons_zero, List.getElem_cons_succ, List.setIfInBounds_toArray, List.set_cons_zero, List.set_cons_succ]
  refine wpAnyK_pure (i := 2) (v := ?_) rfl rfl (by kernel_rfl) (by kernel_rfl) (by kernel_rfl) (by kernel_rfl) (fun _ _ _ h => h) (Or.inl ⟨by rfl, ?hy3⟩) (fun _ => hHeld) ?_
  case hy3 => (intro W hSw; refine Or.inl ?_; go_simp; try with_reducible rfl)
  try simp only [Act.put, List.getElem_toArray, List.getElem_cons_zero, List.getElem_cons_succ, List.setIfInBounds_toArray, List.set_cons_zero, List.set_cons_succ]
  refine wpAnyK_pure (i := 3) (v := ?_) rfl rfl (by kernel_rfl) (by kernel_rfl) (by kernel_rfl) (by kernel_rfl) (fun _ _ _ h => h) (Or.inl ⟨by rfl, ?hy4⟩) (fun _ => hHeld) ?_
  case hy4 => (intro W hSw; refine Or.inl ?_; go_simp; try with_reducible rfl)
  try simp only [Act.put, List.getElem_toArray, List.getElem_cons_zero, List.getElem_cons_succ, List.setIfInBounds_toArray, List.set_cons_zero, List.set_cons_succ]
  refine wpAnyK_take (i := 4) (v := ?_) [] rfl (by kernel_rfl) rfl (by kernel_rfl) (by kernel_rfl) (by kernel_rfl) (by kernel_rfl) (fun _ _ _ h => h) (Or.inl ⟨by rfl, ?hy5⟩) hHeld ?_
  case hy5 => (intro W hSw; refine Or.inl ?_; obtain ⟨c0, c1, c2, _⟩ := HC.out _ hSw; go_simp; try with_reducible rfl)
  try simp only [Act.put, List.getElem_toArray, List.getElem_cons_zero, List.getElem_cons_succ, List.setIfInBounds_toArray, List.set_cons_zero, List.set_cons_succ]
  refine wpAnyK_pure (i := 5) (v := ?_) rfl rfl (by kernel_rfl) (by kernel_rfl) (by kernel_rfl) (by kernel_rfl) (fun _ _ _ h => h) (Or.inl ⟨by rfl, ?hy6⟩) (fun _ => hHeld) ?_
  case hy6 => (intro W hSw; refine Or.inl ?_; go_simp; try with_reducible rfl)
  try simp only [Act.put, List.getElem_toArray, List.getElem_cons_zero, List.getElem_cons_succ, List.setIfInBounds_toArray, List.set_cons_zero, List.set_cons_succ]
  refine wpAnyK_pure (i := 6) (v := ?_) rfl rfl (by kernel_rfl) (by kernel_rfl) (by kernel_rfl) (by kernel_rfl) (fun _ _ _ h => h) (Or.inl ⟨by rfl, ?hy7⟩) (fun _ => hHeld) ?_
  case hy7 => (intro W hSw; refine Or.inl ?_; go_simp; try with_reducible rfl)
  try simp only [Act.put, List.getElem_toArray, List.getElem_cons_zero, List.getElem_cons_succ, List.setIfInBounds_toArray, List.set_cons_zero, List.set_cons_succ]
  refine wpAnyK_pure (i := 7) (v := ?_) rfl rfl (by kernel_rfl) (by kernel_rfl) (by kernel_rfl) (by kernel_rfl) (fun _ _ _ h => h) (Or.inl ⟨by rfl, ?hy8⟩) (fun _ => hHeld) ?_
  case hy8 => (intro W hSw; refine Or.inl ?_; go_simp; try with_reducible rfl)
  try simp only [Act.put, List.getElem_toArray, List.getElem_cons_zero, List.getElem_cons_succ, List.setIfInBounds_toArray, List.set_cons_zero, List.set_cons_succ]
  refine wpAnyK_pure (i := 8) (v := ?_) rfl rfl (by kernel_rfl) (by kernel_rfl) (by kernel_rfl) (by kernel_rfl) (fun _ _ _ h => h) (Or.inl ⟨by rfl, ?hy9⟩) (fun _ => hHeld) ?_
  case hy9 => (intro W hSw; refine Or.inl ?_; go_simp; try with_reducible rfl)
  try simp only [Act.put, List.getElem_toArray, List.getElem_cons_zero, List.getElem_cons_succ, List.setIfInBounds_toArray, List.set_cons_zero, List.set_cons_succ]
  refine wpAnyK_take (i := 9) (v := ?_) [] rfl (by kernel_rfl) rfl (by kernel_rfl) (by kernel_rfl) (by kernel_rfl) (by kernel_rfl) (fun _ _ _ h => h) (Or.inl ⟨by rfl, ?hy10⟩) hHeld ?_
  case hy10 => (intro W hSw; refine Or.inl ?_; obtain ⟨c0, c1, c2, _⟩ := HC.out _ hSw; go_simp; try with_reducible rfl)
  try simp only [Act.put, List.getElem_toArray, List.getElem_cons_zero, List.getElem_cons_succ, List.setIfInBounds_toArray, List.set_cons_zero, List.set_cons_succ]
  refine wpAnyK_ready (rs := [10]) (by kernel_rfl) (by simp) ?_
  refine AllReadyK.cons rfl (fun KQ hKQ => ?_) AllReadyK.nil
  go_simp
  refine hKQ.out _ _ ((below1 w _).drew) (fun hHeld2 => ?_)
  clear hHeld hKQ KQ
  have hHeld := hHeld2
  clear hHeld2
  try simp only [Act.put, List.getElem_toArray, List.getElem_cons_zero, List.getElem_cons_succ, List.setIfInBounds_toArray, List.set_cons_zero, List.set_cons_succ]
  refine wpAnyK_ready (rs := [11]) (by kernel_rfl) (by simp) ?_
  refine AllReadyK.free rfl (by kernel_rfl) (fun KQ hKQ => ?_) AllReadyK.nil
  go_simp
  refine hKQ.out _ _ ?_
  clear hKQ KQ
  try simp only [Act.put, List.getElem_toArray, List.getElem_cons_zero, List.getElem_cons_succ, List.setIfInBounds_toArray, List.set_cons_zero, List.set_cons_succ]
  refine wpAnyK_done (by kernel_rfl) ?_ _
  refine NoPanic.normal ?_
  go_wp2_with fail
  refine bodyPost_ret (v := .tuple #[.agg #[.int .i64 S.pl.at_.row, .int .i64 S.pl.at_.col], .bool S.pl.pend]) (by simp [results, Tryz.results15, go_sem]) rfl ⟨rfl, (below1 w _).drew⟩
set_option maxRecDepth 10000 in
set_option maxHeartbeats 2000000 in
theorem scr_at (sp : Nat) (F : Nat → Prop) (S : Vz.Sr) (p : Vz.Ps) (w : World) (h : Scr w sp F S) (hP : p.inS S.D.R S.D.C) : Calls Tryz.prog 18 #[.pointer (some ⟨sp, 0, none⟩), .agg #[.int .i64 p.row, .int .i64 p.col]] w fun e w' => e = .returned (.tuple #[.agg #[.int .i32 (atD S.D p).g, .int .i64 (atD S.D p).a, .bool (atD S.D p).gd, .int .i64 (atD S.D p).m], .int .i64 0]) ∧ Below w.heap.size w w' := by
  obtain ⟨gp, tp, mb, FG, hA, hF, HC, hlt⟩ := h.held
  have HAT := Lib.hid (fun W (hb : Below w.heap.size w W) => gat_ok gp FG S.D p W (hA.grid.below hb) hP)
  clear hA hF h hP
  generalize atD S.D p = x at *
  generalize p.row = pr at *
  generalize p.col = pc at *
  have HB : Hid (Below w.heap.size w ((w.alloc (.cells #[.int .i64 pr, .int .i64 pc] 30)).alloc (.cells #[.int .i32 0, .int .i64 0, .bool false, .int .i64 0] 24)).drew) := (Grows.below (((Grows.refl _).alloc _).alloc _)).drew
  obtain ⟨hn0, hn1⟩ := box2 (Below.refl ((w.alloc (.cells #[.int .i64 pr, .int .i64 pc] 30)).alloc (.cells #[.int .i32 0, .int .i64 0, .bool false, .int .i64 0] 24)).heap.size _)
  have HN0 := Lib.hid hn0
  have HN1 := Lib.hid hn1.1
  clear hn0 hn1
  go_enter Tryz.func18, Tryz.ntmps18
  go_upto_region 3 with fail
  refine wp_region_noPanic ?_
  refine wp_region_k (S := fun W : World => Below w.heap.size w W ∧ W.heap[w.heap.size]? = some (.cells #[.int .i64 pr, .int .i64 pc] 30 (0, 0))) 5 (by kernel_rfl) (⟨HB.out, HN0.out⟩) (fun hHeld => ?_)
  refine wpAnyK_pure (i := 0) (v := ?_) rfl rfl (by kernel_rfl) (by kernel_rfl) (by kernel_rfl) (by kernel_rfl) (fun _ _ _ h => h) (Or.inl ⟨by rfl, ?hy1⟩) (fun _ => hHeld) ?_
  case hy1 => (intro W hSw; refine Or.inl ?_; go_simp; try with_reducible rfl)
  try simp only [Act.put, List.getElem_toArray, List.getElem_cons_zero, List.getElem_cons_succ, List.setIfInBounds_toArray, List.set_cons_zero, List.set_cons_succ]
  refine wpAnyK_pure (i := 1) (v := ?_) rfl rfl (by kernel_rfl) (by kernel_rfl) (by kernel_rfl) (by kernel_rfl) (fun _ _ _ h => h) (Or.inl ⟨by rfl, ?hy2⟩) (fun _ => hHeld) ?_
  case hy2 => (intro W hSw; refine Or.inl ?_; go_simp; try with_reducible rfl)
  try simp only [Act.put, List.getElem_toArray, List.getElem_cons_zero, List.getElem_cons_succ, List.setIfInBounds_toArray, List.set_cons_zero, List.set_cons_succ]
  refine wpAnyK_pure (i := 2) (v := ?_) rfl rfl (by kernel_rfl) (by kernel_rfl) (by kernel_rfl) (by kernel_rfl) (fun _ _ _ h => h) (Or.inl ⟨by rfl, ?hy3⟩) (fun _ => hHeld) ?_
  case hy3 => (intro W hSw; refine Or.inl ?_; go_simp; try with_reducible rfl)
  try simp only [Act.put, List.getElem_toArray, List.getElem_cons_zero, List.getElem_cons_succ, List.setIfInBounds_toArray, List.set_cons_zero, List.set_cons_succ]
  refine wpAnyK_take (i := 3) (v := ?_) [] rfl (by kernel_rfl) rfl (by kernel_rfl) (by kernel_rfl) (by kernel_rfl) (by kernel_rfl) (fun _ _ _ h => h) (Or.inl ⟨by rfl, ?hy4⟩) hHeld ?_
  case hy4 => (intro W hSw; refine Or.inl ?_; obtain ⟨c0, c1, c2, c3, _⟩ := HC.out _ hSw.1; obtain ⟨p0, p1, _⟩ := row2 hSw.2; go_simp; try with_reducible rfl)
  try simp only [Act.put, List.getElem_toArray, List.getElem_cons_zero, List.getElem_cons_succ, List.setIfInBounds_toArray, List.set_cons_zero, List.set_cons_succ]
  refine wpAnyK_take (i := 4) (v := ?_) [] rfl (by kernel_rfl) rfl (by kernel_rfl) (by kernel_rfl) (by kernel_rfl) (by kernel_rfl) (fun _ _ _ h => h) (Or.inl ⟨by rfl, ?hy5⟩) hHeld ?_
  case hy5 => (intro W hSw; refine Or.inl ?_; obtain ⟨c0, c1, c2, c3, _⟩ := HC.out _ hSw.1; obtain ⟨p0, p1, _⟩ := row2 hSw.2; go_simp; try with_reducible rfl)
  try simp only [Act.put, List.getElem_toArray, List.getElem_cons_zero, List.getElem_cons_succ, List.setIfInBounds_toArray, List.set_cons_zero, List.set_cons_succ]
  refine wpAnyK_ready (rs := [5]) (by kernel_rfl) (by simp) ?_
  refine AllReadyK.free rfl (by kernel_rfl) (fun KQ hKQ => ?_) AllReadyK.nil
  go_simp
  go_at_call 43
  refine (HAT.out _ HB.out).mono ?_
  rintro e w1 ⟨rfl, hb1⟩
  have HB1 := Lib.hid (Below.later HB.out hb1 HB.out.size)
  have HX1 : Hid (w1.heap[w.heap.size + 1]? = some (.cells #[.int .i32 0, .int .i64 0, .bool false, .int .i64 0] 24 (0, 0))) := (hb1.block _ (block_lt HN1.out)).trans HN1.out
  go_wp2_with fail
  refine hKQ.out _ _ ?_
  clear hKQ KQ
  try simp only [Act.put, List.getElem_toArray, List.getElem_cons_zero, List.getElem_cons_succ, List.setIfInBounds_toArray, List.set_cons_zero, List.set_cons_succ]
  obtain ⟨x0, x1, x2, x3, f0, f1, f2, f3⟩ := row4 HX1.out
  refine wpAnyK_pure (i := 6) (v := ?_) rfl rfl (by kernel_rfl) (by kernel_rfl) (by kernel_rfl) (by kernel_rfl) (fun _ _ _ h => h) (Or.inl ⟨by rfl, ?hy6⟩) (fun e => Bool.noConfusion (show true = false from e)) ?_
  case hy6 => (intro W hSw; refine Or.inl ?_; go_simp; try with_reducible rfl)
  try simp only [Act.put, List.getElem_toArray, List.getElem_cons_zero, List.getElem_cons_succ, List.setIfInBounds_toArray, List.set_cons_zero, List.set_cons_succ]
  refine wpAnyK_pure (i := 7) (v := ?_) rfl rfl (by kernel_rfl) (by kernel_rfl) (by kernel_rfl) (by kernel_rfl) (fun _ _ _ h => h) (Or.inl ⟨by rfl, ?hy7⟩) (fun e => Bool.noConfusion (show true = false from e)) ?_
  case hy7 => (intro W hSw; refine Or.inl ?_; go_simp; try with_reducible rfl)
  try simp only [Act.put, List.getElem_toArray, List.getElem_cons_zero, List.getElem_cons_succ, List.setIfInBounds_toArray, List.set_cons_zero, List.set_cons_succ]
  refine wpAnyK_ready (rs := [8]) (by kernel_rfl) (by simp) ?_
  refine AllReadyK.free rfl (by kernel_rfl) (fun KQ hKQ => ?_) AllReadyK.nil
  go_simp
  refine hKQ.out _ _ ?_
  clear hKQ KQ
  try simp only [Act.put, List.getElem_toArray, List.getElem_cons_zero, List.getElem_cons_succ, List.setIfInBounds_toArray, List.set_cons_zero, List.set_cons_succ]
  refine wpAnyK_pure (i := 9) (v := ?_) rfl rfl (by kernel_rfl) (by kernel_rfl) (by kernel_rfl) (by kernel_rfl) (fun _ _ _ h => h) (Or.inl ⟨by rfl, ?hy8⟩) (fun e => Bool.noConfusion (show true = false from e)) ?_
  case hy8 => (intro W hSw; refine Or.inl ?_; go_simp; try with_reducible rfl)
  try simp only [Act.put, List.getElem_toArray, List.getElem_cons_zero, List.getElem_cons_succ, List.setIfInBounds_toArray, List.set_cons_zero, List.set_cons_succ]
  refine wpAnyK_done (by kernel_rfl) ?_ _
  refine NoPanic.normal ?_
  go_wp2_with fail
  obtain ⟨r0, r1, r2, r3, _⟩ := row4 (set_four HX1.out (.int .i32 x.g) (.int .i64 x.a) (.bool x.gd) (.int .i64 x.m))
  refine bodyPost_ret (v := .tuple #[.agg #[.int .i32 x.g, .int .i64 x.a, .bool x.gd, .int .i64 x.m], .int .i64 0]) (by simp [results, Tryz.results18, go_sem, r0, r1, r2, r3]) rfl ⟨rfl, ?_⟩
  exact Below.set4 HB1.out (Nat.le_succ _) _ _ _ _
set_option maxRecDepth 10000 in
set_option maxHeartbeats 2000000 in
theorem scr_move (sp : Nat) (F : Nat → Prop) (S : Vz.Sr) (p : Vz.Ps) (w : World) (h : Scr w sp F S) : Calls Tryz.prog 26 #[.pointer (some ⟨sp, 0, none⟩), .agg #[.int .i64 p.row, .int .i64 p.col]] w fun e w' => e = .returned (.tuple #[]) ∧ ScrTo w w' sp F { S with pl := ⟨Vz.nearP S.D.R S.D.C p, false⟩ } := by
  obtain ⟨gp, tp, mb, FG, hA, hF, HC, hlt⟩ := h.held
  have hin := Vz.nearP_in S.D.R S.D.C p (Vz.Gd.may_mayS hA.grid.may)
  have HIN := Lib.hid hin
  have HSZ := Lib.hid (fun W (hb : Below w.heap.size w W) => scr_size sp F S W (h.below hb))
  have HP := Lib.hid (near_pos S.D.R S.D.C p.row p.col)
  have HFS : Hid (F sp) := (hF sp).2 (.inl rfl)
  have H := Lib.hid h
  clear hA hF h hin
  generalize hq : Vz.nearP S.D.R S.D.C p = q at *
  clear hq
  generalize p.row = pr at *
  generalize p.col = pc at *
  have HB : Hid (Below w.heap.size w (w.alloc (.cells #[.int .i64 pr, .int .i64 pc] 30)).drew) := (below1 _ _).drew
  have HN0 := Lib.hid (heap_alloc_new w (.cells #[.int .i64 pr, .int .i64 pc] 30))
  go_enter Tryz.func26, Tryz.ntmps26
  go_upto_region 2 with fail
  refine wp_region_noPanic ?_
  refine wp_region_k (S := fun W : World => Below w.heap.size w W ∧ W.heap[w.heap.size]? = some (.cells #[.int .i64 pr, .int .i64 pc] 30 (0, 0))) 4 (by kernel_rfl) (⟨HB.out, HN0.out⟩) (fun hHeld => ?_)
  refine wpAnyK_pure (i := 0) (v := ?_) rfl rfl (by kernel_rfl) (by kernel_rfl) (by kernel_rfl) (by kernel_rfl) (fun _ _ _ h => h) (Or.inl ⟨by rfl, ?hy1⟩) (fun _ => hHeld) ?_
  case hy1 => (intro W hSw; refine Or.inl ?_; go_simp; try with_reducible rfl)
  try simp only [Act.put, List.getElem_toArray, List.getElem_cons_zero, List.getElem_cons_succ, List.setIfInBounds_toArray, List.set_cons_zero, List.set_cons_succ]
  refine wpAnyK_pure (i := 1) (v := ?_) rfl rfl (by kernel_rfl) (by kernel_rfl) (by kernel_rfl) (by kernel_rfl) (fun _ _ _ h => h) (Or.inl ⟨by rfl, ?hy2⟩) (fun _ => hHeld) ?_
  case hy2 => (intro W hSw; refine Or.inl ?_; go_simp; try with_reducible rfl)
  try simp only [Act.put, List.getElem_toArray, List.getElem_cons_zero, List.getElem_cons_succ, List.setIfInBounds_toArray, List.set_cons_zero, List.set_cons_succ]
  refine wpAnyK_take (i := 3) (v := ?_) [] rfl (by kernel_rfl) rfl (by kernel_rfl) (by kernel_rfl) (by kernel_rfl) (by kernel_rfl) (fun _ _ _ h => h) (Or.inl ⟨by rfl, ?hy3⟩) hHeld ?_
  case hy3 => (intro W hSw; refine Or.inl ?_; obtain ⟨p0, p1, _⟩ := row2 hSw.2; go_simp; try with_reducible rfl)
  try simp only [Act.put, List.getElem_toArray, List.getElem_cons_zero, List.getElem_cons_succ, List.setIfInBounds_toArray, List.set_cons_zero, List.set_cons_succ]
  refine wpAnyK_ready (rs := [2]) (by kernel_rfl) (by simp) ?_
  refine AllReadyK.cons rfl (fun KQ hKQ => ?_) AllReadyK.nil
  go_simp
  go_at_call 16
  refine (HSZ.out _ HB.out).mono ?_
  rintro e w1 ⟨rfl, hb1⟩
  have HB1 := Lib.hid (Below.later HB.out hb1 HB.out.size)
  have HX1 : Hid (w1.heap[w.heap.size]? = some (.cells #[.int .i64 pr, .int .i64 pc] 30 (0, 0))) := (hb1.block _ (block_lt HN0.out)).trans HN0.out
  go_wp2_with fail
  refine hKQ.out _ _ (⟨HB1.out, HX1.out⟩) (fun hHeld2 => ?_)
  clear hHeld hKQ KQ
  have hHeld := hHeld2
  clear hHeld2
  try simp only [Act.put, List.getElem_toArray, List.getElem_cons_zero, List.getElem_cons_succ, List.setIfInBounds_toArray, List.set_cons_zero, List.set_cons_succ]
  refine wpAnyK_ready (rs := [4]) (by kernel_rfl) (by simp) ?_
  refine AllReadyK.free rfl (by kernel_rfl) (fun KQ hKQ => ?_) AllReadyK.nil
  go_simp
  go_at_call 67
  refine (HP.out _).mono ?_
  rintro e w2 ⟨rfl, hg2⟩
  have HB2 := Lib.hid (Below.later HB1.out hg2.below HB1.out.size)
  go_wp2_with fail
  refine hKQ.out _ _ ?_
  clear hKQ KQ
  try simp only [Act.put, List.getElem_toArray, List.getElem_cons_zero, List.getElem_cons_succ, List.setIfInBounds_toArray, List.set_cons_zero, List.set_cons_succ]
  obtain ⟨c0, c1, c2, c3, c4, f0, f1, f2⟩ := HC.out _ HB2.out
  refine wpAnyK_pure (i := 5) (v := ?_) rfl rfl (by kernel_rfl) (by kernel_rfl) (by kernel_rfl) (by kernel_rfl) (fun _ _ _ h => h) (Or.inl ⟨by rfl, ?hy4⟩) (fun e => Bool.noConfusion (show true = false from e)) ?_
  case hy4 => (intro W hSw; refine Or.inl ?_; go_simp; try with_reducible rfl)
  try simp only [Act.put, List.getElem_toArray, List.getElem_cons_zero, List.getElem_cons_succ, List.setIfInBounds_toArray, List.set_cons_zero, List.set_cons_succ]
  refine wpAnyK_pure (i := 6) (v := ?_) rfl rfl (by kernel_rfl) (by kernel_rfl) (by kernel_rfl) (by kernel_rfl) (fun _ _ _ h => h) (Or.inl ⟨by rfl, ?hy5⟩) (fun e => Bool.noConfusion (show true = false from e)) ?_
  case hy5 => (intro W hSw; refine Or.inl ?_; go_simp; try with_reducible rfl)
  try simp only [Act.put, List.getElem_toArray, List.getElem_cons_zero, List.getElem_cons_succ, List.setIfInBounds_toArray, List.set_cons_zero, List.set_cons_succ]
  refine wpAnyK_pure (i := 7) (v := ?_) rfl rfl (by kernel_rfl) (by kernel_rfl) (by kernel_rfl) (by kernel_rfl) (fun _ _ _ h => h) (Or.inl ⟨by rfl, ?hy6⟩) (fun e => Bool.noConfusion (show true = false from e)) ?_
  case hy6 => (intro W hSw; refine Or.inl ?_; go_simp; try with_reducible rfl)
  try simp only [Act.put, List.getElem_toArray, List.getElem_cons_zero, List.getElem_cons_succ, List.setIfInBounds_toArray, List.set_cons_zero, List.set_cons_succ]
  refine wpAnyK_ready (rs := [8]) (by kernel_rfl) (by simp) ?_
  refine AllReadyK.free rfl (by kernel_rfl) (fun KQ hKQ => ?_) AllReadyK.nil
  go_simp
  refine hKQ.out _ _ ?_
  clear hKQ KQ
  try simp only [Act.put, List.getElem_toArray, List.getElem_cons_zero, List.getElem_cons_succ, List.setIfInBounds_toArray, List.set_cons_zero, List.set_cons_succ]
  refine wpAnyK_done (by kernel_rfl) ?_ _
  refine NoPanic.normal ?_
  go_wp2_with fail
  go_end0
  exact ⟨rfl, (ScrTo.after HB2.out (ScrTo.refl (H.out.below HB2.out))).place HFS.out ⟨q, false⟩ HIN.out⟩
set_option maxRecDepth 10000 in
set_option maxHeartbeats 2000000 in
theorem scr_step (sp : Nat) (F : Nat → Prop) (S : Vz.Sr) (a b : Int) (w : World) (h : Scr w sp F S) : Calls Tryz.prog 34 #[.pointer (some ⟨sp, 0, none⟩), .int .i64 a, .int .i64 b] w fun e w' => e = .returned (.tuple #[]) ∧ ScrTo w w' sp F { S with pl := Vz.stepP S.D.R S.D.C S.pl a b } := by
  obtain ⟨gp, tp, mb, FG, hA, hF, HC, hlt⟩ := h.held
  have hin := Vz.stepP_in S.D.R S.D.C S.pl a b (Vz.Gd.may_mayS hA.grid.may)
  have HIN := Lib.hid hin
  have HSZ := Lib.hid (fun W (hb : Below w.heap.size w W) => scr_size sp F S W (h.below hb))
  have HP := Lib.hid (step_any S.D.R S.D.C S.pl.at_.row S.pl.at_.col S.pl.pend a b)
  have HFS : Hid (F sp) := (hF sp).2 (.inl rfl)
  have H := Lib.hid h
  have hpd : (Vz.stepP S.D.R S.D.C S.pl a b).pend = false := rfl
  clear hA hF h hin
  generalize hq : Vz.stepP S.D.R S.D.C S.pl a b = q at *
  clear hq
  have HQ := Lib.hid hpd
  clear hpd
  have HB : Hid (Below w.heap.size w w.drew) := (Below.refl _ _).drew
  go_enter Tryz.func34, Tryz.ntmps34
  go_upto_region 1 with fail
  refine wp_region_noPanic ?_
  refine wp_region_k (S := fun W : World => Below w.heap.size w W) 9 (by kernel_rfl) (HB.out) (fun hHeld => ?_)
  refine wpAnyK_pure (i := 0) (v := ?_) rfl rfl (by kernel_rfl) (by kernel_rfl) (by kernel_rfl) (by kernel_rfl) (fun _ _ _ h => h) (Or.inl ⟨by rfl, ?hy1⟩) (fun _ => hHeld) ?_
  case hy1 => (intro W hSw; refine Or.inl ?_; go_simp; try with_reducible rfl)
  try simp only [Act.put, List.getElem_toArray, List.getElem_cons_zero, List.getElem_cons_succ, List.setIfInBounds_toArray, List.set_cons_zero, List.set_cons_succ]
  refine wpAnyK_pure (i := 1) (v := ?_) rfl rfl (by kernel_rfl) (by kernel_rfl) (by kernel_rfl) (by kernel_rfl) (fun _ _ _ h => h) (Or.inl ⟨by rfl, ?hy2⟩) (fun _ => hHeld) ?_
  case hy2 => (intro W hSw; refine Or.inl ?_; go_simp; try with_reducible rfl)
  try simp only [Act.put, List.getElem_toArray, List.getElem_cons_zero, List.getElem_cons_succ, List.setIfInBounds_toArray, List.set_cons_zero, List.set_cons_succ]
  refine wpAnyK_pure (i := 3) (v := ?_) rfl rfl (by kernel_rfl) (by kernel_rfl) (by kernel_rfl) (by kernel_rfl) (fun _ _ _ h => h) (Or.inl ⟨by rfl, ?hy3⟩) (fun _ => hHeld) ?_
  case hy3 => (intro W hSw; refine Or.inl ?_; go_simp; try with_reducible rfl)
  try simp only [Act.put, List.getElem_toArray, List.getElem_cons_zero, List.getElem_cons_succ, List.setIfInBounds_toArray, List.set_cons_zero, List.set_cons_succ]
  refine wpAnyK_pure (i := 4) (v := ?_) rfl rfl (by kernel_rfl) (by kernel_rfl) (by kernel_rfl) (by kernel_rfl) (fun _ _ _ h => h) (Or.inl ⟨by rfl, ?hy4⟩) (fun _ => hHeld) ?_
  case hy4 => (intro W hSw; refine Or.inl ?_; go_simp; try with_reducible rfl)
  try simp only [Act.put, List.getElem_toArray, List.getElem_cons_zero, List.getElem_cons_succ, List.setIfInBounds_toArray, List.set_cons_zero, List.set_cons_succ]
  refine wpAnyK_pure (i := 5) (v := ?_) rfl rfl (by kernel_rfl) (by kernel_rfl) (by kernel_rfl) (by kernel_rfl) (fun _ _ _ h => h) (Or.inl ⟨by rfl, ?hy5⟩) (fun _ => hHeld) ?_
  case hy5 => (intro W hSw; refine Or.inl ?_; go_simp; try with_reducible rfl)
  try simp only [Act.put, List.getElem_toArray, List.getElem_cons_zero, List.getElem_cons_succ, List.setIfInBounds_toArray, List.set_cons_zero, List.set_cons_succ]
  refine wpAnyK_take (i := 6) (v := ?_) [] rfl (by kernel_rfl) rfl (by kernel_rfl) (by kernel_rfl) (by kernel_rfl) (by kernel_rfl) (fun _ _ _ h => h) (Or.inl ⟨by rfl, ?hy6⟩) hHeld ?_
  case hy6 => (intro W hSw; refine Or.inl ?_; obtain ⟨c0, c1, c2, _⟩ := HC.out _ hSw; go_simp; try with_reducible rfl)
  try simp only [Act.put, List.getElem_toArray, List.getElem_cons_zero, List.getElem_cons_succ, List.setIfInBounds_toArray, List.set_cons_zero, List.set_cons_succ]
  refine wpAnyK_pure (i := 7) (v := ?_) rfl rfl (by kernel_rfl) (by kernel_rfl) (by kernel_rfl) (by kernel_rfl) (fun _ _ _ h => h) (Or.inl ⟨by rfl, ?hy7⟩) (fun _ => hHeld) ?_
  case hy7 => (intro W hSw; refine Or.inl ?_; go_simp; try with_reducible rfl)
  try simp only [Act.put, List.getElem_toArray, List.getElem_cons_zero, List.getElem_cons_succ, List.setIfInBounds_toArray, List.set_cons_zero, List.set_cons_succ]
  refine wpAnyK_pure (i := 8) (v := ?_) rfl rfl (by kernel_rfl) (by kernel_rfl) (by kernel_rfl) (by kernel_rfl) (fun _ _ _ h => h) (Or.inl ⟨by rfl, ?hy8⟩) (fun _ => hHeld) ?_
  case hy8 => (intro W hSw; refine Or.inl ?_; go_simp; try with_reducible rfl)
  try simp only [Act.put, List.getElem_toArray, List.getElem_cons_zero, List.getElem_cons_succ, List.setIfInBounds_toArray, List.set_cons_zero, List.set_cons_succ]
  refine wpAnyK_ready (rs := [2]) (by kernel_rfl) (by simp) ?_
  refine AllReadyK.cons rfl (fun KQ hKQ => ?_) AllReadyK.nil
  go_simp
  go_at_call 16
  refine (HSZ.out _ HB.out).mono ?_
  rintro e w1 ⟨rfl, hb1⟩
  have HB1 := Lib.hid (Below.later HB.out hb1 HB.out.size)
  go_wp2_with fail
  refine hKQ.out _ _ (HB1.out) (fun hHeld2 => ?_)
  clear hHeld hKQ KQ
  have hHeld := hHeld2
  clear hHeld2
  try simp only [Act.put, List.getElem_toArray, List.getElem_cons_zero, List.getElem_cons_succ, List.setIfInBounds_toArray, List.set_cons_zero, List.set_cons_succ]
  refine wpAnyK_ready (rs := [9]) (by kernel_rfl) (by simp) ?_
  refine AllReadyK.free rfl (by kernel_rfl) (fun KQ hKQ => ?_) AllReadyK.nil
  go_simp
  go_at_call 73
  refine (HP.out _).mono ?_
  rintro e w2 ⟨rfl, hg2⟩
  have HB2 := Lib.hid (Below.later HB1.out hg2 HB1.out.size)
  go_wp2_with fail
  refine hKQ.out _ _ ?_
  clear hKQ KQ
  try simp only [Act.put, List.getElem_toArray, List.getElem_cons_zero, List.getElem_cons_succ, List.setIfInBounds_toArray, List.set_cons_zero, List.set_cons_succ]
  obtain ⟨c0, c1, c2, c3, c4, f0, f1, f2⟩ := HC.out _ HB2.out
  refine wpAnyK_pure (i := 10) (v := ?_) rfl rfl (by kernel_rfl) (by kernel_rfl) (by kernel_rfl) (by kernel_rfl) (fun _ _ _ h => h) (Or.inl ⟨by rfl, ?hy9⟩) (fun e => Bool.noConfusion (show true = false from e)) ?_
  case hy9 => (intro W hSw; refine Or.inl ?_; go_simp; try with_reducible rfl)
  try simp only [Act.put, List.getElem_toArray, List.getElem_cons_zero, List.getElem_cons_succ, List.setIfInBounds_toArray, List.set_cons_zero, List.set_cons_succ]
  refine wpAnyK_pure (i := 11) (v := ?_) rfl rfl (by kernel_rfl) (by kernel_rfl) (by kernel_rfl) (by kernel_rfl) (fun _ _ _ h => h) (Or.inl ⟨by rfl, ?hy10⟩) (fun e => Bool.noConfusion (show true = false from e)) ?_
  case hy10 => (intro W hSw; refine Or.inl ?_; go_simp; try with_reducible rfl)
  try simp only [Act.put, List.getElem_toArray, List.getElem_cons_zero, List.getElem_cons_succ, List.setIfInBounds_toArray, List.set_cons_zero, List.set_cons_succ]
  refine wpAnyK_ready (rs := [12]) (by kernel_rfl) (by simp) ?_
  refine AllReadyK.free rfl (by kernel_rfl) (fun KQ hKQ => ?_) AllReadyK.nil
  go_simp
  refine hKQ.out _ _ ?_
  clear hKQ KQ
  try simp only [Act.put, List.getElem_toArray, List.getElem_cons_zero, List.getElem_cons_succ, List.setIfInBounds_toArray, List.set_cons_zero, List.set_cons_succ]
  refine wpAnyK_done (by kernel_rfl) ?_ _
  refine NoPanic.normal ?_
  go_wp2_with fail
  go_end0
  have hp := (ScrTo.after HB2.out (ScrTo.refl (H.out.below HB2.out))).place HFS.out q HIN.out
  rw [HQ.out] at hp
  exact ⟨rfl, hp⟩
set_option maxRecDepth 10000 in
set_option maxHeartbeats 2000000 in
theorem scr_step_d (sp : Nat) (F : Nat → Prop) (S : Vz.Sr) (a b : Int) (u : FrameMode) (w : World) (h : Scr w sp F S) : CallsD Tryz.prog 34 #[.pointer (some ⟨sp, 0, none⟩), .int .i64 a, .int .i64 b] u w fun e u' w' => u' = u ∧ (e = .returned (.tuple #[]) ∧ ScrTo w w' sp F { S with pl := Vz.stepP S.D.R S.D.C S.pl a b }) := by
  obtain ⟨gp, tp, mb, FG, hA, hF, HC, hlt⟩ := h.held
  have hin := Vz.stepP_in S.D.R S.D.C S.pl a b (Vz.Gd.may_mayS hA.grid.may)
  have HIN := Lib.hid hin
  have HSZ := Lib.hid (fun W (hb : Below w.heap.size w W) => scr_size sp F S W (h.below hb))
  have HP := Lib.hid (step_any S.D.R S.D.C S.pl.at_.row S.pl.at_.col S.pl.pend a b)
  have HFS : Hid (F sp) := (hF sp).2 (.inl rfl)
  have H := Lib.hid h
  have hpd : (Vz.stepP S.D.R S.D.C S.pl a b).pend = false := rfl
  clear hA hF h hin
  generalize hq : Vz.stepP S.D.R S.D.C S.pl a b = q at *
  clear hq
  have HQ := Lib.hid hpd
  clear hpd
  have HB : Hid (Below w.heap.size w w.drew) := (Below.refl _ _).drew
  go_enter_d Tryz.func34, Tryz.ntmps34
  go_upto_region 1 with fail
  refine wp_region_noPanic ?_
  refine wp_region_k (S := fun W : World => Below w.heap.size w W) 9 (by kernel_rfl) (HB.out) (fun hHeld => ?_)
  refine wpAnyK_pure (i := 0) (v := ?_) rfl rfl (by kernel_rfl) (by kernel_rfl) (by kernel_rfl) (by kernel_rfl) (fun _ _ _ h => h) (Or.inl ⟨by rfl, ?hy1⟩) (fun _ => hHeld) ?_
  case hy1 => (intro W hSw; refine Or.inl ?_; go_simp; try with_reducible rfl)
  try simp only [Act.put, List.getElem_toArray, List.getElem_cons_zero, List.getElem_cons_succ, List.setIfInBounds_toArray, List.set_cons_zero, List.set_cons_succ]
  refine wpAnyK_pure (i := 1) (v := ?_) rfl rfl (by kernel_rfl) (by kernel_rfl) (by kernel_rfl) (by kernel_rfl) (fun _ _ _ h => h) (Or.inl ⟨by rfl, ?hy2⟩) (fun _ => hHeld) ?_
  case hy2 => (intro W hSw; refine Or.inl ?_; go_simp; try with_reducible rfl)
  try simp only [Act.put, List.getElem_toArray, List.getElem_cons_zero, List.getElem_cons_succ, List.setIfInBounds_toArray, List.set_cons_zero, List.set_cons_succ]
  refine wpAnyK_pure (i := 3) (v := ?_) rfl rfl (by kernel_rfl) (by kernel_rfl) (by kernel_rfl) (by kernel_rfl) (fun _ _ _ h => h) (Or.inl ⟨by rfl, ?hy3⟩) (fun _ => hHeld) ?_
  case hy3 => (intro W hSw; refine Or.inl ?_; go_simp; try with_reducible rfl)
  try simp only [Act.put, List.getElem_toArray, List.getElem_cons_zero, List.getElem_cons_succ, List.setIfInBounds_toArray, List.set_cons_zero, List.set_cons_succ]
  refine wpAnyK_pure (i := 4) (v := ?_) rfl rfl (by kernel_rfl) (by kernel_rfl) (by kernel_rfl) (by kernel_rfl) (fun _ _ _ h => h) (Or.inl ⟨by rfl, ?hy4⟩) (fun _ => hHeld) ?_
  case hy4 => (intro W hSw; refine Or.inl ?_; go_simp; try with_reducible rfl)
  try simp only [Act.put, List.getElem_toArray, List.getElem_cons_zero, List.getElem_cons_succ, List.setIfInBounds_toArray, List.set_cons_zero, List.set_cons_succ]
  refine wpAnyK_pure (i := 5) (v := ?_) rfl rfl (by kernel_rfl) (by kernel_rfl) (by kernel_rfl) (by kernel_rfl) (fun _ _ _ h => h) (Or.inl ⟨by rfl, ?hy5⟩) (fun _ => hHeld) ?_
  case hy5 => (intro W hSw; refine Or.inl ?_; go_simp; try with_reducible rfl)
  try simp only [Act.put, List.getElem_toArray, List.getElem_cons_zero, List.getElem_cons_succ, List.setIfInBounds_toArray, List.set_cons_zero, List.set_cons_succ]
  refine wpAnyK_take (i := 6) (v := ?_) [] rfl (by kernel_rfl) rfl (by kernel_rfl) (by kernel_rfl) (by kernel_rfl) (by kernel_rfl) (fun _ _ _ h => h) (Or.inl ⟨by rfl, ?hy6⟩) hHeld ?_
  case hy6 => (intro W hSw; refine Or.inl ?_; obtain ⟨c0, c1, c2, _⟩ := HC.out _ hSw; go_simp; try with_reducible rfl)
  try simp only [Act.put, List.getElem_toArray, List.getElem_cons_zero, List.getElem_cons_succ, List.setIfInBounds_toArray, List.set_cons_zero, List.set_cons_succ]
  refine wpAnyK_pure (i := 7) (v := ?_) rfl rfl (by kernel_rfl) (by kernel_rfl) (by kernel_rfl) (by kernel_rfl) (fun _ _ _ h => h) (Or.inl ⟨by rfl, ?hy7⟩) (fun _ => hHeld) ?_
  case hy7 => (intro W hSw; refine Or.inl ?_; go_simp; try with_reducible rfl)
  try simp only [Act.put, List.getElem_toArray, List.getElem_cons_zero, List.getElem_cons_succ, List.setIfInBounds_toArray, List.set_cons_zero, List.set_cons_succ]
  refine wpAnyK_pure (i := 8) (v := ?_) rfl rfl (by kernel_rfl) (by kernel_rfl) (by kernel_rfl) (by kernel_rfl) (fun _ _ _ h => h) (Or.inl ⟨by rfl, ?hy8⟩) (fun _ => hHeld) ?_
  case hy8 => (intro W hSw; refine Or.inl ?_; go_simp; try with_reducible rfl)
  try simp only [Act.put, List.getElem_toArray, List.getElem_cons_zero, List.getElem_cons_succ, List.setIfInBounds_toArray, List.set_cons_zero, List.set_cons_succ]
  refine wpAnyK_ready (rs := [2]) (by kernel_rfl) (by simp) ?_
  refine AllReadyK.cons rfl (fun KQ hKQ => ?_) AllReadyK.nil
  go_simp
  go_at_call 16
  refine (HSZ.out _ HB.out).mono ?_
  rintro e w1 ⟨rfl, hb1⟩
  have HB1 := Lib.hid (Below.later HB.out hb1 HB.out.size)
  go_wp2_with fail
  refine hKQ.out _ _ (HB1.out) (fun hHeld2 => ?_)
  clear hHeld hKQ KQ
  have hHeld := hHeld2
  clear hHeld2
  try simp only [Act.put, List.getElem_toArray, List.getElem_cons_zero, List.getElem_cons_succ, List.setIfInBounds_toArray, List.set_cons_zero, List.set_cons_succ]
  refine wpAnyK_ready (rs := [9]) (by kernel_rfl) (by simp) ?_
  refine AllReadyK.free rfl (by kernel_rfl) (fun KQ hKQ => ?_) AllReadyK.nil
  go_simp
  go_at_call 73
  refine (HP.out _).mono ?_
  rintro e w2 ⟨rfl, hg2⟩
  have HB2 := Lib.hid (Below.later HB1.out hg2 HB1.out.size)
  go_wp2_with fail
  refine hKQ.out _ _ ?_
  clear hKQ KQ
  try simp only [Act.put, List.getElem_toArray, List.getElem_cons_zero, List.getElem_cons_succ, List.setIfInBounds_toArray, List.set_cons_zero, List.set_cons_succ]
  obtain ⟨c0, c1, c2, c3, c4, f0, f1, f2⟩ := HC.out _ HB2.out
  refine wpAnyK_pure (i := 10) (v := ?_) rfl rfl (by kernel_rfl) (by kernel_rfl) (by kernel_rfl) (by kernel_rfl) (fun _ _ _ h => h) (Or.inl ⟨by rfl, ?hy9⟩) (fun e => Bool.noConfusion (show true = false from e)) ?_
  case hy9 => (intro W hSw; refine Or.inl ?_; go_simp; try with_reducible rfl)
  try simp only [Act.put, List.getElem_toArray, List.getElem_cons_zero, List.getElem_cons_succ, List.setIfInBounds_toArray, List.set_cons_zero, List.set_cons_succ]
  refine wpAnyK_pure (i := 11) (v := ?_) rfl rfl (by kernel_rfl) (by kernel_rfl) (by kernel_rfl) (by kernel_rfl) (fun _ _ _ h => h) (Or.inl ⟨by rfl, ?hy10⟩) (fun e => Bool.noConfusion (show true = false from e)) ?_
  case hy10 => (intro W hSw; refine Or.inl ?_; go_simp; try with_reducible rfl)
  try simp only [Act.put, List.getElem_toArray, List.getElem_cons_zero, List.getElem_cons_succ, List.setIfInBounds_toArray, List.set_cons_zero, List.set_cons_succ]
  refine wpAnyK_ready (rs := [12]) (by kernel_rfl) (by simp) ?_
  refine AllReadyK.free rfl (by kernel_rfl) (fun KQ hKQ => ?_) AllReadyK.nil
  go_simp
  refine hKQ.out _ _ ?_
  clear hKQ KQ
  try simp only [Act.put, List.getElem_toArray, List.getElem_cons_zero, List.getElem_cons_succ, List.setIfInBounds_toArray, List.set_cons_zero, List.set_cons_succ]
  refine wpAnyK_done (by kernel_rfl) ?_ _
  refine NoPanic.normal ?_
  go_wp2_with fail
  go_end0
  have hp := (ScrTo.after HB2.out (ScrTo.refl (H.out.below HB2.out))).place HFS.out q HIN.out
  rw [HQ.out] at hp
  exact ⟨rfl, hp⟩
end Go.Proofs.YtbnkfiaggehmgaaGreatDoor
