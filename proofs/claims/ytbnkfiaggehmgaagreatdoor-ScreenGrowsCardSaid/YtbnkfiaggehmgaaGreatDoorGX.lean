import Derived.Test.YtbnkfiaggehmgaaGreatDoorGH
import Derived.Test.YtbnkfiaggehmgaaGreatDoorGW
import Derived.Test.YtbnkfiaggehmgaaGreatDoorGF
import Derived.Test.YtbnkfiaggehmgaaGreatDoorGI
import Derived.Shelf.SlMaps.Clone
import Derived.Test.YtbnkfiaggehmgaaGreatDoorShelfG
import Derived.Test.YtbnkfiaggehmgaaGreatDoorGU

/- Walks: the stops' and the screen's Copy; the screen's Rows. -/
namespace Go.Proofs.YtbnkfiaggehmgaaGreatDoor
open Go.RowKit
set_option linter.unusedSimpArgs false
set_option linter.unusedVariables false
attribute [local go_sem] alloc_drewN setCell_drewN World.cell?_alloc_some frozen_alloc_some size_f0 size_f1

theorem clone_ok (mb C : Nat) (T : Nat → Bool) (w : World) (h : w.ownsMap Tryz.prog 3 unitElem mb C (stopsD C T)) :
    Calls Tryz.prog 100 #[.map (some mb)] w fun e w' => e = .returned (.map (some w.heap.size)) ∧ w'.ownsMap Tryz.prog 3 unitElem w.heap.size C (stopsD C T) ∧ w'.ownsMap Tryz.prog 3 unitElem mb C (stopsD C T) ∧ Below w.heap.size w w' :=
  AnyW.maps_Clone_owns (ρ := Tryz.cloneA_ren) Tryz.cloneA 3 unitElem mb C (stopsD C T) w h
set_option maxRecDepth 10000 in
set_option maxHeartbeats 2000000 in
theorem tcopy_ok (tp mb C : Nat) (T : Nat → Bool) (w : World) (h : TabsAt w tp mb C T) :
    Calls Tryz.prog 62 #[.pointer (some ⟨tp, 0, none⟩)] w fun e w' => ∃ t' m', e = .returned (.pointer (some ⟨t', 0, none⟩)) ∧ TabsAt w' t' m' C T ∧ w.heap.size ≤ t' ∧ w.heap.size ≤ m' ∧ t' ≠ m' ∧ Below w.heap.size w w' := by
  obtain ⟨hbox, hown, hT⟩ := h
  have HB0 : Hid (Below w.heap.size w w.drew) := (Below.refl _ _).drew
  have HX : Hid (∀ W, Below w.heap.size w W → W.heap[tp]? = some (.cells #[.int .i64 C, .map (some mb)] 128 (0, 0))) := fun W hb => (hb.block _ (block_lt hbox)).trans hbox
  have HCL := Lib.hid (clone_ok mb C T w.drew (by obtain ⟨es, clock, b, r⟩ := hown; exact ⟨es, clock, b, r⟩))
  have HT := Lib.hid hT
  clear hbox hown hT
  go_enter Tryz.func62, Tryz.ntmps62
  go_upto_region 3 with fail
  refine wp_region_noPanic ?_
  refine wp_region_k (S := fun W : World => Below w.heap.size w W) 10 (by kernel_rfl) (HB0.out) (fun hHeld => ?_)
  refine wpAnyK_pure (i := 0) (v := ?_) rfl rfl (by kernel_rfl) (by kernel_rfl) (by kernel_rfl) (by kernel_rfl) (fun _ _ _ h => h) (Or.inl ⟨by rfl, ?hy1⟩) (fun _ => hHeld) ?_
  case hy1 => (intro W hSw; refine Or.inl ?_; go_simp; try with_reducible rfl)
  try simp only [Act.put, List.getElem_toArray, List.getElem_cons_zero, List.getElem_cons_succ, List.setIfInBounds_toArray, List.set_cons_zero, List.set_cons_succ]
  refine wpAnyK_pure (i := 1) (v := ?_) rfl rfl (by kernel_rfl) (by kernel_rfl) (by kernel_rfl) (by kernel_rfl) (fun _ _ _ h => h) (Or.inl ⟨by rfl, ?hy2⟩) (fun _ => hHeld) ?_
  case hy2 => (intro W hSw; refine Or.inl ?_; go_simp; try with_reducible rfl)
  try simp only [Act.put, List.getElem_toArray, List.getElem_cons_zero, List.getElem_cons_succ, List.setIfInBounds_toArray, List.set_cons_zero, List.set_cons_succ]
  refine wpAnyK_pure (i := 2) (v := ?_) rfl rfl (by kernel_rfl) (by kernel_rfl) (by kernel_rfl) (by kernel_rfl) (fun _ _ _ h => h) (Or.inl ⟨by rfl, ?hy3⟩) (fun _ => hHeld) ?_
  case hy3 => (intro W hSw; refine Or.inl ?_; go_simp; try with_reducible rfl)
  try simp only [Act.put, List.getElem_toArray, List.getElem_cons_zero, List.getElem_cons_succ, List.setIfInBounds_toArray, List.set_cons_zero, List.set_cons_succ]
  refine wpAnyK_take (i := 3) (v := ?_) [9] rfl (by kernel_rfl) rfl (by kernel_rfl) (by kernel_rfl) (by kernel_rfl) (by kernel_rfl) (fun _ _ _ h => h) (Or.inl ⟨by rfl, ?hy4⟩) hHeld ?_
  case hy4 => (intro W hSw; refine Or.inl ?_; obtain ⟨t0, t1, _⟩ := row2 (HX.out _ hSw); go_simp; try with_reducible rfl)
  try simp only [Act.put, List.getElem_toArray, List.getElem_cons_zero, List.getElem_cons_succ, List.setIfInBounds_toArray, List.set_cons_zero, List.set_cons_succ]
  refine wpAnyK_pure (i := 4) (v := ?_) rfl rfl (by kernel_rfl) (by kernel_rfl) (by kernel_rfl) (by kernel_rfl) (fun _ _ _ h => h) (Or.inl ⟨by rfl, ?hy5⟩) (fun _ => hHeld) ?_
  case hy5 => (intro W hSw; refine Or.inl ?_; go_simp; try with_reducible rfl)
  try simp only [Act.put, List.getElem_toArray, List.getElem_cons_zero, List.getElem_cons_succ, List.setIfInBounds_toArray, List.set_cons_zero, List.set_cons_succ]
  refine wpAnyK_pure (i := 5) (v := ?_) rfl rfl (by kernel_rfl) (by kernel_rfl) (by kernel_rfl) (by kernel_rfl) (fun _ _ _ h => h) (Or.inl ⟨by rfl, ?hy6⟩) (fun _ => hHeld) ?_
  case hy6 => (intro W hSw; refine Or.inl ?_; go_simp; try with_reducible rfl)
  try simp only [Act.put, List.getElem_toArray, List.getElem_cons_zero, List.getElem_cons_succ, List.setIfInBounds_toArray, List.set_cons_zero, List.set_cons_succ]
  refine wpAnyK_pure (i := 6) (v := ?_) rfl rfl (by kernel_rfl) (by kernel_rfl) (by kernel_rfl) (by kernel_rfl) (fun _ _ _ h => h) (Or.inl ⟨by rfl, ?hy7⟩) (fun _ => hHeld) ?_
  case hy7 => (intro W hSw; refine Or.inl ?_; go_simp; try with_reducible rfl)
  try simp only [Act.put, List.getElem_toArray, List.getElem_cons_zero, List.getElem_cons_succ, List.setIfInBounds_toArray, List.set_cons_zero, List.set_cons_succ]
  refine wpAnyK_take (i := 7) (v := ?_) [9, 8] rfl (by kernel_rfl) rfl (by kernel_rfl) (by kernel_rfl) (by kernel_rfl) (by kernel_rfl) (fun _ _ _ h => h) (Or.inl ⟨by rfl, ?hy8⟩) hHeld ?_
  case hy8 => (intro W hSw; refine Or.inl ?_; obtain ⟨t0, t1, _⟩ := row2 (HX.out _ hSw); go_simp; try with_reducible rfl)
  try simp only [Act.put, List.getElem_toArray, List.getElem_cons_zero, List.getElem_cons_succ, List.setIfInBounds_toArray, List.set_cons_zero, List.set_cons_succ]
  refine wpAnyK_ready (rs := [8]) (by kernel_rfl) (by simp) ?_
  refine AllReadyK.cons rfl (fun KQ hKQ => ?_) AllReadyK.nil
  go_simp
  go_at_call 100
  refine HCL.out.mono ?_
  rintro e w1 ⟨rfl, ho1, _, hb1⟩
  have HO1 := Lib.hid ho1
  have HB1 : Hid (Below w.heap.size w w1) := Below.later HB0.out hb1 HB0.out.size
  clear ho1 hb1
  go_wp2_with fail
  refine hKQ.out _ _ (HB1.out) (fun hHeld2 => ?_)
  clear hHeld hKQ KQ
  have hHeld := hHeld2
  clear hHeld2
  try simp only [Act.put, List.getElem_toArray, List.getElem_cons_zero, List.getElem_cons_succ, List.setIfInBounds_toArray, List.set_cons_zero, List.set_cons_succ]
  refine wpAnyK_pure (i := 9) (v := ?_) rfl rfl (by kernel_rfl) (by kernel_rfl) (by kernel_rfl) (by kernel_rfl) (fun _ _ _ h => h) (Or.inl ⟨by rfl, ?hy9⟩) (fun _ => hHeld) ?_
  case hy9 => (intro W hSw; refine Or.inl ?_; go_simp; try with_reducible rfl)
  try simp only [Act.put, List.getElem_toArray, List.getElem_cons_zero, List.getElem_cons_succ, List.setIfInBounds_toArray, List.set_cons_zero, List.set_cons_succ]
  refine wpAnyK_ready (rs := [10]) (by kernel_rfl) (by simp) ?_
  refine AllReadyK.free rfl (by kernel_rfl) (fun KQ hKQ => ?_) AllReadyK.nil
  go_simp
  refine hKQ.out _ _ ?_
  clear hKQ KQ
  try simp only [Act.put, List.getElem_toArray, List.getElem_cons_zero, List.getElem_cons_succ, List.setIfInBounds_toArray, List.set_cons_zero, List.set_cons_succ]
  refine wpAnyK_pure (i := 11) (v := ?_) rfl rfl (by kernel_rfl) (by kernel_rfl) (by kernel_rfl) (by kernel_rfl) (fun _ _ _ h => h) (Or.inl ⟨by rfl, ?hy10⟩) (fun e => Bool.noConfusion (show true = false from e)) ?_
  case hy10 => (intro W hSw; refine Or.inl ?_; go_simp; try with_reducible rfl)
  try simp only [Act.put, List.getElem_toArray, List.getElem_cons_zero, List.getElem_cons_succ, List.setIfInBounds_toArray, List.set_cons_zero, List.set_cons_succ]
  refine wpAnyK_done (by kernel_rfl) ?_ _
  refine NoPanic.normal ?_
  go_wp2_with fail
  go_ret
  have hs := HB1.out.size
  have hlt : w.heap.size < w1.heap.size := by
    obtain ⟨es, clock, b, r⟩ := HO1.out
    exact block_lt b
  refine ⟨_, _, rfl, ⟨heap_alloc_new _ _, ?_, HT.out⟩, ?_, Nat.le_refl _, ?_, HB1.out.alloc hs _⟩
  · obtain ⟨es, clock, b, r⟩ := HO1.out
    exact ⟨es, clock, (Below.heap_alloc _ _ _ (block_lt b)).trans b, r⟩
  · exact hs
  · show w1.heap.size ≠ w.heap.size
    omega
set_option maxRecDepth 10000 in
set_option maxHeartbeats 4000000 in
/-- A copy of a screen: a new one that shows the same. -/
theorem scr_copy (sp : Nat) (F : Nat → Prop) (S : Vz.Sr) (w : World) (h : Scr w sp F S) : Calls Tryz.prog 24 #[.pointer (some ⟨sp, 0, none⟩)] w fun e w' => ∃ c', e = .returned (.pointer (some ⟨c', 0, none⟩)) ∧ NewScr w w' c' S := by
  obtain ⟨gp, tp, mb, FG, hA, hF, HC, hlt⟩ := h.held
  have HB0 : Hid (Below w.heap.size w w.drew) := (Below.refl _ _).drew
  have HG := Lib.hid (fun W (hb : Below w.heap.size w W) => gcopy_ok gp FG S.D W (hA.grid.below hb))
  have HTC := Lib.hid (fun W (hb : Below w.heap.size w W) => tcopy_ok tp mb S.D.C S.T W (hA.below hb).tabs)
  have HA := Lib.hid hA
  clear h hA hF
  go_enter Tryz.func24, Tryz.ntmps24
  go_upto_region 3 with fail
  refine wp_region_noPanic ?_
  refine wp_region_k (S := fun W : World => Below w.heap.size w W) 15 (by kernel_rfl) (HB0.out) (fun hHeld => ?_)
  refine wpAnyK_pure (i := 0) (v := ?_) rfl rfl (by kernel_rfl) (by kernel_rfl) (by kernel_rfl) (by kernel_rfl) (fun _ _ _ h => h) (Or.inl ⟨by rfl, ?hy1⟩) (fun _ => hHeld) ?_
  case hy1 => (intro W hSw; refine Or.inl ?_; go_simp; try with_reducible rfl)
  try simp only [Act.put, List.getElem_toArray, List.getElem_cons_zero, List.getElem_cons_succ, List.setIfInBounds_toArray, List.set_cons_zero, List.set_cons_succ]
  refine wpAnyK_pure (i := 1) (v := ?_) rfl rfl (by kernel_rfl) (by kernel_rfl) (by kernel_rfl) (by kernel_rfl) (fun _ _ _ h => h) (Or.inl ⟨by rfl, ?hy2⟩) (fun _ => hHeld) ?_
  case hy2 => (intro W hSw; refine Or.inl ?_; go_simp; try with_reducible rfl)
  try simp only [Act.put, List.getElem_toArray, List.getElem_cons_zero, List.getElem_cons_succ, List.setIfInBounds_toArray, List.set_cons_zero, List.set_cons_succ]
  refine wpAnyK_pure (i := 2) (v := ?_) rfl rfl (by kernel_rfl) (by kernel_rfl) (by kernel_rfl) (by kernel_rfl) (fun _ _ _ h => h) (Or.inl ⟨by rfl, ?hy3⟩) (fun _ => hHeld) ?_
  case hy3 => (intro W hSw; refine Or.inl ?_; go_simp; try with_reducible rfl)
  try simp only [Act.put, List.getElem_toArray, List.getElem_cons_zero, List.getElem_cons_succ, List.setIfInBounds_toArray, List.set_cons_zero, List.set_cons_succ]
  refine wpAnyK_take (i := 3) (v := ?_) [14] rfl (by kernel_rfl) rfl (by kernel_rfl) (by kernel_rfl) (by kernel_rfl) (by kernel_rfl) (fun _ _ _ h => h) (Or.inl ⟨by rfl, ?hy4⟩) hHeld ?_
  case hy4 => (intro W hSw; refine Or.inl ?_; obtain ⟨c0, c1, c2, c3, c4, _⟩ := HC.out _ hSw; go_simp; try with_reducible rfl)
  try simp only [Act.put, List.getElem_toArray, List.getElem_cons_zero, List.getElem_cons_succ, List.setIfInBounds_toArray, List.set_cons_zero, List.set_cons_succ]
  refine wpAnyK_pure (i := 4) (v := ?_) rfl rfl (by kernel_rfl) (by kernel_rfl) (by kernel_rfl) (by kernel_rfl) (fun _ _ _ h => h) (Or.inl ⟨by rfl, ?hy5⟩) (fun _ => hHeld) ?_
  case hy5 => (intro W hSw; refine Or.inl ?_; go_simp; try with_reducible rfl)
  try simp only [Act.put, List.getElem_toArray, List.getElem_cons_zero, List.getElem_cons_succ, List.setIfInBounds_toArray, List.set_cons_zero, List.set_cons_succ]
  refine wpAnyK_pure (i := 5) (v := ?_) rfl rfl (by kernel_rfl) (by kernel_rfl) (by kernel_rfl) (by kernel_rfl) (fun _ _ _ h => h) (Or.inl ⟨by rfl, ?hy6⟩) (fun _ => hHeld) ?_
  case hy6 => (intro W hSw; refine Or.inl ?_; go_simp; try with_reducible rfl)
  try simp only [Act.put, List.getElem_toArray, List.getElem_cons_zero, List.getElem_cons_succ, List.setIfInBounds_toArray, List.set_cons_zero, List.set_cons_succ]
  refine wpAnyK_pure (i := 6) (v := ?_) rfl rfl (by kernel_rfl) (by kernel_rfl) (by kernel_rfl) (by kernel_rfl) (fun _ _ _ h => h) (Or.inl ⟨by rfl, ?hy7⟩) (fun _ => hHeld) ?_
  case hy7 => (intro W hSw; refine Or.inl ?_; go_simp; try with_reducible rfl)
  try simp only [Act.put, List.getElem_toArray, List.getElem_cons_zero, List.getElem_cons_succ, List.setIfInBounds_toArray, List.set_cons_zero, List.set_cons_succ]
  refine wpAnyK_take (i := 7) (v := ?_) [14, 8] rfl (by kernel_rfl) rfl (by kernel_rfl) (by kernel_rfl) (by kernel_rfl) (by kernel_rfl) (fun _ _ _ h => h) (Or.inl ⟨by rfl, ?hy8⟩) hHeld ?_
  case hy8 => (intro W hSw; refine Or.inl ?_; obtain ⟨c0, c1, c2, c3, c4, _⟩ := HC.out _ hSw; go_simp; try with_reducible rfl)
  try simp only [Act.put, List.getElem_toArray, List.getElem_cons_zero, List.getElem_cons_succ, List.setIfInBounds_toArray, List.set_cons_zero, List.set_cons_succ]
  refine wpAnyK_pure (i := 9) (v := ?_) rfl rfl (by kernel_rfl) (by kernel_rfl) (by kernel_rfl) (by kernel_rfl) (fun _ _ _ h => h) (Or.inl ⟨by rfl, ?hy9⟩) (fun _ => hHeld) ?_
  case hy9 => (intro W hSw; refine Or.inl ?_; go_simp; try with_reducible rfl)
  try simp only [Act.put, List.getElem_toArray, List.getElem_cons_zero, List.getElem_cons_succ, List.setIfInBounds_toArray, List.set_cons_zero, List.set_cons_succ]
  refine wpAnyK_pure (i := 10) (v := ?_) rfl rfl (by kernel_rfl) (by kernel_rfl) (by kernel_rfl) (by kernel_rfl) (fun _ _ _ h => h) (Or.inl ⟨by rfl, ?hy10⟩) (fun _ => hHeld) ?_
  case hy10 => (intro W hSw; refine Or.inl ?_; go_simp; try with_reducible rfl)
  try simp only [Act.put, List.getElem_toArray, List.getElem_cons_zero, List.getElem_cons_succ, List.setIfInBounds_toArray, List.set_cons_zero, List.set_cons_succ]
  refine wpAnyK_pure (i := 11) (v := ?_) rfl rfl (by kernel_rfl) (by kernel_rfl) (by kernel_rfl) (by kernel_rfl) (fun _ _ _ h => h) (Or.inl ⟨by rfl, ?hy11⟩) (fun _ => hHeld) ?_
  case hy11 => (intro W hSw; refine Or.inl ?_; go_simp; try with_reducible rfl)
  try simp only [Act.put, List.getElem_toArray, List.getElem_cons_zero, List.getElem_cons_succ, List.setIfInBounds_toArray, List.set_cons_zero, List.set_cons_succ]
  refine wpAnyK_take (i := 12) (v := ?_) [14, 13] rfl (by kernel_rfl) rfl (by kernel_rfl) (by kernel_rfl) (by kernel_rfl) (by kernel_rfl) (fun _ _ _ h => h) (Or.inl ⟨by rfl, ?hy12⟩) hHeld ?_
  case hy12 => (intro W hSw; refine Or.inl ?_; obtain ⟨c0, c1, c2, c3, c4, _⟩ := HC.out _ hSw; go_simp; try with_reducible rfl)
  try simp only [Act.put, List.getElem_toArray, List.getElem_cons_zero, List.getElem_cons_succ, List.setIfInBounds_toArray, List.set_cons_zero, List.set_cons_succ]
  refine wpAnyK_ready (rs := [8]) (by kernel_rfl) (by simp) ?_
  refine AllReadyK.cons rfl (fun KQ hKQ => ?_) AllReadyK.nil
  go_simp
  go_at_call 61
  refine (HG.out _ HB0.out).mono ?_
  rintro e w1 ⟨g', rfl, hg1, hb1⟩
  have HG1 := Lib.hid hg1
  have HB1 : Hid (Below w.heap.size w w1) := Below.later HB0.out hb1 HB0.out.size
  clear hg1 hb1
  go_wp2_with fail
  refine hKQ.out _ _ (HB1.out) (fun hHeld2 => ?_)
  clear hHeld hKQ KQ
  have hHeld := hHeld2
  clear hHeld2
  try simp only [Act.put, List.getElem_toArray, List.getElem_cons_zero, List.getElem_cons_succ, List.setIfInBounds_toArray, List.set_cons_zero, List.set_cons_succ]
  refine wpAnyK_ready (rs := [13]) (by kernel_rfl) (by simp) ?_
  refine AllReadyK.cons rfl (fun KQ hKQ => ?_) AllReadyK.nil
  go_simp
  go_at_call 62
  refine (HTC.out _ HB1.out).mono ?_
  rintro e w2 ⟨t', m', rfl, ht2, hn2, hm2, hne2, hb2⟩
  have HT2 := Lib.hid (And.intro ht2 (And.intro hn2 (And.intro hm2 hne2)))
  have HB2 : Hid (Below w.heap.size w w2) := Below.later HB1.out hb2 HB1.out.size
  have HB12 := Lib.hid hb2
  clear ht2 hn2 hm2 hne2 hb2
  go_wp2_with fail
  refine hKQ.out _ _ (HB2.out) (fun hHeld2 => ?_)
  clear hHeld hKQ KQ
  have hHeld := hHeld2
  clear hHeld2
  try simp only [Act.put, List.getElem_toArray, List.getElem_cons_zero, List.getElem_cons_succ, List.setIfInBounds_toArray, List.set_cons_zero, List.set_cons_succ]
  refine wpAnyK_pure (i := 14) (v := ?_) rfl rfl (by kernel_rfl) (by kernel_rfl) (by kernel_rfl) (by kernel_rfl) (fun _ _ _ h => h) (Or.inl ⟨by rfl, ?hy13⟩) (fun _ => hHeld) ?_
  case hy13 => (intro W hSw; refine Or.inl ?_; go_simp; try with_reducible rfl)
  try simp only [Act.put, List.getElem_toArray, List.getElem_cons_zero, List.getElem_cons_succ, List.setIfInBounds_toArray, List.set_cons_zero, List.set_cons_succ]
  refine wpAnyK_ready (rs := [15]) (by kernel_rfl) (by simp) ?_
  refine AllReadyK.free rfl (by kernel_rfl) (fun KQ hKQ => ?_) AllReadyK.nil
  go_simp
  refine hKQ.out _ _ ?_
  clear hKQ KQ
  try simp only [Act.put, List.getElem_toArray, List.getElem_cons_zero, List.getElem_cons_succ, List.setIfInBounds_toArray, List.set_cons_zero, List.set_cons_succ]
  refine wpAnyK_pure (i := 16) (v := ?_) rfl rfl (by kernel_rfl) (by kernel_rfl) (by kernel_rfl) (by kernel_rfl) (fun _ _ _ h => h) (Or.inl ⟨by rfl, ?hy14⟩) (fun e => Bool.noConfusion (show true = false from e)) ?_
  case hy14 => (intro W hSw; refine Or.inl ?_; go_simp; try with_reducible rfl)
  try simp only [Act.put, List.getElem_toArray, List.getElem_cons_zero, List.getElem_cons_succ, List.setIfInBounds_toArray, List.set_cons_zero, List.set_cons_succ]
  refine wpAnyK_done (by kernel_rfl) ?_ _
  refine NoPanic.normal ?_
  go_wp2_with fail
  go_ret
  obtain ⟨F', hg1, hge⟩ := HG1.out
  obtain ⟨ht2, hn2, hm2, hne2⟩ := HT2.out
  have hs1 : w.heap.size ≤ w1.heap.size := HB1.out.size
  have hs2 : w1.heap.size ≤ w2.heap.size := HB12.out.size
  have hbx := below1 w2 (.cells (scrB S.pl g' t') 79)
  have hlt1 : ∀ k, F' k → k < w1.heap.size := hg1.lt
  have hz : w.heap.size = w.drew.heap.size := rfl
  refine ⟨w2.heap.size, rfl, ⟨footS w2.heap.size t' m' F', ⟨g', t', m', F', ⟨heap_alloc_new w2 _, (hg1.below HB12.out).below hbx, ht2.of_blocks (hbx.block _ ht2.lt.1) (hbx.block _ ht2.lt.2), HA.out.here, fun h => ?_, fun h => ?_, fun h => ?_, ?_, ?_, hne2, HA.out.blk.below (HB2.out.alloc HB2.out.size _), ?_⟩, fun k => Iff.rfl⟩, ?_⟩, HB2.out.alloc HB2.out.size _⟩
  · have := hlt1 _ h; omega
  · have := hlt1 _ h; omega
  · have := hlt1 _ h; omega
  · have := ht2.lt.1; omega
  · have := ht2.lt.2; omega
  · have hb0 := HA.out.blk.lt
    rintro k (rfl | rfl | rfl | hk)
    · omega
    · omega
    · omega
    · have := hge k hk; omega
  · rintro k (rfl | rfl | rfl | hk)
    · omega
    · omega
    · omega
    · have := hge k hk; omega
set_option maxRecDepth 10000 in
set_option maxHeartbeats 2000000 in
theorem scr_rows (sp : Nat) (F : Nat → Prop) (S : Vz.Sr) (w : World) (h : Scr w sp F S) : Calls Tryz.prog 29 #[.pointer (some ⟨sp, 0, none⟩)] w fun e w' => ∃ OB G K, e = .returned (.slice (some ⟨OB, 0, none⟩) S.D.R S.D.R) ∧ RowsAt w.heap.size w' OB S.D G K ∧ Below w.heap.size w w' := by
  obtain ⟨gp, tp, mb, FG, hA, hF, ⟨c0, c1, c2, c3, c4, _⟩, hlt⟩ := h.cells
  have HG := Lib.hid (grows_ok gp FG S.D w hA.grid)
  clear h hA hF
  go_enter Tryz.func29, Tryz.ntmps29
  go_wp2_with (go_at_call 68; refine HG.out.mono ?_; rintro e w1 ⟨OB, G, K, rfl, hA, hb1⟩; have HA := Lib.hid hA; have HB := Lib.hid hb1; clear hA hb1)
  go_ret
  exact ⟨_, _, _, rfl, HA.out, HB.out⟩
end Go.Proofs.YtbnkfiaggehmgaaGreatDoor

/- Two screens of the law's own in one memory. -/
namespace Go.Proofs.YtbnkfiaggehmgaaGreatDoor
open Go.RowKit
set_option linter.unusedSimpArgs false
set_option linter.unusedVariables false

/-- Two screens made since w, of blocks of their own. -/
def Two (w W : World) (sp cp : Nat) (S C : Vz.Sr) : Prop :=
  ∃ F FC, Scr W sp F S ∧ Scr W cp FC C ∧ (∀ k, F k → w.heap.size ≤ k ∧ ¬ FC k) ∧ (∀ k, FC k → w.heap.size ≤ k) ∧ Below w.heap.size w W
theorem Two.of_copy {w w3 w4 : World} {sp cp : Nat} {S C : Vz.Sr} (h : NewScr w w3 sp S) (k : NewScr w3 w4 cp C) : Two w w4 sp cp S C := by
  obtain ⟨⟨F, hs, hn⟩, hb⟩ := h
  obtain ⟨⟨FC, hc, hm⟩, hk⟩ := k
  have hlt := hs.lt
  exact ⟨F, FC, hs.below hk, hc, fun j hj => ⟨hn j hj, fun hf => by have := hlt j hj; have := hm j hf; omega⟩, fun j hj => Nat.le_trans hb.size (hm j hj), Below.later hb hk hb.size⟩
theorem Two.swap {w W : World} {sp cp : Nat} {S C : Vz.Sr} (h : Two w W sp cp S C) : Two w W cp sp C S := by
  obtain ⟨F, FC, hs, hc, h1, h2, hb⟩ := h
  exact ⟨FC, F, hc, hs, fun k hk => ⟨h2 k hk, fun hf => (h1 k hf).2 hk⟩, fun k hk => (h1 k hk).1, hb⟩
theorem Two.below {w W W' : World} {sp cp : Nat} {S C : Vz.Sr} (h : Two w W sp cp S C) (hb' : Below W.heap.size W W') : Two w W' sp cp S C := by
  obtain ⟨F, FC, hs, hc, h1, h2, hb⟩ := h
  exact ⟨F, FC, hs.below hb', hc.below hb', h1, h2, Below.later hb hb' hb.size⟩
/-- A screen whose blocks, and Blank's, stay. -/
theorem Scr.keeps {W W' : World} {sp : Nat} {F K : Nat → Prop} {S : Vz.Sr} (h : Scr W sp F S) (hk : Keeps K W W') (hd : ∀ k, F k → ¬ K k) (hb : ¬ K 0) : Scr W' sp F S := by
  have hlt := h.lt
  obtain ⟨gp, tp, mb, FG, hA, hF⟩ := h
  exact ⟨gp, tp, mb, FG, hA.of_blocks (fun k hf => hk.block k (hA.lt hf) (hd k ((hF k).2 hf))) (hk.block _ hA.blk.lt hb), hF⟩
theorem Scr.noblank {W : World} {sp : Nat} {F : Nat → Prop} {S : Vz.Sr} (h : Scr W sp F S) : ¬ F 0 := by
  obtain ⟨gp, tp, mb, FG, hA, hF⟩ := h
  exact fun hf => hA.nbl _ ((hF _).1 hf) rfl
theorem Two.turn {w W W' : World} {sp cp : Nat} {F FC : Nat → Prop} {S C S' : Vz.Sr} (hs : Scr W sp F S) (hc : Scr W cp FC C) (h1 : ∀ k, F k → w.heap.size ≤ k ∧ ¬ FC k) (h2 : ∀ k, FC k → w.heap.size ≤ k) (hb : Below w.heap.size w W) (hg : ScrTo W W' sp F S') : Two w W' sp cp S' C := by
  obtain ⟨⟨F', hs', hn⟩, hk⟩ := hg
  have hlt := hc.lt
  have hsz := hb.size
  refine ⟨F', FC, hs', hc.keeps hk (fun k hf hF => (h1 k hF).2 hf) hs.noblank, fun k hf => ?_, h2, hb.trans (hk.below (fun k hf => (h1 k hf).1) hsz)⟩
  rcases hn k hf with h | h
  · exact h1 k h
  · exact ⟨by omega, fun hf => by have := hlt k hf; omega⟩
theorem scr_at_ij (sp : Nat) (F : Nat → Prop) (S : Vz.Sr) (i j : Nat) (w : World) (h : Scr w sp F S) (hi : i < S.D.R) (hj : j < S.D.C) : Calls Tryz.prog 18 #[.pointer (some ⟨sp, 0, none⟩), .agg #[.int .i64 (i : Int), .int .i64 (j : Int)]] w fun e w' => e = .returned (.tuple #[.agg #[.int .i32 (S.D.X i j).g, .int .i64 (S.D.X i j).a, .bool (S.D.X i j).gd, .int .i64 (S.D.X i j).m], .int .i64 0]) ∧ Below w.heap.size w w' :=
  scr_at sp F S ⟨(i : Int), (j : Int)⟩ w h ⟨Int.natCast_nonneg _, by show (i : Int) < _; omega, Int.natCast_nonneg _, by show (j : Int) < _; omega⟩
end Go.Proofs.YtbnkfiaggehmgaaGreatDoor
