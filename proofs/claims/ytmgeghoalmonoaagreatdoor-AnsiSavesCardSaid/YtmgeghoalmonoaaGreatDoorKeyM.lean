import Derived.Test.YtmgeghoalmonoaaGreatDoorKeyPlain
import Derived.Test.YtmgeghoalmonoaaGreatDoorRK
import Derived.DeepKeys4
import Derived.Carry

/- Walks: keys that are told anew: the map, its cost, Set, Used. -/
namespace Go.Proofs.YtmgeghoalmonoaaGreatDoor
open Go.RowKit Go.Maps
set_option linter.unusedSimpArgs false
set_option linter.unusedVariables false
set_option maxRecDepth 100000
attribute [local go_sem] alloc_drewN setCell_drewN World.cell?_alloc_some frozen_alloc_some

theorem laidOutK : laidOutB Tryz.prog = true := by kernel_rfl
theorem rowCode : (58 : TypeId) < Tryz.prog.types.size := of_decide_eq_true (by kernel_rfl)
theorem wideCode : (match Tryz.prog.underlying 58 with | some (.array _ _) | some (.struct _) => true | _ => false) = true := by kernel_rfl
theorem lawCode : WideMaps.KeyLaw Tryz.prog 58 := deep_law_laid laidOutK (m := 2) (by omega) rowCode (by kernel_rfl) wideCode
theorem keyedCode : Keyed Tryz.prog 58 := Keyed.of_law lawCode
theorem keyCode (e : Bool) (n : Int) (hw : (Lit.int .i64 n).wf = true) : ∃ kl, keyOf Tryz.prog 58 (.agg #[.bool e, .int .i64 n]) = some kl := by
  have hk : Tryz.prog.keyType 58 = true := by kernel_rfl
  have hc : Tryz.prog.cellsOf 58 = 2 := by kernel_rfl
  have hb : Tryz.prog.cellsOf 4 = 1 := by kernel_rfl
  have hi : Tryz.prog.cellsOf 3 = 1 := by kernel_rfl
  obtain ⟨d, hd⟩ : ∃ d, Tryz.prog.types.size = d + 1 := ⟨Tryz.prog.types.size - 1, (Nat.succ_pred_eq_of_pos (Nat.lt_of_le_of_lt (Nat.zero_le _) rowCode)).symm⟩
  unfold keyOf
  rw [Tryz.underlying58, hd]
  simp [hk, Value.formed, hc, Value.cells, Program.keyLits, Tryz.underlying58, Tryz.underlying4, Tryz.underlying3, hb, hi, hw]
/-- Keys that are told anew: a box and a map. -/
structure KeyAt (W : World) (kp mb used : Nat) (over : Bool) (D : DataW Unit) : Prop where
  box : W.heap[kp]? = some (.cells #[.map (some mb), .int .i64 4096, .int .i64 (used : Int), .bool over] 118 (0, 0))
  own : W.ownsMap Tryz.prog 58 (plainElem Tryz.prog 9) mb 2000 D
  cost : costD D = used
  le : used ≤ 4096
section
variable {W W' : World} {kp mb used : Nat} {over : Bool} {D : DataW Unit}
theorem KeyAt.lt (h : KeyAt W kp mb used over D) : kp < W.heap.size ∧ mb < W.heap.size := ⟨block_lt h.box, h.own.lt⟩
theorem KeyAt.ne (h : KeyAt W kp mb used over D) : kp ≠ mb := by
  rintro rfl
  obtain ⟨es, clock, hb, _⟩ := h.own
  rw [h.box] at hb
  cases hb
theorem KeyAt.of_blocks (h : KeyAt W kp mb used over D) (h1 : W'.heap[kp]? = W.heap[kp]?) (h2 : W'.heap[mb]? = W.heap[mb]?) : KeyAt W' kp mb used over D := by
  refine ⟨h1.trans h.box, ?_, h.cost, h.le⟩
  obtain ⟨es, clock, hb, r⟩ := h.own
  exact ⟨es, clock, h2.trans hb, r⟩
theorem KeyAt.below (h : KeyAt W kp mb used over D) (hb : Below W.heap.size W W') : KeyAt W' kp mb used over D := h.of_blocks (hb.block _ h.lt.1) (hb.block _ h.lt.2)
theorem KeyAt.cells (h : KeyAt W kp mb used over D) : (W.cell? ⟨kp, 0, none⟩ = some (.map (some mb)) ∧ W.cell? ⟨kp, 1, none⟩ = some (.int .i64 4096) ∧ W.cell? ⟨kp, 2, none⟩ = some (.int .i64 (used : Int)) ∧ W.cell? ⟨kp, 3, none⟩ = some (.bool over)) ∧ W.frozen? ⟨kp, 2, none⟩ = false ∧ W.frozen? ⟨kp, 3, none⟩ = false :=
  ⟨⟨cell_row h.box 0, cell_row h.box 1, cell_row h.box 2, cell_row h.box 3⟩, frozen_row h.box 2, frozen_row h.box 3⟩
theorem KeyAt.costAt_le (h : KeyAt W kp mb used over D) (kl : Lit) : costAt D kl ≤ used := by
  have := cost_del (h.own.tidy keyedCode) kl
  have := h.cost
  omega
/-- What a look-up reads. -/
theorem KeyAt.look (h : KeyAt W kp mb used over D) {e : Bool} {n : Int} {kl : Lit} (hk : keyOf Tryz.prog 58 (.agg #[.bool e, .int .i64 n]) = some kl) :
    ∃ s : ByteArray, (D.atKey kl (.lit (.string [])) = .lit (.string s.data.toList)) ∧ s.size ≤ maxLen ∧ ∀ W'', KeyAt W'' kp mb used over D → (Instr.lookup 116 (.map (some mb)) (.agg #[.bool e, .int .i64 n]) true).run Tryz.prog W'' = .ok (.tuple #[.string s, .bool (Maps.has D kl)]) W'' := by
  have hz : ∀ W'', (zeroValue 9).run Tryz.prog W'' = .ok (.string ⟨#[]⟩) W'' := fun W'' => by kernel_rfl
  have hzd : plainElem (H := Unit) Tryz.prog 9 (.string ⟨#[]⟩) = some (.lit (.string []), []) := plainElem_string Tryz.underlying9 (by decide)
  obtain ⟨v, ps, hrun, hv⟩ := h.own.look_ok keyedCode Tryz.underlying116 (hz W) hzd hk
  obtain ⟨s, rfl, hs, hle⟩ := plainElem_string_inv Tryz.underlying9 hv
  simp only [Prod.mk.injEq] at hs
  refine ⟨s, hs.1, hle, fun W'' h'' => ?_⟩
  obtain ⟨v', ps', hrun', hv'⟩ := h''.own.look_ok keyedCode Tryz.underlying116 (hz W'') hzd hk
  obtain ⟨s', rfl, hs', -⟩ := plainElem_string_inv Tryz.underlying9 hv'
  simp only [Prod.mk.injEq] at hs'
  have e1 : s.data.toList = s'.data.toList := by
    have := hs.1.symm.trans hs'.1
    injection this with this
    injection this
  have e2 : s' = s := ByteArray.ext (Array.toList_inj.1 e1.symm)
  rw [hrun', e2]
end
/-- Keys behind a call. -/
def KeyTo (w w' : World) (kp mb : Nat) : Prop := (∃ used over D, KeyAt w' kp mb used over D) ∧ Keeps (fun k => k = kp ∨ k = mb) w w'
def KMay (n : Int) (r : Ending) : Prop := ∃ b : Bool, r = .returned (.bool b) ∧ (b = true → 0 ≤ n ∧ n ≤ 255)
theorem kmay_mk {n : Int} {b : Bool} {r : Ending} (h : r = .returned (.bool b)) (hb : b = true → 0 ≤ n ∧ n ≤ 255) : KMay n r := ⟨b, h, hb⟩
theorem kmay_any (e : Bool) (n : Int) (w : World) : Calls Tryz.prog 116 #[.agg #[.bool e, .int .i64 n]] w fun r w' => KMay n r ∧ Below w.heap.size w w' := by
  obtain ⟨c0, c1, _⟩ := row2 (heap_alloc_new w (.cells #[.bool e, .int .i64 n] 58))
  have HB : Hid (Below w.heap.size w (w.alloc (.cells #[.bool e, .int .i64 n] 58))) := below1 _ _
  by_cases h1 : 0 ≤ n
  · by_cases h2 : n ≤ 255
    · cases e
      all_goals (
        go_enter Tryz.func116, Tryz.ntmps116
        go_wp2_with fail
        go_ret
        exact ⟨kmay_mk rfl (fun _ => ⟨h1, h2⟩), HB.out⟩)
    · have d2 : decide (n ≤ 255) = false := decide_eq_false h2
      go_enter Tryz.func116, Tryz.ntmps116
      go_wp2_with fail
      go_ret
      exact ⟨kmay_mk rfl (fun e => by cases e), HB.out⟩
  · have d1 : decide (0 ≤ n) = false := decide_eq_false h1
    go_enter Tryz.func116, Tryz.ntmps116
    go_wp2_with fail
    go_ret
    exact ⟨kmay_mk rfl (fun e => by cases e), HB.out⟩
set_option maxRecDepth 100000 in
set_option maxHeartbeats 4000000 in
theorem kcost_ok (kp mb used : Nat) (over : Bool) (D : DataW Unit) (e : Bool) (n : Int) (kl : Lit) (hk : keyOf Tryz.prog 58 (.agg #[.bool e, .int .i64 n]) = some kl) (w : World) (h : KeyAt w kp mb used over D) :
    Calls Tryz.prog 117 #[.pointer (some ⟨kp, 0, none⟩), .agg #[.bool e, .int .i64 n]] w fun r w' => r = .returned (.int .i64 (costAt D kl : Nat)) ∧ Below w.heap.size w w' := by
  obtain ⟨s, hat, hsz, hrun⟩ := h.look hk
  have hc1 : Maps.has D kl = true → costAt D kl = 3 + s.data.toList.length := fun hh => costAt_has (h.own.isMap) hh hat
  have hc0 : Maps.has D kl = false → costAt D kl = 0 := fun hh => costAt_not (h.own.isMap) hh
  have HB : Hid (Below w.heap.size w (w.alloc (.cells #[.bool e, .int .i64 n] 58))) := below1 _ _
  have HX := heap_alloc_new w (.cells #[.bool e, .int .i64 n] 58)
  have HS : Hid (Below (w.heap.size + 1) (w.alloc (.cells #[.bool e, .int .i64 n] 58)) (w.alloc (.cells #[.bool e, .int .i64 n] 58)).drew) := (Below.refl _ _).drew
  have HKX : Hid (∀ W, Below (w.heap.size + 1) (w.alloc (.cells #[.bool e, .int .i64 n] 58)) W → KeyAt W kp mb used over D ∧ W.heap[w.heap.size]? = some (.cells #[.bool e, .int .i64 n] 58 (0, 0))) := fun W hb => ⟨(h.below HB.out).below (by rw [World.size_alloc]; exact hb), (hb.block _ (Nat.lt_succ_self _)).trans HX⟩
  have HRUN := Lib.hid hrun
  have hsl : s.data.toList.length = s.size := rfl
  rw [hsl] at hc1
  have HC1 := Lib.hid hc1
  have HC0 := Lib.hid hc0
  have hle : costAt D kl ≤ 4096 := Nat.le_trans (h.costAt_le kl) h.le
  clear h hk hat hrun hc1 hc0 HX hsl hsz
  generalize Maps.has D kl = hd at *
  generalize costAt D kl = ct at *
  go_enter Tryz.func117, Tryz.ntmps117
  go_upto_region 1 with fail
  refine wp_region_noPanic ?_
  refine wp_region_k (S := fun W : World => Below (w.heap.size + 1) (w.alloc (.cells #[.bool e, .int .i64 n] 58)) W) 999 (by kernel_rfl) (HS.out) (fun hHeld => ?_)
  refine kSK 0 hHeld ?_
  refine kSK 1 hHeld ?_
  refine kSK 2 hHeld ?_
  refine kHK (v := ?_) 3 hHeld ?y4 ?_
  case y4 => (intro W hSw; obtain ⟨hka, hbx⟩ := HKX.out _ hSw; obtain ⟨⟨m0, m1, m2, m3⟩, _⟩ := hka.cells; obtain ⟨b0, b1, _⟩ := row2 hbx; have hlk := HRUN.out _ hka; go_simp; try with_reducible rfl)
  refine kHK (v := ?_) 4 hHeld ?y5 ?_
  case y5 => (intro W hSw; obtain ⟨hka, hbx⟩ := HKX.out _ hSw; obtain ⟨⟨m0, m1, m2, m3⟩, _⟩ := hka.cells; obtain ⟨b0, b1, _⟩ := row2 hbx; have hlk := HRUN.out _ hka; go_simp; try with_reducible rfl)
  try refine kNK ?_
  refine kHK (v := ?_) 5 hHeld ?y6 ?_
  case y6 => (intro W hSw; obtain ⟨hka, hbx⟩ := HKX.out _ hSw; obtain ⟨⟨m0, m1, m2, m3⟩, _⟩ := hka.cells; obtain ⟨b0, b1, _⟩ := row2 hbx; have hlk := HRUN.out _ hka; go_simp; try with_reducible rfl)
  refine kSK 6 hHeld ?_
  refine kSK 7 hHeld ?_
  refine kSK 8 hHeld ?_
  refine kSK 9 hHeld ?_
  try refine kNK ?_
  refine kSK 10 hHeld ?_
  try refine kNK ?_
  refine wpAnyK_done (by kernel_rfl) ?_ _
  refine NoPanic.normal ?_
  cases hd
  · have e0 := HC0.out rfl
    subst e0
    go_wp2_with fail
    go_ret
    exact ⟨rfl, HB.out.trans (HS.out.mono (Nat.le_succ _))⟩
  · have e1 := HC1.out rfl
    have hw : IntKind.i64.wrap (3 + (s.size : Int)) = ((ct : Nat) : Int) := by rw [wrap_in (by omega) (by omega)]; omega
    go_wp2_with fail
    go_ret
    exact ⟨rfl, HB.out.trans (HS.out.mono (Nat.le_succ _))⟩
theorem kused_ok (kp mb used : Nat) (over : Bool) (D : DataW Unit) (w : World) (h : KeyAt w kp mb used over D) : Calls Tryz.prog 31 #[.pointer (some ⟨kp, 0, none⟩)] w fun r w' => r = .returned (.int .i64 (used : Int)) ∧ w = w' := by
  obtain ⟨⟨m0, m1, m2, m3⟩, _⟩ := h.cells
  clear h
  go_enter Tryz.func31, Tryz.ntmps31
  go_wp2_with fail
  go_ret
  exact ⟨rfl, rfl⟩
theorem kover_ok (kp mb used : Nat) (over : Bool) (D : DataW Unit) (w : World) (h : KeyAt w kp mb used over D) : Calls Tryz.prog 32 #[.pointer (some ⟨kp, 0, none⟩)] w fun r w' => r = .returned (.bool over) ∧ w = w' := by
  obtain ⟨⟨m0, m1, m2, m3⟩, _⟩ := h.cells
  clear h
  go_enter Tryz.func32, Tryz.ntmps32
  go_wp2_with fail
  go_ret
  exact ⟨rfl, rfl⟩
theorem knew_ok (w : World) : Calls Tryz.prog 35 #[.int .i64 4096] w fun r w' => r = .returned (.tuple #[.pointer (some ⟨w.heap.size + 1, 0, none⟩), .int .i64 0]) ∧ KeyAt w' (w.heap.size + 1) w.heap.size 0 false (.map []) ∧ Below w.heap.size w w' := by
  have hmm := @run_makeMap Tryz.prog
  go_enter Tryz.func35, Tryz.ntmps35
  go_wp2_with fail
  go_ret2
  refine ⟨rfl, ⟨?_, ?_, rfl, Nat.zero_le _⟩, ((below1 w _).alloc (by simp) _)⟩
  · have := heap_alloc_new (w.alloc (.map #[] 0)) (.cells #[.map (some w.heap.size), .int .i64 4096, .int .i64 0, .bool false] 118)
    rwa [World.size_alloc] at this
  · exact ((World.ownsMap_made w _ _ _).alloc _).mono (Nat.zero_le _)
end Go.Proofs.YtmgeghoalmonoaaGreatDoor
