import Derived.Test.YtmgeghoalmonoaaGreatDoorKeyM

/- Walks: Set of keys that are told anew. -/
namespace Go.Proofs.YtmgeghoalmonoaaGreatDoor
open Go.RowKit Go.Maps
set_option linter.unusedSimpArgs false
set_option linter.unusedVariables false
set_option maxRecDepth 100000
attribute [local go_sem] alloc_drewN setCell_drewN World.cell?_alloc_some frozen_alloc_some

theorem KeyAt.more {W W' : World} {kp mb used : Nat} {over : Bool} {D D' : DataW Unit} {u2 : Nat} {o2 : Bool} (h : KeyAt W kp mb used over D)
    (hb : W'.heap[kp]? = some (.cells #[.map (some mb), .int .i64 4096, .int .i64 (u2 : Int), .bool o2] 118 (0, 0))) {m : Nat} (ho : W'.ownsMap Tryz.prog 58 (plainElem Tryz.prog 9) mb m D') (hc : costD D' = u2) (hl : u2 ≤ 4096) : KeyAt W' kp mb u2 o2 D' := by
  refine ⟨hb, owns_shrink ho ?_, hc, hl⟩
  have := size_costD ho.isMap
  omega
theorem heap4 {W : World} {g : Nat} {a b c d : Value} {t : TypeId} (h : W.heap[g]? = some (.cells #[a, b, c, d] t (0, 0))) (c' : Value) : (W.setCell ⟨g, 2, none⟩ c').heap[g]? = some (.cells #[a, b, c', d] t (0, 0)) := heap_set_same h 2 c'
theorem heap4d {W : World} {g : Nat} {a b c d : Value} {t : TypeId} (h : W.heap[g]? = some (.cells #[a, b, c, d] t (0, 0))) (d' : Value) : (W.setCell ⟨g, 3, none⟩ d').heap[g]? = some (.cells #[a, b, c, d'] t (0, 0)) := heap_set_same h 3 d'
/-- Where Set stands behind the box of its key. -/
def SetI (w : World) (kp mb used : Nat) (over : Bool) (D : DataW Unit) (e : Bool) (n : Int) (W : World) : Prop := Below w.heap.size w W ∧ KeyAt W kp mb used over D ∧ W.heap[w.heap.size]? = some (.cells #[.bool e, .int .i64 n] 58 (0, 0))
theorem SetI.below {w : World} {kp mb used : Nat} {over : Bool} {D : DataW Unit} {e : Bool} {n : Int} {W W' : World} (h : SetI w kp mb used over D e n W) (hb : Below W.heap.size W W') : SetI w kp mb used over D e n W' :=
  ⟨Below.later h.1 hb h.1.size, h.2.1.below hb, (hb.block _ (block_lt h.2.2)).trans h.2.2⟩
theorem SetI.cells {w : World} {kp mb used : Nat} {over : Bool} {D : DataW Unit} {e : Bool} {n : Int} {W : World} (h : SetI w kp mb used over D e n W) : (W.cell? ⟨kp, 0, none⟩ = some (.map (some mb)) ∧ W.cell? ⟨kp, 1, none⟩ = some (.int .i64 4096) ∧ W.cell? ⟨kp, 2, none⟩ = some (.int .i64 (used : Int)) ∧ W.cell? ⟨kp, 3, none⟩ = some (.bool over)) ∧ (W.cell? ⟨w.heap.size, 0, none⟩ = some (.bool e) ∧ W.cell? ⟨w.heap.size, 1, none⟩ = some (.int .i64 n)) ∧ W.frozen? ⟨kp, 2, none⟩ = false ∧ W.frozen? ⟨kp, 3, none⟩ = false := by
  obtain ⟨b0, b1, _⟩ := row2 h.2.2
  exact ⟨h.2.1.cells.1, ⟨b0, b1⟩, h.2.1.cells.2⟩
set_option maxHeartbeats 8000000 in
theorem kset_any (kp mb used : Nat) (over : Bool) (D : DataW Unit) (e : Bool) (n : Int) (hw : (Lit.int .i64 n).wf = true) (s : ByteArray) (hs : s.size ≤ 1000) (w : World) (h : KeyAt w kp mb used over D) :
    Calls Tryz.prog 95 #[.pointer (some ⟨kp, 0, none⟩), .agg #[.bool e, .int .i64 n], .string s] w fun r w' => (∃ k : Int, r = .returned (.int .i64 k)) ∧ KeyTo w w' kp mb := by
  obtain ⟨kl, hk⟩ := keyCode e n hw
  have hcl := h.costAt_le kl
  have hul := h.le
  have hlt := h.lt
  have hne := h.ne
  have HN := Lib.hid hne
  have HLT := Lib.hid hlt
  have HK := Lib.hid hk
  have HI0 : Hid (SetI w kp mb used over D e n (w.alloc (.cells #[.bool e, .int .i64 n] 58))) := ⟨below1 _ _, h.below (below1 _ _), heap_alloc_new w _⟩
  have HCO : Hid (∀ W, SetI w kp mb used over D e n W → Calls Tryz.prog 117 #[.pointer (some ⟨kp, 0, none⟩), .agg #[.bool e, .int .i64 n]] W fun r w' => r = .returned (.int .i64 (costAt D kl : Nat)) ∧ Below W.heap.size W w') := fun W hi => kcost_ok kp mb used over D e n kl hk W hi.2.1
  have hcd := cost_del (h.own.tidy keyedCode) kl
  have hcp := cost_put (h.own.tidy keyedCode) kl (.lit (.string s.data.toList))
  rw [h.cost] at hcd hcp
  have hce : costE (kl, .lit (.string s.data.toList)) = 3 + s.size := rfl
  rw [hce] at hcp
  have HCD := Lib.hid hcd
  have HCP := Lib.hid hcp
  clear h hk hcd hcp hce hlt hne
  generalize costAt D kl = ct at *
  obtain ⟨rs, hrs⟩ : ∃ rs, used = rs + ct := ⟨used - ct, by omega⟩
  have hw1 : IntKind.i64.wrap ((used : Int) - (ct : Int)) = (rs : Int) := by rw [wrap_in (by omega) (by omega)]; omega
  have HRS := Lib.hid hrs
  have hrl : rs ≤ 4096 := by omega
  clear hrs
  have HEND0 : Hid (∀ W, SetI w kp mb used over D e n W → KeyTo w W kp mb) := fun W hi => ⟨⟨_, _, _, hi.2.1⟩, Keeps.of_below hi.1⟩
  obtain ⟨⟨m0, m1, m2, m3⟩, ⟨b0, b1⟩, f2, f3⟩ := HI0.out.cells
  go_enter Tryz.func95, Tryz.ntmps95
  go_upto_region 5 with (go_at_call 116; refine (kmay_any e n _).mono ?_; rintro r w1 ⟨⟨b, rfl, -⟩, hb1⟩; have HI1 := Lib.hid (HI0.out.below hb1); clear hb1; cases b)
  · go_ret
    exact ⟨⟨_, rfl⟩, HEND0.out _ HI1.out⟩
  clear m0 m1 m2 m3 b0 b1 f2 f3
  have HS : Hid (SetI w kp mb used over D e n w1.drew) := HI1.out.below (Below.refl _ _).drew
  refine wp_region_noPanic ?_
  refine wp_region_k (S := fun W : World => SetI w kp mb used over D e n W) 7 (by kernel_rfl) (HS.out) (fun hHeld => ?_)
  refine kSK 0 hHeld ?_
  refine kSK 1 hHeld ?_
  refine kSK 2 hHeld ?_
  refine kTK (v := ?_) 3 [] hHeld ?y4 ?_
  case y4 => (intro W hSw; obtain ⟨⟨m0, m1, m2, m3⟩, ⟨b0, b1⟩, f2, f3⟩ := hSw.cells; go_simp; try with_reducible rfl)
  refine kSK 4 hHeld ?_
  try refine kNK ?_
  refine kTK (v := ?_) 5 [6] hHeld ?y6 ?_
  case y6 => (intro W hSw; obtain ⟨⟨m0, m1, m2, m3⟩, ⟨b0, b1⟩, f2, f3⟩ := hSw.cells; go_simp; try with_reducible rfl)
  try refine kNK ?_
  refine kOK 6 fun KQ hKQ => ?_
  go_simp
  go_at_call 117
  refine (HCO.out _ hHeld).mono ?_
  rintro r w2 ⟨rfl, hb2⟩
  have HI2 := Lib.hid (hHeld.below hb2)
  clear hb2
  go_wp2_with fail
  refine hKQ.out _ _ (HI2.out) ?_
  clear hHeld hKQ KQ
  intro hHeld
  try refine kNK ?_
  refine kPK 7 fun KQ hKQ => ?_
  go_simp
  refine hKQ.out _ _ ?_
  clear hKQ KQ
  try refine kNK ?_
  refine kBK 8 ?_
  try refine kNK ?_
  refine wpAnyK_done (by kernel_rfl) ?_ _
  refine NoPanic.normal ?_
  obtain ⟨⟨m0, m1, m2, m3⟩, ⟨b0, b1⟩, f2, f3⟩ := HI2.out.cells
  by_cases h0 : s.size = 0
  · have he : s.toList.isEmpty = true := by
      rw [ByteArray.toList_eq]
      cases hl : s.data.toList with
      | nil => rfl
      | cons a l =>
        have : s.size = (a :: l).length := by rw [← hl]; rfl
        rw [h0] at this
        cases this
    go_upto_region 7 with fail
    clear m0 m1 m2 m3 b0 b1 f2 f3
    have HS2 : Hid (SetI w kp mb used over D e n w2.drew) := HI2.out.below (Below.refl _ _).drew
    refine wp_region_noPanic ?_
    refine wp_region_k (S := fun W : World => SetI w kp mb used over D e n W) 5 (by kernel_rfl) (HS2.out) (fun hHeld => ?_)
    refine kSK 0 hHeld ?_
    refine kSK 1 hHeld ?_
    refine kSK 2 hHeld ?_
    refine kTK (v := ?_) 3 [] hHeld ?y4 ?_
    case y4 => (intro W hSw; obtain ⟨⟨m0, m1, m2, m3⟩, ⟨b0, b1⟩, f2, f3⟩ := hSw.cells; go_simp; try with_reducible rfl)
    refine kTK (v := ?_) 4 [] hHeld ?y5 ?_
    case y5 => (intro W hSw; obtain ⟨⟨m0, m1, m2, m3⟩, ⟨b0, b1⟩, f2, f3⟩ := hSw.cells; go_simp; try with_reducible rfl)
    try refine kNK ?_
    refine kPK 5 fun KQ hKQ => ?_
    obtain ⟨W3, hrun, hown, hturn⟩ := HS2.out.2.1.own.drop keyedCode Tryz.underlying116 HK.out 0
    have HO3 := Lib.hid hown
    have HT3 := Lib.hid hturn
    clear hown hturn
    go_simp
    refine hKQ.out _ _ ?_
    clear hKQ KQ
    try refine kNK ?_
    refine wpAnyK_done (by kernel_rfl) ?_ _
    refine NoPanic.normal ?_
    clear hrun
    have hb3 := (turned_other HT3.out HN.out).trans HS2.out.2.1.box
    have m2 : W3.cell? ⟨kp, 2, none⟩ = some (.int .i64 (used : Int)) := cell_row hb3 2
    have f2 := frozen_row hb3 2
    have HB3 := Lib.hid hb3
    clear hb3
    go_wp2_with fail
    go_ret
    refine ⟨⟨_, rfl⟩, ⟨rs, over, D.del kl, HS2.out.2.1.more (heap4 HB3.out _) (HO3.out.setCell (fun e => HN.out e.symm) _) (by have h1 := HCD.out; have h2 := HRS.out; omega) hrl⟩, ?_⟩
    exact ((Keeps.of_below HS2.out.1).trans (turned_keeps HT3.out (.inr rfl)) (fun k hk => .inl hk)).setCell' (.inl rfl) _
  · have he : s.toList.isEmpty = false := by
      rw [ByteArray.toList_eq]
      cases hl : s.data.toList with
      | nil =>
        exfalso
        have : s.size = ([] : List UInt8).length := by rw [← hl]; rfl
        exact h0 this
      | cons a l => rfl
    have hw2 : IntKind.i64.wrap ((rs : Int) + 3) = (rs : Int) + 3 := wrap_in (by omega) (by omega)
    have hw3 : IntKind.i64.wrap ((rs : Int) + 3 + (s.size : Int)) = (rs : Int) + 3 + (s.size : Int) := wrap_in (by omega) (by omega)
    by_cases hgt : (4096 : Int) < (rs : Int) + 3 + (s.size : Int)
    · go_wp2_with fail
      go_ret
      have hbx := HI2.out.2.1.box
      refine ⟨⟨_, rfl⟩, ⟨used, true, D, HI2.out.2.1.more (heap4d hbx _) (HI2.out.2.1.own.setCell (fun e => HN.out e.symm) _) HI2.out.2.1.cost HI2.out.2.1.le⟩, ?_⟩
      exact (Keeps.of_below HI2.out.1 : Keeps (fun k => k = kp ∨ k = mb) w w2).setCell' (.inl rfl) _
    · have hsm : rs + 3 + s.size ≤ 4096 := by omega
      go_upto_region 13 with fail
      clear m0 m1 m2 m3 b0 b1 f2 f3
      have HS2 : Hid (SetI w kp mb used over D e n w2.drew) := HI2.out.below (Below.refl _ _).drew
      refine wp_region_noPanic ?_
      refine wp_region_k (S := fun W : World => SetI w kp mb used over D e n W) 6 (by kernel_rfl) (HS2.out) (fun hHeld => ?_)
      refine kSK 0 hHeld ?_
      refine kSK 1 hHeld ?_
      refine kSK 2 hHeld ?_
      refine kTK (v := ?_) 3 [] hHeld ?y4 ?_
      case y4 => (intro W hSw; obtain ⟨⟨m0, m1, m2, m3⟩, ⟨b0, b1⟩, f2, f3⟩ := hSw.cells; go_simp; try with_reducible rfl)
      refine kTK (v := ?_) 4 [] hHeld ?y5 ?_
      case y5 => (intro W hSw; obtain ⟨⟨m0, m1, m2, m3⟩, ⟨b0, b1⟩, f2, f3⟩ := hSw.cells; go_simp; try with_reducible rfl)
      try refine kNK ?_
      refine kSK 5 hHeld ?_
      try refine kNK ?_
      refine kPK 6 fun KQ hKQ => ?_
      obtain ⟨W3, hrun, hown, hturn⟩ := HS2.out.2.1.own.store keyedCode Tryz.underlying116 (by unfold maxLen; decide) HK.out (plainElem_string (H := Unit) Tryz.underlying9 (show s.size ≤ maxLen by unfold maxLen; omega))
      have HO3 := Lib.hid hown
      have HT3 := Lib.hid hturn
      clear hown hturn
      go_simp
      refine hKQ.out _ _ ?_
      clear hKQ KQ
      try refine kNK ?_
      refine wpAnyK_done (by kernel_rfl) ?_ _
      refine NoPanic.normal ?_
      clear hrun
      have hb3 := (turned_other HT3.out HN.out).trans HS2.out.2.1.box
      have m2 : W3.cell? ⟨kp, 2, none⟩ = some (.int .i64 (used : Int)) := cell_row hb3 2
      have f2 := frozen_row hb3 2
      have HB3 := Lib.hid hb3
      clear hb3
      go_wp2_with fail
      go_ret
      refine ⟨⟨_, rfl⟩, ⟨rs + 3 + s.size, over, D.put kl (.lit (.string s.data.toList)), HS2.out.2.1.more (heap4 HB3.out _) (HO3.out.setCell (fun e => HN.out e.symm) _) (by have h1 := HCP.out; have h2 := HRS.out; omega) hsm⟩, ?_⟩
      exact ((Keeps.of_below HS2.out.1).trans (turned_keeps HT3.out (.inr rfl)) (fun k hk => .inl hk)).setCell' (.inl rfl) _
end Go.Proofs.YtmgeghoalmonoaaGreatDoor
