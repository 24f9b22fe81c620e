import Derived.Test.YtncgigapgklhcaaGreatDoorHY

/- Walks: a terminal's Modes, Attr, Pending, Drop. -/
namespace Go.Proofs.YtncgigapgklhcaaGreatDoor
open Go.RowKit
set_option linter.unusedSimpArgs false
set_option linter.unusedVariables false
attribute [local go_sem] alloc_drewN setCell_drewN World.cell?_alloc_some frozen_alloc_some size_f0 size_f1

theorem tm_attr {w : World} {tp sp qp : Nat} {FT : Nat → Prop} {A : Ad} (h : Term w tp sp qp FT A) : Calls Tryz.prog 20 #[.pointer (some ⟨tp, 0, none⟩)] w fun e w' => e = .returned (.int .i64 A.attr) ∧ w = w' := by
  obtain ⟨lb, fr, F, V, h, hF⟩ := h
  obtain ⟨t0, t1, t2, t3, t4, t5, f2, f3, f4, f5⟩ := row6 h.box
  clear h hF
  go_enter Tryz.func20, Tryz.ntmps20
  go_wp2_with fail
  go_ret
  exact ⟨rfl, rfl⟩
theorem tm_pending {w : World} {tp sp qp : Nat} {FT : Nat → Prop} {A : Ad} (h : Term w tp sp qp FT A) : Calls Tryz.prog 21 #[.pointer (some ⟨tp, 0, none⟩)] w fun e w' => e = .returned (.string ⟨A.seq.toArray⟩) ∧ w = w' := by
  obtain ⟨lb, fr, F, V, h, hF⟩ := h
  obtain ⟨t0, t1, t2, t3, t4, t5, f2, f3, f4, f5⟩ := row6 h.box
  have hcv := conv_own h.own
  clear h hF
  go_enter Tryz.func21, Tryz.ntmps21
  go_wp2_with fail
  go_ret
  exact ⟨rfl, rfl⟩
theorem tm_modes {w : World} {tp sp qp : Nat} {FT : Nat → Prop} {A : Ad} (h : Term w tp sp qp FT A) : Calls Tryz.prog 19 #[.pointer (some ⟨tp, 0, none⟩)] w fun e w' => e = .returned (.agg #[.bool A.gd, .bool A.pr]) ∧ Below w.heap.size w w' := by
  obtain ⟨lb, fr, F, V, h, hF⟩ := h
  have hx := heap_alloc_new w (.cells #[.bool false, .bool false] 45)
  obtain ⟨x0, x1, g0, g1⟩ := row2 hx
  obtain ⟨t0, t1, t2, t3, t4, t5, f2, f3, f4, f5⟩ := row6 (h.below (below1 w (.cells #[.bool false, .bool false] 45))).box
  have HX := Lib.hid hx
  clear hx h hF
  go_enter Tryz.func19, Tryz.ntmps19
  go_wp2_with fail
  exact bodyPost_ret (v := .agg #[.bool A.gd, .bool A.pr]) (by simp [results, Tryz.results19, go_sem, x0, x1]) rfl ⟨rfl, below1 _ _⟩
theorem tm_drop {w : World} {tp sp qp : Nat} {FT : Nat → Prop} {A : Ad} (h : Term w tp sp qp FT A) : Calls Tryz.prog 18 #[.pointer (some ⟨tp, 0, none⟩)] w fun e w' => e = .returned (.tuple #[]) ∧ TermTo w w' tp sp qp FT { A with seq := [] } := by
  obtain ⟨lb, fr, F, V, h, hF⟩ := h
  obtain ⟨t0, t1, t2, t3, t4, t5, f2, f3, f4, f5⟩ := row6 h.box
  have HT : Hid (TermTo w (w.setCell ⟨tp, 5, none⟩ (.slice none 0 0)) tp sp qp FT { A with seq := [] }) := by
    refine Term.boxed (gd := A.gd) (pr := A.pr) (attr := A.attr) h hF (heap_set_same h.box 5 (.slice none 0 0)) (World.ownsRow_nil _ _ _ _) (.inl rfl) (fun k hk => by cases hk) ⟨rfl, rfl, rfl, Nat.le_of_eq (World.size_setCell _ _ _).symm, fun k hk hn => heap_setCell_other _ _ _ _ (show k ≠ tp from fun e => hn (.inl e))⟩
  clear h hF
  go_enter Tryz.func18, Tryz.ntmps18
  go_wp2_with fail
  go_end0
  exact ⟨rfl, HT.out⟩
theorem made_modes {w W : World} {wp tp sp qp : Nat} {A : Ad} (h : Made w W wp tp sp qp A) : Calls Tryz.prog 19 #[.pointer (some ⟨tp, 0, none⟩)] W fun e w' => e = .returned (.agg #[.bool A.gd, .bool A.pr]) ∧ Below W.heap.size W w' := by
  obtain ⟨h1, ⟨FT, h2, h3, h4⟩, h5, h6⟩ := h
  exact tm_modes h2
theorem made_attr {w W : World} {wp tp sp qp : Nat} {A : Ad} (h : Made w W wp tp sp qp A) : Calls Tryz.prog 20 #[.pointer (some ⟨tp, 0, none⟩)] W fun e w' => e = .returned (.int .i64 A.attr) ∧ W = w' := by
  obtain ⟨h1, ⟨FT, h2, h3, h4⟩, h5, h6⟩ := h
  exact tm_attr h2
theorem made_pending {w W : World} {wp tp sp qp : Nat} {A : Ad} (h : Made w W wp tp sp qp A) : Calls Tryz.prog 21 #[.pointer (some ⟨tp, 0, none⟩)] W fun e w' => e = .returned (.string ⟨A.seq.toArray⟩) ∧ W = w' := by
  obtain ⟨h1, ⟨FT, h2, h3, h4⟩, h5, h6⟩ := h
  exact tm_pending h2
theorem made_drop {w W : World} {wp tp sp qp : Nat} {A : Ad} (h : Made w W wp tp sp qp A) : Calls Tryz.prog 18 #[.pointer (some ⟨tp, 0, none⟩)] W fun e w' => e = .returned (.tuple #[]) ∧ Made w w' wp tp sp qp { A with seq := [] } := by
  obtain ⟨h1, ⟨FT, h2, h3, h4⟩, h5, h6⟩ := h
  exact (tm_drop h2).mono fun e w' h' => ⟨h'.1, Made.turn h1 h3 h4 h5 h6 h'.2⟩
end Go.Proofs.YtncgigapgklhcaaGreatDoor
