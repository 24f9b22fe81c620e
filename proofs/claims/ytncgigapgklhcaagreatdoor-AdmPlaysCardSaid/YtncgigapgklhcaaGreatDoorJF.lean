import Derived.Test.YtncgigapgklhcaaGreatDoorJE
import Derived.Test.YtncgigapgklhcaaGreatDoorJD
import Derived.Test.YtncgigapgklhcaaGreatDoorJC

set_option maxRecDepth 100000
set_option maxHeartbeats 16000000
namespace Go.Proofs.YtncgigapgklhcaaGreatDoor
open Go.RowKit
set_option linter.unusedSimpArgs false
set_option linter.unusedVariables false
/- Walks of vizardref18: lines. -/
section
set_option maxRecDepth 100000
attribute [local go_sem] alloc_drewN setCell_drewN World.cell?_alloc_some frozen_alloc_some size_f0 size_f1
section
variable {w : World} {rp lb cap sb : Nat} {r : Rf}
def LinesOk (w : World) (rp lb sb : Nat) (r : Rf) (b : Nat) : Prop := Calls Tryz.prog 70 #[.pointer (some ⟨rp, 0, none⟩), .int .u8 (b : Int)] w fun e w' => e = .returned (.tuple #[]) ∧ RfTo w w' rp lb sb (linesR r b)
theorem lines_rows (h : RfAt w rp lb cap sb r) (hm : r.may) (b : Nat) (hb : b = 69 ∨ b = 82) : LinesOk w rp lb sb r b := by
 have h1 := h.colAt 0
 have hm1 : ({ r with col := 0 } : Rf).may := by obtain ⟨a1, a2, a3, a4, a5, a6⟩ := hm; exact ⟨a1, a2, a3, a4, a5, by show 0 < r.C; omega⟩
 have HT0 : Hid (RfTo w (w.setCell ⟨rp, 4, none⟩ (.int .i64 0)) rp lb sb { r with col := 0 }) := h.colTo 0
 have HGU := Lib.hid (rf_guarded h1 hm1)
 have HRW := Lib.hid (fun W (hb : Below (w.setCell ⟨rp, 4, none⟩ (.int .i64 0)).heap.size (w.setCell ⟨rp, 4, none⟩ (.int .i64 0)) W) d => rf_rows (h1.below hb) hm1 r.row hm.2.2.2.2.1 d)
 have HL : Hid (∀ W r', RfTo (w.setCell ⟨rp, 4, none⟩ (.int .i64 0)) W rp lb sb r' → RfTo w W rp lb sb r') := fun W r' h' => RfTo.link (.inl rfl) (.inl rfl) ((keeps_box w rp 4 (.int .i64 0)).mono fun x e => .inl e) h'
 have HBR : Hid (Below (w.setCell ⟨rp, 4, none⟩ (.int .i64 0)).heap.size (w.setCell ⟨rp, 4, none⟩ (.int .i64 0)) (w.setCell ⟨rp, 4, none⟩ (.int .i64 0))) := Below.refl _ _
 have HY : Hid (∀ W, Below (w.setCell ⟨rp, 4, none⟩ (.int .i64 0)).heap.size (w.setCell ⟨rp, 4, none⟩ (.int .i64 0)) W → W.cell? ⟨rp, 3, none⟩ = some (.int .i64 r.row)) := fun W hb => (h1.below hb).cells.1.2.2.2.1
 have y3 := HY.out _ HBR.out
 have y8 : (w.setCell ⟨rp, 4, none⟩ (.int .i64 0)).cell? ⟨rp, 8, none⟩ = some (.bool r.pr) := h1.cells.1.2.2.2.2.2.2.2.2.1
 obtain ⟨⟨x0, x1, x2, x3, x4, x5, x6, x7, x8, x9, x10, x11, x12⟩, f2, f3, f4, _⟩ := h.cells
 clear x0 x1 x2 x3 x5 x6 x7 x8 x9 x10 x11 x12
 have HGE : Hid (guardedR { r with col := 0 } ({ r with col := 0 } : Rf).row = guardedR r r.row) := rfl
 have HLR : Hid (r.pr = false ∨ guardedR r r.row = false → linesR r b = rowsR { r with col := 0 } r.row (decide (b = 69))) := fun e => (if_pos hb).trans (if_pos e)
 have HLQ : Hid (¬ (r.pr = false ∨ guardedR r r.row = false) → linesR r b = { r with col := 0 }) := fun e => (if_pos hb).trans (if_neg e)
 unfold LinesOk
 clear h h1 hm hm1
 by_cases hp : r.pr = false
 · rw [hp] at y8
   have HE := Lib.hid (HLR.out (.inl hp))
   clear HLR HLQ hp
   rw [HE.out]
   rcases hb with rfl | rfl
   all_goals (
    go_enter Tryz.func70, Tryz.ntmps70
    go_wp2_with (go_at_call 72; refine (HRW.out _ HBR.out _).mono ?_; rintro e w3 ⟨rfl, ht⟩; have HT := Lib.hid (HL.out _ _ ht); clear ht)
    go_end0
    exact ⟨rfl, HT.out⟩)
 have hp' : r.pr = true := by cases e : r.pr with | true => rfl | false => exact absurd e hp
 rw [hp'] at y8
 by_cases hg : guardedR r r.row = false
 · have HE := Lib.hid (HLR.out (.inr hg))
   have HG2 : Hid (Calls Tryz.prog 97 #[.pointer (some ⟨rp, 0, none⟩), .int .i64 (r.row : Int)] (w.setCell ⟨rp, 4, none⟩ (.int .i64 0)) fun e w' => e = .returned (.bool false) ∧ Below (w.setCell ⟨rp, 4, none⟩ (.int .i64 0)).heap.size (w.setCell ⟨rp, 4, none⟩ (.int .i64 0)) w') := by
    have := HGU.out
    rw [HGE.out, hg] at this
    exact this
   clear HLR HLQ hp hp' hg HGE HGU
   rw [HE.out]
   rcases hb with rfl | rfl
   all_goals (
    go_enter Tryz.func70, Tryz.ntmps70
    go_wp2_with (first
     | (go_at_call 97; refine HG2.out.mono ?_; rintro e w2 ⟨rfl, hb2⟩; have HB2 := Lib.hid hb2; have z3 := HY.out _ HB2.out; clear hb2)
     | (go_at_call 72; refine (HRW.out _ HB2.out _).mono ?_; rintro e w3 ⟨rfl, ht⟩; have HT := Lib.hid (HL.out _ _ (RfTo.after HB2.out ht)); clear ht))
    go_end0
    exact ⟨rfl, HT.out⟩)
 · have hg' : guardedR r r.row = true := by cases e : guardedR r r.row with | true => rfl | false => exact absurd e hg
   have HE := Lib.hid (HLQ.out (fun e => e.elim hp hg))
   have HG2 : Hid (Calls Tryz.prog 97 #[.pointer (some ⟨rp, 0, none⟩), .int .i64 (r.row : Int)] (w.setCell ⟨rp, 4, none⟩ (.int .i64 0)) fun e w' => e = .returned (.bool true) ∧ Below (w.setCell ⟨rp, 4, none⟩ (.int .i64 0)).heap.size (w.setCell ⟨rp, 4, none⟩ (.int .i64 0)) w') := by
    have := HGU.out
    rw [HGE.out, hg'] at this
    exact this
   clear HLR HLQ hp hp' hg hg' HGE HGU
   rw [HE.out]
   rcases hb with rfl | rfl
   all_goals (
    go_enter Tryz.func70, Tryz.ntmps70
    go_wp2_with (go_at_call 97; refine HG2.out.mono ?_; rintro e w2 ⟨rfl, hb2⟩; have HB2 := Lib.hid hb2; clear hb2)
    go_end0
    exact ⟨rfl, HT0.out.later HB2.out⟩)
theorem lines_cells (h : RfAt w rp lb cap sb r) (hm : r.may) (b : Nat) (hb : b = 81 ∨ b = 87) : LinesOk w rp lb sb r b := by
 have HC := Lib.hid (fun d => rf_cells h hm d)
 clear h hm
 rcases hb with rfl | rfl
 all_goals (
  unfold LinesOk
  go_enter Tryz.func70, Tryz.ntmps70
  go_wp2_with (go_at_call 98; refine (HC.out _).mono ?_; rintro e w3 ⟨rfl, ht⟩; have HT := Lib.hid ht; clear ht)
  go_end0
  exact ⟨rfl, HT.out⟩)
theorem rf_lines (h : RfAt w rp lb cap sb r) (hm : r.may) (b : Nat) : LinesOk w rp lb sb r b := by
 by_cases b1 : b = 69 ∨ b = 82
 · exact lines_rows h hm b b1
 by_cases b2 : b = 81 ∨ b = 87
 · exact lines_cells h hm b b2
 have HW : Hid (linesR r b = r) := by show _ = _; unfold linesR; rw [if_neg b1, if_neg b2]
 have HT := Lib.hid (RfTo.refl h)
 have c1 : ((b : Int) == 69) = false := beq_eq_false_iff_ne.2 (by omega)
 have c2 : ((b : Int) == 82) = false := beq_eq_false_iff_ne.2 (by omega)
 have c3 : ((b : Int) == 81) = false := beq_eq_false_iff_ne.2 (by omega)
 have c4 : ((b : Int) == 87) = false := beq_eq_false_iff_ne.2 (by omega)
 unfold LinesOk
 rw [HW.out]
 clear h hm b1 b2
 go_enter Tryz.func70, Tryz.ntmps70
 go_wp2_with fail
 go_end0
 exact ⟨rfl, HT.out⟩
end
end
section
set_option maxRecDepth 100000
attribute [local go_sem] alloc_drewN setCell_drewN World.cell?_alloc_some frozen_alloc_some size_f0 size_f1
theorem linesR_like (r : Rf) (hm : r.may) (b : Nat) : (linesR r b).may ∧ (linesR r b).q = r.q := by
 have h0 : ({ r with col := 0 } : Rf).may := by obtain ⟨a1, a2, a3, a4, a5, a6⟩ := hm; exact ⟨a1, a2, a3, a4, a5, by show 0 < r.C; omega⟩
 unfold linesR
 split
 · split
   · exact ⟨h0, rfl⟩
   · exact ⟨h0, rfl⟩
 · split
   · unfold cellsR
     split
     · exact ⟨hm, rfl⟩
     · exact ⟨hm, rfl⟩
   · exact ⟨hm, rfl⟩
theorem homeR_like (r : Rf) (hm : r.may) : (homeR r).may ∧ (homeR r).q = r.q := by
 obtain ⟨a1, a2, a3, a4, a5, a6⟩ := hm
 refine ⟨⟨a1, a2, a3, a4, ?_, ?_⟩, rfl⟩
 · show 0 / r.C < r.R
   rw [Nat.zero_div]; omega
 · show 0 % r.C < r.C
   rw [Nat.zero_mod]; omega
theorem wipesR_like (r : Rf) (hm : r.may) (b : Nat) : (wipesR r b).may ∧ (wipesR r b).q = r.q := by
 unfold wipesR
 split
 · exact homeR_like { r with pr := false, gd := false } hm
 split
 · exact homeR_like r hm
 split
 · exact ⟨hm, rfl⟩
 split
 · exact ⟨hm, rfl⟩
 · exact ⟨hm, rfl⟩
section
variable {w : World} {rp lb cap sb : Nat} {r : Rf}
def EscapeOk (w : World) (rp lb sb : Nat) (r : Rf) (b : Nat) : Prop := Calls Tryz.prog 46 #[.pointer (some ⟨rp, 0, none⟩), .int .u8 (b : Int)] w fun e w' => e = .returned (.bool (escapeR r b).2) ∧ RfTo w w' rp lb sb (escapeR r b).1
theorem esc_ahead (h : RfAt w rp lb cap sb r) (hm : r.may) (b : Nat) : ∃ r1 r2, wipesR (linesR r b) b = r2 ∧ r2.may ∧ r2.q = r.q ∧
 Hid (Calls Tryz.prog 70 #[.pointer (some ⟨rp, 0, none⟩), .int .u8 (b : Int)] w fun e w' => e = .returned (.tuple #[]) ∧ ∃ l c s, RfAt w' rp l c s r1 ∧ ∀ W r', RfTo w' W rp l s r' → RfTo w W rp lb sb r') ∧
 Hid (∀ W l c s, RfAt W rp l c s r1 → Calls Tryz.prog 71 #[.pointer (some ⟨rp, 0, none⟩), .int .u8 (b : Int)] W fun e w' => e = .returned (.tuple #[]) ∧ ∃ l' c' s', RfAt w' rp l' c' s' r2 ∧ ∀ W' r', RfTo w' W' rp l' s' r' → RfTo W W' rp l s r') := by
 have hl := linesR_like r hm b
 have hw := wipesR_like _ hl.1 b
 refine ⟨linesR r b, _, rfl, hw.1, hw.2.trans hl.2, ?_, ?_⟩
 · refine (rf_lines h hm b).mono ?_
   rintro e w' ⟨rfl, ht⟩
   exact ⟨rfl, ht.then⟩
 · intro W l c s h1
   refine (rf_wipes h1 hl.1 b).mono ?_
   rintro e w' ⟨rfl, ht⟩
   exact ⟨rfl, ht.then⟩
theorem rf_told (n : Nat) (hn : n ≤ 90) (w : World) : Calls Tryz.prog 73 #[.int .i64 (n : Int)] w fun e w' => e = .returned (.int .u8 ((toldA (n : Int)).toNat : Int)) ∧ Below w.heap.size w w' := by
 have e1 : IntKind.i64.wrap ((n : Int) + 32) = (n : Int) + 32 := wrap_in (by omega) (by omega)
 obtain ⟨v, hv⟩ : ∃ v : Nat, v = n + 32 := ⟨_, rfl⟩
 have e2 : min ((n : Int) + 32) 126 = (v : Int) := by omega
 have e3 : IntKind.u8.wrap (v : Int) = (v : Int) := by simp [IntKind.wrap, IntKind.bits, IntKind.signed]; omega
 have e4 : (toldA (n : Int)).toNat = v := by
  unfold toldA
  rw [e2]
  show (UInt8.ofNat v).toNat = v
  rw [UInt8.toNat_ofNat']
  omega
 rw [e4]
 clear e4 hv
 go_enter Tryz.func73, Tryz.ntmps73
 go_wp2_with fail
 go_ret
 exact ⟨rfl, Below.refl _ _⟩
theorem RfAt.stopTo (h : RfAt w rp lb cap sb r) (c : Nat) (v : Bool) : RfTo w (w.drew.setCell ⟨sb, c, none⟩ (.bool v)) rp lb sb { r with T := fun i => if i = c then v else r.T i } := by
 have hd := h.below (Below.refl _ _).drew
 refine RfTo.after (Below.refl _ _).drew ⟨⟨lb, cap, sb, ⟨?_, ?_, ?_, h.n1, h.n2, h.n3⟩, .inl rfl, .inl rfl⟩, (Keeps.setCell (fun k => k = sb) w.drew (p := ⟨sb, c, none⟩) rfl (.bool v)).mono fun x e => .inr (.inr e)⟩
 · exact (heap_setCell_other _ _ _ _ h.n2).trans hd.box
 · exact hd.row.of_block (heap_setCell_other _ _ _ _ h.n3)
 · refine (hd.stops.set c (.bool v)).congr fun j hj => ?_
   show (if j = c then Value.bool v else .bool (r.T j)) = .bool (if j = c then v else r.T j)
   split <;> rfl
theorem RfAt.stopsTo (h : RfAt w rp lb cap sb r) (hm : r.may) : RfTo w ((w.alloc (.cells (madeCells #[.bool false] r.C) 4)).setCell ⟨rp, 5, none⟩ (.slice (some ⟨w.heap.size, 0, none⟩) r.C r.C)) rp lb sb { r with T := fun _ => false } := by
 have ha := h.below (below1 w (.cells (madeCells #[.bool false] r.C) 4))
 have hl := h.lt
 refine ⟨⟨lb, cap, w.heap.size, ⟨?_, ?_, ?_, h.n1, by omega, by omega⟩, .inl rfl, .inr (Nat.le_refl _)⟩, (Keeps.of_below (below1 w _) : Keeps (fun k => k = rp ∨ k = lb ∨ k = sb) _ _).trans (Keeps.setCell (fun k => k = rp) _ (p := ⟨rp, 5, none⟩) rfl _) fun x e => .inl (.inl e)⟩
 · exact heap_set_same ha.box 5 _
 · exact ha.row.of_block (heap_setCell_other _ _ _ _ (fun e => h.n1 e.symm))
 · refine ⟨_, (heap_setCell_other _ _ _ _ (show w.heap.size ≠ rp by omega)).trans (heap_alloc_new w _), size_madeCells _ _, Nat.le_refl _, fun i hi => ?_⟩
   rw [← Array.getElem?_toList, toList_madeCells_one]
   show (List.replicate r.C (Value.bool false))[i]? = some (.bool false)
   have hi' : i < r.C := hi
   rw [List.getElem?_replicate, if_pos hi']
theorem esc_41 (h : RfAt w rp lb cap sb r) (hm : r.may) (hq : r.q.length ≤ 20) : EscapeOk w rp lb sb r 41 := by
 obtain ⟨r1, r2, hr2, hm2, hq2, HLN, HWP⟩ := esc_ahead h hm 41
 have HE : Hid (escapeR r 41 = ({ r2 with gd := true }, false)) := by show _ = _; unfold escapeR; rw [hr2]; rfl
 have HM2 := Lib.hid hm2
 have HQ2 : Hid (r2.q.length ≤ 100) := by show _ ≤ _; rw [hq2]; omega
 unfold EscapeOk
 rw [HE.out]
 clear h hm hq hr2 hm2 hq2 HE
 go_enter Tryz.func46, Tryz.ntmps46
 go_wp2_with (first
  | (go_at_call 70; refine HLN.out.mono ?_; rintro e w1 ⟨rfl, l1, c1, s1, h1, k1⟩; have H1 := Lib.hid h1; have K1 := Lib.hid k1; clear h1 k1)
  | (go_at_call 71; refine (HWP.out _ _ _ _ H1.out).mono ?_; rintro e w2 ⟨rfl, l2, c2, s2, h2, k2⟩; have H2 := Lib.hid h2; have K2 := Lib.hid (fun W r' h' => K1.out W r' (k2 W r' h')); obtain ⟨⟨y0, y1, y2, y3, y4, y5, y6, y7, y8, y9, y10, y11, y12⟩, f2, f3, f4, f5, f6, f7, f8, f9, f10, f12⟩ := h2.cells; clear h2 k2 H1 K1))
 have HT : Hid (RfTo w2 (w2.setCell ⟨rp, 7, none⟩ (.bool true)) rp l2 s2 { r2 with gd := true }) := (H2.out.set_ (r' := { r2 with gd := true }) 7 (.bool true) rfl rfl rfl rfl rfl).to_ (keeps_box w2 rp 7 _)
 go_ret
 exact ⟨rfl, K2.out _ _ HT.out⟩
theorem esc_40 (h : RfAt w rp lb cap sb r) (hm : r.may) (hq : r.q.length ≤ 20) : EscapeOk w rp lb sb r 40 := by
 obtain ⟨r1, r2, hr2, hm2, hq2, HLN, HWP⟩ := esc_ahead h hm 40
 have HE : Hid (escapeR r 40 = ({ r2 with gd := false }, false)) := by show _ = _; unfold escapeR; rw [hr2]; rfl
 have HM2 := Lib.hid hm2
 have HQ2 : Hid (r2.q.length ≤ 100) := by show _ ≤ _; rw [hq2]; omega
 unfold EscapeOk
 rw [HE.out]
 clear h hm hq hr2 hm2 hq2 HE
 go_enter Tryz.func46, Tryz.ntmps46
 go_wp2_with (first
  | (go_at_call 70; refine HLN.out.mono ?_; rintro e w1 ⟨rfl, l1, c1, s1, h1, k1⟩; have H1 := Lib.hid h1; have K1 := Lib.hid k1; clear h1 k1)
  | (go_at_call 71; refine (HWP.out _ _ _ _ H1.out).mono ?_; rintro e w2 ⟨rfl, l2, c2, s2, h2, k2⟩; have H2 := Lib.hid h2; have K2 := Lib.hid (fun W r' h' => K1.out W r' (k2 W r' h')); obtain ⟨⟨y0, y1, y2, y3, y4, y5, y6, y7, y8, y9, y10, y11, y12⟩, f2, f3, f4, f5, f6, f7, f8, f9, f10, f12⟩ := h2.cells; clear h2 k2 H1 K1))
 have HT : Hid (RfTo w2 (w2.setCell ⟨rp, 7, none⟩ (.bool false)) rp l2 s2 { r2 with gd := false }) := (H2.out.set_ (r' := { r2 with gd := false }) 7 (.bool false) rfl rfl rfl rfl rfl).to_ (keeps_box w2 rp 7 _)
 go_ret
 exact ⟨rfl, K2.out _ _ HT.out⟩
theorem esc_38 (h : RfAt w rp lb cap sb r) (hm : r.may) (hq : r.q.length ≤ 20) : EscapeOk w rp lb sb r 38 := by
 obtain ⟨r1, r2, hr2, hm2, hq2, HLN, HWP⟩ := esc_ahead h hm 38
 have HE : Hid (escapeR r 38 = ({ r2 with pr := true }, false)) := by show _ = _; unfold escapeR; rw [hr2]; rfl
 have HM2 := Lib.hid hm2
 have HQ2 : Hid (r2.q.length ≤ 100) := by show _ ≤ _; rw [hq2]; omega
 unfold EscapeOk
 rw [HE.out]
 clear h hm hq hr2 hm2 hq2 HE
 go_enter Tryz.func46, Tryz.ntmps46
 go_wp2_with (first
  | (go_at_call 70; refine HLN.out.mono ?_; rintro e w1 ⟨rfl, l1, c1, s1, h1, k1⟩; have H1 := Lib.hid h1; have K1 := Lib.hid k1; clear h1 k1)
  | (go_at_call 71; refine (HWP.out _ _ _ _ H1.out).mono ?_; rintro e w2 ⟨rfl, l2, c2, s2, h2, k2⟩; have H2 := Lib.hid h2; have K2 := Lib.hid (fun W r' h' => K1.out W r' (k2 W r' h')); obtain ⟨⟨y0, y1, y2, y3, y4, y5, y6, y7, y8, y9, y10, y11, y12⟩, f2, f3, f4, f5, f6, f7, f8, f9, f10, f12⟩ := h2.cells; clear h2 k2 H1 K1))
 have HT : Hid (RfTo w2 (w2.setCell ⟨rp, 8, none⟩ (.bool true)) rp l2 s2 { r2 with pr := true }) := (H2.out.set_ (r' := { r2 with pr := true }) 8 (.bool true) rfl rfl rfl rfl rfl).to_ (keeps_box w2 rp 8 _)
 go_ret
 exact ⟨rfl, K2.out _ _ HT.out⟩
theorem esc_39 (h : RfAt w rp lb cap sb r) (hm : r.may) (hq : r.q.length ≤ 20) : EscapeOk w rp lb sb r 39 := by
 obtain ⟨r1, r2, hr2, hm2, hq2, HLN, HWP⟩ := esc_ahead h hm 39
 have HE : Hid (escapeR r 39 = ({ r2 with pr := false }, false)) := by show _ = _; unfold escapeR; rw [hr2]; rfl
 have HM2 := Lib.hid hm2
 have HQ2 : Hid (r2.q.length ≤ 100) := by show _ ≤ _; rw [hq2]; omega
 unfold EscapeOk
 rw [HE.out]
 clear h hm hq hr2 hm2 hq2 HE
 go_enter Tryz.func46, Tryz.ntmps46
 go_wp2_with (first
  | (go_at_call 70; refine HLN.out.mono ?_; rintro e w1 ⟨rfl, l1, c1, s1, h1, k1⟩; have H1 := Lib.hid h1; have K1 := Lib.hid k1; clear h1 k1)
  | (go_at_call 71; refine (HWP.out _ _ _ _ H1.out).mono ?_; rintro e w2 ⟨rfl, l2, c2, s2, h2, k2⟩; have H2 := Lib.hid h2; have K2 := Lib.hid (fun W r' h' => K1.out W r' (k2 W r' h')); obtain ⟨⟨y0, y1, y2, y3, y4, y5, y6, y7, y8, y9, y10, y11, y12⟩, f2, f3, f4, f5, f6, f7, f8, f9, f10, f12⟩ := h2.cells; clear h2 k2 H1 K1))
 have HT : Hid (RfTo w2 (w2.setCell ⟨rp, 8, none⟩ (.bool false)) rp l2 s2 { r2 with pr := false }) := (H2.out.set_ (r' := { r2 with pr := false }) 8 (.bool false) rfl rfl rfl rfl rfl).to_ (keeps_box w2 rp 8 _)
 go_ret
 exact ⟨rfl, K2.out _ _ HT.out⟩
theorem esc_49 (h : RfAt w rp lb cap sb r) (hm : r.may) (hq : r.q.length ≤ 20) : EscapeOk w rp lb sb r 49 := by
 obtain ⟨r1, r2, hr2, hm2, hq2, HLN, HWP⟩ := esc_ahead h hm 49
 have HE : Hid (escapeR r 49 = ({ r2 with T := fun c => if c = r2.col then true else r2.T c }, false)) := by show _ = _; unfold escapeR; rw [hr2]; rfl
 have HM2 := Lib.hid hm2
 have HQ2 : Hid (r2.q.length ≤ 100) := by show _ ≤ _; rw [hq2]; omega
 unfold EscapeOk
 rw [HE.out]
 clear h hm hq hr2 hm2 hq2 HE
 go_enter Tryz.func46, Tryz.ntmps46
 go_upto_region 13 with (first
  | (go_at_call 70; refine HLN.out.mono ?_; rintro e w1 ⟨rfl, l1, c1, s1, h1, k1⟩; have H1 := Lib.hid h1; have K1 := Lib.hid k1; clear h1 k1)
  | (go_at_call 71; refine (HWP.out _ _ _ _ H1.out).mono ?_; rintro e w2 ⟨rfl, l2, c2, s2, h2, k2⟩; have H2 := Lib.hid h2; have K2 := Lib.hid (fun W r' h' => K1.out W r' (k2 W r' h')); obtain ⟨⟨y0, y1, y2, y3, y4, y5, y6, y7, y8, y9, y10, y11, y12⟩, f2, f3, f4, f5, f6, f7, f8, f9, f10, f12⟩ := h2.cells; clear h2 k2 H1 K1))
 have HT : Hid (RfTo w2 (w2.drew.setCell ⟨s2, r2.col, none⟩ (.bool true)) rp l2 s2 { r2 with T := fun c => if c = r2.col then true else r2.T c }) := H2.out.stopTo r2.col true
 have hcC : (r2.col : Int) < (r2.C : Int) := by have := HM2.out.2.2.2.2.2; omega
 have HB0 : Hid (Below w2.heap.size w2 w2.drew) := (Below.refl _ _).drew
 have HW : Hid (∀ W, Below w2.heap.size w2 W → W.cell? ⟨rp, 5, none⟩ = some (.slice (some ⟨s2, 0, none⟩) r2.C r2.C) ∧ W.cell? ⟨rp, 4, none⟩ = some (.int .i64 r2.col)) := fun W hW => ⟨(H2.out.below hW).cells.1.2.2.2.2.2.1, (H2.out.below hW).cells.1.2.2.2.2.1⟩
 have a0 := H2.out.stop (c := r2.col) HM2.out.2.2.2.2.2
 have g0 := H2.out.stops.frozen r2.col
 clear y0 y1 y2 y3 y4 y5 y6 y7 y8 y9 y10 y11 y12
 refine wp_region_noPanic ?_
 refine wp_region_k (S := fun W : World => Below w2.heap.size w2 W) 9 (by kernel_rfl) (HB0.out) (fun hHeld => ?_)
 refine kSK 0 hHeld ?_
 refine kSK 1 hHeld ?_
 refine kSK 2 hHeld ?_
 refine kTK (v := ?_) 3 [] hHeld ?y4 ?_
 case y4 => (intro W hSw; obtain ⟨y5, y4⟩ := HW.out _ hSw; go_simp; try with_reducible rfl)
 refine kSK 4 hHeld ?_
 try refine kNK ?_
 refine kSK 5 hHeld ?_
 refine kSK 6 hHeld ?_
 refine kTK (v := ?_) 7 [] hHeld ?y8 ?_
 case y8 => (intro W hSw; obtain ⟨y5, y4⟩ := HW.out _ hSw; go_simp; try with_reducible rfl)
 refine kSK 8 hHeld ?_
 try refine kNK ?_
 refine kPK 9 fun KQ hKQ => ?_
 go_simp
 skip
 refine hKQ.out _ _ ?_
 clear hKQ KQ
 try refine kNK ?_
 refine wpAnyK_done (by kernel_rfl) ?_ _
 refine NoPanic.normal ?_
 go_wp2_with fail
 go_ret
 exact ⟨rfl, K2.out _ _ HT.out⟩
theorem esc_50 (h : RfAt w rp lb cap sb r) (hm : r.may) (hq : r.q.length ≤ 20) : EscapeOk w rp lb sb r 50 := by
 obtain ⟨r1, r2, hr2, hm2, hq2, HLN, HWP⟩ := esc_ahead h hm 50
 have HE : Hid (escapeR r 50 = ({ r2 with T := fun c => if c = r2.col then false else r2.T c }, false)) := by show _ = _; unfold escapeR; rw [hr2]; rfl
 have HM2 := Lib.hid hm2
 have HQ2 : Hid (r2.q.length ≤ 100) := by show _ ≤ _; rw [hq2]; omega
 unfold EscapeOk
 rw [HE.out]
 clear h hm hq hr2 hm2 hq2 HE
 go_enter Tryz.func46, Tryz.ntmps46
 go_upto_region 15 with (first
  | (go_at_call 70; refine HLN.out.mono ?_; rintro e w1 ⟨rfl, l1, c1, s1, h1, k1⟩; have H1 := Lib.hid h1; have K1 := Lib.hid k1; clear h1 k1)
  | (go_at_call 71; refine (HWP.out _ _ _ _ H1.out).mono ?_; rintro e w2 ⟨rfl, l2, c2, s2, h2, k2⟩; have H2 := Lib.hid h2; have K2 := Lib.hid (fun W r' h' => K1.out W r' (k2 W r' h')); obtain ⟨⟨y0, y1, y2, y3, y4, y5, y6, y7, y8, y9, y10, y11, y12⟩, f2, f3, f4, f5, f6, f7, f8, f9, f10, f12⟩ := h2.cells; clear h2 k2 H1 K1))
 have HT : Hid (RfTo w2 (w2.drew.setCell ⟨s2, r2.col, none⟩ (.bool false)) rp l2 s2 { r2 with T := fun c => if c = r2.col then false else r2.T c }) := H2.out.stopTo r2.col false
 have hcC : (r2.col : Int) < (r2.C : Int) := by have := HM2.out.2.2.2.2.2; omega
 have HB0 : Hid (Below w2.heap.size w2 w2.drew) := (Below.refl _ _).drew
 have HW : Hid (∀ W, Below w2.heap.size w2 W → W.cell? ⟨rp, 5, none⟩ = some (.slice (some ⟨s2, 0, none⟩) r2.C r2.C) ∧ W.cell? ⟨rp, 4, none⟩ = some (.int .i64 r2.col)) := fun W hW => ⟨(H2.out.below hW).cells.1.2.2.2.2.2.1, (H2.out.below hW).cells.1.2.2.2.2.1⟩
 have a0 := H2.out.stop (c := r2.col) HM2.out.2.2.2.2.2
 have g0 := H2.out.stops.frozen r2.col
 clear y0 y1 y2 y3 y4 y5 y6 y7 y8 y9 y10 y11 y12
 refine wp_region_noPanic ?_
 refine wp_region_k (S := fun W : World => Below w2.heap.size w2 W) 9 (by kernel_rfl) (HB0.out) (fun hHeld => ?_)
 refine kSK 0 hHeld ?_
 refine kSK 1 hHeld ?_
 refine kSK 2 hHeld ?_
 refine kTK (v := ?_) 3 [] hHeld ?y4 ?_
 case y4 => (intro W hSw; obtain ⟨y5, y4⟩ := HW.out _ hSw; go_simp; try with_reducible rfl)
 refine kSK 4 hHeld ?_
 try refine kNK ?_
 refine kSK 5 hHeld ?_
 refine kSK 6 hHeld ?_
 refine kTK (v := ?_) 7 [] hHeld ?y8 ?_
 case y8 => (intro W hSw; obtain ⟨y5, y4⟩ := HW.out _ hSw; go_simp; try with_reducible rfl)
 refine kSK 8 hHeld ?_
 try refine kNK ?_
 refine kPK 9 fun KQ hKQ => ?_
 go_simp
 skip
 refine hKQ.out _ _ ?_
 clear hKQ KQ
 try refine kNK ?_
 refine wpAnyK_done (by kernel_rfl) ?_ _
 refine NoPanic.normal ?_
 go_wp2_with fail
 go_ret
 exact ⟨rfl, K2.out _ _ HT.out⟩
theorem esc_51 (h : RfAt w rp lb cap sb r) (hm : r.may) (hq : r.q.length ≤ 20) : EscapeOk w rp lb sb r 51 := by
 obtain ⟨r1, r2, hr2, hm2, hq2, HLN, HWP⟩ := esc_ahead h hm 51
 have HE : Hid (escapeR r 51 = ({ r2 with T := fun _ => false }, false)) := by show _ = _; unfold escapeR; rw [hr2]; rfl
 have HM2 := Lib.hid hm2
 have HQ2 : Hid (r2.q.length ≤ 100) := by show _ ≤ _; rw [hq2]; omega
 have hmk := make_bools r2.C (by have := hm2.2.2.2.1; omega)
 unfold EscapeOk
 rw [HE.out]
 clear h hm hq hr2 hm2 hq2 HE
 go_enter Tryz.func46, Tryz.ntmps46
 go_wp2_with (first
  | (go_at_call 70; refine HLN.out.mono ?_; rintro e w1 ⟨rfl, l1, c1, s1, h1, k1⟩; have H1 := Lib.hid h1; have K1 := Lib.hid k1; clear h1 k1)
  | (go_at_call 71; refine (HWP.out _ _ _ _ H1.out).mono ?_; rintro e w2 ⟨rfl, l2, c2, s2, h2, k2⟩; have H2 := Lib.hid h2; have K2 := Lib.hid (fun W r' h' => K1.out W r' (k2 W r' h')); obtain ⟨⟨y0, y1, y2, y3, y4, y5, y6, y7, y8, y9, y10, y11, y12⟩, f2, f3, f4, f5, f6, f7, f8, f9, f10, f12⟩ := h2.cells; clear h2 k2 H1 K1))
 have HT := Lib.hid (H2.out.stopsTo HM2.out)
 go_ret
 exact ⟨rfl, K2.out _ _ HT.out⟩
theorem esc_73 (h : RfAt w rp lb cap sb r) (hm : r.may) (hq : r.q.length ≤ 20) : EscapeOk w rp lb sb r 73 := by
 obtain ⟨r1, r2, hr2, hm2, hq2, HLN, HWP⟩ := esc_ahead h hm 73
 have HE : Hid (escapeR r 73 = (tabR r2 true, true)) := by show _ = _; unfold escapeR; rw [hr2]; rfl
 have HM2 := Lib.hid hm2
 have HQ2 : Hid (r2.q.length ≤ 100) := by show _ ≤ _; rw [hq2]; omega
 unfold EscapeOk
 rw [HE.out]
 clear h hm hq hr2 hm2 hq2 HE
 go_enter Tryz.func46, Tryz.ntmps46
 go_wp2_with (first
  | (go_at_call 70; refine HLN.out.mono ?_; rintro e w1 ⟨rfl, l1, c1, s1, h1, k1⟩; have H1 := Lib.hid h1; have K1 := Lib.hid k1; clear h1 k1)
  | (go_at_call 71; refine (HWP.out _ _ _ _ H1.out).mono ?_; rintro e w2 ⟨rfl, l2, c2, s2, h2, k2⟩; have H2 := Lib.hid h2; have K2 := Lib.hid (fun W r' h' => K1.out W r' (k2 W r' h')); obtain ⟨⟨y0, y1, y2, y3, y4, y5, y6, y7, y8, y9, y10, y11, y12⟩, f2, f3, f4, f5, f6, f7, f8, f9, f10, f12⟩ := h2.cells; clear h2 k2 H1 K1)
  | (go_at_call 66; refine (rf_tab H2.out HM2.out true).mono ?_; rintro e w3 ⟨rfl, ht⟩; have HT := Lib.hid ht; clear ht))
 go_ret
 exact ⟨rfl, K2.out _ _ HT.out⟩
theorem esc_105 (h : RfAt w rp lb cap sb r) (hm : r.may) (hq : r.q.length ≤ 20) : EscapeOk w rp lb sb r 105 := by
 obtain ⟨r1, r2, hr2, hm2, hq2, HLN, HWP⟩ := esc_ahead h hm 105
 have HE : Hid (escapeR r 105 = (tabR r2 false, false)) := by show _ = _; unfold escapeR; rw [hr2]; rfl
 have HM2 := Lib.hid hm2
 have HQ2 : Hid (r2.q.length ≤ 100) := by show _ ≤ _; rw [hq2]; omega
 unfold EscapeOk
 rw [HE.out]
 clear h hm hq hr2 hm2 hq2 HE
 go_enter Tryz.func46, Tryz.ntmps46
 go_wp2_with (first
  | (go_at_call 70; refine HLN.out.mono ?_; rintro e w1 ⟨rfl, l1, c1, s1, h1, k1⟩; have H1 := Lib.hid h1; have K1 := Lib.hid k1; clear h1 k1)
  | (go_at_call 71; refine (HWP.out _ _ _ _ H1.out).mono ?_; rintro e w2 ⟨rfl, l2, c2, s2, h2, k2⟩; have H2 := Lib.hid h2; have K2 := Lib.hid (fun W r' h' => K1.out W r' (k2 W r' h')); obtain ⟨⟨y0, y1, y2, y3, y4, y5, y6, y7, y8, y9, y10, y11, y12⟩, f2, f3, f4, f5, f6, f7, f8, f9, f10, f12⟩ := h2.cells; clear h2 k2 H1 K1)
  | (go_at_call 66; refine (rf_tab H2.out HM2.out false).mono ?_; rintro e w3 ⟨rfl, ht⟩; have HT := Lib.hid ht; clear ht))
 go_ret
 exact ⟨rfl, K2.out _ _ HT.out⟩
theorem esc_106 (h : RfAt w rp lb cap sb r) (hm : r.may) (hq : r.q.length ≤ 20) : EscapeOk w rp lb sb r 106 := by
 obtain ⟨r1, r2, hr2, hm2, hq2, HLN, HWP⟩ := esc_ahead h hm 106
 have HE : Hid (escapeR r 106 = (if 0 < r2.row then { r2 with row := r2.row - 1 } else if r2.pr = true then r2 else rowsR r2 0 true, true)) := by show _ = _; unfold escapeR; rw [hr2]; rfl
 have HM2 := Lib.hid hm2
 have hR := hm2.2.2.2.2.1
 have hR6 := hm2.2.1
 unfold EscapeOk
 rw [HE.out]
 clear h hm hq hr2 hm2 hq2 HE
 by_cases hz : 0 < r2.row
 · have HR : Hid ((if 0 < r2.row then { r2 with row := r2.row - 1 } else if r2.pr = true then r2 else rowsR r2 0 true) = { r2 with row := r2.row - 1 }) := if_pos hz
   obtain ⟨m, hmr⟩ : ∃ m, r2.row - 1 = m := ⟨_, rfl⟩
   rw [HR.out, hmr]
   have e1 : IntKind.i64.wrap ((r2.row : Int) - 1) = (m : Int) := by rw [wrap_in (by omega) (by omega)]; omega
   have c1 : 0 < (r2.row : Int) := by omega
   clear hz HR hmr hR hR6
   go_enter Tryz.func46, Tryz.ntmps46
   go_wp2_with (first
    | (go_at_call 70; refine HLN.out.mono ?_; rintro e w1 ⟨rfl, l1, c1, s1, h1, k1⟩; have H1 := Lib.hid h1; have K1 := Lib.hid k1; clear h1 k1)
    | (go_at_call 71; refine (HWP.out _ _ _ _ H1.out).mono ?_; rintro e w2 ⟨rfl, l2, c2, s2, h2, k2⟩; have H2 := Lib.hid h2; have K2 := Lib.hid (fun W r' h' => K1.out W r' (k2 W r' h')); obtain ⟨⟨y0, y1, y2, y3, y4, y5, y6, y7, y8, y9, y10, y11, y12⟩, f2, f3, f4, f5, f6, f7, f8, f9, f10, f12⟩ := h2.cells; clear h2 k2 H1 K1))
   have HT := Lib.hid (H2.out.rowTo m)
   go_ret
   exact ⟨rfl, K2.out _ _ HT.out⟩
 have c1 : ¬ 0 < (r2.row : Int) := by omega
 by_cases hp : r2.pr = true
 · have HR : Hid ((if 0 < r2.row then { r2 with row := r2.row - 1 } else if r2.pr = true then r2 else rowsR r2 0 true) = r2) := (if_neg hz).trans (if_pos hp)
   have HP := Lib.hid hp
   rw [HR.out]
   clear hz HR hR hR6 hp
   go_enter Tryz.func46, Tryz.ntmps46
   go_wp2_with (first
    | (go_at_call 70; refine HLN.out.mono ?_; rintro e w1 ⟨rfl, l1, c1, s1, h1, k1⟩; have H1 := Lib.hid h1; have K1 := Lib.hid k1; clear h1 k1)
    | (go_at_call 71; refine (HWP.out _ _ _ _ H1.out).mono ?_; rintro e w2 ⟨rfl, l2, c2, s2, h2, k2⟩; have H2 := Lib.hid h2; have K2 := Lib.hid (fun W r' h' => K1.out W r' (k2 W r' h')); obtain ⟨⟨y0, y1, y2, y3, y4, y5, y6, y7, y8, y9, y10, y11, y12⟩, f2, f3, f4, f5, f6, f7, f8, f9, f10, f12⟩ := h2.cells; rw [HP.out] at y8; clear h2 k2 H1 K1))
   have HT := Lib.hid (RfTo.refl H2.out)
   go_ret
   exact ⟨rfl, K2.out _ _ HT.out⟩
 · have HR : Hid ((if 0 < r2.row then { r2 with row := r2.row - 1 } else if r2.pr = true then r2 else rowsR r2 0 true) = rowsR r2 0 true) := (if_neg hz).trans (if_neg hp)
   have HP : Hid (r2.pr = false) := by show _ = _; cases e : r2.pr with | false => rfl | true => exact absurd e hp
   rw [HR.out]
   have HRW : Hid (∀ W l c s, RfAt W rp l c s r2 → Calls Tryz.prog 72 #[.pointer (some ⟨rp, 0, none⟩), .int .i64 0, .bool true] W fun e w' => e = .returned (.tuple #[]) ∧ RfTo W w' rp l s (rowsR r2 0 true)) := fun W l c s h2 => rf_rows h2 HM2.out 0 (by omega) true
   clear hz HR hR hR6 hp
   go_enter Tryz.func46, Tryz.ntmps46
   go_wp2_with (first
    | (go_at_call 70; refine HLN.out.mono ?_; rintro e w1 ⟨rfl, l1, c1, s1, h1, k1⟩; have H1 := Lib.hid h1; have K1 := Lib.hid k1; clear h1 k1)
    | (go_at_call 71; refine (HWP.out _ _ _ _ H1.out).mono ?_; rintro e w2 ⟨rfl, l2, c2, s2, h2, k2⟩; have H2 := Lib.hid h2; have K2 := Lib.hid (fun W r' h' => K1.out W r' (k2 W r' h')); obtain ⟨⟨y0, y1, y2, y3, y4, y5, y6, y7, y8, y9, y10, y11, y12⟩, f2, f3, f4, f5, f6, f7, f8, f9, f10, f12⟩ := h2.cells; rw [HP.out] at y8; clear h2 k2 H1 K1)
    | (go_at_call 72; refine (HRW.out _ _ _ _ H2.out).mono ?_; rintro e w3 ⟨rfl, ht⟩; have HT := Lib.hid ht; clear ht))
   go_ret
   exact ⟨rfl, K2.out _ _ HT.out⟩
theorem esc_63 (h : RfAt w rp lb cap sb r) (hm : r.may) (hq : r.q.length ≤ 20) : EscapeOk w rp lb sb r 63 := by
 obtain ⟨r1, r2, hr2, hm2, hq2, HLN, HWP⟩ := esc_ahead h hm 63
 have HE : Hid (escapeR r 63 = (sayR r2 [toldA (r2.row : Int), toldA (r2.col : Int), 13], false)) := by show _ = _; unfold escapeR; rw [hr2]; rfl
 have HM2 := Lib.hid hm2
 have HQ2 : Hid (r2.q.length ≤ 100) := by show _ ≤ _; rw [hq2]; omega
 obtain ⟨x, hx⟩ : ∃ x, toldA (r2.row : Int) = x := ⟨_, rfl⟩
 obtain ⟨y, hy⟩ : ∃ y, toldA (r2.col : Int) = y := ⟨_, rfl⟩
 have HT5 := Lib.hid (fun W => rf_told r2.row (by have := hm2.2.2.2.2.1; have := hm2.2.1; omega) W)
 have HT10 := Lib.hid (fun W => rf_told r2.col (by have := hm2.2.2.2.2.2; have := hm2.2.2.2.1; omega) W)
 rw [hx] at HT5
 rw [hy] at HT10
 rw [hx, hy] at HE
 have hcv : ∀ W : World, (convert 34 9 (.slice (some ⟨W.heap.size, 0, none⟩) 3 3)).run Tryz.prog (W.alloc (.cells #[.int .u8 (x.toNat : Int), .int .u8 (y.toNat : Int), .int .u8 13] 5)) = .ok (.string ⟨[x, y, 13].toArray⟩) (W.alloc (.cells #[.int .u8 (x.toNat : Int), .int .u8 (y.toNat : Int), .int .u8 13] 5)) := fun W => conv_one [x, y, 13] (heap_alloc_new W (.cells #[.int .u8 (x.toNat : Int), .int .u8 (y.toNat : Int), .int .u8 13] 5))
 clear hx hy
 unfold EscapeOk
 rw [HE.out]
 clear h hm hq hr2 hm2 hq2 HE
 go_enter Tryz.func46, Tryz.ntmps46
 go_upto_region 30 with (first
  | (go_at_call 70; refine HLN.out.mono ?_; rintro e w1 ⟨rfl, l1, c1, s1, h1, k1⟩; have H1 := Lib.hid h1; have K1 := Lib.hid k1; clear h1 k1)
  | (go_at_call 71; refine (HWP.out _ _ _ _ H1.out).mono ?_; rintro e w2 ⟨rfl, l2, c2, s2, h2, k2⟩; have H2 := Lib.hid h2; have K2 := Lib.hid (fun W r' h' => K1.out W r' (k2 W r' h')); obtain ⟨⟨y0, y1, y2, y3, y4, y5, y6, y7, y8, y9, y10, y11, y12⟩, f2, f3, f4, f5, f6, f7, f8, f9, f10, f12⟩ := h2.cells; clear h2 k2 H1 K1))
 have HB0 : Hid (Below w2.heap.size w2 w2.drew) := (Below.refl _ _).drew
 have H := Lib.hid (fun W (hW : Below w2.heap.size w2 W) => (H2.out.below hW).cells)
 have HSY := Lib.hid (fun W (hW : Below w2.heap.size w2 W) => rf_say (H2.out.below hW) [x, y, 13] (by show 3 ≤ 100; decide) HQ2.out)
 clear y0 y1 y2 y3 y4 y5 y6 y7 y8 y9 y10 y11 y12 f2 f3 f4 f5 f6 f7 f8 f9 f10 f12
 refine wp_region_noPanic ?_
 refine wp_region_k (S := fun W : World => Below w2.heap.size w2 W) 13 (by kernel_rfl) (HB0.out) (fun hHeld => ?_)
 refine kSK 0 hHeld ?_
 refine kSK 1 hHeld ?_
 refine kSK 2 hHeld ?_
 refine kSK 3 hHeld ?_
 refine kTK (v := ?_) 4 [10, 5] hHeld ?y5 ?_
 case y5 => (intro W hSw; obtain ⟨⟨y0, y1, y2, y3, y4, y5, y6, y7, y8, y9, y10, y11, y12⟩, _⟩ := H.out _ hSw; go_simp; try with_reducible rfl)
 try refine kNK ?_
 refine kSK 6 hHeld ?_
 refine kSK 7 hHeld ?_
 refine kSK 8 hHeld ?_
 refine kTK (v := ?_) 9 [10] hHeld ?y9 ?_
 case y9 => (intro W hSw; obtain ⟨⟨y0, y1, y2, y3, y4, y5, y6, y7, y8, y9, y10, y11, y12⟩, _⟩ := H.out _ hSw; go_simp; try with_reducible rfl)
 try refine kNK ?_
 refine kOK 5 fun KQ hKQ => ?_
 go_simp
 go_at_call 73
 refine (HT5.out _).mono ?_
 rintro e w5 ⟨rfl, hb5⟩
 have hs5 := Below.later hHeld hb5 hHeld.size
 clear hb5
 go_wp2_with fail
 refine hKQ.out _ _ (hs5) ?_
 clear hHeld hKQ KQ
 intro hHeld
 try refine kNK ?_
 clear hs5
 refine kOK 10 fun KQ hKQ => ?_
 go_simp
 go_at_call 73
 refine (HT10.out _).mono ?_
 rintro e w10 ⟨rfl, hb10⟩
 have hs10 := Below.later hHeld hb10 hHeld.size
 clear hb10
 go_wp2_with fail
 refine hKQ.out _ _ (hs10) ?_
 clear hHeld hKQ KQ
 intro hHeld
 try refine kNK ?_
 clear hs10
 refine kOK 11 fun KQ hKQ => ?_
 go_simp
 skip
 refine hKQ.out _ _ (hHeld.alloc hHeld.size _) ?_
 clear hHeld hKQ KQ
 intro hHeld
 try refine kNK ?_
 refine kOK 12 fun KQ hKQ => ?_
 go_simp
 skip
 refine hKQ.out _ _ (hHeld) ?_
 clear hHeld hKQ KQ
 intro hHeld
 try refine kNK ?_
 all_goals (
  refine kPK 13 fun KQ hKQ => ?_
  go_simp
  go_at_call 65
  refine (HSY.out _ hHeld).mono ?_
  rintro e w3 ⟨rfl, ht⟩
  have HT := Lib.hid (RfTo.after hHeld ht)
  clear ht
  go_wp2_with fail
  refine hKQ.out _ _ ?_
  clear hKQ KQ
  try refine kNK ?_
  refine wpAnyK_done (by kernel_rfl) ?_ _
  refine NoPanic.normal ?_)
 all_goals (
  go_wp2_with fail
  go_ret
  exact ⟨rfl, K2.out _ _ HT.out⟩)
theorem rf_escape (h : RfAt w rp lb cap sb r) (hm : r.may) (hq : r.q.length ≤ 20) (b : Nat) : EscapeOk w rp lb sb r b := by
 by_cases b41 : b = 41
 · subst b41; exact esc_41 h hm hq
 by_cases b40 : b = 40
 · subst b40; exact esc_40 h hm hq
 by_cases b38 : b = 38
 · subst b38; exact esc_38 h hm hq
 by_cases b39 : b = 39
 · subst b39; exact esc_39 h hm hq
 by_cases b49 : b = 49
 · subst b49; exact esc_49 h hm hq
 by_cases b50 : b = 50
 · subst b50; exact esc_50 h hm hq
 by_cases b51 : b = 51
 · subst b51; exact esc_51 h hm hq
 by_cases b73 : b = 73
 · subst b73; exact esc_73 h hm hq
 by_cases b105 : b = 105
 · subst b105; exact esc_105 h hm hq
 by_cases b106 : b = 106
 · subst b106; exact esc_106 h hm hq
 by_cases b63 : b = 63
 · subst b63; exact esc_63 h hm hq
 have c41 : ((b : Int) == 41) = false := beq_eq_false_iff_ne.2 (by omega)
 have c40 : ((b : Int) == 40) = false := beq_eq_false_iff_ne.2 (by omega)
 have c38 : ((b : Int) == 38) = false := beq_eq_false_iff_ne.2 (by omega)
 have c39 : ((b : Int) == 39) = false := beq_eq_false_iff_ne.2 (by omega)
 have c49 : ((b : Int) == 49) = false := beq_eq_false_iff_ne.2 (by omega)
 have c50 : ((b : Int) == 50) = false := beq_eq_false_iff_ne.2 (by omega)
 have c51 : ((b : Int) == 51) = false := beq_eq_false_iff_ne.2 (by omega)
 have c73 : ((b : Int) == 73) = false := beq_eq_false_iff_ne.2 (by omega)
 have c105 : ((b : Int) == 105) = false := beq_eq_false_iff_ne.2 (by omega)
 have c106 : ((b : Int) == 106) = false := beq_eq_false_iff_ne.2 (by omega)
 have c63 : ((b : Int) == 63) = false := beq_eq_false_iff_ne.2 (by omega)
 obtain ⟨r1, r2, hr2, hm2, hq2, HLN, HWP⟩ := esc_ahead h hm b
 have HE : Hid (escapeR r b = (r2, false)) := by
  show _ = _
  unfold escapeR escR
  rw [hr2]
  rw [if_neg b41, if_neg b40, if_neg b38, if_neg b39, if_neg b49, if_neg b50, if_neg b51, if_neg b73, if_neg b105, if_neg b106, if_neg b63]
 unfold EscapeOk
 rw [HE.out]
 clear h hm hq hr2 hm2 hq2 HE b41 b40 b38 b39 b49 b50 b51 b73 b105 b106 b63
 go_enter Tryz.func46, Tryz.ntmps46
 go_wp2_with (first
  | (go_at_call 70; refine HLN.out.mono ?_; rintro e w1 ⟨rfl, l1, c1, s1, h1, k1⟩; have H1 := Lib.hid h1; have K1 := Lib.hid k1; clear h1 k1)
  | (go_at_call 71; refine (HWP.out _ _ _ _ H1.out).mono ?_; rintro e w2 ⟨rfl, l2, c2, s2, h2, k2⟩; have H2 := Lib.hid h2; have K2 := Lib.hid (fun W r' h' => K1.out W r' (k2 W r' h')); obtain ⟨⟨y0, y1, y2, y3, y4, y5, y6, y7, y8, y9, y10, y11, y12⟩, f2, f3, f4, f5, f6, f7, f8, f9, f10, f12⟩ := h2.cells; clear h2 k2 H1 K1))
 have HT := Lib.hid (RfTo.refl H2.out)
 go_ret
 exact ⟨rfl, K2.out _ _ HT.out⟩
end
end
end Go.Proofs.YtncgigapgklhcaaGreatDoor
