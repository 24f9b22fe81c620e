import Derived.Test.YtmgeghoalmonoaaGreatDoorAnO
import Derived.Test.YtmgeghoalmonoaaGreatDoorRN
import Derived.Test.YtmgeghoalmonoaaGreatDoorRF

/- Walks of law15: the chapter's example (awake). -/
namespace Go.Proofs.YtmgeghoalmonoaaGreatDoor
open Go.RowKit
set_option linter.unusedSimpArgs false
set_option linter.unusedVariables false
set_option maxRecDepth 100000
attribute [local go_sem] alloc_drewN setCell_drewN World.cell?_alloc_some frozen_alloc_some pos_f1

section
variable {w W : World} {b : Nat} {P : Pt} {G : Nat → Prop} {A : An}
theorem MadeA.cells (h : MadeA w W b P G A) : W.cell? ⟨b, 0, none⟩ = some (.pointer (some ⟨P.sp, 0, none⟩)) ∧ W.cell? ⟨b, 1, none⟩ = some (.pointer (some ⟨P.qp, 0, none⟩)) ∧ W.cell? ⟨b, 2, none⟩ = some (.pointer (some ⟨P.tp, 0, none⟩)) := (row3c h.box).1
theorem made_feed (h : MadeA w W b P G A) (hsm : SmallA A) (s : ByteArray) (hl : A.lost + s.size ≤ 90000) : Calls Tryz.prog 10 #[.pointer (some ⟨P.tp, 0, none⟩), .string s] W fun e w' => e = .returned (.tuple #[]) ∧ ∃ G', MadeA w w' b P G' (feedN A s.data.toList) :=
  (an_feed h.an hsm s hl).mono fun e w' h' => ⟨h'.1, h.to h'.2⟩
theorem made_drain (h : MadeA w W b P G A) : Calls Tryz.prog 11 #[.pointer (some ⟨P.qp, 0, none⟩)] W fun e w' => e = .returned (.string ⟨A.q.toArray⟩) ∧ ∃ G', MadeA w w' b P G' { A with q := [], over := false } := by
  obtain ⟨⟨fr, hq⟩, hto⟩ := h.an.queTo
  exact (que_drain P.qp P.lb fr A.most A.q A.over W hq).mono fun e w' h' => ⟨h'.1, h.to (hto _ _ _ h'.2)⟩
theorem made_cursor (h : MadeA w W b P G A) : Calls Tryz.prog 13 #[.pointer (some ⟨P.sp, 0, none⟩)] W fun e w' => e = .returned (.tuple #[.agg #[.int .i64 A.S.pl.at_.row, .int .i64 A.S.pl.at_.col], .bool A.S.pl.pend]) ∧ Below W.heap.size W w' := by
  obtain ⟨F, hs⟩ := h.an.scr
  exact scr_cursor P.sp F A.S W hs
theorem made_at (h : MadeA w W b P G A) (p : Vz.Ps) (hP : p.inS A.S.D.R A.S.D.C) : Calls Tryz.prog 23 #[.pointer (some ⟨P.sp, 0, none⟩), .agg #[.int .i64 p.row, .int .i64 p.col]] W fun e w' => e = .returned (.tuple #[.agg #[.int .i32 (atD A.S.D p).g, .int .i64 (atD A.S.D p).a, .bool (atD A.S.D p).gd, .int .i64 (atD A.S.D p).m], .int .i64 0]) ∧ Below W.heap.size W w' := by
  obtain ⟨F, hs⟩ := h.an.scr
  exact scr_at P.sp F A.S p W hs hP
end
def wakeL : List UInt8 := [27, 91, 50, 59, 51, 72, 27, 91, 51, 49, 109, 120, 27, 91, 54, 110]
def wakeA : An := feedN (newN 10 20 10) wakeL
theorem wake_cell : (atD wakeA.S.D ⟨1, 2⟩).g = 120 ∧ (atD wakeA.S.D ⟨1, 2⟩).a = 320 ∧ (atD wakeA.S.D ⟨1, 2⟩).gd = false ∧ (atD wakeA.S.D ⟨1, 2⟩).m = 0 := by decide +kernel
theorem wake_q : wakeA.q = [27, 91, 50, 59, 52, 82] := by decide +kernel
theorem wake_dims : wakeA.S.D.R = 10 ∧ wakeA.S.D.C = 20 := by decide +kernel
theorem wake_at {w W : World} {b : Nat} {P : Pt} {G : Nat → Prop} (h : MadeA w W b P G wakeA) : Calls Tryz.prog 23 #[.pointer (some ⟨P.sp, 0, none⟩), .agg #[.int .i64 1, .int .i64 2]] W fun e w' => e = .returned (.tuple #[.agg #[.int .i32 120, .int .i64 320, .bool false, .int .i64 0], .int .i64 0]) ∧ Below W.heap.size W w' := by
  have hat := made_at h ⟨1, 2⟩ (by rw [wake_dims.1, wake_dims.2]; unfold Vz.Ps.inS; simp)
  rw [wake_cell.1, wake_cell.2.1, wake_cell.2.2.1, wake_cell.2.2.2] at hat
  exact hat
theorem run_eql_wake (w : World) : Sem.run Tryz.prog (binOp .eql 48 (.agg #[.int .i32 120, .int .i64 320, .bool false, .int .i64 0]) (.agg #[.int .i32 120, .int .i64 320, .bool false, .int .i64 0])) w = .ok (.bool true) w := by
  have h := run_eql_cell ⟨120, 320, false, 0⟩ ⟨120, 320, false, 0⟩ w
  rw [eqC_iff.2 rfl] at h
  exact h
attribute [local go_sem 3000] run_eql_wake
set_option maxHeartbeats 4000000 in
theorem awake_any (w : World) (hbl : Blanked w) : Calls Tryz.prog 8 #[] w fun e w' => e = .returned (.bool true) ∧ Below w.heap.size w w' := by
  have HN := Lib.hid (made_ok 10 20 10 (by decide) (by decide) (by decide) w hbl)
  clear hbl
  go_enter Tryz.func8, Tryz.ntmps8
  go_wp2_with (first
    | (go_at_call 9; refine HN.out.mono ?_; rintro e w1 ⟨wp, P, G, rfl, hm⟩; obtain ⟨c0, c1, c2⟩ := hm.cells; have HM1 := Lib.hid hm; clear hm)
    | (go_at_call 10; refine (made_feed HM1.out ⟨by decide, by decide⟩ ⟨wakeL.toArray⟩ (by decide)).mono ?_; rintro e w2 ⟨rfl, G2, hm⟩; clear c0 c1 c2; obtain ⟨c0, c1, c2⟩ := hm.cells; have HM2 : Hid (MadeA w w2 wp P G2 wakeA) := hm; clear hm)
    | (go_at_call 23; refine (wake_at HM2.out).mono ?_; rintro e w3 ⟨rfl, hb3⟩; have HM3 := Lib.hid ((HM2.out.below hb3).below (below1 w3 (.cells #[.int .i32 120, .int .i64 320, .bool false, .int .i64 0] 48))); obtain ⟨d0, d1, d2⟩ := HM3.out.cells; clear hb3)
    | (go_at_call 11; have hdr := made_drain HM3.out; rw [wake_q] at hdr; refine hdr.mono ?_; clear hdr; rintro e w4 ⟨rfl, G4, hm⟩; have HM4 := Lib.hid hm; clear hm))
  go_ret
  exact ⟨rfl, HM4.out.bel⟩
end Go.Proofs.YtmgeghoalmonoaaGreatDoor
