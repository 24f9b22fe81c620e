import Derived.Test.YtmgeghoalmonoaaGreatDoorAnMem
import Derived.Test.YtmgeghoalmonoaaGreatDoorRK
import Derived.Test.YtmgeghoalmonoaaGreatDoorRO

/- Walks of ANSI.SYS: at, end, wipe, put. -/
namespace Go.Proofs.YtmgeghoalmonoaaGreatDoor
open Go.RowKit
set_option linter.unusedSimpArgs false
set_option linter.unusedVariables false
set_option maxRecDepth 100000
attribute [local go_sem] alloc_drewN setCell_drewN World.cell?_alloc_some frozen_alloc_some

theorem AnW.cells {w : World} {P : Pt} {G : Nat → Prop} {A : An} (h : AnW w P G A) :
    (w.cell? ⟨P.tp, 0, none⟩ = some (.pointer (some ⟨P.sp, 0, none⟩)) ∧ w.cell? ⟨P.tp, 1, none⟩ = some (.pointer (some ⟨P.qp, 0, none⟩)) ∧ w.cell? ⟨P.tp, 2, none⟩ = some (.pointer (some ⟨P.kp, 0, none⟩)) ∧ w.cell? ⟨P.tp, 3, none⟩ = some (.int .i64 A.attr) ∧ w.cell? ⟨P.tp, 4, none⟩ = some (.bool A.wrap) ∧ w.cell? ⟨P.tp, 5, none⟩ = some (.int .i64 A.sv.row) ∧ w.cell? ⟨P.tp, 6, none⟩ = some (.int .i64 A.sv.col) ∧ w.cell? ⟨P.tp, 7, none⟩ = some (.int .i64 A.st) ∧ w.cell? ⟨P.tp, 8, none⟩ = some (.pointer (some ⟨P.fb, 0, none⟩)) ∧ w.cell? ⟨P.tp, 9, none⟩ = some (.int .u8 A.quo.toNat)) ∧
    w.frozen? ⟨P.tp, 3, none⟩ = false ∧ w.frozen? ⟨P.tp, 4, none⟩ = false ∧ w.frozen? ⟨P.tp, 5, none⟩ = false ∧ w.frozen? ⟨P.tp, 6, none⟩ = false ∧ w.frozen? ⟨P.tp, 7, none⟩ = false ∧ w.frozen? ⟨P.tp, 9, none⟩ = false := rowA h.box
theorem pos_f1 (a b : Value) (W : World) : Sem.run Tryz.prog (Instr.field 39 (.agg #[a, b]) 1) W = .ok b W := by kernel_rfl
/-- The answer's box, and what came behind it. -/
def PosB (w W : World) : Prop := Below w.heap.size w W ∧ W.heap[w.heap.size]? = some (.cells #[.int .i64 0, .int .i64 0] 39 (0, 0))
theorem PosB.new (w : World) : PosB w (w.alloc (.cells #[.int .i64 0, .int .i64 0] 39)) := ⟨below1 _ _, heap_alloc_new _ _⟩
theorem PosB.below {w W W' : World} (h : PosB w W) (hb : Below W.heap.size W W') : PosB w W' := ⟨h.1.trans (hb.mono h.1.size), (hb.block _ (block_lt h.2)).trans h.2⟩
theorem PosB.set {w W : World} (h : PosB w W) (a b : Int) : ∃ W', W' = (W.setCell ⟨w.heap.size, 0, none⟩ (.int .i64 a)).setCell ⟨w.heap.size, 1, none⟩ (.int .i64 b) ∧ Below w.heap.size w W' ∧ W'.cell? ⟨w.heap.size, 0, none⟩ = some (.int .i64 a) ∧ W'.cell? ⟨w.heap.size, 1, none⟩ = some (.int .i64 b) := by
  obtain ⟨c0, c1, _⟩ := row2 (heap_set_same (heap_set_same h.2 0 (.int .i64 a)) 1 (.int .i64 b))
  exact ⟨_, rfl, (h.1.setCell (p := ⟨w.heap.size, 0, none⟩) (Nat.le_refl _) _).setCell (p := ⟨w.heap.size, 1, none⟩) (Nat.le_refl _) _, c0, c1⟩
section
variable {w : World} {P : Pt} {G : Nat → Prop} {A : An}
set_option maxHeartbeats 2000000 in
theorem an_at (h : AnW w P G A) : Calls Tryz.prog 50 #[.pointer (some ⟨P.tp, 0, none⟩)] w fun e w' => e = .returned (.agg #[.int .i64 A.S.pl.at_.row, .int .i64 A.S.pl.at_.col]) ∧ Below w.heap.size w w' := by
  obtain ⟨W0, hW0⟩ : ∃ W, w.alloc (.cells #[.int .i64 0, .int .i64 0] 39) = W := ⟨_, rfl⟩
  have HP : Hid (PosB w W0) := by show PosB w W0; rw [← hW0]; exact PosB.new w
  have h0 : AnW W0 P G A := by rw [← hW0]; exact h.below (below1 w _)
  obtain ⟨F, hs⟩ := h0.scr
  have HC := Lib.hid (scr_cursor P.sp F A.S W0 hs)
  obtain ⟨⟨t0, -⟩, -⟩ := h0.cells
  clear h h0 hs
  go_enter Tryz.func50, Tryz.ntmps50
  go_upto_region 1 with fail
  try rw [hW0]
  clear hW0
  go_upto_region 2 with (go_at_call 13; refine HC.out.mono ?_; rintro e w2 ⟨rfl, hb2⟩; have HP2 := Lib.hid (HP.out.below hb2); clear hb2)
  have HP3 := Lib.hid (HP2.out.below (below1 w2 (.cells #[.int .i64 A.S.pl.at_.row, .int .i64 A.S.pl.at_.col] 39)))
  have hx := heap_alloc_new w2 (.cells #[.int .i64 A.S.pl.at_.row, .int .i64 A.S.pl.at_.col] 39)
  generalize w2.alloc (.cells #[.int .i64 A.S.pl.at_.row, .int .i64 A.S.pl.at_.col] 39) = W3 at HP3 hx ⊢
  obtain ⟨x0, x1, -⟩ := row2 hx
  obtain ⟨y0, y1, g0, g1⟩ := row2 HP3.out.2
  obtain ⟨WZ, hWZ, hbz, z0, z1⟩ := HP3.out.set A.S.pl.at_.row A.S.pl.at_.col
  have HBZ := Lib.hid hbz
  clear hbz hx t0
  go_wp2_with fail
  refine bodyPost_ret (v := .agg #[.int .i64 A.S.pl.at_.row, .int .i64 A.S.pl.at_.col]) (by rw [← hWZ]; simp [results, Tryz.results50, go_sem, z0, z1]) rfl ?_
  rw [← hWZ]
  exact ⟨rfl, HBZ.out⟩
set_option maxHeartbeats 2000000 in
theorem an_end (h : AnW w P G A) : Calls Tryz.prog 39 #[.pointer (some ⟨P.tp, 0, none⟩)] w fun e w' => e = .returned (.agg #[.int .i64 (endP A).row, .int .i64 (endP A).col]) ∧ Below w.heap.size w w' := by
  obtain ⟨W0, hW0⟩ : ∃ W, w.alloc (.cells #[.int .i64 0, .int .i64 0] 39) = W := ⟨_, rfl⟩
  have HP : Hid (PosB w W0) := by show PosB w W0; rw [← hW0]; exact PosB.new w
  have h0 : AnW W0 P G A := by rw [← hW0]; exact h.below (below1 w _)
  obtain ⟨F, hs⟩ := h0.scr
  have hm := hs.here.2
  unfold Vz.Gd.may at hm
  have HC := Lib.hid (scr_size P.sp F A.S W0 hs)
  obtain ⟨⟨t0, -⟩, -⟩ := h0.cells
  have e1 : IntKind.i64.wrap ((A.S.D.R : Int) - 1) = (endP A).row := by rw [wrap_in (by omega) (by omega)]; rfl
  have e2 : IntKind.i64.wrap ((A.S.D.C : Int) - 1) = (endP A).col := by rw [wrap_in (by omega) (by omega)]; rfl
  clear h h0 hs hm
  generalize (endP A).row = er at *
  generalize (endP A).col = ec at *
  go_enter Tryz.func39, Tryz.ntmps39
  go_upto_region 1 with fail
  try rw [hW0]
  clear hW0
  go_upto_region 2 with (go_at_call 59; refine HC.out.mono ?_; rintro e w2 ⟨rfl, hb2⟩; have HP2 := Lib.hid (HP.out.below hb2); clear hb2)
  have HP3 := Lib.hid (HP2.out.below (below1 w2 (.cells #[.int .i64 A.S.D.R, .int .i64 A.S.D.C] 23)))
  have hx := heap_alloc_new w2 (.cells #[.int .i64 A.S.D.R, .int .i64 A.S.D.C] 23)
  generalize w2.alloc (.cells #[.int .i64 A.S.D.R, .int .i64 A.S.D.C] 23) = W3 at HP3 hx ⊢
  obtain ⟨x0, x1, -⟩ := row2 hx
  obtain ⟨y0, y1, g0, g1⟩ := row2 HP3.out.2
  obtain ⟨WZ, hWZ, hbz, z0, z1⟩ := HP3.out.set er ec
  have HBZ := Lib.hid hbz
  clear hbz hx t0
  go_wp2_with fail
  refine bodyPost_ret (v := .agg #[.int .i64 er, .int .i64 ec]) (by rw [← hWZ]; simp [results, Tryz.results39, go_sem, z0, z1]) rfl ?_
  rw [← hWZ]
  exact ⟨rfl, HBZ.out⟩
set_option maxHeartbeats 2000000 in
theorem an_wipe (h : AnW w P G A) (p q : Vz.Ps) (at_ : Int) : Calls Tryz.prog 38 #[.pointer (some ⟨P.tp, 0, none⟩), .agg #[.int .i64 p.row, .int .i64 p.col], .agg #[.int .i64 q.row, .int .i64 q.col], .int .i64 at_] w fun e w' => e = .returned (.tuple #[]) ∧ AnTo w w' P G (wipeN A p q at_) := by
  obtain ⟨W0, hW0⟩ : ∃ W, (w.alloc (.cells #[.int .i64 p.row, .int .i64 p.col] 39)).alloc (.cells #[.int .i64 q.row, .int .i64 q.col] 39) = W := ⟨_, rfl⟩
  have HB : Hid (Below w.heap.size w W0) := by show Below _ _ _; rw [← hW0]; exact (below1 w _).alloc (by simp) _
  have HX : Hid (W0.heap[w.heap.size]? = some (.cells #[.int .i64 p.row, .int .i64 p.col] 39 (0, 0)) ∧ W0.heap[w.heap.size + 1]? = some (.cells #[.int .i64 q.row, .int .i64 q.col] 39 (0, 0))) := by
    show _ ∧ _
    rw [← hW0]
    have h2 := heap_alloc_new (w.alloc (.cells #[.int .i64 p.row, .int .i64 p.col] 39)) (.cells #[.int .i64 q.row, .int .i64 q.col] 39)
    rw [World.size_alloc] at h2
    exact ⟨(Below.heap_alloc _ _ _ (by rw [World.size_alloc]; omega)).trans (heap_alloc_new _ _), h2⟩
  have HA := Lib.hid (fun W (hb : Below w.heap.size w W) => h.below hb)
  clear h
  go_enter Tryz.func38, Tryz.ntmps38
  go_upto_region 1 with fail
  try rw [hW0]
  clear hW0
  have HS0 : Hid (Below w.heap.size w W0.drew ∧ W0.drew.heap[w.heap.size]? = some (.cells #[.int .i64 p.row, .int .i64 p.col] 39 (0, 0)) ∧ W0.drew.heap[w.heap.size + 1]? = some (.cells #[.int .i64 q.row, .int .i64 q.col] 39 (0, 0))) := ⟨HB.out.drew, HX.out.1, HX.out.2⟩
  refine wp_region_noPanic ?_
  refine wp_region_k (S := fun W : World => Below w.heap.size w W ∧ W.heap[w.heap.size]? = some (.cells #[.int .i64 p.row, .int .i64 p.col] 39 (0, 0)) ∧ W.heap[w.heap.size + 1]? = some (.cells #[.int .i64 q.row, .int .i64 q.col] 39 (0, 0))) 8 (by kernel_rfl) (HS0.out) (fun hHeld => ?_)
  refine kSK 0 hHeld ?_
  refine kSK 1 hHeld ?_
  refine kSK 2 hHeld ?_
  refine kTK (v := ?_) 3 [] hHeld ?y4 ?_
  case y4 => (intro W hSw; obtain ⟨⟨y0, _⟩, _⟩ := (HA.out _ hSw.1).cells; obtain ⟨p0, p1, _⟩ := row2 hSw.2.1; obtain ⟨q0, q1, _⟩ := row2 hSw.2.2; go_simp; try with_reducible rfl)
  refine kTK (v := ?_) 4 [] hHeld ?y5 ?_
  case y5 => (intro W hSw; obtain ⟨⟨y0, _⟩, _⟩ := (HA.out _ hSw.1).cells; obtain ⟨p0, p1, _⟩ := row2 hSw.2.1; obtain ⟨q0, q1, _⟩ := row2 hSw.2.2; go_simp; try with_reducible rfl)
  try refine kNK ?_
  refine kTK (v := ?_) 5 [] hHeld ?y6 ?_
  case y6 => (intro W hSw; obtain ⟨⟨y0, _⟩, _⟩ := (HA.out _ hSw.1).cells; obtain ⟨p0, p1, _⟩ := row2 hSw.2.1; obtain ⟨q0, q1, _⟩ := row2 hSw.2.2; go_simp; try with_reducible rfl)
  refine kSK 6 hHeld ?_
  refine kSK 7 hHeld ?_
  try refine kNK ?_
  refine kPK 8 fun KQ hKQ => ?_
  go_simp
  go_at_call 58
  obtain ⟨F, hs, hto⟩ := (HA.out _ HS0.out.1).scrTo
  refine (scr_wipe P.sp F A.S p q ⟨32, at_, false, 0⟩ false _ hs).mono ?_
  rintro e w2 ⟨rfl, ht⟩
  have HT := Lib.hid (AnTo.after HS0.out.1 (hto _ _ ht))
  clear ht hto hs
  go_wp2_with fail
  refine hKQ.out _ _ ?_
  clear hKQ KQ
  try refine kNK ?_
  refine wpAnyK_done (by kernel_rfl) ?_ _
  refine NoPanic.normal ?_
  go_wp2_with fail
  go_end0
  exact ⟨rfl, HT.out⟩
end
end Go.Proofs.YtmgeghoalmonoaaGreatDoor
