import Derived.Test.YtliacdaddncmaaaGreatDoorLH
import Derived.Test.YtliacdaddncmaaaGreatDoorLE
import Derived.Test.YtliacdaddncmaaaGreatDoorLJ
import Derived.Test.YtliacdaddncmaaaGreatDoorLA
import Derived.ScopeJumps
import Derived.WalkMore
import Derived.Test.YtliacdaddncmaaaGreatDoorLK

/- Walks: a screen's Set, Lines, Chars. -/
namespace Go.Proofs.YtliacdaddncmaaaGreatDoor
open Go.RowKit
set_option linter.unusedSimpArgs false
set_option linter.unusedVariables false
attribute [local go_sem] alloc_drewN setCell_drewN World.cell?_alloc_some frozen_alloc_some size_f0 size_f1

theorem wipeD_R (D : Vz.Gd) (a b : Vz.Ps) (x : Vz.Cl) (gd : Bool) : (wipeD D a b x gd).R = D.R ∧ (wipeD D a b x gd).C = D.C := by
  unfold wipeD
  split
  · exact ⟨rfl, rfl⟩
  · exact ⟨rfl, rfl⟩
end Go.Proofs.YtliacdaddncmaaaGreatDoor

/- Walks: a screen's Wipe, Part. -/
namespace Go.Proofs.YtliacdaddncmaaaGreatDoor
open Go.RowKit
set_option linter.unusedSimpArgs false
set_option linter.unusedVariables false
attribute [local go_sem] alloc_drewN setCell_drewN World.cell?_alloc_some frozen_alloc_some size_f0 size_f1

set_option maxRecDepth 10000 in
set_option maxHeartbeats 4000000 in
theorem scr_wipe (sp : Nat) (F : Nat → Prop) (S : Vz.Sr) (a b : Vz.Ps) (c : Vz.Cl) (gd : Bool) (w : World) (h : Scr w sp F S) : Calls Tryz.prog 36 #[.pointer (some ⟨sp, 0, none⟩), .agg #[.int .i64 a.row, .int .i64 a.col], .agg #[.int .i64 b.row, .int .i64 b.col], .agg #[.int .i32 c.g, .int .i64 c.a, .bool c.gd, .int .i64 c.m], .bool gd] w fun e w' => e = .returned (.tuple #[]) ∧ ScrTo w w' sp F { S with D := wipeD S.D (Vz.nearP S.D.R S.D.C a) (Vz.nearP S.D.R S.D.C b) c gd } := by
  obtain ⟨gp, tp, mb, FG, hA, hF, HC, hlt⟩ := h.held
  have HSZ := Lib.hid (fun W (hb : Below w.heap.size w W) => scr_size sp F S W (h.below hb))
  have HNA := Lib.hid (near_pos S.D.R S.D.C a.row a.col)
  have HNB := Lib.hid (near_pos S.D.R S.D.C b.row b.col)
  have hmay := Vz.Gd.may_mayS hA.grid.may
  have hia := Vz.nearP_in S.D.R S.D.C a hmay
  have hib := Vz.nearP_in S.D.R S.D.C b hmay
  have HWI := Lib.hid (fun W (hb : Below w.heap.size w W) => wipe_ok gp FG S.D (Vz.nearP S.D.R S.D.C a) (Vz.nearP S.D.R S.D.C b) c gd W (hA.grid.below hb) hia hib)
  have HB : Hid (Below w.heap.size w (((w.alloc (.cells #[.int .i64 a.row, .int .i64 a.col] 25)).alloc (.cells #[.int .i64 b.row, .int .i64 b.col] 25)).alloc (.cells (cellB c) 47))) := Grows.below ((((Grows.refl w).alloc _).alloc _).alloc _)
  have HX1 : Hid (∀ W, Below (w.heap.size + 1 + 1 + 1) (((w.alloc (.cells #[.int .i64 a.row, .int .i64 a.col] 25)).alloc (.cells #[.int .i64 b.row, .int .i64 b.col] 25)).alloc (.cells (cellB c) 47)) W → W.heap[w.heap.size]? = some (.cells #[.int .i64 a.row, .int .i64 a.col] 25 (0, 0)) ∧ W.heap[w.heap.size + 1]? = some (.cells #[.int .i64 b.row, .int .i64 b.col] 25 (0, 0)) ∧ W.heap[w.heap.size + 1 + 1]? = some (.cells (cellB c) 47 (0, 0)) ∧ Below w.heap.size w W) := fun W hb => box3 (hb.mono (by simp))
  have HD0 : Hid (Below (w.heap.size + 1 + 1 + 1) (((w.alloc (.cells #[.int .i64 a.row, .int .i64 a.col] 25)).alloc (.cells #[.int .i64 b.row, .int .i64 b.col] 25)).alloc (.cells (cellB c) 47)) (((w.alloc (.cells #[.int .i64 a.row, .int .i64 a.col] 25)).alloc (.cells #[.int .i64 b.row, .int .i64 b.col] 25)).alloc (.cells (cellB c) 47)).drew) := (Below.refl _ _).drew
  have HLE : Hid (∀ W, Below (w.heap.size + 1 + 1 + 1) (((w.alloc (.cells #[.int .i64 a.row, .int .i64 a.col] 25)).alloc (.cells #[.int .i64 b.row, .int .i64 b.col] 25)).alloc (.cells (cellB c) 47)) W → w.heap.size + 1 + 1 + 1 ≤ W.heap.size) := fun W hb => Nat.le_trans (by simp) hb.size
  have HEND : Hid (∀ W w', Below w.heap.size w W → Grid w' gp FG (wipeD S.D (Vz.nearP S.D.R S.D.C a) (Vz.nearP S.D.R S.D.C b) c gd) → Keeps FG W w' → ScrTo w w' sp F { S with D := wipeD S.D (Vz.nearP S.D.R S.D.C a) (Vz.nearP S.D.R S.D.C b) c gd }) := fun W w' hb hg hk => ScrTo.after hb (Scr.gridTo (hA.below hb) hF ⟨⟨FG, hg, fun k hk => .inl hk⟩, hk⟩ (wipeD_R _ _ _ _ _).1 (wipeD_R _ _ _ _ _).2)
  clear hA hF h hmay hia hib
  generalize wipeD S.D (Vz.nearP S.D.R S.D.C a) (Vz.nearP S.D.R S.D.C b) c gd = D' at *
  generalize hqa : Vz.nearP S.D.R S.D.C a = qa at *
  generalize hqb : Vz.nearP S.D.R S.D.C b = qb at *
  clear hqa hqb
  generalize a.row = ar at *
  generalize a.col = ac at *
  generalize b.row = br at *
  generalize b.col = bc at *
  unfold cellB at *
  go_enter Tryz.func36, Tryz.ntmps36
  go_upto_region 2 with fail
  refine wp_region_noPanic ?_
  refine wp_region_k (S := fun W : World => Below (w.heap.size + 1 + 1 + 1) (((w.alloc (.cells #[.int .i64 ar, .int .i64 ac] 25)).alloc (.cells #[.int .i64 br, .int .i64 bc] 25)).alloc (.cells #[.int .i32 c.g, .int .i64 c.a, .bool c.gd, .int .i64 c.m] 47)) W) 14 (by kernel_rfl) (HD0.out) (fun hHeld => ?_)
  refine kSK 0 hHeld ?_
  refine kSK 1 hHeld ?_
  refine kSK 2 hHeld ?_
  refine kTK (v := ?_) 3 [] hHeld ?y4 ?_
  case y4 => (intro W hSw; obtain ⟨x0, x1, x2, x3⟩ := HX1.out _ hSw; obtain ⟨c0, c1, c2, c3, c4, _⟩ := HC.out _ x3; obtain ⟨q0, q1, q2, q3⟩ := cell4 x2; obtain ⟨p0, p1, _⟩ := row2 x0; obtain ⟨r0, r1, _⟩ := row2 x1; go_simp; try with_reducible rfl)
  refine kSK 4 hHeld ?_
  try refine kNK ?_
  refine kTK (v := ?_) 6 [7] hHeld ?y6 ?_
  case y6 => (intro W hSw; obtain ⟨x0, x1, x2, x3⟩ := HX1.out _ hSw; obtain ⟨c0, c1, c2, c3, c4, _⟩ := HC.out _ x3; obtain ⟨q0, q1, q2, q3⟩ := cell4 x2; obtain ⟨p0, p1, _⟩ := row2 x0; obtain ⟨r0, r1, _⟩ := row2 x1; go_simp; try with_reducible rfl)
  refine kSK 8 hHeld ?_
  refine kTK (v := ?_) 10 [11] hHeld ?y8 ?_
  case y8 => (intro W hSw; obtain ⟨x0, x1, x2, x3⟩ := HX1.out _ hSw; obtain ⟨c0, c1, c2, c3, c4, _⟩ := HC.out _ x3; obtain ⟨q0, q1, q2, q3⟩ := cell4 x2; obtain ⟨p0, p1, _⟩ := row2 x0; obtain ⟨r0, r1, _⟩ := row2 x1; go_simp; try with_reducible rfl)
  refine kTK (v := ?_) 12 [] hHeld ?y9 ?_
  case y9 => (intro W hSw; obtain ⟨x0, x1, x2, x3⟩ := HX1.out _ hSw; obtain ⟨c0, c1, c2, c3, c4, _⟩ := HC.out _ x3; obtain ⟨q0, q1, q2, q3⟩ := cell4 x2; obtain ⟨p0, p1, _⟩ := row2 x0; obtain ⟨r0, r1, _⟩ := row2 x1; go_simp; try with_reducible rfl)
  refine kSK 13 hHeld ?_
  try refine kNK ?_
  refine kOK 5 fun KQ hKQ => ?_
  go_simp
  go_at_call 21
  refine (HSZ.out _ (HX1.out _ hHeld).2.2.2).mono ?_
  rintro e wa ⟨rfl, hba⟩
  have HBa := Lib.hid (hHeld.trans (hba.mono (HLE.out _ hHeld)))
  clear hba
  go_wp2_with fail
  refine hKQ.out _ _ (HBa.out) ?_
  clear hHeld hKQ KQ
  intro hHeld
  try refine kNK ?_
  refine kOK 7 fun KQ hKQ => ?_
  go_simp
  go_at_call 42
  refine (HNA.out _).mono ?_
  rintro e wb ⟨rfl, hgb⟩
  have HBb := Lib.hid (hHeld.trans (hgb.below.mono (HLE.out _ hHeld)))
  clear hgb
  go_wp2_with fail
  refine hKQ.out _ _ (HBb.out) ?_
  clear hHeld hKQ KQ
  intro hHeld
  try refine kNK ?_
  refine kOK 9 fun KQ hKQ => ?_
  go_simp
  go_at_call 21
  refine (HSZ.out _ (HX1.out _ hHeld).2.2.2).mono ?_
  rintro e wc ⟨rfl, hbc⟩
  have HBc := Lib.hid (hHeld.trans (hbc.mono (HLE.out _ hHeld)))
  clear hbc
  go_wp2_with fail
  refine hKQ.out _ _ (HBc.out) ?_
  clear hHeld hKQ KQ
  intro hHeld
  try refine kNK ?_
  refine kOK 11 fun KQ hKQ => ?_
  go_simp
  go_at_call 42
  refine (HNB.out _).mono ?_
  rintro e wd ⟨rfl, hgd⟩
  have HBd := Lib.hid (hHeld.trans (hgd.below.mono (HLE.out _ hHeld)))
  clear hgd
  go_wp2_with fail
  refine hKQ.out _ _ (HBd.out) ?_
  clear hHeld hKQ KQ
  intro hHeld
  try refine kNK ?_
  refine kPK 14 fun KQ hKQ => ?_
  go_simp
  go_at_call 61
  refine (HWI.out _ (HX1.out _ hHeld).2.2.2).mono ?_
  rintro e w1 ⟨⟨n, k, rfl⟩, hg, hk⟩
  have HG := Lib.hid (HEND.out _ _ (HX1.out _ hHeld).2.2.2 hg hk)
  clear hg hk
  go_wp2_with fail
  refine hKQ.out _ _ ?_
  clear hKQ KQ
  try refine kNK ?_
  refine wpAnyK_done (by kernel_rfl) ?_ _
  refine NoPanic.normal ?_
  go_wp2_with fail
  go_end0
  exact ⟨rfl, HG.out⟩
end Go.Proofs.YtliacdaddncmaaaGreatDoor

/- Walks: a screen's At and Set at places that are not there. -/
namespace Go.Proofs.YtliacdaddncmaaaGreatDoor
open Go.RowKit
set_option linter.unusedSimpArgs false
set_option linter.unusedVariables false
attribute [local go_sem] alloc_drewN setCell_drewN World.cell?_alloc_some frozen_alloc_some size_f0 size_f1

end Go.Proofs.YtliacdaddncmaaaGreatDoor

/- Walks: the screen's Set. -/
namespace Go.Proofs.YtliacdaddncmaaaGreatDoor
open Go.RowKit
set_option linter.unusedSimpArgs false
set_option linter.unusedVariables false
attribute [local go_sem] alloc_drewN setCell_drewN World.cell?_alloc_some frozen_alloc_some size_f0 size_f1

set_option maxRecDepth 10000 in
set_option maxHeartbeats 4000000 in
theorem scr_set (sp : Nat) (F : Nat → Prop) (S : Vz.Sr) (p : Vz.Ps) (c : Vz.Cl) (w : World) (h : Scr w sp F S) (hP : p.inS S.D.R S.D.C) : Calls Tryz.prog 15 #[.pointer (some ⟨sp, 0, none⟩), .agg #[.int .i64 p.row, .int .i64 p.col], .agg #[.int .i32 c.g, .int .i64 c.a, .bool c.gd, .int .i64 c.m]] w fun e w' => e = .returned (.int .i64 0) ∧ ScrTo w w' sp F { S with D := S.D.set p.row.toNat p.col.toNat c } := by
  obtain ⟨gp, tp, mb, FG, hA, hF, HC, hlt⟩ := h.held
  have HB : Hid (Below w.heap.size w ((w.alloc (.cells #[.int .i64 p.row, .int .i64 p.col] 25)).alloc (.cells (cellB c) 47))) := Grows.below (((Grows.refl w).alloc _).alloc _)
  have HX1 : Hid (∀ W, Below (w.heap.size + 1 + 1) ((w.alloc (.cells #[.int .i64 p.row, .int .i64 p.col] 25)).alloc (.cells (cellB c) 47)) W → W.heap[w.heap.size]? = some (.cells #[.int .i64 p.row, .int .i64 p.col] 25 (0, 0)) ∧ W.heap[w.heap.size + 1]? = some (.cells (cellB c) 47 (0, 0)) ∧ Below w.heap.size w W) := fun W hb => box2 (hb.mono (by simp))
  have HD0 : Hid (Below (w.heap.size + 1 + 1) ((w.alloc (.cells #[.int .i64 p.row, .int .i64 p.col] 25)).alloc (.cells (cellB c) 47)) ((w.alloc (.cells #[.int .i64 p.row, .int .i64 p.col] 25)).alloc (.cells (cellB c) 47)).drew) := (Below.refl _ _).drew
  have HLN := Lib.hid (fun W (hb : Below w.heap.size w W) => gset_ok gp FG S.D p c W (hA.grid.below hb) hP)
  have HEND : Hid (∀ W w', Below w.heap.size w W → Grid w' gp FG (S.D.set p.row.toNat p.col.toNat c) → Keeps FG W w' → ScrTo w w' sp F { S with D := S.D.set p.row.toNat p.col.toNat c }) := fun W w' hb hg hk => ScrTo.after hb (Scr.gridTo (hA.below hb) hF ⟨⟨FG, hg, fun k hk => .inl hk⟩, hk⟩ rfl rfl)
  clear hA hF h hP
  generalize S.D.set p.row.toNat p.col.toNat c = D' at *
  generalize p.row = pr at *
  generalize p.col = pc at *
  unfold cellB at *
  go_enter Tryz.func15, Tryz.ntmps15
  go_upto_region 3 with fail
  refine wp_region_noPanic ?_
  refine wp_region_k (S := fun W : World => Below (w.heap.size + 1 + 1) ((w.alloc (.cells #[.int .i64 pr, .int .i64 pc] 25)).alloc (.cells #[.int .i32 c.g, .int .i64 c.a, .bool c.gd, .int .i64 c.m] 47)) W) 6 (by kernel_rfl) (HD0.out) (fun hHeld => ?_)
  refine kSK 0 hHeld ?_
  refine kSK 1 hHeld ?_
  refine kSK 2 hHeld ?_
  refine kTK (v := ?_) 3 [] hHeld ?y4 ?_
  case y4 => (intro W hSw; obtain ⟨x0, x1, x2⟩ := HX1.out _ hSw; obtain ⟨c0, c1, c2, c3, c4, _⟩ := HC.out _ x2; obtain ⟨q0, q1, q2, q3⟩ := cell4 x1; obtain ⟨p0, p1, _⟩ := row2 x0; go_simp; try with_reducible rfl)
  refine kTK (v := ?_) 4 [] hHeld ?y5 ?_
  case y5 => (intro W hSw; obtain ⟨x0, x1, x2⟩ := HX1.out _ hSw; obtain ⟨c0, c1, c2, c3, c4, _⟩ := HC.out _ x2; obtain ⟨q0, q1, q2, q3⟩ := cell4 x1; obtain ⟨p0, p1, _⟩ := row2 x0; go_simp; try with_reducible rfl)
  try refine kNK ?_
  refine kTK (v := ?_) 5 [] hHeld ?y6 ?_
  case y6 => (intro W hSw; obtain ⟨x0, x1, x2⟩ := HX1.out _ hSw; obtain ⟨c0, c1, c2, c3, c4, _⟩ := HC.out _ x2; obtain ⟨q0, q1, q2, q3⟩ := cell4 x1; obtain ⟨p0, p1, _⟩ := row2 x0; go_simp; try with_reducible rfl)
  try refine kNK ?_
  refine kPK 6 fun KQ hKQ => ?_
  go_simp
  go_at_call 41
  refine (HLN.out _ (HX1.out _ HD0.out).2.2).mono ?_
  rintro e w1 ⟨rfl, hg, hk⟩
  have HG := Lib.hid hg
  have HK := Lib.hid hk
  clear hg hk
  go_wp2_with fail
  refine hKQ.out _ _ ?_
  clear hKQ KQ
  try refine kNK ?_
  refine kBK 7 ?_
  try refine kNK ?_
  refine wpAnyK_done (by kernel_rfl) ?_ _
  refine NoPanic.normal ?_
  go_wp2_with fail
  go_ret
  exact ⟨rfl, HEND.out _ _ (HX1.out _ HD0.out).2.2 HG.out HK.out⟩
set_option maxRecDepth 10000 in
set_option maxHeartbeats 4000000 in
theorem scr_set_no (sp : Nat) (F : Nat → Prop) (S : Vz.Sr) (p : Vz.Ps) (c : Vz.Cl) (w : World) (h : Scr w sp F S) (hP : ¬ p.inS S.D.R S.D.C) : Calls Tryz.prog 15 #[.pointer (some ⟨sp, 0, none⟩), .agg #[.int .i64 p.row, .int .i64 p.col], .agg #[.int .i32 c.g, .int .i64 c.a, .bool c.gd, .int .i64 c.m]] w fun e w' => e = .returned (.int .i64 11) ∧ Below w.heap.size w w' := by
  obtain ⟨gp, tp, mb, FG, hA, hF, HC, hlt⟩ := h.held
  have HB : Hid (Below w.heap.size w ((w.alloc (.cells #[.int .i64 p.row, .int .i64 p.col] 25)).alloc (.cells (cellB c) 47))) := Grows.below (((Grows.refl w).alloc _).alloc _)
  have HX1 : Hid (∀ W, Below (w.heap.size + 1 + 1) ((w.alloc (.cells #[.int .i64 p.row, .int .i64 p.col] 25)).alloc (.cells (cellB c) 47)) W → W.heap[w.heap.size]? = some (.cells #[.int .i64 p.row, .int .i64 p.col] 25 (0, 0)) ∧ W.heap[w.heap.size + 1]? = some (.cells (cellB c) 47 (0, 0)) ∧ Below w.heap.size w W) := fun W hb => box2 (hb.mono (by simp))
  have HD0 : Hid (Below (w.heap.size + 1 + 1) ((w.alloc (.cells #[.int .i64 p.row, .int .i64 p.col] 25)).alloc (.cells (cellB c) 47)) ((w.alloc (.cells #[.int .i64 p.row, .int .i64 p.col] 25)).alloc (.cells (cellB c) 47)).drew) := (Below.refl _ _).drew
  have HLN := Lib.hid (fun W (hb : Below w.heap.size w W) => gset_no gp FG S.D p c W (hA.grid.below hb) hP)
  clear hA hF h hP
  generalize p.row = pr at *
  generalize p.col = pc at *
  unfold cellB at *
  go_enter Tryz.func15, Tryz.ntmps15
  go_upto_region 3 with fail
  refine wp_region_noPanic ?_
  refine wp_region_k (S := fun W : World => Below (w.heap.size + 1 + 1) ((w.alloc (.cells #[.int .i64 pr, .int .i64 pc] 25)).alloc (.cells #[.int .i32 c.g, .int .i64 c.a, .bool c.gd, .int .i64 c.m] 47)) W) 6 (by kernel_rfl) (HD0.out) (fun hHeld => ?_)
  refine kSK 0 hHeld ?_
  refine kSK 1 hHeld ?_
  refine kSK 2 hHeld ?_
  refine kTK (v := ?_) 3 [] hHeld ?y4 ?_
  case y4 => (intro W hSw; obtain ⟨x0, x1, x2⟩ := HX1.out _ hSw; obtain ⟨c0, c1, c2, c3, c4, _⟩ := HC.out _ x2; obtain ⟨q0, q1, q2, q3⟩ := cell4 x1; obtain ⟨p0, p1, _⟩ := row2 x0; go_simp; try with_reducible rfl)
  refine kTK (v := ?_) 4 [] hHeld ?y5 ?_
  case y5 => (intro W hSw; obtain ⟨x0, x1, x2⟩ := HX1.out _ hSw; obtain ⟨c0, c1, c2, c3, c4, _⟩ := HC.out _ x2; obtain ⟨q0, q1, q2, q3⟩ := cell4 x1; obtain ⟨p0, p1, _⟩ := row2 x0; go_simp; try with_reducible rfl)
  try refine kNK ?_
  refine kTK (v := ?_) 5 [] hHeld ?y6 ?_
  case y6 => (intro W hSw; obtain ⟨x0, x1, x2⟩ := HX1.out _ hSw; obtain ⟨c0, c1, c2, c3, c4, _⟩ := HC.out _ x2; obtain ⟨q0, q1, q2, q3⟩ := cell4 x1; obtain ⟨p0, p1, _⟩ := row2 x0; go_simp; try with_reducible rfl)
  try refine kNK ?_
  refine kPK 6 fun KQ hKQ => ?_
  go_simp
  go_at_call 41
  refine (HLN.out _ (HX1.out _ HD0.out).2.2).mono ?_
  rintro e w1 ⟨rfl, hb1⟩
  have HB1 := Lib.hid (Below.later (HX1.out _ HD0.out).2.2 hb1 (HX1.out _ HD0.out).2.2.size)
  clear hb1
  go_wp2_with fail
  refine hKQ.out _ _ ?_
  clear hKQ KQ
  try refine kNK ?_
  refine kBK 7 ?_
  try refine kNK ?_
  refine wpAnyK_done (by kernel_rfl) ?_ _
  refine NoPanic.normal ?_
  go_wp2_with fail
  go_ret
  exact ⟨rfl, HB1.out⟩
end Go.Proofs.YtliacdaddncmaaaGreatDoor
