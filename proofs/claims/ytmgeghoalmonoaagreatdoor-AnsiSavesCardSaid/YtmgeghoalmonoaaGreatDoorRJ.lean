import Derived.Test.YtmgeghoalmonoaaGreatDoorRG
import Derived.Test.YtmgeghoalmonoaaGreatDoorRE
import Derived.Test.YtmgeghoalmonoaaGreatDoorRH
import Derived.Test.YtmgeghoalmonoaaGreatDoorRA
import Derived.ScopeJumps
import Derived.WalkMore
import Derived.Test.YtmgeghoalmonoaaGreatDoorRI

set_option maxRecDepth 100000
set_option maxHeartbeats 16000000
namespace Go.Proofs.YtmgeghoalmonoaaGreatDoor
open Go.RowKit
set_option linter.unusedSimpArgs false
set_option linter.unusedVariables false
/- Walks: a screen's Set, Lines, Chars. -/
section
attribute [local go_sem] alloc_drewN setCell_drewN World.cell?_alloc_some frozen_alloc_some size_f0 size_f1
theorem wipeD_R (D : Vz.Gd) (a b : Vz.Ps) (x : Vz.Cl) (gd : Bool) : (wipeD D a b x gd).R = D.R ∧ (wipeD D a b x gd).C = D.C := by
 unfold wipeD
 split
 · exact ⟨rfl, rfl⟩
 · exact ⟨rfl, rfl⟩
theorem scr_wipe (sp : Nat) (F : Nat → Prop) (S : Vz.Sr) (a b : Vz.Ps) (c : Vz.Cl) (gd : Bool) (w : World) (h : Scr w sp F S) : Calls Tryz.prog 58 #[.pointer (some ⟨sp, 0, none⟩), .agg #[.int .i64 a.row, .int .i64 a.col], .agg #[.int .i64 b.row, .int .i64 b.col], .agg #[.int .i32 c.g, .int .i64 c.a, .bool c.gd, .int .i64 c.m], .bool gd] w fun e w' => e = .returned (.tuple #[]) ∧ ScrTo w w' sp F { S with D := wipeD S.D (Vz.nearP S.D.R S.D.C a) (Vz.nearP S.D.R S.D.C b) c gd } := by
 obtain ⟨gp, tp, mb, FG, hA, hF, HC, hlt⟩ := h.held
 have HSZ := Lib.hid (fun W (hb : Below w.heap.size w W) => scr_size sp F S W (h.below hb))
 have HNA := Lib.hid (near_pos S.D.R S.D.C a.row a.col)
 have HNB := Lib.hid (near_pos S.D.R S.D.C b.row b.col)
 have hmay := Vz.Gd.may_mayS hA.grid.may
 have hia := Vz.nearP_in S.D.R S.D.C a hmay
 have hib := Vz.nearP_in S.D.R S.D.C b hmay
 have HWI := Lib.hid (fun W (hb : Below w.heap.size w W) => wipe_ok gp FG S.D (Vz.nearP S.D.R S.D.C a) (Vz.nearP S.D.R S.D.C b) c gd W (hA.grid.below hb) hia hib)
 have HB : Hid (Below w.heap.size w (((w.alloc (.cells #[.int .i64 a.row, .int .i64 a.col] 39)).alloc (.cells #[.int .i64 b.row, .int .i64 b.col] 39)).alloc (.cells (cellB c) 48))) := Grows.below ((((Grows.refl w).alloc _).alloc _).alloc _)
 have HX1 : Hid (∀ W, Below (w.heap.size + 1 + 1 + 1) (((w.alloc (.cells #[.int .i64 a.row, .int .i64 a.col] 39)).alloc (.cells #[.int .i64 b.row, .int .i64 b.col] 39)).alloc (.cells (cellB c) 48)) W → W.heap[w.heap.size]? = some (.cells #[.int .i64 a.row, .int .i64 a.col] 39 (0, 0)) ∧ W.heap[w.heap.size + 1]? = some (.cells #[.int .i64 b.row, .int .i64 b.col] 39 (0, 0)) ∧ W.heap[w.heap.size + 1 + 1]? = some (.cells (cellB c) 48 (0, 0)) ∧ Below w.heap.size w W) := fun W hb => box3 (hb.mono (by simp))
 have HD0 : Hid (Below (w.heap.size + 1 + 1 + 1) (((w.alloc (.cells #[.int .i64 a.row, .int .i64 a.col] 39)).alloc (.cells #[.int .i64 b.row, .int .i64 b.col] 39)).alloc (.cells (cellB c) 48)) (((w.alloc (.cells #[.int .i64 a.row, .int .i64 a.col] 39)).alloc (.cells #[.int .i64 b.row, .int .i64 b.col] 39)).alloc (.cells (cellB c) 48)).drew) := (Below.refl _ _).drew
 have HLE : Hid (∀ W, Below (w.heap.size + 1 + 1 + 1) (((w.alloc (.cells #[.int .i64 a.row, .int .i64 a.col] 39)).alloc (.cells #[.int .i64 b.row, .int .i64 b.col] 39)).alloc (.cells (cellB c) 48)) W → w.heap.size + 1 + 1 + 1 ≤ W.heap.size) := fun W hb => Nat.le_trans (by simp) hb.size
 have HEND : Hid (∀ W w', Below w.heap.size w W → Grid w' gp FG (wipeD S.D (Vz.nearP S.D.R S.D.C a) (Vz.nearP S.D.R S.D.C b) c gd) → Keeps FG W w' → ScrTo w w' sp F { S with D := wipeD S.D (Vz.nearP S.D.R S.D.C a) (Vz.nearP S.D.R S.D.C b) c gd }) := fun W w' hb hg hk => ScrTo.after hb (Scr.gridTo (hA.below hb) hF ⟨⟨FG, hg, fun k hk => .inl hk⟩, hk⟩ (wipeD_R _ _ _ _ _).1 (wipeD_R _ _ _ _ _).2)
 clear hA hF h hmay hia hib
 generalize wipeD S.D (Vz.nearP S.D.R S.D.C a) (Vz.nearP S.D.R S.D.C b) c gd = D' at *
 generalize hqa : Vz.nearP S.D.R S.D.C a = qa at *
 generalize hqb : Vz.nearP S.D.R S.D.C b = qb at *
 clear hqa hqb
 generalize a.row = ar at *
 generalize a.col = ac at *
 generalize b.row = br at *
 generalize b.col = bc at *
 unfold cellB at *
 go_enter Tryz.func58, Tryz.ntmps58
 go_upto_region 2 with fail
 refine wp_region_noPanic ?_
 refine wp_region_k (S := fun W : World => Below (w.heap.size + 1 + 1 + 1) (((w.alloc (.cells #[.int .i64 ar, .int .i64 ac] 39)).alloc (.cells #[.int .i64 br, .int .i64 bc] 39)).alloc (.cells #[.int .i32 c.g, .int .i64 c.a, .bool c.gd, .int .i64 c.m] 48)) W) 14 (by kernel_rfl) (HD0.out) (fun hHeld => ?_)
 refine kSK 0 hHeld ?_
 refine kSK 1 hHeld ?_
 refine kSK 2 hHeld ?_
 refine kTK (v := ?_) 3 [] hHeld ?y4 ?_
 case y4 => (intro W hSw; obtain ⟨x0, x1, x2, x3⟩ := HX1.out _ hSw; obtain ⟨c0, c1, c2, c3, c4, _⟩ := HC.out _ x3; obtain ⟨q0, q1, q2, q3⟩ := cell4 x2; obtain ⟨p0, p1, _⟩ := row2 x0; obtain ⟨r0, r1, _⟩ := row2 x1; go_simp; try with_reducible rfl)
 refine kSK 4 hHeld ?_
 try refine kNK ?_
 refine kTK (v := ?_) 6 [7] hHeld ?y6 ?_
 case y6 => (intro W hSw; obtain ⟨x0, x1, x2, x3⟩ := HX1.out _ hSw; obtain ⟨c0, c1, c2, c3, c4, _⟩ := HC.out _ x3; obtain ⟨q0, q1, q2, q3⟩ := cell4 x2; obtain ⟨p0, p1, _⟩ := row2 x0; obtain ⟨r0, r1, _⟩ := row2 x1; go_simp; try with_reducible rfl)
 refine kSK 8 hHeld ?_
 refine kTK (v := ?_) 10 [11] hHeld ?y8 ?_
 case y8 => (intro W hSw; obtain ⟨x0, x1, x2, x3⟩ := HX1.out _ hSw; obtain ⟨c0, c1, c2, c3, c4, _⟩ := HC.out _ x3; obtain ⟨q0, q1, q2, q3⟩ := cell4 x2; obtain ⟨p0, p1, _⟩ := row2 x0; obtain ⟨r0, r1, _⟩ := row2 x1; go_simp; try with_reducible rfl)
 refine kTK (v := ?_) 12 [] hHeld ?y9 ?_
 case y9 => (intro W hSw; obtain ⟨x0, x1, x2, x3⟩ := HX1.out _ hSw; obtain ⟨c0, c1, c2, c3, c4, _⟩ := HC.out _ x3; obtain ⟨q0, q1, q2, q3⟩ := cell4 x2; obtain ⟨p0, p1, _⟩ := row2 x0; obtain ⟨r0, r1, _⟩ := row2 x1; go_simp; try with_reducible rfl)
 refine kSK 13 hHeld ?_
 try refine kNK ?_
 refine kOK 5 fun KQ hKQ => ?_
 go_simp
 go_at_call 59
 refine (HSZ.out _ (HX1.out _ hHeld).2.2.2).mono ?_
 rintro e wa ⟨rfl, hba⟩
 have HBa := Lib.hid (hHeld.trans (hba.mono (HLE.out _ hHeld)))
 clear hba
 go_wp2_with fail
 refine hKQ.out _ _ (HBa.out) ?_
 clear hHeld hKQ KQ
 intro hHeld
 try refine kNK ?_
 refine kOK 7 fun KQ hKQ => ?_
 go_simp
 go_at_call 60
 refine (HNA.out _).mono ?_
 rintro e wb ⟨rfl, hgb⟩
 have HBb := Lib.hid (hHeld.trans (hgb.below.mono (HLE.out _ hHeld)))
 clear hgb
 go_wp2_with fail
 refine hKQ.out _ _ (HBb.out) ?_
 clear hHeld hKQ KQ
 intro hHeld
 try refine kNK ?_
 refine kOK 9 fun KQ hKQ => ?_
 go_simp
 go_at_call 59
 refine (HSZ.out _ (HX1.out _ hHeld).2.2.2).mono ?_
 rintro e wc ⟨rfl, hbc⟩
 have HBc := Lib.hid (hHeld.trans (hbc.mono (HLE.out _ hHeld)))
 clear hbc
 go_wp2_with fail
 refine hKQ.out _ _ (HBc.out) ?_
 clear hHeld hKQ KQ
 intro hHeld
 try refine kNK ?_
 refine kOK 11 fun KQ hKQ => ?_
 go_simp
 go_at_call 60
 refine (HNB.out _).mono ?_
 rintro e wd ⟨rfl, hgd⟩
 have HBd := Lib.hid (hHeld.trans (hgd.below.mono (HLE.out _ hHeld)))
 clear hgd
 go_wp2_with fail
 refine hKQ.out _ _ (HBd.out) ?_
 clear hHeld hKQ KQ
 intro hHeld
 try refine kNK ?_
 refine kPK 14 fun KQ hKQ => ?_
 go_simp
 go_at_call 83
 refine (HWI.out _ (HX1.out _ hHeld).2.2.2).mono ?_
 rintro e w1 ⟨⟨n, k, rfl⟩, hg, hk⟩
 have HG := Lib.hid (HEND.out _ _ (HX1.out _ hHeld).2.2.2 hg hk)
 clear hg hk
 go_wp2_with fail
 refine hKQ.out _ _ ?_
 clear hKQ KQ
 try refine kNK ?_
 refine wpAnyK_done (by kernel_rfl) ?_ _
 refine NoPanic.normal ?_
 go_wp2_with fail
 go_end0
 exact ⟨rfl, HG.out⟩
end
end Go.Proofs.YtmgeghoalmonoaaGreatDoor
