import Derived.Test.YtncgigapgklhcaaGreatDoorHG
import Derived.Test.YtncgigapgklhcaaGreatDoorHI
import Derived.Test.YtncgigapgklhcaaGreatDoorHK

set_option maxRecDepth 100000
set_option maxHeartbeats 16000000
namespace Go.Proofs.YtncgigapgklhcaaGreatDoor
open Go.RowKit
set_option linter.unusedSimpArgs false
set_option linter.unusedVariables false
/- Walks: a screen's Set, Lines, Chars. -/
section
attribute [local go_sem] alloc_drewN setCell_drewN World.cell?_alloc_some frozen_alloc_some size_f0 size_f1
theorem linesD_R (D : Vz.Gd) (row : Nat) (n : Int) (x : Vz.Cl) (gd : Bool) : (linesD D row n x gd).R = D.R ∧ (linesD D row n x gd).C = D.C := by
 unfold linesD
 split
 · exact ⟨rfl, rfl⟩
 · exact ⟨rfl, rfl⟩
theorem charsD_R (D : Vz.Gd) (row col : Nat) (n : Int) (x : Vz.Cl) (gd : Bool) : (charsD D row col n x gd).R = D.R ∧ (charsD D row col n x gd).C = D.C := by
 unfold charsD
 split
 · split
   · exact ⟨rfl, rfl⟩
   · exact ⟨rfl, rfl⟩
 · exact ⟨rfl, rfl⟩
theorem wipeD_R (D : Vz.Gd) (a b : Vz.Ps) (x : Vz.Cl) (gd : Bool) : (wipeD D a b x gd).R = D.R ∧ (wipeD D a b x gd).C = D.C := by
 unfold wipeD
 split
 · exact ⟨rfl, rfl⟩
 · exact ⟨rfl, rfl⟩
theorem scr_lines (sp : Nat) (F : Nat → Prop) (S : Vz.Sr) (n : Int) (c : Vz.Cl) (gd : Bool) (w : World) (h : Scr w sp F S) : Calls Tryz.prog 109 #[.pointer (some ⟨sp, 0, none⟩), .int .i64 n, .agg #[.int .i32 c.g, .int .i64 c.a, .bool c.gd, .int .i64 c.m], .bool gd] w fun e w' => e = .returned (.tuple #[]) ∧ ScrTo w w' sp F { S with D := linesD S.D S.pl.at_.row.toNat n c gd } := by
 obtain ⟨i, j, hp, hi, hj⟩ := Ps.nats h.here.1
 obtain ⟨gp, tp, mb, FG, hA, hF, HC, hlt⟩ := h.held
 have hrow : S.pl.at_.row.toNat = i := by rw [hp]; rfl
 have HB : Hid (Below w.heap.size w (w.alloc (.cells (cellB c) 56))) := below1 _ _
 have HX1 : Hid (∀ W, Below (w.heap.size + 1) (w.alloc (.cells (cellB c) 56)) W → W.heap[w.heap.size]? = some (.cells (cellB c) 56 (0, 0)) ∧ Below w.heap.size w W) := fun W hb => ⟨(hb.block _ (by omega)).trans (heap_alloc_new w _), Below.later HB.out (hb.mono (by simp)) HB.out.size⟩
 have HD0 : Hid (Below (w.heap.size + 1) (w.alloc (.cells (cellB c) 56)) (w.alloc (.cells (cellB c) 56)).drew) := (Below.refl _ _).drew
 have HLN := Lib.hid (fun W (hb : Below w.heap.size w W) => lines_ok gp FG S.D i n c gd W (hA.grid.below hb) hi)
 have HEND : Hid (∀ W w', Below w.heap.size w W → GridTo W w' gp FG (linesD S.D i n c gd) → ScrTo w w' sp F { S with D := linesD S.D i n c gd }) := fun W w' hb hg => ScrTo.after hb (Scr.gridTo (hA.below hb) hF hg (linesD_R _ _ _ _ _).1 (linesD_R _ _ _ _ _).2)
 rw [hp] at HC
 rw [hrow]
 clear hA hF h hrow hp
 generalize linesD S.D i n c gd = D' at *
 unfold cellB at *
 go_enter Tryz.func109, Tryz.ntmps109
 go_upto_region 2 with fail
 refine wp_region_noPanic ?_
 refine wp_region_k (S := fun W : World => Below (w.heap.size + 1) (w.alloc (.cells #[.int .i32 c.g, .int .i64 c.a, .bool c.gd, .int .i64 c.m] 56)) W) 13 (by kernel_rfl) (HD0.out) (fun hHeld => ?_)
 refine kSK 0 hHeld ?_
 refine kSK 1 hHeld ?_
 refine kSK 2 hHeld ?_
 refine kTK (v := ?_) 3 [] hHeld ?y4 ?_
 case y4 => (intro W hSw; obtain ⟨x0, x1⟩ := HX1.out _ hSw; obtain ⟨c0, c1, c2, c3, c4, _⟩ := HC.out _ x1; obtain ⟨q0, q1, q2, q3⟩ := cell4 x0; go_simp; try with_reducible rfl)
 refine kSK 4 hHeld ?_
 try refine kNK ?_
 refine kSK 5 hHeld ?_
 refine kSK 6 hHeld ?_
 refine kSK 7 hHeld ?_
 refine kSK 8 hHeld ?_
 refine kTK (v := ?_) 9 [] hHeld ?y10 ?_
 case y10 => (intro W hSw; obtain ⟨x0, x1⟩ := HX1.out _ hSw; obtain ⟨c0, c1, c2, c3, c4, _⟩ := HC.out _ x1; obtain ⟨q0, q1, q2, q3⟩ := cell4 x0; go_simp; try with_reducible rfl)
 try refine kNK ?_
 refine kSK 10 hHeld ?_
 refine kTK (v := ?_) 11 [] hHeld ?y12 ?_
 case y12 => (intro W hSw; obtain ⟨x0, x1⟩ := HX1.out _ hSw; obtain ⟨c0, c1, c2, c3, c4, _⟩ := HC.out _ x1; obtain ⟨q0, q1, q2, q3⟩ := cell4 x0; go_simp; try with_reducible rfl)
 refine kSK 12 hHeld ?_
 try refine kNK ?_
 refine kPK 13 fun KQ hKQ => ?_
 go_simp
 go_at_call 134
 refine (HLN.out _ (HX1.out _ HD0.out).2).mono ?_
 rintro e w1 ⟨rfl, hg⟩
 have HG := Lib.hid hg
 clear hg
 go_wp2_with fail
 refine hKQ.out _ _ ?_
 clear hKQ KQ
 try refine kNK ?_
 refine wpAnyK_done (by kernel_rfl) ?_ _
 refine NoPanic.normal ?_
 go_wp2_with fail
 go_end0
 exact ⟨rfl, HEND.out _ _ (HX1.out _ HD0.out).2 HG.out⟩
theorem scr_chars (sp : Nat) (F : Nat → Prop) (S : Vz.Sr) (n : Int) (c : Vz.Cl) (gd : Bool) (w : World) (h : Scr w sp F S) : Calls Tryz.prog 110 #[.pointer (some ⟨sp, 0, none⟩), .int .i64 n, .agg #[.int .i32 c.g, .int .i64 c.a, .bool c.gd, .int .i64 c.m], .bool gd] w fun e w' => e = .returned (.tuple #[]) ∧ ScrTo w w' sp F { S with D := charsD S.D S.pl.at_.row.toNat S.pl.at_.col.toNat n c gd } := by
 obtain ⟨i, j, hp, hi, hj⟩ := Ps.nats h.here.1
 obtain ⟨gp, tp, mb, FG, hA, hF, HC, hlt⟩ := h.held
 have hrow : S.pl.at_.row.toNat = i := by rw [hp]; rfl
 have hcol : S.pl.at_.col.toNat = j := by rw [hp]; rfl
 have HB : Hid (Below w.heap.size w (w.alloc (.cells (cellB c) 56))) := below1 _ _
 have HX1 : Hid (∀ W, Below (w.heap.size + 1) (w.alloc (.cells (cellB c) 56)) W → W.heap[w.heap.size]? = some (.cells (cellB c) 56 (0, 0)) ∧ Below w.heap.size w W) := fun W hb => ⟨(hb.block _ (by omega)).trans (heap_alloc_new w _), Below.later HB.out (hb.mono (by simp)) HB.out.size⟩
 have HD0 : Hid (Below (w.heap.size + 1) (w.alloc (.cells (cellB c) 56)) (w.alloc (.cells (cellB c) 56)).drew) := (Below.refl _ _).drew
 have HLN := Lib.hid (fun W (hb : Below w.heap.size w W) => chars_ok gp FG S.D i j n c gd W (hA.grid.below hb) hi hj)
 have HEND : Hid (∀ W w', Below w.heap.size w W → GridTo W w' gp FG (charsD S.D i j n c gd) → ScrTo w w' sp F { S with D := charsD S.D i j n c gd }) := fun W w' hb hg => ScrTo.after hb (Scr.gridTo (hA.below hb) hF hg (charsD_R _ _ _ _ _ _).1 (charsD_R _ _ _ _ _ _).2)
 rw [hp] at HC
 rw [hrow, hcol]
 clear hA hF h hrow hcol hp
 generalize charsD S.D i j n c gd = D' at *
 unfold cellB at *
 go_enter Tryz.func110, Tryz.ntmps110
 go_upto_region 2 with fail
 refine wp_region_noPanic ?_
 refine wp_region_k (S := fun W : World => Below (w.heap.size + 1) (w.alloc (.cells #[.int .i32 c.g, .int .i64 c.a, .bool c.gd, .int .i64 c.m] 56)) W) 12 (by kernel_rfl) (HD0.out) (fun hHeld => ?_)
 refine kSK 0 hHeld ?_
 refine kSK 1 hHeld ?_
 refine kSK 2 hHeld ?_
 refine kTK (v := ?_) 3 [] hHeld ?y4 ?_
 case y4 => (intro W hSw; obtain ⟨x0, x1⟩ := HX1.out _ hSw; obtain ⟨c0, c1, c2, c3, c4, _⟩ := HC.out _ x1; obtain ⟨q0, q1, q2, q3⟩ := cell4 x0; go_simp; try with_reducible rfl)
 refine kSK 4 hHeld ?_
 try refine kNK ?_
 refine kSK 5 hHeld ?_
 refine kSK 6 hHeld ?_
 refine kSK 7 hHeld ?_
 refine kTK (v := ?_) 8 [] hHeld ?y9 ?_
 case y9 => (intro W hSw; obtain ⟨x0, x1⟩ := HX1.out _ hSw; obtain ⟨c0, c1, c2, c3, c4, _⟩ := HC.out _ x1; obtain ⟨q0, q1, q2, q3⟩ := cell4 x0; go_simp; try with_reducible rfl)
 refine kSK 9 hHeld ?_
 try refine kNK ?_
 refine kTK (v := ?_) 10 [] hHeld ?y11 ?_
 case y11 => (intro W hSw; obtain ⟨x0, x1⟩ := HX1.out _ hSw; obtain ⟨c0, c1, c2, c3, c4, _⟩ := HC.out _ x1; obtain ⟨q0, q1, q2, q3⟩ := cell4 x0; go_simp; try with_reducible rfl)
 refine kSK 11 hHeld ?_
 try refine kNK ?_
 refine kPK 12 fun KQ hKQ => ?_
 go_simp
 go_at_call 135
 refine (HLN.out _ (HX1.out _ HD0.out).2).mono ?_
 rintro e w1 ⟨rfl, hg⟩
 have HG := Lib.hid hg
 clear hg
 go_wp2_with fail
 refine hKQ.out _ _ ?_
 clear hKQ KQ
 try refine kNK ?_
 refine wpAnyK_done (by kernel_rfl) ?_ _
 refine NoPanic.normal ?_
 go_wp2_with fail
 go_end0
 exact ⟨rfl, HEND.out _ _ (HX1.out _ HD0.out).2 HG.out⟩
theorem scr_wipe (sp : Nat) (F : Nat → Prop) (S : Vz.Sr) (a b : Vz.Ps) (c : Vz.Cl) (gd : Bool) (w : World) (h : Scr w sp F S) : Calls Tryz.prog 90 #[.pointer (some ⟨sp, 0, none⟩), .agg #[.int .i64 a.row, .int .i64 a.col], .agg #[.int .i64 b.row, .int .i64 b.col], .agg #[.int .i32 c.g, .int .i64 c.a, .bool c.gd, .int .i64 c.m], .bool gd] w fun e w' => e = .returned (.tuple #[]) ∧ ScrTo w w' sp F { S with D := wipeD S.D (Vz.nearP S.D.R S.D.C a) (Vz.nearP S.D.R S.D.C b) c gd } := by
 obtain ⟨gp, tp, mb, FG, hA, hF, HC, hlt⟩ := h.held
 have HSZ := Lib.hid (fun W (hb : Below w.heap.size w W) => scr_size sp F S W (h.below hb))
 have HNA := Lib.hid (near_pos S.D.R S.D.C a.row a.col)
 have HNB := Lib.hid (near_pos S.D.R S.D.C b.row b.col)
 have hmay := Vz.Gd.may_mayS hA.grid.may
 have hia := Vz.nearP_in S.D.R S.D.C a hmay
 have hib := Vz.nearP_in S.D.R S.D.C b hmay
 have HWI := Lib.hid (fun W (hb : Below w.heap.size w W) => wipe_ok gp FG S.D (Vz.nearP S.D.R S.D.C a) (Vz.nearP S.D.R S.D.C b) c gd W (hA.grid.below hb) hia hib)
 have HB : Hid (Below w.heap.size w (((w.alloc (.cells #[.int .i64 a.row, .int .i64 a.col] 36)).alloc (.cells #[.int .i64 b.row, .int .i64 b.col] 36)).alloc (.cells (cellB c) 56))) := Grows.below ((((Grows.refl w).alloc _).alloc _).alloc _)
 have HX1 : Hid (∀ W, Below (w.heap.size + 1 + 1 + 1) (((w.alloc (.cells #[.int .i64 a.row, .int .i64 a.col] 36)).alloc (.cells #[.int .i64 b.row, .int .i64 b.col] 36)).alloc (.cells (cellB c) 56)) W → W.heap[w.heap.size]? = some (.cells #[.int .i64 a.row, .int .i64 a.col] 36 (0, 0)) ∧ W.heap[w.heap.size + 1]? = some (.cells #[.int .i64 b.row, .int .i64 b.col] 36 (0, 0)) ∧ W.heap[w.heap.size + 1 + 1]? = some (.cells (cellB c) 56 (0, 0)) ∧ Below w.heap.size w W) := fun W hb => box3 (hb.mono (by simp))
 have HD0 : Hid (Below (w.heap.size + 1 + 1 + 1) (((w.alloc (.cells #[.int .i64 a.row, .int .i64 a.col] 36)).alloc (.cells #[.int .i64 b.row, .int .i64 b.col] 36)).alloc (.cells (cellB c) 56)) (((w.alloc (.cells #[.int .i64 a.row, .int .i64 a.col] 36)).alloc (.cells #[.int .i64 b.row, .int .i64 b.col] 36)).alloc (.cells (cellB c) 56)).drew) := (Below.refl _ _).drew
 have HLE : Hid (∀ W, Below (w.heap.size + 1 + 1 + 1) (((w.alloc (.cells #[.int .i64 a.row, .int .i64 a.col] 36)).alloc (.cells #[.int .i64 b.row, .int .i64 b.col] 36)).alloc (.cells (cellB c) 56)) W → w.heap.size + 1 + 1 + 1 ≤ W.heap.size) := fun W hb => Nat.le_trans (by simp) hb.size
 have HEND : Hid (∀ W w', Below w.heap.size w W → Grid w' gp FG (wipeD S.D (Vz.nearP S.D.R S.D.C a) (Vz.nearP S.D.R S.D.C b) c gd) → Keeps FG W w' → ScrTo w w' sp F { S with D := wipeD S.D (Vz.nearP S.D.R S.D.C a) (Vz.nearP S.D.R S.D.C b) c gd }) := fun W w' hb hg hk => ScrTo.after hb (Scr.gridTo (hA.below hb) hF ⟨⟨FG, hg, fun k hk => .inl hk⟩, hk⟩ (wipeD_R _ _ _ _ _).1 (wipeD_R _ _ _ _ _).2)
 clear hA hF h hmay hia hib
 generalize wipeD S.D (Vz.nearP S.D.R S.D.C a) (Vz.nearP S.D.R S.D.C b) c gd = D' at *
 generalize hqa : Vz.nearP S.D.R S.D.C a = qa at *
 generalize hqb : Vz.nearP S.D.R S.D.C b = qb at *
 clear hqa hqb
 generalize a.row = ar at *
 generalize a.col = ac at *
 generalize b.row = br at *
 generalize b.col = bc at *
 unfold cellB at *
 go_enter Tryz.func90, Tryz.ntmps90
 go_upto_region 2 with fail
 refine wp_region_noPanic ?_
 refine wp_region_k (S := fun W : World => Below (w.heap.size + 1 + 1 + 1) (((w.alloc (.cells #[.int .i64 ar, .int .i64 ac] 36)).alloc (.cells #[.int .i64 br, .int .i64 bc] 36)).alloc (.cells #[.int .i32 c.g, .int .i64 c.a, .bool c.gd, .int .i64 c.m] 56)) W) 14 (by kernel_rfl) (HD0.out) (fun hHeld => ?_)
 refine kSK 0 hHeld ?_
 refine kSK 1 hHeld ?_
 refine kSK 2 hHeld ?_
 refine kTK (v := ?_) 3 [] hHeld ?y4 ?_
 case y4 => (intro W hSw; obtain ⟨x0, x1, x2, x3⟩ := HX1.out _ hSw; obtain ⟨c0, c1, c2, c3, c4, _⟩ := HC.out _ x3; obtain ⟨q0, q1, q2, q3⟩ := cell4 x2; obtain ⟨p0, p1, _⟩ := row2 x0; obtain ⟨r0, r1, _⟩ := row2 x1; go_simp; try with_reducible rfl)
 refine kSK 4 hHeld ?_
 try refine kNK ?_
 refine kTK (v := ?_) 6 [7] hHeld ?y6 ?_
 case y6 => (intro W hSw; obtain ⟨x0, x1, x2, x3⟩ := HX1.out _ hSw; obtain ⟨c0, c1, c2, c3, c4, _⟩ := HC.out _ x3; obtain ⟨q0, q1, q2, q3⟩ := cell4 x2; obtain ⟨p0, p1, _⟩ := row2 x0; obtain ⟨r0, r1, _⟩ := row2 x1; go_simp; try with_reducible rfl)
 refine kSK 8 hHeld ?_
 refine kTK (v := ?_) 10 [11] hHeld ?y8 ?_
 case y8 => (intro W hSw; obtain ⟨x0, x1, x2, x3⟩ := HX1.out _ hSw; obtain ⟨c0, c1, c2, c3, c4, _⟩ := HC.out _ x3; obtain ⟨q0, q1, q2, q3⟩ := cell4 x2; obtain ⟨p0, p1, _⟩ := row2 x0; obtain ⟨r0, r1, _⟩ := row2 x1; go_simp; try with_reducible rfl)
 refine kTK (v := ?_) 12 [] hHeld ?y9 ?_
 case y9 => (intro W hSw; obtain ⟨x0, x1, x2, x3⟩ := HX1.out _ hSw; obtain ⟨c0, c1, c2, c3, c4, _⟩ := HC.out _ x3; obtain ⟨q0, q1, q2, q3⟩ := cell4 x2; obtain ⟨p0, p1, _⟩ := row2 x0; obtain ⟨r0, r1, _⟩ := row2 x1; go_simp; try with_reducible rfl)
 refine kSK 13 hHeld ?_
 try refine kNK ?_
 refine kOK 5 fun KQ hKQ => ?_
 go_simp
 go_at_call 89
 refine (HSZ.out _ (HX1.out _ hHeld).2.2.2).mono ?_
 rintro e wa ⟨rfl, hba⟩
 have HBa := Lib.hid (hHeld.trans (hba.mono (HLE.out _ hHeld)))
 clear hba
 go_wp2_with fail
 refine hKQ.out _ _ (HBa.out) ?_
 clear hHeld hKQ KQ
 intro hHeld
 try refine kNK ?_
 refine kOK 7 fun KQ hKQ => ?_
 go_simp
 go_at_call 91
 refine (HNA.out _).mono ?_
 rintro e wb ⟨rfl, hgb⟩
 have HBb := Lib.hid (hHeld.trans (hgb.below.mono (HLE.out _ hHeld)))
 clear hgb
 go_wp2_with fail
 refine hKQ.out _ _ (HBb.out) ?_
 clear hHeld hKQ KQ
 intro hHeld
 try refine kNK ?_
 refine kOK 9 fun KQ hKQ => ?_
 go_simp
 go_at_call 89
 refine (HSZ.out _ (HX1.out _ hHeld).2.2.2).mono ?_
 rintro e wc ⟨rfl, hbc⟩
 have HBc := Lib.hid (hHeld.trans (hbc.mono (HLE.out _ hHeld)))
 clear hbc
 go_wp2_with fail
 refine hKQ.out _ _ (HBc.out) ?_
 clear hHeld hKQ KQ
 intro hHeld
 try refine kNK ?_
 refine kOK 11 fun KQ hKQ => ?_
 go_simp
 go_at_call 91
 refine (HNB.out _).mono ?_
 rintro e wd ⟨rfl, hgd⟩
 have HBd := Lib.hid (hHeld.trans (hgd.below.mono (HLE.out _ hHeld)))
 clear hgd
 go_wp2_with fail
 refine hKQ.out _ _ (HBd.out) ?_
 clear hHeld hKQ KQ
 intro hHeld
 try refine kNK ?_
 refine kPK 14 fun KQ hKQ => ?_
 go_simp
 go_at_call 113
 refine (HWI.out _ (HX1.out _ hHeld).2.2.2).mono ?_
 rintro e w1 ⟨⟨n, k, rfl⟩, hg, hk⟩
 have HG := Lib.hid (HEND.out _ _ (HX1.out _ hHeld).2.2.2 hg hk)
 clear hg hk
 go_wp2_with fail
 refine hKQ.out _ _ ?_
 clear hKQ KQ
 try refine kNK ?_
 refine wpAnyK_done (by kernel_rfl) ?_ _
 refine NoPanic.normal ?_
 go_wp2_with fail
 go_end0
 exact ⟨rfl, HG.out⟩
end
end Go.Proofs.YtncgigapgklhcaaGreatDoor
