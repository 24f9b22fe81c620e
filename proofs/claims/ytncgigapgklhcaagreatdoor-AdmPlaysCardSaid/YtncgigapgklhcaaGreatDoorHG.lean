import Derived.Test.YtncgigapgklhcaaGreatDoorHF
import Derived.Defers

set_option maxRecDepth 100000
set_option maxHeartbeats 16000000
namespace Go.Proofs.YtncgigapgklhcaaGreatDoor
open Go.RowKit
set_option linter.unusedSimpArgs false
set_option linter.unusedVariables false
/- Walks: a screen's Size, Cursor, At, Set, Move, Step. -/
section
attribute [local go_sem] alloc_drewN setCell_drewN World.cell?_alloc_some frozen_alloc_some size_f0 size_f1
theorem Scr.cells {W : World} {sp : Nat} {F : Nat → Prop} {S : Vz.Sr} (h : Scr W sp F S) : ∃ gp tp mb FG, ScrAt W sp gp tp mb FG S ∧ (∀ k, F k ↔ footS sp tp mb FG k) ∧ (W.cell? ⟨sp, 0, none⟩ = some (.int .i64 S.pl.at_.row) ∧ W.cell? ⟨sp, 1, none⟩ = some (.int .i64 S.pl.at_.col) ∧ W.cell? ⟨sp, 2, none⟩ = some (.bool S.pl.pend) ∧ W.cell? ⟨sp, 3, none⟩ = some (.pointer (some ⟨gp, 0, none⟩)) ∧ W.cell? ⟨sp, 4, none⟩ = some (.pointer (some ⟨tp, 0, none⟩)) ∧ W.frozen? ⟨sp, 0, none⟩ = false ∧ W.frozen? ⟨sp, 1, none⟩ = false ∧ W.frozen? ⟨sp, 2, none⟩ = false) ∧ sp < W.heap.size := by
 obtain ⟨gp, tp, mb, FG, h, hF⟩ := h
 obtain ⟨h0, h1, h2, h3, h4, f0, f1, f2, _⟩ := row5' h.box
 exact ⟨gp, tp, mb, FG, h, hF, ⟨h0, h1, h2, h3, h4, f0, f1, f2⟩, block_lt h.box⟩
theorem set_two {W : World} {g : Nat} {a b : Value} {t : TypeId} (h : W.heap[g]? = some (.cells #[a, b] t (0, 0))) (u0 u1 : Value) :
 ((W.setCell ⟨g, 0, none⟩ u0).setCell ⟨g, 1, none⟩ u1).heap[g]? = some (.cells #[u0, u1] t (0, 0)) := by
 have h0 := heap_set_same h 0 u0
 have h1 := heap_set_same h0 1 u1
 exact h1
theorem scr_size (sp : Nat) (F : Nat → Prop) (S : Vz.Sr) (w : World) (h : Scr w sp F S) : Calls Tryz.prog 89 #[.pointer (some ⟨sp, 0, none⟩)] w fun e w' => e = .returned (.agg #[.int .i64 S.D.R, .int .i64 S.D.C]) ∧ Below w.heap.size w w' := by
 obtain ⟨gp, tp, mb, FG, hA, hF, ⟨c0, c1, c2, c3, c4, f0, f1, f2⟩, hlt⟩ := h.cells
 have HB : Hid (Below w.heap.size w (w.alloc (.cells #[.int .i64 0, .int .i64 0] 23))) := below1 _ _
 have HC := Lib.hid (gsize_ok gp FG S.D _ (hA.grid.below HB.out))
 have HN := Lib.hid (heap_alloc_new w (.cells #[.int .i64 0, .int .i64 0] 23))
 clear hA hF h
 go_enter Tryz.func89, Tryz.ntmps89
 go_wp2_with (go_at_call 60; refine HC.out.mono ?_; rintro e w1 ⟨rfl, hb1⟩; have HN1 := Lib.hid ((hb1.block _ (block_lt HN.out)).trans HN.out); obtain ⟨b0, b1, g0, g1⟩ := row2 HN1.out; have HB1 := Lib.hid (Below.later HB.out hb1 HB.out.size); clear hb1)
 obtain ⟨r0, r1, _⟩ := row2 (set_two HN1.out (.int .i64 S.D.R) (.int .i64 S.D.C))
 refine bodyPost_ret (v := .agg #[.int .i64 S.D.R, .int .i64 S.D.C]) (by simp [results, Tryz.results89, go_sem, r0, r1]) rfl ⟨rfl, ?_⟩
 exact (HB1.out.setCell (p := ⟨w.heap.size, 0, none⟩) (Nat.le_refl _) _).setCell (p := ⟨w.heap.size, 1, none⟩) (Nat.le_refl _) _
theorem Scr.held {W : World} {sp : Nat} {F : Nat → Prop} {S : Vz.Sr} (h : Scr W sp F S) : ∃ gp tp mb FG, ScrAt W sp gp tp mb FG S ∧ (∀ k, F k ↔ footS sp tp mb FG k) ∧ Hid (∀ W', Below W.heap.size W W' → (W'.cell? ⟨sp, 0, none⟩ = some (.int .i64 S.pl.at_.row) ∧ W'.cell? ⟨sp, 1, none⟩ = some (.int .i64 S.pl.at_.col) ∧ W'.cell? ⟨sp, 2, none⟩ = some (.bool S.pl.pend) ∧ W'.cell? ⟨sp, 3, none⟩ = some (.pointer (some ⟨gp, 0, none⟩)) ∧ W'.cell? ⟨sp, 4, none⟩ = some (.pointer (some ⟨tp, 0, none⟩)) ∧ W'.frozen? ⟨sp, 0, none⟩ = false ∧ W'.frozen? ⟨sp, 1, none⟩ = false ∧ W'.frozen? ⟨sp, 2, none⟩ = false)) ∧ sp < W.heap.size := by
 obtain ⟨gp, tp, mb, FG, h, hF⟩ := h
 refine ⟨gp, tp, mb, FG, h, hF, fun W' hb => ?_, block_lt h.box⟩
 obtain ⟨h0, h1, h2, h3, h4, f0, f1, f2, _⟩ := row5' ((h.below hb).box)
 exact ⟨h0, h1, h2, h3, h4, f0, f1, f2⟩
theorem scr_cursor (sp : Nat) (F : Nat → Prop) (S : Vz.Sr) (w : World) (h : Scr w sp F S) : Calls Tryz.prog 14 #[.pointer (some ⟨sp, 0, none⟩)] w fun e w' => e = .returned (.tuple #[.agg #[.int .i64 S.pl.at_.row, .int .i64 S.pl.at_.col], .bool S.pl.pend]) ∧ Below w.heap.size w w' := by
 obtain ⟨gp, tp, mb, FG, hA, hF, HC, hlt⟩ := h.held
 have HB : Hid (Below w.heap.size w (w.alloc (.cells #[.int .i64 0, .int .i64 0] 36)).drew) := (below1 _ _).drew
 clear hA hF h
 go_enter Tryz.func14, Tryz.ntmps14
 go_upto_region 3 with fail
 refine wp_region_noPanic ?_
 refine wp_region_k (S := fun W : World => Below w.heap.size w W) 11 (by kernel_rfl) (HB.out) (fun hHeld => ?_)
 refine kSK 0 hHeld ?_
 refine kSK 1 hHeld ?_
 refine kSK 2 hHeld ?_
 refine kSK 3 hHeld ?_
 refine kTK (v := ?_) 4 [] hHeld ?y5 ?_
 case y5 => (intro W hSw; obtain ⟨c0, c1, c2, _⟩ := HC.out _ hSw; go_simp; try with_reducible rfl)
 try refine kNK ?_
 refine kSK 5 hHeld ?_
 refine kSK 6 hHeld ?_
 refine kSK 7 hHeld ?_
 refine kSK 8 hHeld ?_
 refine kTK (v := ?_) 9 [] hHeld ?y10 ?_
 case y10 => (intro W hSw; obtain ⟨c0, c1, c2, _⟩ := HC.out _ hSw; go_simp; try with_reducible rfl)
 try refine kNK ?_
 refine kOK 10 fun KQ hKQ => ?_
 go_simp
 refine hKQ.out _ _ ((below1 w _).drew) ?_
 clear hHeld hKQ KQ
 intro hHeld
 try refine kNK ?_
 refine kPK 11 fun KQ hKQ => ?_
 go_simp
 refine hKQ.out _ _ ?_
 clear hKQ KQ
 try refine kNK ?_
 refine wpAnyK_done (by kernel_rfl) ?_ _
 refine NoPanic.normal ?_
 go_wp2_with fail
 refine bodyPost_ret (v := .tuple #[.agg #[.int .i64 S.pl.at_.row, .int .i64 S.pl.at_.col], .bool S.pl.pend]) (by simp [results, Tryz.results14, go_sem]) rfl ⟨rfl, (below1 w _).drew⟩
theorem scr_at (sp : Nat) (F : Nat → Prop) (S : Vz.Sr) (p : Vz.Ps) (w : World) (h : Scr w sp F S) (hP : p.inS S.D.R S.D.C) : Calls Tryz.prog 25 #[.pointer (some ⟨sp, 0, none⟩), .agg #[.int .i64 p.row, .int .i64 p.col]] w fun e w' => e = .returned (.tuple #[.agg #[.int .i32 (atD S.D p).g, .int .i64 (atD S.D p).a, .bool (atD S.D p).gd, .int .i64 (atD S.D p).m], .int .i64 0]) ∧ Below w.heap.size w w' := by
 obtain ⟨gp, tp, mb, FG, hA, hF, HC, hlt⟩ := h.held
 have HAT := Lib.hid (fun W (hb : Below w.heap.size w W) => gat_ok gp FG S.D p W (hA.grid.below hb) hP)
 clear hA hF h hP
 generalize atD S.D p = x at *
 generalize p.row = pr at *
 generalize p.col = pc at *
 have HB : Hid (Below w.heap.size w ((w.alloc (.cells #[.int .i64 pr, .int .i64 pc] 36)).alloc (.cells #[.int .i32 0, .int .i64 0, .bool false, .int .i64 0] 56)).drew) := (Grows.below (((Grows.refl _).alloc _).alloc _)).drew
 obtain ⟨hn0, hn1⟩ := box2 (Below.refl ((w.alloc (.cells #[.int .i64 pr, .int .i64 pc] 36)).alloc (.cells #[.int .i32 0, .int .i64 0, .bool false, .int .i64 0] 56)).heap.size _)
 have HN0 := Lib.hid hn0
 have HN1 := Lib.hid hn1.1
 clear hn0 hn1
 go_enter Tryz.func25, Tryz.ntmps25
 go_upto_region 3 with fail
 refine wp_region_noPanic ?_
 refine wp_region_k (S := fun W : World => Below w.heap.size w W ∧ W.heap[w.heap.size]? = some (.cells #[.int .i64 pr, .int .i64 pc] 36 (0, 0))) 5 (by kernel_rfl) (⟨HB.out, HN0.out⟩) (fun hHeld => ?_)
 refine kSK 0 hHeld ?_
 refine kSK 1 hHeld ?_
 refine kSK 2 hHeld ?_
 refine kTK (v := ?_) 3 [] hHeld ?y4 ?_
 case y4 => (intro W hSw; obtain ⟨c0, c1, c2, c3, _⟩ := HC.out _ hSw.1; obtain ⟨p0, p1, _⟩ := row2 hSw.2; go_simp; try with_reducible rfl)
 refine kTK (v := ?_) 4 [] hHeld ?y5 ?_
 case y5 => (intro W hSw; obtain ⟨c0, c1, c2, c3, _⟩ := HC.out _ hSw.1; obtain ⟨p0, p1, _⟩ := row2 hSw.2; go_simp; try with_reducible rfl)
 try refine kNK ?_
 refine kPK 5 fun KQ hKQ => ?_
 go_simp
 go_at_call 39
 refine (HAT.out _ HB.out).mono ?_
 rintro e w1 ⟨rfl, hb1⟩
 have HB1 := Lib.hid (Below.later HB.out hb1 HB.out.size)
 have HX1 : Hid (w1.heap[w.heap.size + 1]? = some (.cells #[.int .i32 0, .int .i64 0, .bool false, .int .i64 0] 56 (0, 0))) := (hb1.block _ (block_lt HN1.out)).trans HN1.out
 go_wp2_with fail
 refine hKQ.out _ _ ?_
 clear hKQ KQ
 try refine kNK ?_
 obtain ⟨x0, x1, x2, x3, f0, f1, f2, f3⟩ := row4 HX1.out
 refine kBK 6 ?_
 refine kBK 7 ?_
 try refine kNK ?_
 refine kPK 8 fun KQ hKQ => ?_
 go_simp
 refine hKQ.out _ _ ?_
 clear hKQ KQ
 try refine kNK ?_
 refine kBK 9 ?_
 try refine kNK ?_
 refine wpAnyK_done (by kernel_rfl) ?_ _
 refine NoPanic.normal ?_
 go_wp2_with fail
 obtain ⟨r0, r1, r2, r3, _⟩ := row4 (set_four HX1.out (.int .i32 x.g) (.int .i64 x.a) (.bool x.gd) (.int .i64 x.m))
 refine bodyPost_ret (v := .tuple #[.agg #[.int .i32 x.g, .int .i64 x.a, .bool x.gd, .int .i64 x.m], .int .i64 0]) (by simp [results, Tryz.results25, go_sem, r0, r1, r2, r3]) rfl ⟨rfl, ?_⟩
 exact Below.set4 HB1.out (Nat.le_succ _) _ _ _ _
theorem scr_move (sp : Nat) (F : Nat → Prop) (S : Vz.Sr) (p : Vz.Ps) (w : World) (h : Scr w sp F S) : Calls Tryz.prog 59 #[.pointer (some ⟨sp, 0, none⟩), .agg #[.int .i64 p.row, .int .i64 p.col]] w fun e w' => e = .returned (.tuple #[]) ∧ ScrTo w w' sp F { S with pl := ⟨Vz.nearP S.D.R S.D.C p, false⟩ } := by
 obtain ⟨gp, tp, mb, FG, hA, hF, HC, hlt⟩ := h.held
 have hin := Vz.nearP_in S.D.R S.D.C p (Vz.Gd.may_mayS hA.grid.may)
 have HIN := Lib.hid hin
 have HSZ := Lib.hid (fun W (hb : Below w.heap.size w W) => scr_size sp F S W (h.below hb))
 have HP := Lib.hid (near_pos S.D.R S.D.C p.row p.col)
 have HFS : Hid (F sp) := (hF sp).2 (.inl rfl)
 have H := Lib.hid h
 clear hA hF h hin
 generalize hq : Vz.nearP S.D.R S.D.C p = q at *
 clear hq
 generalize p.row = pr at *
 generalize p.col = pc at *
 have HB : Hid (Below w.heap.size w (w.alloc (.cells #[.int .i64 pr, .int .i64 pc] 36)).drew) := (below1 _ _).drew
 have HN0 := Lib.hid (heap_alloc_new w (.cells #[.int .i64 pr, .int .i64 pc] 36))
 go_enter Tryz.func59, Tryz.ntmps59
 go_upto_region 2 with fail
 refine wp_region_noPanic ?_
 refine wp_region_k (S := fun W : World => Below w.heap.size w W ∧ W.heap[w.heap.size]? = some (.cells #[.int .i64 pr, .int .i64 pc] 36 (0, 0))) 4 (by kernel_rfl) (⟨HB.out, HN0.out⟩) (fun hHeld => ?_)
 refine kSK 0 hHeld ?_
 refine kSK 1 hHeld ?_
 refine kTK (v := ?_) 3 [] hHeld ?y3 ?_
 case y3 => (intro W hSw; obtain ⟨p0, p1, _⟩ := row2 hSw.2; go_simp; try with_reducible rfl)
 try refine kNK ?_
 refine kOK 2 fun KQ hKQ => ?_
 go_simp
 go_at_call 89
 refine (HSZ.out _ HB.out).mono ?_
 rintro e w1 ⟨rfl, hb1⟩
 have HB1 := Lib.hid (Below.later HB.out hb1 HB.out.size)
 have HX1 : Hid (w1.heap[w.heap.size]? = some (.cells #[.int .i64 pr, .int .i64 pc] 36 (0, 0))) := (hb1.block _ (block_lt HN0.out)).trans HN0.out
 go_wp2_with fail
 refine hKQ.out _ _ (⟨HB1.out, HX1.out⟩) ?_
 clear hHeld hKQ KQ
 intro hHeld
 try refine kNK ?_
 refine kPK 4 fun KQ hKQ => ?_
 go_simp
 go_at_call 91
 refine (HP.out _).mono ?_
 rintro e w2 ⟨rfl, hg2⟩
 have HB2 := Lib.hid (Below.later HB1.out hg2.below HB1.out.size)
 go_wp2_with fail
 refine hKQ.out _ _ ?_
 clear hKQ KQ
 try refine kNK ?_
 obtain ⟨c0, c1, c2, c3, c4, f0, f1, f2⟩ := HC.out _ HB2.out
 refine kBK 5 ?_
 refine kBK 6 ?_
 refine kBK 7 ?_
 try refine kNK ?_
 refine kPK 8 fun KQ hKQ => ?_
 go_simp
 refine hKQ.out _ _ ?_
 clear hKQ KQ
 try refine kNK ?_
 refine wpAnyK_done (by kernel_rfl) ?_ _
 refine NoPanic.normal ?_
 go_wp2_with fail
 go_end0
 exact ⟨rfl, (ScrTo.after HB2.out (ScrTo.refl (H.out.below HB2.out))).place HFS.out ⟨q, false⟩ HIN.out⟩
theorem scr_step (sp : Nat) (F : Nat → Prop) (S : Vz.Sr) (a b : Int) (w : World) (h : Scr w sp F S) : Calls Tryz.prog 78 #[.pointer (some ⟨sp, 0, none⟩), .int .i64 a, .int .i64 b] w fun e w' => e = .returned (.tuple #[]) ∧ ScrTo w w' sp F { S with pl := Vz.stepP S.D.R S.D.C S.pl a b } := by
 obtain ⟨gp, tp, mb, FG, hA, hF, HC, hlt⟩ := h.held
 have hin := Vz.stepP_in S.D.R S.D.C S.pl a b (Vz.Gd.may_mayS hA.grid.may)
 have HIN := Lib.hid hin
 have HSZ := Lib.hid (fun W (hb : Below w.heap.size w W) => scr_size sp F S W (h.below hb))
 have HP := Lib.hid (step_any S.D.R S.D.C S.pl.at_.row S.pl.at_.col S.pl.pend a b)
 have HFS : Hid (F sp) := (hF sp).2 (.inl rfl)
 have H := Lib.hid h
 have hpd : (Vz.stepP S.D.R S.D.C S.pl a b).pend = false := rfl
 clear hA hF h hin
 generalize hq : Vz.stepP S.D.R S.D.C S.pl a b = q at *
 clear hq
 have HQ := Lib.hid hpd
 clear hpd
 have HB : Hid (Below w.heap.size w w.drew) := (Below.refl _ _).drew
 go_enter Tryz.func78, Tryz.ntmps78
 go_upto_region 1 with fail
 refine wp_region_noPanic ?_
 refine wp_region_k (S := fun W : World => Below w.heap.size w W) 9 (by kernel_rfl) (HB.out) (fun hHeld => ?_)
 refine kSK 0 hHeld ?_
 refine kSK 1 hHeld ?_
 refine kSK 3 hHeld ?_
 refine kSK 4 hHeld ?_
 refine kSK 5 hHeld ?_
 try refine kNK ?_
 refine kTK (v := ?_) 6 [] hHeld ?y6 ?_
 case y6 => (intro W hSw; obtain ⟨c0, c1, c2, _⟩ := HC.out _ hSw; go_simp; try with_reducible rfl)
 refine kSK 7 hHeld ?_
 refine kSK 8 hHeld ?_
 try refine kNK ?_
 refine kOK 2 fun KQ hKQ => ?_
 go_simp
 go_at_call 89
 refine (HSZ.out _ HB.out).mono ?_
 rintro e w1 ⟨rfl, hb1⟩
 have HB1 := Lib.hid (Below.later HB.out hb1 HB.out.size)
 go_wp2_with fail
 refine hKQ.out _ _ (HB1.out) ?_
 clear hHeld hKQ KQ
 intro hHeld
 try refine kNK ?_
 refine kPK 9 fun KQ hKQ => ?_
 go_simp
 go_at_call 103
 refine (HP.out _).mono ?_
 rintro e w2 ⟨rfl, hg2⟩
 have HB2 := Lib.hid (Below.later HB1.out hg2 HB1.out.size)
 go_wp2_with fail
 refine hKQ.out _ _ ?_
 clear hKQ KQ
 try refine kNK ?_
 obtain ⟨c0, c1, c2, c3, c4, f0, f1, f2⟩ := HC.out _ HB2.out
 refine kBK 10 ?_
 refine kBK 11 ?_
 try refine kNK ?_
 refine kPK 12 fun KQ hKQ => ?_
 go_simp
 refine hKQ.out _ _ ?_
 clear hKQ KQ
 try refine kNK ?_
 refine wpAnyK_done (by kernel_rfl) ?_ _
 refine NoPanic.normal ?_
 go_wp2_with fail
 go_end0
 have hp := (ScrTo.after HB2.out (ScrTo.refl (H.out.below HB2.out))).place HFS.out q HIN.out
 rw [HQ.out] at hp
 exact ⟨rfl, hp⟩
theorem scr_step_d (sp : Nat) (F : Nat → Prop) (S : Vz.Sr) (a b : Int) (u : FrameMode) (w : World) (h : Scr w sp F S) : CallsD Tryz.prog 78 #[.pointer (some ⟨sp, 0, none⟩), .int .i64 a, .int .i64 b] u w fun e u' w' => u' = u ∧ (e = .returned (.tuple #[]) ∧ ScrTo w w' sp F { S with pl := Vz.stepP S.D.R S.D.C S.pl a b }) := by
 obtain ⟨gp, tp, mb, FG, hA, hF, HC, hlt⟩ := h.held
 have hin := Vz.stepP_in S.D.R S.D.C S.pl a b (Vz.Gd.may_mayS hA.grid.may)
 have HIN := Lib.hid hin
 have HSZ := Lib.hid (fun W (hb : Below w.heap.size w W) => scr_size sp F S W (h.below hb))
 have HP := Lib.hid (step_any S.D.R S.D.C S.pl.at_.row S.pl.at_.col S.pl.pend a b)
 have HFS : Hid (F sp) := (hF sp).2 (.inl rfl)
 have H := Lib.hid h
 have hpd : (Vz.stepP S.D.R S.D.C S.pl a b).pend = false := rfl
 clear hA hF h hin
 generalize hq : Vz.stepP S.D.R S.D.C S.pl a b = q at *
 clear hq
 have HQ := Lib.hid hpd
 clear hpd
 have HB : Hid (Below w.heap.size w w.drew) := (Below.refl _ _).drew
 go_enter_d Tryz.func78, Tryz.ntmps78
 go_upto_region 1 with fail
 refine wp_region_noPanic ?_
 refine wp_region_k (S := fun W : World => Below w.heap.size w W) 9 (by kernel_rfl) (HB.out) (fun hHeld => ?_)
 refine kSK 0 hHeld ?_
 refine kSK 1 hHeld ?_
 refine kSK 3 hHeld ?_
 refine kSK 4 hHeld ?_
 refine kSK 5 hHeld ?_
 try refine kNK ?_
 refine kTK (v := ?_) 6 [] hHeld ?y6 ?_
 case y6 => (intro W hSw; obtain ⟨c0, c1, c2, _⟩ := HC.out _ hSw; go_simp; try with_reducible rfl)
 refine kSK 7 hHeld ?_
 refine kSK 8 hHeld ?_
 try refine kNK ?_
 refine kOK 2 fun KQ hKQ => ?_
 go_simp
 go_at_call 89
 refine (HSZ.out _ HB.out).mono ?_
 rintro e w1 ⟨rfl, hb1⟩
 have HB1 := Lib.hid (Below.later HB.out hb1 HB.out.size)
 go_wp2_with fail
 refine hKQ.out _ _ (HB1.out) ?_
 clear hHeld hKQ KQ
 intro hHeld
 try refine kNK ?_
 refine kPK 9 fun KQ hKQ => ?_
 go_simp
 go_at_call 103
 refine (HP.out _).mono ?_
 rintro e w2 ⟨rfl, hg2⟩
 have HB2 := Lib.hid (Below.later HB1.out hg2 HB1.out.size)
 go_wp2_with fail
 refine hKQ.out _ _ ?_
 clear hKQ KQ
 try refine kNK ?_
 obtain ⟨c0, c1, c2, c3, c4, f0, f1, f2⟩ := HC.out _ HB2.out
 refine kBK 10 ?_
 refine kBK 11 ?_
 try refine kNK ?_
 refine kPK 12 fun KQ hKQ => ?_
 go_simp
 refine hKQ.out _ _ ?_
 clear hKQ KQ
 try refine kNK ?_
 refine wpAnyK_done (by kernel_rfl) ?_ _
 refine NoPanic.normal ?_
 go_wp2_with fail
 go_end0
 have hp := (ScrTo.after HB2.out (ScrTo.refl (H.out.below HB2.out))).place HFS.out q HIN.out
 rw [HQ.out] at hp
 exact ⟨rfl, hp⟩
theorem riseD_R (D : Vz.Gd) (b : Bool) (x : Vz.Cl) : (riseD D b x).R = D.R := by cases b <;> rfl
theorem riseD_C (D : Vz.Gd) (b : Bool) (x : Vz.Cl) : (riseD D b x).C = D.C := by cases b <;> rfl
theorem putD_R (D : Vz.Gd) (pl : Vz.Pl) (c : Vz.Cl) (wrap : Int) (x : Vz.Cl) : (putD D pl c wrap x).1.R = D.R := by
 unfold putD
 simp only
 rw [riseD_R]
 exact riseD_R _ _ _
theorem putD_C (D : Vz.Gd) (pl : Vz.Pl) (c : Vz.Cl) (wrap : Int) (x : Vz.Cl) : (putD D pl c wrap x).1.C = D.C := by
 unfold putD
 simp only
 rw [riseD_C]
 exact riseD_C _ _ _
theorem putD_in (D : Vz.Gd) (pl : Vz.Pl) (c : Vz.Cl) (wrap : Int) (x : Vz.Cl) (h : D.may) : (putD D pl c wrap x).2.at_.inS D.R D.C := Vz.behindP_in D.R D.C _ wrap (Vz.Gd.may_mayS h)
theorem Scr.closed {w w5 w6 w7 : World} {sp gp tp mb : Nat} {FG F : Nat → Prop} {S : Vz.Sr} {D' : Vz.Gd} (h5 : ScrAt w5 sp gp tp mb FG S) (hF : ∀ k, F k ↔ footS sp tp mb FG k) (hlt : ∀ k, F k → k < w.heap.size) (hbl : 0 < w.heap.size) (hb5 : Below w.heap.size w w5) (hg : GridTo w5 w6 gp FG D') (hR : D'.R = S.D.R) (hC : D'.C = S.D.C)
 (b : Nat) (hb : w.heap.size ≤ b) (hb' : b < w5.heap.size) (h7 : ∀ k, k ≠ b → w7.heap[k]? = w6.heap[k]?) (hsz : w7.heap.size = w6.heap.size) (ho : w7.os = w6.os ∧ w7.tape = w6.tape ∧ w7.output = w6.output) :
 ∃ FG', ScrAt w7 sp gp tp mb FG' { S with D := D' } ∧ (∀ k, footS sp tp mb FG' k → F k ∨ w.heap.size ≤ k) ∧ Keeps F w w7 := by
 obtain ⟨FG', h6, hFG⟩ := h5.gridTo hg hR hC
 have hsb : ∀ k, F k → k ≠ b := fun k hk => by have := hlt k hk; omega
 have hFF : ∀ k, footS sp tp mb FG' k → F k ∨ w5.heap.size ≤ k := fun k hk => by
  rcases hk with rfl | rfl | rfl | hk
  · exact .inl ((hF _).2 (.inl rfl))
  · exact .inl ((hF _).2 (.inr (.inl rfl)))
  · exact .inl ((hF _).2 (.inr (.inr (.inl rfl))))
  · exact (hFG k hk).imp (fun h => (hF _).2 (.inr (.inr (.inr h)))) id
 refine ⟨FG', h6.of_blocks (fun k hk => h7 k ?_) (h7 _ (by omega)), fun k hk => (hFF k hk).imp id fun h => Nat.le_trans hb5.size h, ?_⟩
 · rcases hFF k hk with h | h
   · exact hsb _ h
   · omega
 · have hk5 : Keeps F w w5 := Keeps.of_below hb5
   have hk6 : Keeps F w5 w6 := hg.2.mono fun k hk => (hF k).2 (.inr (.inr (.inr hk)))
   have hk := hk5.trans hk6 fun k hk => .inl hk
   exact ⟨ho.1.trans hk.os, ho.2.1.trans hk.tape, ho.2.2.trans hk.output, by rw [hsz]; exact hk.size, fun k hk1 hn => (h7 k (by omega)).trans (hk.block k hk1 hn)⟩
theorem Scr.placed {w w7 : World} {sp gp tp mb : Nat} {FG' F : Nat → Prop} {S : Vz.Sr} (h : ScrAt w7 sp gp tp mb FG' S) (hF : ∀ k, footS sp tp mb FG' k → F k ∨ w.heap.size ≤ k) (hK : Keeps F w w7) (hsp : F sp) (pl : Vz.Pl) (hin : pl.at_.inS S.D.R S.D.C) :
 ScrTo w (((w7.setCell ⟨sp, 0, none⟩ (.int .i64 pl.at_.row)).setCell ⟨sp, 1, none⟩ (.int .i64 pl.at_.col)).setCell ⟨sp, 2, none⟩ (.bool pl.pend)) sp F { S with pl := pl } :=
 ⟨⟨footS sp tp mb FG', ⟨gp, tp, mb, FG', h.place pl hin, fun k => Iff.rfl⟩, hF⟩, ((hK.setCell' (p := ⟨sp, 0, none⟩) hsp _).setCell' (p := ⟨sp, 1, none⟩) hsp _).setCell' (p := ⟨sp, 2, none⟩) hsp _⟩
theorem scr_put (sp : Nat) (F : Nat → Prop) (S : Vz.Sr) (c : Vz.Cl) (wrap : Int) (w : World) (h : Scr w sp F S) : Calls Tryz.prog 82 #[.pointer (some ⟨sp, 0, none⟩), .agg #[.int .i32 c.g, .int .i64 c.a, .bool c.gd, .int .i64 c.m], .int .i64 wrap, .bool false] w fun e w' => e = .returned (.tuple #[]) ∧ ScrTo w w' sp F { S with D := (putD S.D S.pl c wrap Vz.Cl.blank).1, pl := (putD S.D S.pl c wrap Vz.Cl.blank).2 } := by
 obtain ⟨gp, tp, mb, FG, hA, hF, HC, hlt⟩ := h.held
 have HIN : Hid ((putD S.D S.pl c wrap Vz.Cl.blank).2.at_.inS S.D.R S.D.C) := putD_in _ _ _ _ _ hA.grid.may
 have HR := Lib.hid (putD_R S.D S.pl c wrap Vz.Cl.blank)
 have HCC := Lib.hid (putD_C S.D S.pl c wrap Vz.Cl.blank)
 have HIP := Lib.hid (fun W (hb : Below w.heap.size w W) => ink_put gp FG S.D S.pl c Vz.Cl.blank wrap W (hA.grid.below hb))
 have HBL : Hid (∀ W, Below w.heap.size w W → _) := fun W (hb : Below w.heap.size w W) => ((hA.below hb).blk).cells
 have HGB := Lib.hid hA.blk.lt
 have HA := Lib.hid (fun W (hb : Below w.heap.size w W) => hA.below hb)
 have HF := Lib.hid hF
 have HLT := Lib.hid h.lt
 have HFS : Hid (F sp) := (hF sp).2 (.inl rfl)
 clear hA hF h
 generalize putD S.D S.pl c wrap Vz.Cl.blank = q at *
 obtain ⟨D', pl'⟩ := q
 simp only at HIN HR HCC HIP ⊢
 have HC1 := Lib.hid (HC.out _ (below1 w (.cells (cellB c) 56)))
 have HB : Hid (Below w.heap.size w ((w.alloc (.cells (cellB c) 56)).alloc (.cells #[.int .i64 S.pl.at_.row, .int .i64 S.pl.at_.col, .bool S.pl.pend] 76)).drew) := (Grows.below (((Grows.refl _).alloc _).alloc _)).drew
 obtain ⟨hn0, hn1⟩ := box2 (Below.refl ((w.alloc (.cells (cellB c) 56)).alloc (.cells #[.int .i64 S.pl.at_.row, .int .i64 S.pl.at_.col, .bool S.pl.pend] 76)).heap.size _)
 have HN0 := Lib.hid hn0
 have HN1 := Lib.hid hn1.1
 clear hn0 hn1
 unfold cellB at HB HC1 HN0 HN1
 obtain ⟨c0, c1, c2, c3, c4, f0, f1, f2⟩ := HC1.out
 clear HC1
 go_enter Tryz.func82, Tryz.ntmps82
 go_upto_region 5 with fail
 clear c0 c1 c2 c3 c4 f0 f1 f2
 refine wp_region_noPanic ?_
 refine wp_region_k (S := fun W : World => Below w.heap.size w W ∧ W.heap[w.heap.size]? = some (.cells #[.int .i32 c.g, .int .i64 c.a, .bool c.gd, .int .i64 c.m] 56 (0, 0))) 11 (by kernel_rfl) (⟨HB.out, HN0.out⟩) (fun hHeld => ?_)
 refine kSK 0 hHeld ?_
 refine kSK 1 hHeld ?_
 refine kSK 2 hHeld ?_
 refine kTK (v := ?_) 3 [] hHeld ?y4 ?_
 case y4 => (intro W hSw; obtain ⟨c0, c1, c2, c3, c4, _⟩ := HC.out _ hSw.1; obtain ⟨x0, x1, x2, x3, _⟩ := row4 hSw.2; obtain ⟨g0, g1, g2, g3⟩ := HBL.out _ hSw.1; go_simp; try with_reducible rfl)
 refine kSK 4 hHeld ?_
 try refine kNK ?_
 refine kSK 5 hHeld ?_
 refine kSK 6 hHeld ?_
 refine kTK (v := ?_) 7 [] hHeld ?y8 ?_
 case y8 => (intro W hSw; obtain ⟨c0, c1, c2, c3, c4, _⟩ := HC.out _ hSw.1; obtain ⟨x0, x1, x2, x3, _⟩ := row4 hSw.2; obtain ⟨g0, g1, g2, g3⟩ := HBL.out _ hSw.1; go_simp; try with_reducible rfl)
 refine kTK (v := ?_) 8 [] hHeld ?y9 ?_
 case y9 => (intro W hSw; obtain ⟨c0, c1, c2, c3, c4, _⟩ := HC.out _ hSw.1; obtain ⟨x0, x1, x2, x3, _⟩ := row4 hSw.2; obtain ⟨g0, g1, g2, g3⟩ := HBL.out _ hSw.1; go_simp; try with_reducible rfl)
 refine kSK 9 hHeld ?_
 try refine kNK ?_
 refine kTK (v := ?_) 10 [] hHeld ?y11 ?_
 case y11 => (intro W hSw; obtain ⟨c0, c1, c2, c3, c4, _⟩ := HC.out _ hSw.1; obtain ⟨x0, x1, x2, x3, _⟩ := row4 hSw.2; obtain ⟨g0, g1, g2, g3⟩ := HBL.out _ hSw.1; go_simp; try with_reducible rfl)
 try refine kNK ?_
 refine kPK 11 fun KQ hKQ => ?_
 go_simp
 go_at_call 107
 refine (HIP.out _ HB.out).mono ?_
 rintro e w6 ⟨n, rfl, hg⟩
 have HG := Lib.hid hg
 have HX1 : Hid (w6.heap[w.heap.size + 1]? = some (.cells #[.int .i64 S.pl.at_.row, .int .i64 S.pl.at_.col, .bool S.pl.pend] 76 (0, 0))) := (hg.out (block_lt HN1.out) (fun hk => by have := HLT.out _ ((HF.out _).2 (.inr (.inr (.inr hk)))); omega)).trans HN1.out
 clear hg
 go_wp2_with fail
 refine hKQ.out _ _ ?_
 clear hKQ KQ
 try refine kNK ?_
 obtain ⟨x0, x1, x2, f0, f1, f2⟩ := row3 HX1.out
 refine kBK 12 ?_
 refine kBK 13 ?_
 refine kBK 14 ?_
 refine kBK 15 ?_
 try refine kNK ?_
 refine kPK 16 fun KQ hKQ => ?_
 go_simp
 refine hKQ.out _ _ ?_
 clear hKQ KQ
 try refine kNK ?_
 refine kBK 17 ?_
 try refine kNK ?_
 refine wpAnyK_done (by kernel_rfl) ?_ _
 refine NoPanic.normal ?_
 have HFIN : Hid _ := Scr.closed (w7 := ((w6.setCell ⟨w.heap.size + 1, 0, none⟩ (.int .i64 pl'.at_.row)).setCell ⟨w.heap.size + 1, 1, none⟩ (.int .i64 pl'.at_.col)).setCell ⟨w.heap.size + 1, 2, none⟩ (.bool pl'.pend)) (HA.out _ HB.out) HF.out HLT.out HGB.out HB.out HG.out HR.out HCC.out (w.heap.size + 1) (Nat.le_succ _) (block_lt HN1.out) (fun k hk => set_three_other _ _ _ _ _ hk) (by simp only [World.size_setCell]) ⟨rfl, rfl, rfl⟩
 obtain ⟨FG', hA7, hF7, hK7⟩ := HFIN.out
 obtain ⟨c0, c1, c2, c3, c4, e0, e1, e2, _⟩ := row5' hA7.box
 obtain ⟨y0, y1, y2, _⟩ := row3 (set_three HX1.out (.int .i64 pl'.at_.row) (.int .i64 pl'.at_.col) (.bool pl'.pend))
 have HE : Hid (ScrTo w _ sp F { D := D', pl := pl', T := S.T }) := Scr.placed hA7 hF7 hK7 HFS.out pl' (by show pl'.at_.inS D'.R D'.C; rw [HR.out, HCC.out]; exact HIN.out)
 clear HFIN hA7 hF7 hK7 x0 x1 x2 f0 f1 f2
 go_wp2_with fail
 go_end0
 exact ⟨rfl, HE.out⟩
end
end Go.Proofs.YtncgigapgklhcaaGreatDoor
