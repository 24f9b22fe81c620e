import Derived.Test.YteoeooijpjehpaaGreatDoorIS

/- The walk of the law's like, where two worlds are the same: it answers true. -/
namespace Go.Proofs.YteoeooijpjehpaaGreatDoor
open Go.RowKit
set_option linter.unusedSimpArgs false
set_option linter.unusedVariables false
attribute [local go_sem] alloc_drewN setCell_drewN World.cell?_alloc_some frozen_alloc_some size_f0 size_f1

theorem run_neq_self (g a m : Int) (d : Bool) (w : World) : Sem.run Tryz.prog (binOp .neq 45 (.agg #[.int .i32 g, .int .i64 a, .bool d, .int .i64 m]) (.agg #[.int .i32 g, .int .i64 a, .bool d, .int .i64 m])) w = .ok (.bool false) w := by
 have h := run_neq_cell ⟨g, a, d, m⟩ ⟨g, a, d, m⟩ w
 rw [eqC_iff.2 rfl] at h
 exact h
theorem run_neqp_self (a b : Int) (w : World) : Sem.run Tryz.prog (binOp .neq 49 (.agg #[.int .i64 a, .int .i64 b]) (.agg #[.int .i64 a, .int .i64 b])) w = .ok (.bool false) w := by
 have h := run_neq_ps ⟨a, b⟩ ⟨a, b⟩ w
 rw [eqP_iff.2 rfl] at h
 exact h
theorem run_neqm_self (a b c d e : Bool) (w : World) : Sem.run Tryz.prog (binOp .neq 37 (.agg #[.bool a, .bool b, .bool c, .bool d, .bool e]) (.agg #[.bool a, .bool b, .bool c, .bool d, .bool e])) w = .ok (.bool false) w := by
 cases a <;> cases b <;> cases c <;> cases d <;> cases e <;> kernel_rfl
theorem wtm_modes5 {w : World} {tp sp qp : Nat} {FT : Nat → Prop} {A : Wy} (h : WTerm w tp sp qp FT A) : Calls Tryz.prog 15 #[.pointer (some ⟨tp, 0, none⟩)] w fun e w' => e = .returned (.agg #[.bool A.gd, .bool A.pr, .bool A.gr, .bool A.ins, .bool A.emb]) ∧ Below w.heap.size w w' := wtm_modes h
attribute [local go_sem 3000] run_neq_self run_neqp_self run_neqm_self
theorem RowsAt.cell4 {B : Nat} {W : World} {OB : Nat} {D : Vz.Gd} {G K : Nat → Nat} (h : RowsAt B W OB D G K) {i j : Nat} (hi : i < D.R) (hj : j < D.C) : W.cell? ⟨OB, i, none⟩ = some (.slice (some ⟨G i, 0, none⟩) D.C (K i)) ∧ W.cell? ⟨G i, j * 4, none⟩ = some (.int .i32 (D.X i j).g) ∧ W.cell? ⟨G i, j * 4 + 1, none⟩ = some (.int .i64 (D.X i j).a) ∧ W.cell? ⟨G i, j * 4 + 2, none⟩ = some (.bool (D.X i j).gd) ∧ W.cell? ⟨G i, j * 4 + 3, none⟩ = some (.int .i64 (D.X i j).m) := by
 have hr := h.row i hi
 refine ⟨h.outer.cell hi, ?_, ?_, ?_, ?_⟩
 · rw [hr.cell (show j * 4 < D.C * 4 by omega), Nat.mul_comm j 4, Vz.flatC_0]
 · rw [hr.cell (show j * 4 + 1 < D.C * 4 by omega), Nat.mul_comm j 4, Vz.flatC_1]
 · rw [hr.cell (show j * 4 + 2 < D.C * 4 by omega), Nat.mul_comm j 4, Vz.flatC_2]
 · rw [hr.cell (show j * 4 + 3 < D.C * 4 by omega), Nat.mul_comm j 4, Vz.flatC_3]
/-- What the great condition reads. -/
def LikeS (W : World) (wa ta sa qa wb tb sb qb p q : Nat) (o : Vz.Ps) : Prop := boxW W wa ta sa qa ∧ boxW W wb tb sb qb ∧ W.heap[p]? = some (.cells #[.int .i64 o.row, .int .i64 o.col] 49 (0, 0)) ∧ W.heap[q]? = some (.cells #[.int .i64 o.row, .int .i64 o.col] 49 (0, 0))
theorem LikeS.below {W W' : World} {wa ta sa qa wb tb sb qb p q : Nat} {o : Vz.Ps} (h : LikeS W wa ta sa qa wb tb sb qb p q o) (hb : Below W.heap.size W W') : LikeS W' wa ta sa qa wb tb sb qb p q o :=
 ⟨(hb.block _ (block_lt h.1)).trans h.1, (hb.block _ (block_lt h.2.1)).trans h.2.1, (hb.block _ (block_lt h.2.2.1)).trans h.2.2.1, (hb.block _ (block_lt h.2.2.2)).trans h.2.2.2⟩
theorem LikeS.keeps {W W' : World} {wa ta sa qa wb tb sb qb p q : Nat} {o : Vz.Ps} {F : Nat → Prop} (h : LikeS W wa ta sa qa wb tb sb qb p q o) (hk : Keeps F W W') (n1 : ¬ F wa) (n2 : ¬ F wb) (n3 : ¬ F p) (n4 : ¬ F q) : LikeS W' wa ta sa qa wb tb sb qb p q o :=
 ⟨(hk.block _ (block_lt h.1) n1).trans h.1, (hk.block _ (block_lt h.2.1) n2).trans h.2.1, (hk.block _ (block_lt h.2.2.1) n3).trans h.2.2.1, (hk.block _ (block_lt h.2.2.2) n4).trans h.2.2.2⟩
set_option maxRecDepth 100000 in
set_option maxHeartbeats 16000000 in
theorem like_same {w0 w : World} {wa ta sa qa wb tb sb qb : Nat} {A : Wy} (h : Duo w0 w wa ta sa qa A wb tb sb qb A) : Calls Tryz.prog 23 #[.pointer (some ⟨wa, 0, none⟩), .pointer (some ⟨wb, 0, none⟩)] w fun e w' => e = .returned (.bool true) ∧ Duo w0 w' wa ta sa qa { A with q := [], over := false } wb tb sb qb { A with q := [], over := false } := by
 obtain ⟨FA, FB, h⟩ := h
 have hmay := (tm_may h.tA).1
 obtain ⟨m1, m2, m3, m4⟩ := hmay
 have HD0 := Lib.hid h
 have HB0 : Hid (Below w.heap.size w w) := Below.refl _ _
 obtain ⟨a0, a1, a2, _⟩ := row3 h.boxA
 clear h
 go_enter Tryz.func23, Tryz.ntmps23
 go_upto_region 3 with (first
  | (go_at_call 22; refine (tm_cursor (HD0.out.below HB1.out).tB).mono ?_; rintro e w2 ⟨rfl, hb2⟩; have HB2 := Lib.hid (Below.later HB1.out hb2 HB1.out.size); have HP1 := Lib.hid ((hb2.block _ (block_lt HP0.out)).trans HP0.out); have hz2 := hb2.size; rw [World.size_alloc] at hz2; clear hb2)
  | (go_at_call 22; refine (tm_cursor HD0.out.tA).mono ?_; rintro e w1 ⟨rfl, hb1⟩; have hz1 := hb1.size; have HB1 := Lib.hid (hb1.alloc hb1.size (.cells #[.int .i64 A.S.pl.at_.row, .int .i64 A.S.pl.at_.col] 49)); have HP0 := Lib.hid (heap_alloc_new w1 (.cells #[.int .i64 A.S.pl.at_.row, .int .i64 A.S.pl.at_.col] 49)); obtain ⟨b0, b1, b2, _⟩ := row3 (HD0.out.below HB1.out).boxB; clear hb1))
 clear a0 a1 a2 b0 b1 b2
 have HB3 : Hid (Below w.heap.size w (w2.alloc (.cells #[.int .i64 A.S.pl.at_.row, .int .i64 A.S.pl.at_.col] 49)).drew) := (HB2.out.alloc HB2.out.size _).drew
 have HS3 : Hid (LikeS (w2.alloc (.cells #[.int .i64 A.S.pl.at_.row, .int .i64 A.S.pl.at_.col] 49)).drew wa ta sa qa wb tb sb qb w1.heap.size w2.heap.size A.S.pl.at_) := ⟨(HD0.out.below HB3.out).boxA, (HD0.out.below HB3.out).boxB, (Below.heap_alloc _ _ _ (block_lt HP1.out)).trans HP1.out, heap_alloc_new w2 _⟩
 have HLA := Lib.hid HD0.out.tA.lt
 simp only [List.append_eq, List.cons_append, List.nil_append]
 refine wp_region_noPanic ?_
 refine wp_region_k (S := fun W : World => LikeS W wa ta sa qa wb tb sb qb w1.heap.size w2.heap.size A.S.pl.at_) 70 (by kernel_rfl) (HS3.out) (fun hHeld => ?_)
 refine kTK (v := ?_) 0 [60, 59, 47, 46, 34, 33, 21, 20, 8, 3, 2] hHeld ?y1 ?_
 case y1 => (intro W hSw; obtain ⟨x0, x1, x2, _⟩ := row3 hSw.1; obtain ⟨y0, y1, y2, _⟩ := row3 hSw.2.1; obtain ⟨p0, p1, _⟩ := row2 hSw.2.2.1; obtain ⟨q0, q1, _⟩ := row2 hSw.2.2.2; go_simp; try with_reducible rfl)
 refine kTK (v := ?_) 1 [60, 59, 47, 46, 34, 33, 21, 20, 8, 3, 2] hHeld ?y2 ?_
 case y2 => (intro W hSw; obtain ⟨x0, x1, x2, _⟩ := row3 hSw.1; obtain ⟨y0, y1, y2, _⟩ := row3 hSw.2.1; obtain ⟨p0, p1, _⟩ := row2 hSw.2.2.1; obtain ⟨q0, q1, _⟩ := row2 hSw.2.2.2; go_simp; try with_reducible rfl)
 refine kSK 2 hHeld ?_
 refine kSK 3 hHeld ?_
 refine kSK 4 hHeld ?_
 try refine kNK ?_
 refine kSK 5 hHeld ?_
 refine kSK 6 hHeld ?_
 refine kSK 7 hHeld ?_
 refine kSK 8 hHeld ?_
 refine kSK 9 hHeld ?_
 try refine kNK ?_
 refine kSK 10 hHeld ?_
 refine kSK 11 hHeld ?_
 refine kTK (v := ?_) 12 [60, 59, 47, 46, 34, 33, 21, 18, 13] hHeld ?y13 ?_
 case y13 => (intro W hSw; obtain ⟨x0, x1, x2, _⟩ := row3 hSw.1; obtain ⟨y0, y1, y2, _⟩ := row3 hSw.2.1; obtain ⟨p0, p1, _⟩ := row2 hSw.2.2.1; obtain ⟨q0, q1, _⟩ := row2 hSw.2.2.2; go_simp; try with_reducible rfl)
 refine kSK 14 hHeld ?_
 refine kSK 15 hHeld ?_
 try refine kNK ?_
 refine kSK 16 hHeld ?_
 refine kTK (v := ?_) 17 [60, 59, 47, 46, 34, 33, 21, 18] hHeld ?y17 ?_
 case y17 => (intro W hSw; obtain ⟨x0, x1, x2, _⟩ := row3 hSw.1; obtain ⟨y0, y1, y2, _⟩ := row3 hSw.2.1; obtain ⟨p0, p1, _⟩ := row2 hSw.2.2.1; obtain ⟨q0, q1, _⟩ := row2 hSw.2.2.2; go_simp; try with_reducible rfl)
 try refine kNK ?_
 refine kOK 13 fun KQ hKQ => ?_
 go_simp
 go_at_call 15
 refine (wtm_modes5 (HD0.out.below HB3.out).tA).mono ?_
 rintro e w4 ⟨rfl, hbx⟩
 have HB4 := Lib.hid (Below.later HB3.out hbx HB3.out.size)
 have hsx := hHeld.below hbx
 clear hbx
 go_wp2_with fail
 refine hKQ.out _ _ (hsx) ?_
 clear hHeld hKQ KQ
 intro hHeld
 try refine kNK ?_
 clear hsx
 refine kOK 18 fun KQ hKQ => ?_
 go_simp
 go_at_call 15
 refine (wtm_modes5 (HD0.out.below HB4.out).tB).mono ?_
 rintro e w5 ⟨rfl, hbx⟩
 have HB5 := Lib.hid (Below.later HB4.out hbx HB4.out.size)
 have hsx := hHeld.below hbx
 clear hbx
 go_wp2_with fail
 refine hKQ.out _ _ (hsx) ?_
 clear hHeld hKQ KQ
 intro hHeld
 try refine kNK ?_
 clear hsx
 refine kSK 19 hHeld ?_
 refine kSK 20 hHeld ?_
 refine kSK 21 hHeld ?_
 refine kSK 22 hHeld ?_
 refine kSK 23 hHeld ?_
 try refine kNK ?_
 refine kSK 24 hHeld ?_
 refine kTK (v := ?_) 25 [60, 59, 47, 46, 34, 31, 26] hHeld ?y24 ?_
 case y24 => (intro W hSw; obtain ⟨x0, x1, x2, _⟩ := row3 hSw.1; obtain ⟨y0, y1, y2, _⟩ := row3 hSw.2.1; obtain ⟨p0, p1, _⟩ := row2 hSw.2.2.1; obtain ⟨q0, q1, _⟩ := row2 hSw.2.2.2; go_simp; try with_reducible rfl)
 refine kSK 27 hHeld ?_
 refine kSK 28 hHeld ?_
 refine kSK 29 hHeld ?_
 try refine kNK ?_
 refine kTK (v := ?_) 30 [60, 59, 47, 46, 34, 31] hHeld ?y28 ?_
 case y28 => (intro W hSw; obtain ⟨x0, x1, x2, _⟩ := row3 hSw.1; obtain ⟨y0, y1, y2, _⟩ := row3 hSw.2.1; obtain ⟨p0, p1, _⟩ := row2 hSw.2.2.1; obtain ⟨q0, q1, _⟩ := row2 hSw.2.2.2; go_simp; try with_reducible rfl)
 try refine kNK ?_
 refine kOK 26 fun KQ hKQ => ?_
 go_simp
 go_at_call 16
 refine (wtm_attr (HD0.out.below HB5.out).tA).mono ?_
 rintro e w026 ⟨rfl, rfl⟩
 go_wp2_with fail
 refine hKQ.out _ _ (hHeld) ?_
 clear hHeld hKQ KQ
 intro hHeld
 try refine kNK ?_
 refine kOK 31 fun KQ hKQ => ?_
 go_simp
 go_at_call 16
 refine (wtm_attr (HD0.out.below HB5.out).tB).mono ?_
 rintro e w031 ⟨rfl, rfl⟩
 go_wp2_with fail
 refine hKQ.out _ _ (hHeld) ?_
 clear hHeld hKQ KQ
 intro hHeld
 try refine kNK ?_
 refine kSK 32 hHeld ?_
 refine kSK 33 hHeld ?_
 refine kSK 34 hHeld ?_
 refine kSK 35 hHeld ?_
 refine kSK 36 hHeld ?_
 try refine kNK ?_
 refine kSK 37 hHeld ?_
 refine kTK (v := ?_) 38 [60, 59, 47, 44, 39] hHeld ?y35 ?_
 case y35 => (intro W hSw; obtain ⟨x0, x1, x2, _⟩ := row3 hSw.1; obtain ⟨y0, y1, y2, _⟩ := row3 hSw.2.1; obtain ⟨p0, p1, _⟩ := row2 hSw.2.2.1; obtain ⟨q0, q1, _⟩ := row2 hSw.2.2.2; go_simp; try with_reducible rfl)
 refine kSK 40 hHeld ?_
 refine kSK 41 hHeld ?_
 refine kSK 42 hHeld ?_
 try refine kNK ?_
 refine kTK (v := ?_) 43 [60, 59, 47, 44] hHeld ?y39 ?_
 case y39 => (intro W hSw; obtain ⟨x0, x1, x2, _⟩ := row3 hSw.1; obtain ⟨y0, y1, y2, _⟩ := row3 hSw.2.1; obtain ⟨p0, p1, _⟩ := row2 hSw.2.2.1; obtain ⟨q0, q1, _⟩ := row2 hSw.2.2.2; go_simp; try with_reducible rfl)
 try refine kNK ?_
 refine kOK 39 fun KQ hKQ => ?_
 go_simp
 go_at_call 17
 refine (wtm_status (HD0.out.below HB5.out).tA).mono ?_
 rintro e w039 ⟨rfl, rfl⟩
 go_wp2_with fail
 refine hKQ.out _ _ (hHeld) ?_
 clear hHeld hKQ KQ
 intro hHeld
 try refine kNK ?_
 refine kOK 44 fun KQ hKQ => ?_
 go_simp
 go_at_call 17
 refine (wtm_status (HD0.out.below HB5.out).tB).mono ?_
 rintro e w044 ⟨rfl, rfl⟩
 go_wp2_with fail
 refine hKQ.out _ _ (hHeld) ?_
 clear hHeld hKQ KQ
 intro hHeld
 try refine kNK ?_
 refine kSK 45 hHeld ?_
 refine kSK 46 hHeld ?_
 refine kSK 47 hHeld ?_
 refine kSK 48 hHeld ?_
 refine kSK 49 hHeld ?_
 try refine kNK ?_
 refine kSK 50 hHeld ?_
 refine kTK (v := ?_) 51 [60, 57, 52] hHeld ?y46 ?_
 case y46 => (intro W hSw; obtain ⟨x0, x1, x2, _⟩ := row3 hSw.1; obtain ⟨y0, y1, y2, _⟩ := row3 hSw.2.1; obtain ⟨p0, p1, _⟩ := row2 hSw.2.2.1; obtain ⟨q0, q1, _⟩ := row2 hSw.2.2.2; go_simp; try with_reducible rfl)
 refine kSK 53 hHeld ?_
 refine kSK 54 hHeld ?_
 refine kSK 55 hHeld ?_
 try refine kNK ?_
 refine kTK (v := ?_) 56 [60, 57] hHeld ?y50 ?_
 case y50 => (intro W hSw; obtain ⟨x0, x1, x2, _⟩ := row3 hSw.1; obtain ⟨y0, y1, y2, _⟩ := row3 hSw.2.1; obtain ⟨p0, p1, _⟩ := row2 hSw.2.2.1; obtain ⟨q0, q1, _⟩ := row2 hSw.2.2.2; go_simp; try with_reducible rfl)
 try refine kNK ?_
 refine kOK 52 fun KQ hKQ => ?_
 go_simp
 go_at_call 18
 refine (wtm_pending (HD0.out.below HB5.out).tA).mono ?_
 rintro e w052 ⟨rfl, rfl⟩
 go_wp2_with fail
 refine hKQ.out _ _ (hHeld) ?_
 clear hHeld hKQ KQ
 intro hHeld
 try refine kNK ?_
 refine kOK 57 fun KQ hKQ => ?_
 go_simp
 go_at_call 18
 refine (wtm_pending (HD0.out.below HB5.out).tB).mono ?_
 rintro e w057 ⟨rfl, rfl⟩
 go_wp2_with fail
 refine hKQ.out _ _ (hHeld) ?_
 clear hHeld hKQ KQ
 intro hHeld
 try refine kNK ?_
 refine kSK 58 hHeld ?_
 refine kSK 59 hHeld ?_
 refine kSK 60 hHeld ?_
 refine kSK 61 hHeld ?_
 refine kSK 62 hHeld ?_
 try refine kNK ?_
 refine kSK 63 hHeld ?_
 refine kTK (v := ?_) 64 [65] hHeld ?y57 ?_
 case y57 => (intro W hSw; obtain ⟨x0, x1, x2, _⟩ := row3 hSw.1; obtain ⟨y0, y1, y2, _⟩ := row3 hSw.2.1; obtain ⟨p0, p1, _⟩ := row2 hSw.2.2.1; obtain ⟨q0, q1, _⟩ := row2 hSw.2.2.2; go_simp; try with_reducible rfl)
 refine kSK 66 hHeld ?_
 refine kSK 67 hHeld ?_
 refine kSK 68 hHeld ?_
 try refine kNK ?_
 refine kTK (v := ?_) 69 [] hHeld ?y61 ?_
 case y61 => (intro W hSw; obtain ⟨x0, x1, x2, _⟩ := row3 hSw.1; obtain ⟨y0, y1, y2, _⟩ := row3 hSw.2.1; obtain ⟨p0, p1, _⟩ := row2 hSw.2.2.1; obtain ⟨q0, q1, _⟩ := row2 hSw.2.2.2; go_simp; try with_reducible rfl)
 try refine kNK ?_
 refine kOK 65 fun KQ hKQ => ?_
 go_simp
 go_at_call 25
 refine (tm_drain (HD0.out.below HB5.out).tA).mono ?_
 rintro e w6 ⟨rfl, ht⟩
 obtain ⟨⟨F6, hd6, -⟩, hk6⟩ := (HD0.out.below HB5.out).left ht
 have hs6 := hHeld.keeps hk6 HD0.out.aa HD0.out.awb (fun hf => by have := HLA.out _ hf; omega) (fun hf => by have := HLA.out _ hf; omega)
 have HD6 := Lib.hid hd6
 clear ht hd6 hk6
 go_wp2_with fail
 refine hKQ.out _ _ (hs6) ?_
 clear hHeld hKQ KQ
 intro hHeld
 try refine kNK ?_
 clear hs6
 refine kPK 70 fun KQ hKQ => ?_
 go_simp
 go_at_call 25
 refine (tm_drain HD6.out.tB).mono ?_
 rintro e w7 ⟨rfl, ht⟩
 obtain ⟨⟨F7, hd7, -⟩, -⟩ := HD6.out.swap.left ht
 have HD7 := Lib.hid hd7.swap
 obtain ⟨c0, c1, c2, _⟩ := row3 HD7.out.boxA
 clear ht hd7
 go_wp2_with fail
 refine hKQ.out _ _ ?_
 clear hKQ KQ
 try refine kNK ?_
 refine kBK 71 ?_
 refine kBK 72 ?_
 try refine kNK ?_
 refine wpAnyK_done (by kernel_rfl) ?_ _
 refine NoPanic.normal ?_
 clear hHeld
 go_wp2_with (first
  | (go_at_call 38; refine (tm_rows (HD7.out.below HB8.out).tB).mono ?_; rintro e w9 ⟨OB2, G2, K2, rfl, hr9, hb9⟩; have HR2 := Lib.hid hr9; have HR1 := Lib.hid (HR0.out.below hb9); have HB9 := Lib.hid (Below.later HB8.out hb9 HB8.out.size); clear hr9 hb9)
  | (go_at_call 38; refine (tm_rows HD7.out.tA).mono ?_; rintro e w8 ⟨OB1, G1, K1, rfl, hr8, hb8⟩; have HR0 := Lib.hid hr8; have HB8 := Lib.hid hb8; obtain ⟨e0, e1, e2, _⟩ := row3 (HD7.out.below HB8.out).boxB; clear hr8 hb8 c0 c1 c2))
 clear e0 e1 e2
 have HRA := Lib.hid (fun W (hb : Below w9.heap.size w9 W) => HR1.out.below hb)
 have HRB := Lib.hid (fun W (hb : Below w9.heap.size w9 W) => HR2.out.below hb)
 have HBR0 : Hid (Below w9.heap.size w9 w9) := Below.refl _ _
 go_loopw [11] (fun i wr => ∃ k : Nat, k ≤ A.S.D.R ∧ i = .int .i64 (k : Int) ∧ Below w9.heap.size w9 wr) (fun i _ => A.S.D.R - (intOf i).toNat)
 case atStart => exact ⟨0, Nat.zero_le _, rfl, HBR0.out⟩
 case round =>
  obtain ⟨k, hk, rfl, hbr⟩ := hrel
  have HBR := Lib.hid hbr
  have HBD : Hid (Below w9.heap.size w9 wr.drew) := hbr.drew
  clear hbr
  by_cases hlt : k < A.S.D.R
  · have hkz : (k : Int) < (A.S.D.R : Int) := by omega
    have hwk : IntKind.i64.wrap ((k : Int) + 1) = ((k + 1 : Nat) : Int) := by rw [wrap_in (by omega) (by omega)]; rfl
    have hC0 : 0 < A.S.D.C := by omega
    go_upto_region 12 with fail
    refine wp_region_noPanic ?_
    refine wp_region_k (S := fun W : World => Below w9.heap.size w9 W) 999 (by kernel_rfl) (HBD.out) (fun hHeld => ?_)
    refine kSK 0 hHeld ?_
    refine kSK 1 hHeld ?_
    refine kSK 2 hHeld ?_
    refine kHK (v := ?_) 3 hHeld ?y4 ?_
    case y4 => (intro W hSw; obtain ⟨p0, _⟩ := (HRA.out _ hSw).cell4 hlt hC0; obtain ⟨q0, _⟩ := (HRB.out _ hSw).cell4 hlt hC0; go_simp; try with_reducible rfl)
    refine kSK 4 hHeld ?_
    try refine kNK ?_
    refine kSK 5 hHeld ?_
    refine kSK 6 hHeld ?_
    refine kSK 7 hHeld ?_
    refine kHK (v := ?_) 8 hHeld ?y9 ?_
    case y9 => (intro W hSw; obtain ⟨p0, _⟩ := (HRA.out _ hSw).cell4 hlt hC0; obtain ⟨q0, _⟩ := (HRB.out _ hSw).cell4 hlt hC0; go_simp; try with_reducible rfl)
    refine kSK 9 hHeld ?_
    try refine kNK ?_
    refine kSK 10 hHeld ?_
    try refine kNK ?_
    refine wpAnyK_done (by kernel_rfl) ?_ _
    refine NoPanic.normal ?_
    clear hHeld
    go_wp2_with fail
    go_loopw [12] (fun j wr => ∃ q : Nat, q ≤ A.S.D.C ∧ j = .int .i64 (q : Int) ∧ Below w9.heap.size w9 wr) (fun j _ => A.S.D.C - (intOf j).toNat)
    case atStart => exact ⟨0, Nat.zero_le _, rfl, HBD.out⟩
    case round =>
     obtain ⟨q, hq, rfl, hbr2⟩ := hrel
     have HBR2 := Lib.hid hbr2
     have HBD2 : Hid (Below w9.heap.size w9 wr.drew) := hbr2.drew
     obtain ⟨g0, _⟩ := (HRA.out _ hbr2).cell4 hlt hC0
     clear hbr2
     by_cases hlq : q < A.S.D.C
     · have hqz : (q : Int) < (A.S.D.C : Int) := by omega
       have hwq : IntKind.i64.wrap ((q : Int) + 1) = ((q + 1 : Nat) : Int) := by rw [wrap_in (by omega) (by omega)]; rfl
       go_upto_region 17 with fail
       clear g0
       refine wp_region_noPanic ?_
       refine wp_region_k (S := fun W : World => Below w9.heap.size w9 W) 999 (by kernel_rfl) (HBD2.out) (fun hHeld => ?_)
       refine kSK 0 hHeld ?_
       refine kSK 1 hHeld ?_
       refine kSK 2 hHeld ?_
       refine kHK (v := ?_) 3 hHeld ?y4 ?_
       case y4 => (intro W hSw; obtain ⟨p0, p1, p2, p3, p4⟩ := (HRA.out _ hSw).cell4 hlt hlq; obtain ⟨q0, q1, q2, q3, q4⟩ := (HRB.out _ hSw).cell4 hlt hlq; go_simp; try with_reducible rfl)
       refine kSK 4 hHeld ?_
       try refine kNK ?_
       refine kSK 5 hHeld ?_
       refine kHK (v := ?_) 6 hHeld ?y7 ?_
       case y7 => (intro W hSw; obtain ⟨p0, p1, p2, p3, p4⟩ := (HRA.out _ hSw).cell4 hlt hlq; obtain ⟨q0, q1, q2, q3, q4⟩ := (HRB.out _ hSw).cell4 hlt hlq; go_simp; try with_reducible rfl)
       refine kSK 7 hHeld ?_
       refine kSK 8 hHeld ?_
       refine kSK 9 hHeld ?_
       try refine kNK ?_
       refine kHK (v := ?_) 10 hHeld ?y11 ?_
       case y11 => (intro W hSw; obtain ⟨p0, p1, p2, p3, p4⟩ := (HRA.out _ hSw).cell4 hlt hlq; obtain ⟨q0, q1, q2, q3, q4⟩ := (HRB.out _ hSw).cell4 hlt hlq; go_simp; try with_reducible rfl)
       refine kSK 11 hHeld ?_
       refine kSK 12 hHeld ?_
       refine kHK (v := ?_) 13 hHeld ?y14 ?_
       case y14 => (intro W hSw; obtain ⟨p0, p1, p2, p3, p4⟩ := (HRA.out _ hSw).cell4 hlt hlq; obtain ⟨q0, q1, q2, q3, q4⟩ := (HRB.out _ hSw).cell4 hlt hlq; go_simp; try with_reducible rfl)
       refine kSK 14 hHeld ?_
       try refine kNK ?_
       refine wpAnyK_done (by kernel_rfl) ?_ _
       refine NoPanic.normal ?_
       clear hHeld
       go_wp2_with fail
       exact ⟨⟨q + 1, by omega, rfl, HBD2.out⟩, by simp [intOf]; omega⟩
     · obtain rfl : q = A.S.D.C := by omega
       go_wp2_with fail
       exact ⟨⟨k + 1, by omega, rfl, HBR2.out⟩, by simp [intOf]; omega⟩
  · obtain rfl : k = A.S.D.R := by omega
    go_wp2_with fail
    go_ret
    exact ⟨rfl, F6, F7, HD7.out.below (Below.later HB9.out HBR.out HB9.out.size)⟩
end Go.Proofs.YteoeooijpjehpaaGreatDoor
