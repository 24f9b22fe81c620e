import Derived.Test.YtncgigapgklhcaaGreatDoorHE
import Derived.Maps.OwnSet
import Derived.Laws.StructEq
import Derived.Maps.Ext

set_option maxRecDepth 100000
set_option maxHeartbeats 16000000
namespace Go.Proofs.YtncgigapgklhcaaGreatDoor
open Go.RowKit
set_option linter.unusedSimpArgs false
set_option linter.unusedVariables false
/- Walks: shift.Up, ink.rise, ink.Put without guard. -/
section
attribute [local go_sem] alloc_drewN setCell_drewN World.cell?_alloc_some frozen_alloc_some
def GridTo (w w' : World) (gp : Nat) (F : Nat → Prop) (D' : Vz.Gd) : Prop := (∃ F', Grid w' gp F' D' ∧ ∀ k, F' k → F k ∨ w.heap.size ≤ k) ∧ Keeps F w w'
theorem GridTo.refl {w : World} {gp : Nat} {F : Nat → Prop} {D : Vz.Gd} (h : Grid w gp F D) : GridTo w w gp F D := ⟨⟨F, h, fun k hk => .inl hk⟩, Keeps.refl F w⟩
theorem GridTo.after {w w1 w2 : World} {gp : Nat} {F : Nat → Prop} {D' : Vz.Gd} (hb : Below w.heap.size w w1) (h : GridTo w1 w2 gp F D') : GridTo w w2 gp F D' := by
 obtain ⟨⟨F', h1, h2⟩, h3⟩ := h
 exact ⟨⟨F', h1, fun k hk => (h2 k hk).imp id fun hk => Nat.le_trans hb.size hk⟩, (Keeps.of_below hb).trans h3 fun k hk => .inl hk⟩
theorem GridTo.later {w w1 w2 : World} {gp : Nat} {F : Nat → Prop} {D' : Vz.Gd} (h : GridTo w w1 gp F D') (hb : Below w1.heap.size w1 w2) : GridTo w w2 gp F D' := by
 obtain ⟨⟨F', h1, h2⟩, h3⟩ := h
 exact ⟨⟨F', h1.below hb, h2⟩, h3.trans (Keeps.of_below hb : Keeps F w1 w2) fun k hk => .inl hk⟩
theorem GridTo.trans {w w1 w2 : World} {gp : Nat} {F : Nat → Prop} {D1 D2 : Vz.Gd} (h : GridTo w w1 gp F D1) (h' : ∀ F', Grid w1 gp F' D1 → GridTo w1 w2 gp F' D2) : GridTo w w2 gp F D2 := by
 obtain ⟨⟨F', h1, h2⟩, h3⟩ := h
 obtain ⟨⟨F'', h4, h5⟩, h6⟩ := h' F' h1
 refine ⟨⟨F'', h4, fun k hk => ?_⟩, h3.trans h6 fun k hk => h2 k hk⟩
 rcases h5 k hk with hk | hk
 · exact h2 k hk
 · exact .inr (Nat.le_trans h3.size hk)
theorem GridTo.out {w w' : World} {gp : Nat} {F : Nat → Prop} {D' : Vz.Gd} (h : GridTo w w' gp F D') {k : Nat} (hk : k < w.heap.size) (hn : ¬ F k) : w'.heap[k]? = w.heap[k]? := h.2.block k hk hn
theorem GridTo.size {w w' : World} {gp : Nat} {F : Nat → Prop} {D' : Vz.Gd} (h : GridTo w w' gp F D') : w.heap.size ≤ w'.heap.size := h.2.size
theorem GridTo.link {w w1 w2 : World} {gp : Nat} {F F1 : Nat → Prop} {D2 : Vz.Gd} (hF : ∀ k, F1 k → F k ∨ w.heap.size ≤ k) (hK : Keeps F w w1) (h : GridTo w1 w2 gp F1 D2) : GridTo w w2 gp F D2 := by
 obtain ⟨⟨F'', h4, h5⟩, h6⟩ := h
 refine ⟨⟨F'', h4, fun k hk => ?_⟩, hK.trans h6 hF⟩
 rcases h5 k hk with hk | hk
 · exact hF k hk
 · exact .inr (Nat.le_trans hK.size hk)
def Has (n m : Nat) (W : World) (l : List (Nat × Obj)) : Prop := ∀ p ∈ l, n ≤ p.1 ∧ p.1 < m ∧ W.heap[p.1]? = some p.2
theorem Has.nil (n m : Nat) (W : World) : Has n m W [] := fun p hp => absurd hp (by simp)
theorem Has.nth {n m : Nat} {W : World} {l : List (Nat × Obj)} (h : Has n m W l) (i : Nat) {k : Nat} {o : Obj} (e : l[i]? = some (k, o)) : W.heap[k]? = some o := (h (k, o) (List.mem_of_getElem? e)).2.2
theorem Has.rng {n m : Nat} {W : World} {l : List (Nat × Obj)} (h : Has n m W l) (i : Nat) {k : Nat} {o : Obj} (e : l[i]? = some (k, o)) : n ≤ k ∧ k < m := ⟨(h (k, o) (List.mem_of_getElem? e)).1, (h (k, o) (List.mem_of_getElem? e)).2.1⟩
theorem Has.below {n m : Nat} {W W' : World} {l : List (Nat × Obj)} (h : Has n m W l) (hb : Below W.heap.size W W') : Has n m W' l := fun p hp => ⟨(h p hp).1, (h p hp).2.1, (hb.block p.1 (block_lt (h p hp).2.2)).trans (h p hp).2.2⟩
theorem Has.alloc {n m : Nat} {W : World} {l : List (Nat × Obj)} (h : Has n m W l) (hn : n ≤ W.heap.size) (o : Obj) : Has n (W.heap.size + 1) (W.alloc o) ((W.heap.size, o) :: l) := fun p hp => by
 rcases List.mem_cons.1 hp with rfl | hp
 · exact ⟨hn, Nat.lt_succ_self _, heap_alloc_new W _⟩
 · have := (h.below (below1 W o)) p hp
   exact ⟨this.1, Nat.lt_succ_of_lt (block_lt (h p hp).2.2), this.2.2⟩
theorem Has.keeps {n m : Nat} {W W' : World} {l : List (Nat × Obj)} {F : Nat → Prop} (h : Has n m W l) (hk : Keeps F W W') (hF : ∀ k, F k → k < n ∨ m ≤ k) : Has n m W' l := fun p hp => by
 obtain ⟨h1, h2, h3⟩ := h p hp
 exact ⟨h1, h2, (hk.block p.1 (block_lt h3) (fun hf => by rcases hF _ hf with h | h <;> omega)).trans h3⟩
theorem Has.same {n m : Nat} {W W' : World} {l : List (Nat × Obj)} (h : Has n m W l) (e : W'.heap = W.heap) : Has n m W' l := fun p hp => by
 rw [e]
 exact h p hp
theorem Has.sub {n m : Nat} {W : World} {l l' : List (Nat × Obj)} (h : Has n m W l) (hs : ∀ p ∈ l', p ∈ l) : Has n m W l' := fun p hp => h p (hs p hp)
theorem set_three {W : World} {g : Nat} {a b c : Value} {t : TypeId} (h : W.heap[g]? = some (.cells #[a, b, c] t (0, 0))) (u0 u1 u2 : Value) :
 (((W.setCell ⟨g, 0, none⟩ u0).setCell ⟨g, 1, none⟩ u1).setCell ⟨g, 2, none⟩ u2).heap[g]? = some (.cells #[u0, u1, u2] t (0, 0)) := by
 have h0 := heap_set_same h 0 u0
 have h1 := heap_set_same h0 1 u1
 have h2 := heap_set_same h1 2 u2
 exact h2
theorem set_three_other (W : World) (g : Nat) (u0 u1 u2 : Value) {k : Nat} (h : k ≠ g) : (((W.setCell ⟨g, 0, none⟩ u0).setCell ⟨g, 1, none⟩ u1).setCell ⟨g, 2, none⟩ u2).heap[k]? = W.heap[k]? :=
 (Below.heap_setCell _ _ _ _ h).trans ((Below.heap_setCell _ _ _ _ h).trans (Below.heap_setCell _ _ _ _ h))
theorem GridTo.box3 {w w' : World} {gp : Nat} {F : Nat → Prop} {D' : Vz.Gd} {b : Nat} (hb : w.heap.size ≤ b) (F' : Nat → Prop) (h1 : Grid w' gp F' D') (h2 : ∀ k, F' k → F k ∨ w.heap.size ≤ k) (h3 : ¬ F' b) (hK : Keeps F w w') (u0 u1 u2 : Value) :
 GridTo w (((w'.setCell ⟨b, 0, none⟩ u0).setCell ⟨b, 1, none⟩ u1).setCell ⟨b, 2, none⟩ u2) gp F D' :=
 ⟨⟨F', h1.of_blocks fun k hk => set_three_other _ _ _ _ _ (fun e => h3 (by rw [← e]; exact hk)), h2⟩, hK.os, hK.tape, hK.output, by simp only [World.size_setCell]; exact hK.size, fun k hk hn => (set_three_other _ _ _ _ _ (by omega)).trans (hK.block k hk hn)⟩
theorem size_f0 (a b : Int) (W : World) : Sem.run Tryz.prog (Instr.field 23 (.agg #[.int .i64 a, .int .i64 b]) 0) W = .ok (.int .i64 a) W := by kernel_rfl
theorem size_f1 (a b : Int) (W : World) : Sem.run Tryz.prog (Instr.field 23 (.agg #[.int .i64 a, .int .i64 b]) 1) W = .ok (.int .i64 b) W := by kernel_rfl
attribute [local go_sem] size_f0 size_f1
theorem up_ok (gp : Nat) (F : Nat → Prop) (D : Vz.Gd) (n : Int) (x : Vz.Cl) (w : World) (h : Grid w gp F D) (hn : -100000 ≤ n ∧ n ≤ 100000) :
 Calls Tryz.prog 125 #[.pointer (some ⟨gp, 0, none⟩), .int .i64 n, .agg #[.int .i32 x.g, .int .i64 x.a, .bool x.gd, .int .i64 x.m]] w fun e w' => e = .returned (.int .i64 0) ∧ GridTo w w' gp F (D.roll 0 (D.R - 1) n x) := by
 obtain ⟨m1, m2, m3, m4⟩ := h.may
 have H := Lib.hid h
 have HX : Hid (∀ W, Below (w.heap.size + 1) (w.alloc (.cells (cellB x) 56)) W → W.heap[w.heap.size]? = some (.cells (cellB x) 56 (0, 0))) := fun W hb => (hb.block _ (by omega)).trans (heap_alloc_new w _)
 have HD : Hid (Below (w.heap.size + 1) (w.alloc (.cells (cellB x) 56)) (w.alloc (.cells (cellB x) 56)).drew) := (Below.refl _ _).drew
 have HB : Hid (∀ W, Below (w.heap.size + 1) (w.alloc (.cells (cellB x) 56)) W → Below w.heap.size w W) := fun W hb => (below1 w _).trans (hb.mono (Nat.le_succ _))
 have hr : (D.R : Int) - 1 = ((D.R - 1 : Nat) : Int) := by omega
 have hw : IntKind.i64.wrap ((D.R : Int) - 1) = ((D.R - 1 : Nat) : Int) := by rw [wrap_in (by omega) (by omega), hr]
 have hge : (0 : Int) ≤ ((D.R - 1 : Nat) : Int) := Int.natCast_nonneg _
 have HN := Lib.hid hn
 clear h hn hr
 generalize hq : D.R - 1 = q at *
 have HQ := Lib.hid hq
 clear hq
 unfold cellB at *
 go_enter Tryz.func125, Tryz.ntmps125
 go_upto_region 1 with fail
 refine wp_region_noPanic ?_
 refine wp_region_k (S := fun W' : World => Below (w.heap.size + 1) (w.alloc (.cells #[.int .i32 x.g, .int .i64 x.a, .bool x.gd, .int .i64 x.m] 56)) W') 8 (by kernel_rfl) (HD.out) (fun hHeld => ?_)
 refine kSK 0 hHeld ?_
 refine kSK 1 hHeld ?_
 refine kSK 6 hHeld ?_
 refine kTK (v := ?_) 7 [] hHeld ?y4 ?_
 case y4 => (intro W hSw; obtain ⟨q0, q1, q2, q3⟩ := cell4 (HX.out _ hSw); go_simp; try with_reducible rfl)
 try refine kNK ?_
 refine kOK 2 fun KQ hKQ => ?_
 go_simp
 go_at_call 60
 refine (gsize_ok gp F D _ (H.out.below (HB.out _ hHeld))).mono ?_
 rintro e w1 ⟨rfl, hb1⟩
 have HB1 := Lib.hid (hHeld.trans (hb1.mono (by simp)))
 clear hb1
 go_wp2_with fail
 refine hKQ.out _ _ (HB1.out) ?_
 clear hHeld hKQ KQ
 intro hHeld
 try refine kNK ?_
 refine kSK 3 hHeld ?_
 refine kSK 4 hHeld ?_
 refine kSK 5 hHeld ?_
 try refine kNK ?_
 refine kPK 8 fun KQ hKQ => ?_
 go_simp
 go_at_call 144
 refine (groll_ok gp F D 0 q n x _ (H.out.below (HB.out _ HB1.out)) (Nat.zero_le _) (by have := HQ.out; omega) HN.out).mono ?_
 rintro e w2 ⟨rfl, hG, hK⟩
 have HG : Hid (GridTo w1 w2 gp F (D.roll 0 q n x)) := ⟨hG, hK⟩
 clear hG hK
 go_wp2_with fail
 refine hKQ.out _ _ ?_
 clear hKQ KQ
 try refine kNK ?_
 refine kBK 9 ?_
 try refine kNK ?_
 refine wpAnyK_done (by kernel_rfl) ?_ _
 refine NoPanic.normal ?_
 go_wp2_with fail
 go_ret
 exact ⟨rfl, GridTo.after (HB.out _ HB1.out) HG.out⟩
def riseD (D : Vz.Gd) (must : Bool) (x : Vz.Cl) : Vz.Gd := if must = true then D.roll 0 (D.R - 1) 1 x else D
theorem rise_any (gp : Nat) (F : Nat → Prop) (D : Vz.Gd) (must : Bool) (x : Vz.Cl) (w : World) (h : Grid w gp F D) :
 Calls Tryz.prog 130 #[.pointer (some ⟨gp, 0, none⟩), .bool must, .agg #[.int .i32 x.g, .int .i64 x.a, .bool x.gd, .int .i64 x.m]] w fun e w' => ∃ n : Int, 0 ≤ n ∧ n ≤ 1 ∧ e = .returned (.int .i64 n) ∧ GridTo w w' gp F (riseD D must x) := by
 have H := Lib.hid h
 have HB : Hid (Below w.heap.size w (w.alloc (.cells (cellB x) 56))) := below1 _ _
 obtain ⟨q0, q1, q2, q3⟩ := cell4 (heap_alloc_new w (.cells (cellB x) 56))
 unfold cellB at *
 cases must
 · have hD : Hid (riseD D false x = D) := rfl
   rw [hD.out]
   clear h
   go_enter Tryz.func130, Tryz.ntmps130
   go_wp2_with fail
   go_ret
   exact ⟨0, by decide, by decide, rfl, (GridTo.refl H.out).later HB.out⟩
 · have hD : Hid (riseD D true x = D.roll 0 (D.R - 1) 1 x) := rfl
   rw [hD.out]
   have HU := Lib.hid (up_ok gp F D 1 x _ (h.below HB.out) (by decide))
   clear h
   go_enter Tryz.func130, Tryz.ntmps130
   go_wp2_with (go_at_call 125; refine HU.out.mono ?_; rintro e w1 ⟨rfl, hg⟩)
   go_ret
   exact ⟨1, by decide, by decide, rfl, GridTo.after HB.out hg⟩
def putD (D : Vz.Gd) (pl : Vz.Pl) (c : Vz.Cl) (wrap : Int) (x : Vz.Cl) : Vz.Gd × Vz.Pl :=
 let q := Vz.aheadP D.R D.C pl
 let b := Vz.behindP D.R D.C q.1 wrap
 (riseD ((riseD D q.2 x).set q.1.row.toNat q.1.col.toNat c) b.2 x, b.1)
theorem ink_put (gp : Nat) (F : Nat → Prop) (D : Vz.Gd) (pl : Vz.Pl) (c x : Vz.Cl) (wrap : Int) (w : World) (h : Grid w gp F D) :
 Calls Tryz.prog 107 #[.pointer (some ⟨gp, 0, none⟩), .agg #[.int .i64 pl.at_.row, .int .i64 pl.at_.col, .bool pl.pend], .agg #[.int .i32 c.g, .int .i64 c.a, .bool c.gd, .int .i64 c.m], .int .i64 wrap, .agg #[.int .i32 x.g, .int .i64 x.a, .bool x.gd, .int .i64 x.m]] w
  fun e w' => ∃ n : Int, e = .returned (.tuple #[.agg #[.int .i64 (putD D pl c wrap x).2.at_.row, .int .i64 (putD D pl c wrap x).2.at_.col, .bool (putD D pl c wrap x).2.pend], .int .i64 n, .int .i64 0]) ∧ GridTo w w' gp F (putD D pl c wrap x).1 := by
 have hmay : Vz.mayS D.R D.C = true := Vz.Gd.may_mayS h.may
 have hin := Vz.aheadP_in D.R D.C pl hmay
 obtain ⟨⟨pr, pc⟩, pd⟩ := pl
 have hR : Hid (putD D ⟨⟨pr, pc⟩, pd⟩ c wrap x = (riseD ((riseD D (Vz.aheadP D.R D.C ⟨⟨pr, pc⟩, pd⟩).2 x).set (Vz.aheadP D.R D.C ⟨⟨pr, pc⟩, pd⟩).1.row.toNat (Vz.aheadP D.R D.C ⟨⟨pr, pc⟩, pd⟩).1.col.toNat c) (Vz.behindP D.R D.C (Vz.aheadP D.R D.C ⟨⟨pr, pc⟩, pd⟩).1 wrap).2 x, (Vz.behindP D.R D.C (Vz.aheadP D.R D.C ⟨⟨pr, pc⟩, pd⟩).1 wrap).1)) := rfl
 rw [hR.out]
 have HAH := Lib.hid (fun W => ahead_any D.R D.C pr pc pd hmay W)
 generalize Vz.aheadP D.R D.C ⟨⟨pr, pc⟩, pd⟩ = q at *
 obtain ⟨⟨qr, qc⟩, u1⟩ := q
 simp only at hin ⊢
 have HBH := Lib.hid (fun W => behind_any D.R D.C qr qc wrap hmay W)
 generalize Vz.behindP D.R D.C ⟨qr, qc⟩ wrap = b at *
 obtain ⟨⟨⟨br, bc⟩, bd⟩, u2⟩ := b
 simp only at HBH HAH ⊢
 have H := Lib.hid h
 have HM := Lib.hid hmay
 have HI := Lib.hid hin
 clear h hmay hin hR
 go_enter Tryz.func107, Tryz.ntmps107
 have HS0 : Hid (Has w.heap.size (w.heap.size + 1 + 1 + 1 + 1) ((((w.alloc (.cells #[.int .i64 pr, .int .i64 pc, .bool pd] 76)).alloc (.cells (cellB c) 56)).alloc (.cells (cellB x) 56)).alloc (.cells #[.int .i64 0, .int .i64 0, .bool false] 76))
  [(w.heap.size + 1 + 1 + 1, .cells #[.int .i64 0, .int .i64 0, .bool false] 76), (w.heap.size + 1 + 1, .cells (cellB x) 56), (w.heap.size + 1, .cells (cellB c) 56), (w.heap.size, .cells #[.int .i64 pr, .int .i64 pc, .bool pd] 76)]) := by
  have h1 := (Has.nil w.heap.size 0 w).alloc (Nat.le_refl _) (.cells #[.int .i64 pr, .int .i64 pc, .bool pd] 76)
  have h2 := h1.alloc (by simp) (.cells (cellB c) 56)
  have h3 := h2.alloc (by simp; omega) (.cells (cellB x) 56)
  have h4 := h3.alloc (by simp; omega) (.cells #[.int .i64 0, .int .i64 0, .bool false] 76)
  simp only [World.size_alloc] at h4
  exact h4
 have HB0 : Hid (Below w.heap.size w ((((w.alloc (.cells #[.int .i64 pr, .int .i64 pc, .bool pd] 76)).alloc (.cells (cellB c) 56)).alloc (.cells (cellB x) 56)).alloc (.cells #[.int .i64 0, .int .i64 0, .bool false] 76))) := Grows.below (((((Grows.refl w).alloc _).alloc _).alloc _).alloc _)
 unfold cellB at HS0 HB0
 have HLT := Lib.hid H.out.lt
 have HI1 : Hid ((⟨qr, qc⟩ : Vz.Ps).inS (riseD D u1 x).R (riseD D u1 x).C) := by cases u1 <;> exact HI.out
 generalize hD1 : riseD D u1 x = D1 at *
 have HD1 := Lib.hid hD1
 clear hD1
 go_upto_region 10 with (first
  | (go_at_call 60; refine (gsize_ok gp F D _ (H.out.below HB0.out)).mono ?_; rintro e w1 ⟨rfl, hb1⟩; have hz1 : w.heap.size ≤ w1.heap.size := Nat.le_trans HB0.out.size hb1.size; have HS1 := Lib.hid ((HS0.out.below hb1).alloc hz1 (.cells #[.int .i64 D.R, .int .i64 D.C] 23)); obtain ⟨p0, p1, p2, _⟩ := row3 (HS1.out.nth 4 rfl); obtain ⟨s0, s1, _⟩ := row2 (HS1.out.nth 0 rfl); have HB1 := Lib.hid (Below.later HB0.out (Below.later hb1 (below1 w1 (.cells #[.int .i64 D.R, .int .i64 D.C] 23)) hb1.size) HB0.out.size); clear hb1)
  | (go_at_call 129; refine (HAH.out _).mono ?_; rintro e w2 ⟨rfl, hb2⟩; clear p0 p1 p2 s0 s1; have hz2 : w.heap.size ≤ w2.heap.size := Nat.le_trans HB1.out.size hb2.size; have HS2 := Lib.hid ((HS1.out.below hb2).alloc hz2 (.cells #[.int .i64 qr, .int .i64 qc] 36)); obtain ⟨x0, x1, x2, x3, _⟩ := row4 (HS2.out.nth 3 rfl); have HB2 := Lib.hid (Below.later HB1.out (Below.later hb2 (below1 w2 (.cells #[.int .i64 qr, .int .i64 qc] 36)) hb2.size) HB1.out.size); clear hb2)
  | (go_at_call 130; refine (rise_any gp F D u1 x _ (H.out.below HB2.out)).mono ?_; rintro e w3 ⟨n3, hn3, hn3', rfl, hg⟩; rw [HD1.out] at hg; obtain ⟨⟨F3, hG3, hF3⟩, hK3⟩ := hg; clear x0 x1 x2 x3; have HG3 := Lib.hid hG3; have HK3 := Lib.hid ((Keeps.of_below HB2.out : Keeps F w _).trans hK3 fun k hk => .inl hk); have HF3 : Hid (∀ k, F3 k → F k ∨ w2.heap.size + 1 ≤ k) := (fun k hk => by have := hF3 k hk; rwa [World.size_alloc] at this); have HS3 := Lib.hid (HS2.out.keeps hK3 (fun k hk => .inl (HLT.out k hk))); clear hG3 hF3 hK3; obtain ⟨c0, c1, c2, c3, _⟩ := row4 (HS3.out.nth 4 rfl); obtain ⟨q0, q1, _⟩ := row2 (HS3.out.nth 0 rfl))
  | (go_at_call 126; refine (gset_ok gp F3 D1 ⟨qr, qc⟩ c _ HG3.out HI1.out).mono ?_; rintro e w4 ⟨rfl, hG4, hK4⟩; clear c0 c1 c2 c3 q0 q1; have HG4 := Lib.hid hG4; have HK4 := Lib.hid hK4; have HS4 := Lib.hid (HS3.out.keeps hK4 (fun k hk => (HF3.out k hk).imp (HLT.out k) id)); clear hG4 hK4; obtain ⟨q0, q1, _⟩ := row2 (HS4.out.nth 0 rfl); obtain ⟨s0, s1, _⟩ := row2 (HS4.out.nth 1 rfl))
  | (go_at_call 131; refine (HBH.out _).mono ?_; rintro e w5 ⟨rfl, hb5⟩; clear q0 q1 s0 s1; have HB5 := Lib.hid hb5; have HS5 := Lib.hid (HS4.out.below hb5); clear hb5))
 have hz5 : w4.heap.size ≤ w5.heap.size := HB5.out.size
 have hz4 : w3.heap.size ≤ w4.heap.size := HK4.out.size
 have hz3 : w.heap.size ≤ w3.heap.size := HK3.out.size
 have HG5 : Hid (Grid (w5.alloc (.cells #[.int .i64 br, .int .i64 bc, .bool bd] 76)).drew gp F3 (D1.set qr.toNat qc.toNat c)) := HG4.out.below (Below.later HB5.out (below1 _ _) hz5).drew
 have HS6 := Lib.hid ((HS5.out.sub (l' := [(w.heap.size + 1 + 1 + 1, .cells #[.int .i64 0, .int .i64 0, .bool false] 76), (w.heap.size + 1 + 1, .cells #[.int .i32 x.g, .int .i64 x.a, .bool x.gd, .int .i64 x.m] 56)]) (by simp)).below (below1 w5 (.cells #[.int .i64 br, .int .i64 bc, .bool bd] 76)))
 have HNB := Lib.hid (heap_alloc_new w5 (.cells #[.int .i64 br, .int .i64 bc, .bool bd] 76))
 have HN5 : Hid (∀ k, F3 k → k < w5.heap.size) := fun k hk => Nat.lt_of_lt_of_le (HG4.out.lt k hk) hz5
 refine wp_region_noPanic ?_
 refine wp_region_k (S := fun W' : World => W'.heap[w5.heap.size]? = some (.cells #[.int .i64 br, .int .i64 bc, .bool bd] 76 (0, 0)) ∧ W'.heap[w.heap.size + 1 + 1]? = some (.cells #[.int .i32 x.g, .int .i64 x.a, .bool x.gd, .int .i64 x.m] 56 (0, 0))) 7 (by kernel_rfl) (⟨HNB.out, HS6.out.nth 1 rfl⟩) (fun hHeld => ?_)
 refine kTK (v := ?_) 0 [] hHeld ?y1 ?_
 case y1 => (intro W hSw; obtain ⟨q0, q1, q2, _⟩ := row3 hSw.1; obtain ⟨x0, x1, x2, x3, _⟩ := row4 hSw.2; go_simp; try with_reducible rfl)
 refine kSK 1 hHeld ?_
 refine kSK 2 hHeld ?_
 refine kSK 3 hHeld ?_
 refine kTK (v := ?_) 4 [5] hHeld ?y5 ?_
 case y5 => (intro W hSw; obtain ⟨q0, q1, q2, _⟩ := row3 hSw.1; obtain ⟨x0, x1, x2, x3, _⟩ := row4 hSw.2; go_simp; try with_reducible rfl)
 try refine kNK ?_
 refine kOK 5 fun KQ hKQ => ?_
 go_simp
 go_at_call 130
 refine (rise_any gp F3 (D1.set qr.toNat qc.toNat c) u2 x _ HG5.out).mono ?_
 rintro e w6 ⟨n6, hn6, hn6', rfl, hg⟩
 have HG6 := Lib.hid hg
 clear hg
 go_wp2_with fail
 refine hKQ.out _ _ (⟨(HG6.out.out (by show _ < (w5.alloc _).heap.size; simp) (fun hk => Nat.lt_irrefl _ (HN5.out _ hk))).trans hHeld.1, (HG6.out.out (by show _ < (w5.alloc _).heap.size; have := block_lt (HS5.out.nth 3 rfl); rw [World.size_alloc]; omega) (fun hk => by rcases HF3.out _ hk with h | h; (have := HLT.out _ h; omega); (have := (HS5.out.rng 3 rfl).2; omega))).trans hHeld.2⟩) ?_
 clear hHeld hKQ KQ
 intro hHeld
 try refine kNK ?_
 have hl3 : w.heap.size + 1 + 1 + 1 < w5.heap.size := Nat.lt_of_lt_of_le (block_lt (HS3.out.nth 2 rfl)) (Nat.le_trans hz4 hz5)
 have HNF : Hid (∀ k, F3 k → k ≠ w.heap.size + 1 + 1 + 1) := fun k hk e => by subst e; rcases HF3.out _ hk with h | h; (have := HLT.out _ h; omega); (have := (HS5.out.rng 2 rfl).2; omega)
 have HB6 := Lib.hid ((HG6.out.out (by show _ < (w5.alloc _).heap.size; rw [World.size_alloc]; omega) (fun hk => HNF.out _ hk rfl)).trans (HS6.out.nth 0 rfl))
 obtain ⟨b0, b1, b2, f0, f1, f2⟩ := row3 HB6.out
 refine kSK 6 hHeld ?_
 try refine kNK ?_
 refine kPK 7 fun KQ hKQ => ?_
 go_simp
 refine hKQ.out _ _ ?_
 clear hKQ KQ
 try refine kNK ?_
 refine kBK 8 ?_
 refine kBK 9 ?_
 try refine kNK ?_
 refine wpAnyK_done (by kernel_rfl) ?_ _
 refine NoPanic.normal ?_
 go_wp2_with fail
 obtain ⟨r0, r1, r2, _⟩ := row3 (set_three HB6.out (.int .i64 br) (.int .i64 bc) (.bool bd))
 obtain ⟨⟨F7, g7, hF7⟩, hK7⟩ := HG6.out
 have hK35 : Keeps F3 w3 (w5.alloc (.cells #[.int .i64 br, .int .i64 bc, .bool bd] 76)).drew := HK4.out.trans (Keeps.of_below (Below.later HB5.out (below1 _ _) hz5).drew : Keeps F3 w4 _) fun k hk => .inl hk
 have hsz5 : w5.heap.size ≤ (w5.alloc (.cells #[.int .i64 br, .int .i64 bc, .bool bd] 76)).drew.heap.size := by show _ ≤ (w5.alloc _).heap.size; rw [World.size_alloc]; omega
 have hF37 : ∀ k, F7 k → F3 k ∨ w5.heap.size ≤ k := fun k hk => (hF7 k hk).imp id fun h => Nat.le_trans hsz5 h
 have hFw : ∀ k, F3 k → F k ∨ w.heap.size ≤ k := fun k hk => (HF3.out k hk).imp id fun h => by omega
 refine bodyPost_ret (v := .tuple #[.agg #[.int .i64 br, .int .i64 bc, .bool bd], .int .i64 (IntKind.i64.wrap (n3 + n6)), .int .i64 0]) (by simp [results, Tryz.results107, go_sem, r0, r1, r2]) rfl ⟨_, rfl, GridTo.box3 (by omega) F7 g7 (fun k hk => ?_) (fun hk => ?_) ?_ _ _ _⟩
 · rcases hF37 k hk with h | h
   · exact hFw k h
   · exact .inr (by omega)
 · rcases hF37 _ hk with h | h
   · exact HNF.out _ h rfl
   · omega
 · exact HK3.out.trans (hK35.trans hK7 fun k hk => .inl hk) hFw
end
end Go.Proofs.YtncgigapgklhcaaGreatDoor
/- Screens in memory: what a pointer to one means, and what stays. -/
namespace Vz
structure Sr where
 D : Gd
 pl : Pl
 T : Nat → Bool
def stopsL (C : Nat) (T : Nat → Bool) : List Nat := (List.range C).filter T
end Vz
namespace Go.Proofs.YtncgigapgklhcaaGreatDoor
open Go.RowKit
set_option linter.unusedSimpArgs false
set_option linter.unusedVariables false
def stopsD (C : Nat) (T : Nat → Bool) : DataW Unit := .map ((Vz.stopsL C T).map fun c : Nat => (.int .i64 (c : Int), .agg []))
def TabsAt (W : World) (tp mb : Nat) (C : Nat) (T : Nat → Bool) : Prop :=
 W.heap[tp]? = some (.cells #[.int .i64 C, .map (some mb)] 118 (0, 0)) ∧ W.ownsMap Tryz.prog 3 unitElem mb C (stopsD C T) ∧ ∀ c, T c = true → c < C
theorem TabsAt.of_blocks {W W' : World} {tp mb C : Nat} {T : Nat → Bool} (h : TabsAt W tp mb C T) (h1 : W'.heap[tp]? = W.heap[tp]?) (h2 : W'.heap[mb]? = W.heap[mb]?) : TabsAt W' tp mb C T := by
 obtain ⟨a, ⟨es, clock, b, r⟩, c⟩ := h
 exact ⟨h1.trans a, ⟨es, clock, h2.trans b, r⟩, c⟩
theorem TabsAt.lt {W : World} {tp mb C : Nat} {T : Nat → Bool} (h : TabsAt W tp mb C T) : tp < W.heap.size ∧ mb < W.heap.size := by
 obtain ⟨a, ⟨es, clock, b, r⟩, c⟩ := h
 exact ⟨block_lt a, block_lt b⟩
def Blanked (W : World) : Prop := ∃ t fr, W.heap[0]? = some (.cells (cellB Vz.Cl.blank) t fr)
theorem Blanked.cells {W : World} (h : Blanked W) : W.cell? ⟨0, 0, none⟩ = some (.int .i32 32) ∧ W.cell? ⟨0, 1, none⟩ = some (.int .i64 0) ∧ W.cell? ⟨0, 2, none⟩ = some (.bool false) ∧ W.cell? ⟨0, 3, none⟩ = some (.int .i64 0) := by
 obtain ⟨t, fr, h⟩ := h
 exact ⟨by simp [World.cell?, h, cellB, Vz.Cl.blank], by simp [World.cell?, h, cellB, Vz.Cl.blank], by simp [World.cell?, h, cellB, Vz.Cl.blank], by simp [World.cell?, h, cellB, Vz.Cl.blank]⟩
theorem Blanked.lt {W : World} (h : Blanked W) : 0 < W.heap.size := by
 obtain ⟨t, fr, h⟩ := h
 exact block_lt h
theorem Blanked.of_block {W W' : World} (h : Blanked W) (e : W'.heap[0]? = W.heap[0]?) : Blanked W' := by
 obtain ⟨t, fr, h⟩ := h
 exact ⟨t, fr, e.trans h⟩
theorem Blanked.below {W W' : World} (h : Blanked W) (hb : Below W.heap.size W W') : Blanked W' := h.of_block (hb.block _ h.lt)
def scrB (pl : Vz.Pl) (gp tp : Nat) : Array Value := #[.int .i64 pl.at_.row, .int .i64 pl.at_.col, .bool pl.pend, .pointer (some ⟨gp, 0, none⟩), .pointer (some ⟨tp, 0, none⟩)]
structure ScrAt (W : World) (sp gp tp mb : Nat) (FG : Nat → Prop) (S : Vz.Sr) : Prop where
 box : W.heap[sp]? = some (.cells (scrB S.pl gp tp) 80 (0, 0))
 grid : Grid W gp FG S.D
 tabs : TabsAt W tp mb S.D.C S.T
 here : S.pl.at_.inS S.D.R S.D.C
 nsp : ¬ FG sp
 ntp : ¬ FG tp
 nmb : ¬ FG mb
 spt : sp ≠ tp
 spm : sp ≠ mb
 tpm : tp ≠ mb
 blk : Blanked W
 nbl : ∀ k, k = sp ∨ k = tp ∨ k = mb ∨ FG k → k ≠ 0
def footS (sp tp mb : Nat) (FG : Nat → Prop) (k : Nat) : Prop := k = sp ∨ k = tp ∨ k = mb ∨ FG k
def Scr (W : World) (sp : Nat) (F : Nat → Prop) (S : Vz.Sr) : Prop := ∃ gp tp mb FG, ScrAt W sp gp tp mb FG S ∧ ∀ k, F k ↔ footS sp tp mb FG k
theorem ScrAt.of_blocks {W W' : World} {sp gp tp mb : Nat} {FG : Nat → Prop} {S : Vz.Sr} (h : ScrAt W sp gp tp mb FG S) (e : ∀ k, footS sp tp mb FG k → W'.heap[k]? = W.heap[k]?) (hb : W'.heap[0]? = W.heap[0]?) : ScrAt W' sp gp tp mb FG S :=
 ⟨(e _ (.inl rfl)).trans h.box, h.grid.of_blocks fun k hk => e k (.inr (.inr (.inr hk))), h.tabs.of_blocks (e _ (.inr (.inl rfl))) (e _ (.inr (.inr (.inl rfl)))), h.here, h.nsp, h.ntp, h.nmb, h.spt, h.spm, h.tpm, h.blk.of_block hb, h.nbl⟩
theorem ScrAt.lt {W : World} {sp gp tp mb : Nat} {FG : Nat → Prop} {S : Vz.Sr} (h : ScrAt W sp gp tp mb FG S) {k : Nat} (hk : footS sp tp mb FG k) : k < W.heap.size := by
 rcases hk with rfl | rfl | rfl | hk
 · exact block_lt h.box
 · exact h.tabs.lt.1
 · exact h.tabs.lt.2
 · exact h.grid.lt k hk
theorem ScrAt.below {W W' : World} {sp gp tp mb : Nat} {FG : Nat → Prop} {S : Vz.Sr} (h : ScrAt W sp gp tp mb FG S) (hb : Below W.heap.size W W') : ScrAt W' sp gp tp mb FG S :=
 h.of_blocks (fun k hk => hb.block k (h.lt hk)) (hb.block _ h.blk.lt)
theorem Scr.below {W W' : World} {sp : Nat} {F : Nat → Prop} {S : Vz.Sr} (h : Scr W sp F S) (hb : Below W.heap.size W W') : Scr W' sp F S := by
 obtain ⟨gp, tp, mb, FG, h, hF⟩ := h
 exact ⟨gp, tp, mb, FG, h.below hb, hF⟩
theorem Scr.lt {W : World} {sp : Nat} {F : Nat → Prop} {S : Vz.Sr} (h : Scr W sp F S) : ∀ k, F k → k < W.heap.size := by
 obtain ⟨gp, tp, mb, FG, h, hF⟩ := h
 exact fun k hk => h.lt ((hF k).1 hk)
theorem Scr.blk {W : World} {sp : Nat} {F : Nat → Prop} {S : Vz.Sr} (h : Scr W sp F S) : Blanked W ∧ ∀ k, F k → k ≠ 0 := by
 obtain ⟨gp, tp, mb, FG, h, hF⟩ := h
 exact ⟨h.blk, fun k hk => h.nbl k ((hF k).1 hk)⟩
theorem Scr.here {W : World} {sp : Nat} {F : Nat → Prop} {S : Vz.Sr} (h : Scr W sp F S) : S.pl.at_.inS S.D.R S.D.C ∧ S.D.may := by
 obtain ⟨gp, tp, mb, FG, h, hF⟩ := h
 exact ⟨h.here, h.grid.may⟩
def ScrTo (w w' : World) (sp : Nat) (F : Nat → Prop) (S' : Vz.Sr) : Prop := (∃ F', Scr w' sp F' S' ∧ ∀ k, F' k → F k ∨ w.heap.size ≤ k) ∧ Keeps F w w'
theorem ScrTo.refl {w : World} {sp : Nat} {F : Nat → Prop} {S : Vz.Sr} (h : Scr w sp F S) : ScrTo w w sp F S := ⟨⟨F, h, fun k hk => .inl hk⟩, Keeps.refl F w⟩
theorem ScrTo.after {w w1 w2 : World} {sp : Nat} {F : Nat → Prop} {S' : Vz.Sr} (hb : Below w.heap.size w w1) (h : ScrTo w1 w2 sp F S') : ScrTo w w2 sp F S' := by
 obtain ⟨⟨F', h1, h2⟩, h3⟩ := h
 exact ⟨⟨F', h1, fun k hk => (h2 k hk).imp id fun hk => Nat.le_trans hb.size hk⟩, (Keeps.of_below hb).trans h3 fun k hk => .inl hk⟩
theorem ScrTo.later {w w1 w2 : World} {sp : Nat} {F : Nat → Prop} {S' : Vz.Sr} (h : ScrTo w w1 sp F S') (hb : Below w1.heap.size w1 w2) : ScrTo w w2 sp F S' := by
 obtain ⟨⟨F', h1, h2⟩, h3⟩ := h
 exact ⟨⟨F', h1.below hb, h2⟩, h3.trans (Keeps.of_below hb : Keeps F w1 w2) fun k hk => .inl hk⟩
theorem ScrTo.trans {w w1 w2 : World} {sp : Nat} {F : Nat → Prop} {S1 S2 : Vz.Sr} (h : ScrTo w w1 sp F S1) (h' : ∀ F', Scr w1 sp F' S1 → ScrTo w1 w2 sp F' S2) : ScrTo w w2 sp F S2 := by
 obtain ⟨⟨F', h1, h2⟩, h3⟩ := h
 obtain ⟨⟨F'', h4, h5⟩, h6⟩ := h' F' h1
 refine ⟨⟨F'', h4, fun k hk => ?_⟩, h3.trans h6 fun k hk => h2 k hk⟩
 rcases h5 k hk with hk | hk
 · exact h2 k hk
 · exact .inr (Nat.le_trans h3.size hk)
theorem ScrTo.link {w w1 w2 : World} {sp : Nat} {F F1 : Nat → Prop} {S2 : Vz.Sr} (hF : ∀ k, F1 k → F k ∨ w.heap.size ≤ k) (hK : Keeps F w w1) (h : ScrTo w1 w2 sp F1 S2) : ScrTo w w2 sp F S2 := by
 obtain ⟨⟨F'', h4, h5⟩, h6⟩ := h
 refine ⟨⟨F'', h4, fun k hk => ?_⟩, hK.trans h6 hF⟩
 rcases h5 k hk with hk | hk
 · exact hF k hk
 · exact .inr (Nat.le_trans hK.size hk)
theorem Keeps.setCell' {F : Nat → Prop} {a b : World} (h : Keeps F a b) {p : Addr} (hp : F p.block) (v : Value) : Keeps F a (b.setCell p v) :=
 h.trans (Keeps.setCell F b hp v) fun k hk => .inl hk
theorem ScrAt.place {W : World} {sp gp tp mb : Nat} {FG : Nat → Prop} {S : Vz.Sr} (h : ScrAt W sp gp tp mb FG S) (pl : Vz.Pl) (hin : pl.at_.inS S.D.R S.D.C) :
 ScrAt (((W.setCell ⟨sp, 0, none⟩ (.int .i64 pl.at_.row)).setCell ⟨sp, 1, none⟩ (.int .i64 pl.at_.col)).setCell ⟨sp, 2, none⟩ (.bool pl.pend)) sp gp tp mb FG { S with pl := pl } := by
 have ho : ∀ k, k ≠ sp → _ := fun k hk => set_three_other W sp (.int .i64 pl.at_.row) (.int .i64 pl.at_.col) (.bool pl.pend) (k := k) hk
 refine ⟨?_, h.grid.of_blocks fun k hk => ho k (fun e => h.nsp (e ▸ hk)), h.tabs.of_blocks (ho _ h.spt.symm) (ho _ h.spm.symm), hin, h.nsp, h.ntp, h.nmb, h.spt, h.spm, h.tpm, h.blk.of_block (ho _ (h.nbl sp (.inl rfl)).symm), h.nbl⟩
 have h0 := heap_set_same h.box 0 (.int .i64 pl.at_.row)
 have h1 := heap_set_same h0 1 (.int .i64 pl.at_.col)
 have h2 := heap_set_same h1 2 (.bool pl.pend)
 exact h2
theorem ScrTo.place {w W : World} {sp : Nat} {F : Nat → Prop} {S : Vz.Sr} (h : ScrTo w W sp F S) (hsp : F sp) (pl : Vz.Pl) (hin : pl.at_.inS S.D.R S.D.C) :
 ScrTo w (((W.setCell ⟨sp, 0, none⟩ (.int .i64 pl.at_.row)).setCell ⟨sp, 1, none⟩ (.int .i64 pl.at_.col)).setCell ⟨sp, 2, none⟩ (.bool pl.pend)) sp F { S with pl := pl } := by
 obtain ⟨⟨F', ⟨gp, tp, mb, FG, h, hF⟩, h2⟩, hK⟩ := h
 exact ⟨⟨F', ⟨gp, tp, mb, FG, h.place pl hin, hF⟩, h2⟩, ((hK.setCell' (p := ⟨sp, 0, none⟩) hsp _).setCell' (p := ⟨sp, 1, none⟩) hsp _).setCell' (p := ⟨sp, 2, none⟩) hsp _⟩
theorem ScrAt.gridTo {W W' : World} {sp gp tp mb : Nat} {FG : Nat → Prop} {S : Vz.Sr} {D' : Vz.Gd} (h : ScrAt W sp gp tp mb FG S) (hg : GridTo W W' gp FG D') (hR : D'.R = S.D.R) (hC : D'.C = S.D.C) : ∃ FG', ScrAt W' sp gp tp mb FG' { S with D := D' } ∧ ∀ k, FG' k → FG k ∨ W.heap.size ≤ k := by
 obtain ⟨⟨FG', h1, h2⟩, hK⟩ := hg
 have hs := h.lt (.inl rfl)
 have ht := h.lt (.inr (.inl rfl))
 have hm := h.lt (.inr (.inr (.inl rfl)))
 have hno : ∀ k, k < W.heap.size → ¬ FG k → ¬ FG' k := fun k hk hn hf => by
  rcases h2 k hf with h | h
  · exact hn h
  · omega
 have hgb : ¬ FG 0 := fun hf => h.nbl _ (.inr (.inr (.inr hf))) rfl
 refine ⟨FG', ⟨(hK.block _ hs h.nsp).trans h.box, h1, ?_, ?_, hno _ hs h.nsp, hno _ ht h.ntp, hno _ hm h.nmb, h.spt, h.spm, h.tpm, h.blk.of_block (hK.block _ h.blk.lt hgb), ?_⟩, h2⟩
 · rw [hC]
   exact h.tabs.of_blocks (hK.block _ ht h.ntp) (hK.block _ hm h.nmb)
 · rw [hR, hC]
   exact h.here
 · intro k hk
   rcases hk with rfl | rfl | rfl | hk
   · exact h.nbl _ (.inl rfl)
   · exact h.nbl _ (.inr (.inl rfl))
   · exact h.nbl _ (.inr (.inr (.inl rfl)))
   · rcases h2 k hk with hk | hk
     · exact h.nbl _ (.inr (.inr (.inr hk)))
     · have := h.blk.lt
       omega
theorem Scr.gridTo {W W' : World} {sp gp tp mb : Nat} {FG F : Nat → Prop} {S : Vz.Sr} {D' : Vz.Gd} (h : ScrAt W sp gp tp mb FG S) (hF : ∀ k, F k ↔ footS sp tp mb FG k) (hg : GridTo W W' gp FG D') (hR : D'.R = S.D.R) (hC : D'.C = S.D.C) : ScrTo W W' sp F { S with D := D' } := by
 obtain ⟨FG', h1, h2⟩ := h.gridTo hg hR hC
 refine ⟨⟨footS sp tp mb FG', ⟨gp, tp, mb, FG', h1, fun k => Iff.rfl⟩, fun k hk => ?_⟩, hg.2.mono fun k hk => (hF k).2 (.inr (.inr (.inr hk)))⟩
 rcases hk with rfl | rfl | rfl | hk
 · exact .inl ((hF _).2 (.inl rfl))
 · exact .inl ((hF _).2 (.inr (.inl rfl)))
 · exact .inl ((hF _).2 (.inr (.inr (.inl rfl))))
 · exact (h2 k hk).imp (fun hk => (hF k).2 (.inr (.inr (.inr hk)))) id
theorem row5' {W : World} {g : Nat} {pl : Vz.Pl} {gp tp : Nat} {t : TypeId} (h : W.heap[g]? = some (.cells (scrB pl gp tp) t (0, 0))) : W.cell? ⟨g, 0, none⟩ = some (.int .i64 pl.at_.row) ∧ W.cell? ⟨g, 1, none⟩ = some (.int .i64 pl.at_.col) ∧ W.cell? ⟨g, 2, none⟩ = some (.bool pl.pend) ∧ W.cell? ⟨g, 3, none⟩ = some (.pointer (some ⟨gp, 0, none⟩)) ∧ W.cell? ⟨g, 4, none⟩ = some (.pointer (some ⟨tp, 0, none⟩)) ∧ W.frozen? ⟨g, 0, none⟩ = false ∧ W.frozen? ⟨g, 1, none⟩ = false ∧ W.frozen? ⟨g, 2, none⟩ = false ∧ W.frozen? ⟨g, 3, none⟩ = false ∧ W.frozen? ⟨g, 4, none⟩ = false := row5 h
end Go.Proofs.YtncgigapgklhcaaGreatDoor
namespace Go.Proofs.YtncgigapgklhcaaGreatDoor
open Go.RowKit
set_option linter.unusedSimpArgs false
set_option linter.unusedVariables false
section
def eqC (x y : Vz.Cl) : Bool := decide (x = y)
def eqP (x y : Vz.Ps) : Bool := decide (x = y)
theorem eqC_iff {x y : Vz.Cl} : eqC x y = true ↔ x = y := by unfold eqC; simp
theorem eqP_iff {x y : Vz.Ps} : eqP x y = true ↔ x = y := by unfold eqP; simp
theorem eqC_cells (x y : Vz.Cl) : eqC x y = (x.g == y.g && x.a == y.a && x.gd == y.gd && x.m == y.m) := by
 cases x; cases y
 unfold eqC
 simp only [Vz.Cl.mk.injEq]
 rw [Bool.eq_iff_iff]
 simp [and_assoc]
theorem eqP_cells (x y : Vz.Ps) : eqP x y = (x.row == y.row && x.col == y.col) := by
 cases x; cases y
 unfold eqP
 simp only [Vz.Ps.mk.injEq]
 rw [Bool.eq_iff_iff]
 simp
theorem run_eql_cell (x y : Vz.Cl) (w : World) : Sem.run Tryz.prog (binOp .eql 56 (.agg #[.int .i32 x.g, .int .i64 x.a, .bool x.gd, .int .i64 x.m]) (.agg #[.int .i32 y.g, .int .i64 y.a, .bool y.gd, .int .i64 y.m])) w = .ok (.bool (eqC x y)) w := by
 rw [eqC_cells]
 have u1 := Tryz.underlying3
 have u2 := Tryz.underlying21
 have u3 := Tryz.underlying4
 have hS : Tryz.prog.underlying 56 = some (.struct (Tryz.prog.fieldsOf 56)) := by kernel_rfl
 have hp : Tryz.prog.stoodInHeld 56 = false := by kernel_rfl
 rw [run_eql_struct, show (10000 : Nat) = 9999 + 1 from rfl, run_equalIn_agg w 9999 56 _ _ hS hp]
 simp only [Program.fieldsOf, Tryz.underlying56]
 go_simp
 by_cases h1 : x.g = y.g <;> by_cases h2 : x.a = y.a <;> by_cases h3 : x.gd = y.gd <;> by_cases h4 : x.m = y.m <;> simp [h1, h2, h3, h4]
theorem run_neq_cell (x y : Vz.Cl) (w : World) : Sem.run Tryz.prog (binOp .neq 56 (.agg #[.int .i32 x.g, .int .i64 x.a, .bool x.gd, .int .i64 x.m]) (.agg #[.int .i32 y.g, .int .i64 y.a, .bool y.gd, .int .i64 y.m])) w = .ok (.bool (!eqC x y)) w := by
 have h := run_eql_cell x y w
 rw [run_eql_struct] at h
 rw [run_neq_struct]
 revert h
 generalize Sem.run Tryz.prog (Op.equalIn 10000 56 (.agg #[.int .i32 x.g, .int .i64 x.a, .bool x.gd, .int .i64 x.m]) (.agg #[.int .i32 y.g, .int .i64 y.a, .bool y.gd, .int .i64 y.m])) w = r
 cases r with
 | ok b w1 =>
   intro h
   simp only [Result.andThen_ok, Result.ok.injEq, Value.bool.injEq] at h ⊢
   obtain ⟨h1, h2⟩ := h
   exact ⟨by rw [h1], h2⟩
 | halt e w1 => intro h; cases h
theorem run_eql_ps (x y : Vz.Ps) (w : World) : Sem.run Tryz.prog (binOp .eql 36 (.agg #[.int .i64 x.row, .int .i64 x.col]) (.agg #[.int .i64 y.row, .int .i64 y.col])) w = .ok (.bool (eqP x y)) w := by
 rw [eqP_cells]
 have u1 := Tryz.underlying3
 have hS : Tryz.prog.underlying 36 = some (.struct (Tryz.prog.fieldsOf 36)) := by kernel_rfl
 have hp : Tryz.prog.stoodInHeld 36 = false := by kernel_rfl
 rw [run_eql_struct, show (10000 : Nat) = 9999 + 1 from rfl, run_equalIn_agg w 9999 36 _ _ hS hp]
 simp only [Program.fieldsOf, Tryz.underlying36]
 go_simp
 by_cases h1 : x.row = y.row <;> by_cases h2 : x.col = y.col <;> simp [h1, h2]
end
section
open Go.RowKit Go.Maps
def setT (T : Nat → Bool) (c : Nat) (on : Bool) : Nat → Bool := fun k => if k = c then on else T k
theorem canon_stops (C : Nat) (T : Nat → Bool) : Canon (stopsD C T) := by
 refine ⟨_, rfl, ?_, ?_⟩
 · rw [List.pairwise_map]
   refine (List.Pairwise.filter _ List.pairwise_lt_range).imp ?_
   intro a b hab
   show decide ((a : Int) < (b : Int)) = true
   simpa using hab
 · intro p hp
   obtain ⟨c, _, rfl⟩ := List.mem_map.1 hp
   trivial
theorem has_stops {C : Nat} {T : Nat → Bool} {k : Lit} : Maps.has (stopsD C T) k = true ↔ ∃ c : Nat, c < C ∧ T c = true ∧ k = .int .i64 (c : Int) := by
 unfold stopsD Vz.stopsL
 rw [has_eq, List.any_eq_true]
 constructor
 · rintro ⟨p, hp, hs⟩
   obtain ⟨c, hc, rfl⟩ := List.mem_map.1 hp
   obtain ⟨h1, h2⟩ := List.mem_filter.1 hc
   exact ⟨c, List.mem_range.1 h1, h2, (WideAt.sameKey_eq hs).symm⟩
 · rintro ⟨c, h1, h2, rfl⟩
   exact ⟨(.int .i64 (c : Int), .agg []), List.mem_map.2 ⟨c, List.mem_filter.2 ⟨List.mem_range.2 h1, h2⟩, rfl⟩, WideAt.sameKey_self trivial⟩
theorem at_stops {C : Nat} {T : Nat → Bool} {k : Lit} (z : DataW Unit) (h : Maps.has (stopsD C T) k = true) : (stopsD C T).atKey k z = .agg [] := by
 obtain ⟨c, h1, h2, rfl⟩ := has_stops.1 h
 obtain ⟨es, he, hp, _⟩ := canon_stops C T
 have hm : ((Lit.int .i64 (c : Int), DataW.agg []) : Lit × DataW Unit) ∈ (Vz.stopsL C T).map fun c : Nat => (Lit.int .i64 (c : Int), DataW.agg []) := List.mem_map.2 ⟨c, List.mem_filter.2 ⟨List.mem_range.2 h1, h2⟩, rfl⟩
 unfold stopsD at he ⊢
 injection he with he
 rw [he] at hm ⊢
 exact WideAt.atKey_mem z trivial (apart_of_rising hp) hm
theorem stops_ext {D : DataW Unit} {C : Nat} {T : Nat → Bool} (hc : Canon D) (hh : ∀ k, Maps.has D k = true ↔ ∃ c : Nat, c < C ∧ T c = true ∧ k = .int .i64 (c : Int)) (ha : ∀ k z, Maps.has D k = true → D.atKey k z = .agg []) : D = stopsD C T :=
 Maps.ext hc (canon_stops C T) (fun k => by
  have h1 := hh k
  have h2 := has_stops (C := C) (T := T) (k := k)
  cases e1 : Maps.has D k <;> cases e2 : Maps.has (stopsD C T) k
  · rfl
  · exact (Bool.false_ne_true (e1.symm.trans (h1.2 (h2.1 e2)))).elim
  · exact (Bool.false_ne_true (e2.symm.trans (h2.2 (h1.1 e1)))).elim
  · rfl) (fun k z h => (ha k z h).trans (at_stops z (has_stops.2 ((hh k).1 h))).symm)
theorem int_key {a b : Nat} : (Lit.int .i64 (a : Int)) = Lit.int .i64 (b : Int) ↔ a = b := ⟨fun h => by injection h with _ h; omega, fun h => by rw [h]⟩
theorem stops_put {C : Nat} {T : Nat → Bool} {c : Nat} (h : c < C) (hc : Canon ((stopsD C T).put (.int .i64 (c : Int)) (.agg []))) : (stopsD C T).put (.int .i64 (c : Int)) (.agg []) = stopsD C (setT T c true) := by
 refine stops_ext hc (fun k => ?_) (fun k z hk => ?_)
 · by_cases e : k = .int .i64 (c : Int)
   · subst e
     rw [has_put_same (show IsMap (stopsD C T) from ⟨_, rfl⟩) (show WideAt.IsKeyLit (.int .i64 (c : Int)) from trivial)]
     exact ⟨fun _ => ⟨c, h, by simp [setT], rfl⟩, fun _ => rfl⟩
   · rw [has_put_other e, has_stops]
     constructor
     · rintro ⟨d, h1, h2, rfl⟩
       exact ⟨d, h1, by unfold setT; rw [if_neg (fun hd => e (by rw [hd]))]; exact h2, rfl⟩
     · rintro ⟨d, h1, h2, rfl⟩
       refine ⟨d, h1, ?_, rfl⟩
       unfold setT at h2
       rw [if_neg (fun hd => e (by rw [hd]))] at h2
       exact h2
 · by_cases e : k = .int .i64 (c : Int)
   · subst e
     exact atKey_put_same ⟨_, rfl⟩ (show WideAt.IsKeyLit (.int .i64 (c : Int)) from trivial) _ _
   · rw [atKey_put_other e]
     rw [has_put_other e] at hk
     exact at_stops z hk
theorem stops_del {C : Nat} {T : Nat → Bool} {c : Nat} (hc : Canon ((stopsD C T).del (.int .i64 (c : Int)))) : (stopsD C T).del (.int .i64 (c : Int)) = stopsD C (setT T c false) := by
 refine stops_ext hc (fun k => ?_) (fun k z hk => ?_)
 · by_cases e : k = .int .i64 (c : Int)
   · subst e
     rw [has_del_same]
     refine ⟨fun hf => (Bool.false_ne_true hf).elim, ?_⟩
     rintro ⟨d, h1, h2, h3⟩
     rw [int_key] at h3
     subst h3
     simp [setT] at h2
   · rw [has_del_other e, has_stops]
     constructor
     · rintro ⟨d, h1, h2, rfl⟩
       exact ⟨d, h1, by unfold setT; rw [if_neg (fun hd => e (by rw [hd]))]; exact h2, rfl⟩
     · rintro ⟨d, h1, h2, rfl⟩
       refine ⟨d, h1, ?_, rfl⟩
       unfold setT at h2
       rw [if_neg (fun hd => e (by rw [hd]))] at h2
       exact h2
 · by_cases e : k = .int .i64 (c : Int)
   · subst e
     rw [has_del_same] at hk
     cases hk
   · rw [atKey_del_other e]
     rw [has_del_other e] at hk
     exact at_stops z hk
theorem stops_size (C : Nat) (T : Nat → Bool) : Maps.size (stopsD C T) ≤ C := by
 show ((Vz.stopsL C T).map _).length ≤ C
 rw [List.length_map]
 exact Nat.le_trans (List.length_filter_le _ _) (by simp)
theorem owns_shrink {P : Program} {k : TypeId} {R : Value → Option (DataW Unit × List MemPlace)} {w : World} {b n m : Nat} {D : DataW Unit} (h : w.ownsMap P k R b n D) (hm : Maps.size D ≤ m) : w.ownsMap P k R b m D := by
 obtain ⟨es, clock, hb, F, hs, rfl⟩ := h
 exact ⟨es, clock, hb, F, by simpa [Maps.size, Go.length_sorted] using hm, rfl⟩
def TabsTo (w w' : World) (tp mb C : Nat) (T : Nat → Bool) : Prop := TabsAt w' tp mb C T ∧ Keeps (fun k => k = tp ∨ k = mb) w w'
theorem keyed_int : Maps.Keyed Tryz.prog 3 := int_keyed Tryz.underlying3
theorem turned_keeps {w w' : World} {mb : Nat} {F : Nat → Prop} (h : w.mapTurned w' mb) (hF : F mb) : Keeps F w w' := by
 have hg := h.grown
 exact ⟨hg.os, hg.tape, hg.output, hg.size, fun k hk hn => hg.block k hk (fun e => by injection e with e; exact hn (e ▸ hF))⟩
theorem turned_other {w w' : World} {mb k : Nat} (h : w.mapTurned w' mb) (hk : k ≠ mb) : w'.heap[k]? = w.heap[k]? := by
 obtain ⟨es, clock, es', clock', hb, rfl⟩ := h
 exact Go.ChangeMaps.heap_setBlock_other hb _ hk
end
end Go.Proofs.YtncgigapgklhcaaGreatDoor
