import Derived.Test.YtbnkfiaggehmgaaGreatDoorGI
import Derived.Test.YtbnkfiaggehmgaaGreatDoorGN
import Derived.Test.YtbnkfiaggehmgaaGreatDoorGO
import Derived.Test.YtbnkfiaggehmgaaGreatDoorGQ
import Derived.Test.YtbnkfiaggehmgaaGreatDoorGG
import Derived.Test.YtbnkfiaggehmgaaGreatDoorGS
import Derived.Test.YtbnkfiaggehmgaaGreatDoorGT

/- Walks: the law's draws on a screen. -/
namespace Go.Proofs.YtbnkfiaggehmgaaGreatDoor
open Go.RowKit
set_option linter.unusedSimpArgs false
set_option linter.unusedVariables false
attribute [local go_sem] alloc_drewN setCell_drewN World.cell?_alloc_some frozen_alloc_some size_f0 size_f1

/-- A call that turns cells: the screen behind it. -/
def drawS (S : Vz.Sr) (o : Vz.Op) : Vz.Sr :=
  if o.ask = 0 then (if o.gd = true then putGS S o.c else putS S o.c o.wr)
  else if o.ask = 7 then { S with D := wipeD S.D (Vz.nearP S.D.R S.D.C o.a) (Vz.nearP S.D.R S.D.C o.b) o.c o.gd }
  else if o.ask = 8 then { S with D := partD S o.n o.c o.gd }
  else if o.ask = 9 then { S with D := linesD S.D S.pl.at_.row.toNat o.n o.c o.gd }
  else if o.ask = 10 then { S with D := charsD S.D S.pl.at_.row.toNat S.pl.at_.col.toNat o.n o.c o.gd }
  else S
theorem op_box {w : World} (o : Vz.Op) (t : TypeId) : OpAt (w.alloc (.cells (opC o).toArray t)) w.heap.size 0 o := by
  have h := heap_alloc_new w (.cells (opC o).toArray t)
  unfold opC at h
  exact ⟨cell_row h 0, cell_row h 1, cell_row h 2, cell_row h 3, cell_row h 4, cell_row h 5, cell_row h 6, cell_row h 7, cell_row h 8, cell_row h 9, cell_row h 10, cell_row h 11⟩
set_option maxRecDepth 100000 in
set_option maxHeartbeats 8000000 in
theorem draws_ok (sp : Nat) (F : Nat → Prop) (S : Vz.Sr) (o : Vz.Op) (w : World) (h : Scr w sp F S) : Calls Tryz.prog 25 #[.pointer (some ⟨sp, 0, none⟩), .agg (opC o).toArray] w fun e w' => e = .returned (.tuple #[]) ∧ ScrTo w w' sp F (drawS S o) := by
  have HB : Hid (Below w.heap.size w (w.alloc (.cells (opC o).toArray 32))) := below1 _ _
  obtain ⟨c0, c1, c2, c3, c4, c5, c6, c7, c8, c9, c10, c11⟩ := op_box (w := w) o 32
  have hS0 := h.below HB.out
  obtain ⟨ask, ⟨a0, a1⟩, ⟨b0, b1⟩, n, c, wr, gd⟩ := o
  have HP := Lib.hid (scr_put sp F S c wr _ hS0)
  have HG := Lib.hid (scr_putg sp F S c wr _ hS0)
  have HW := Lib.hid (scr_wipe sp F S ⟨a0, a1⟩ ⟨b0, b1⟩ c gd _ hS0)
  have HT := Lib.hid (scr_part sp F S n c gd _ hS0)
  have HL := Lib.hid (scr_lines sp F S n c gd _ hS0)
  have HC := Lib.hid (scr_chars sp F S n c gd _ hS0)
  have HE : Hid (drawS S ⟨ask, ⟨a0, a1⟩, ⟨b0, b1⟩, n, c, wr, gd⟩ = (if ask = 0 then (if gd = true then putGS S c else putS S c wr)
  else if ask = 7 then { S with D := wipeD S.D (Vz.nearP S.D.R S.D.C ⟨a0, a1⟩) (Vz.nearP S.D.R S.D.C ⟨b0, b1⟩) c gd }
  else if ask = 8 then { S with D := partD S n c gd }
  else if ask = 9 then { S with D := linesD S.D S.pl.at_.row.toNat n c gd }
  else if ask = 10 then { S with D := charsD S.D S.pl.at_.row.toNat S.pl.at_.col.toNat n c gd }
  else S)) := rfl
  have HS := Lib.hid hS0
  rw [HE.out]
  clear h hS0 HE
  unfold opC at *
  simp only at *
  by_cases h0 : ask = 0
  · subst h0
    rw [if_pos rfl]
    cases gd
    · go_enter Tryz.func25, Tryz.ntmps25
      go_wp2_with (go_at_call 17; refine HP.out.mono ?_; rintro e w2 ⟨rfl, hg⟩)
      go_end0
      exact ⟨rfl, ScrTo.after HB.out hg⟩
    · go_enter Tryz.func25, Tryz.ntmps25
      go_wp2_with (go_at_call 17; refine HG.out.mono ?_; rintro e w2 ⟨rfl, hg⟩)
      go_end0
      exact ⟨rfl, ScrTo.after HB.out hg⟩
  · rw [if_neg h0]
    have e0 : (ask == 0) = false := by rw [eqb]; exact decide_eq_false h0
    by_cases h7 : ask = 7
    · subst h7
      rw [if_pos rfl]
      go_enter Tryz.func25, Tryz.ntmps25
      go_wp2_with (go_at_call 63; refine HW.out.mono ?_; rintro e w2 ⟨rfl, hg⟩)
      go_end0
      exact ⟨rfl, ScrTo.after HB.out hg⟩
    · rw [if_neg h7]
      have e7 : (ask == 7) = false := by rw [eqb]; exact decide_eq_false h7
      by_cases h8 : ask = 8
      · subst h8
        rw [if_pos rfl]
        go_enter Tryz.func25, Tryz.ntmps25
        go_wp2_with (go_at_call 64; refine HT.out.mono ?_; rintro e w2 ⟨rfl, hg⟩)
        go_end0
        exact ⟨rfl, ScrTo.after HB.out hg⟩
      · rw [if_neg h8]
        have e8 : (ask == 8) = false := by rw [eqb]; exact decide_eq_false h8
        by_cases h9 : ask = 9
        · subst h9
          rw [if_pos rfl]
          go_enter Tryz.func25, Tryz.ntmps25
          go_wp2_with (go_at_call 65; refine HL.out.mono ?_; rintro e w2 ⟨rfl, hg⟩)
          go_end0
          exact ⟨rfl, ScrTo.after HB.out hg⟩
        · rw [if_neg h9]
          have e9 : (ask == 9) = false := by rw [eqb]; exact decide_eq_false h9
          by_cases h10 : ask = 10
          · subst h10
            rw [if_pos rfl]
            go_enter Tryz.func25, Tryz.ntmps25
            go_wp2_with (go_at_call 66; refine HC.out.mono ?_; rintro e w2 ⟨rfl, hg⟩)
            go_end0
            exact ⟨rfl, ScrTo.after HB.out hg⟩
          · rw [if_neg h10]
            have e10 : (ask == 10) = false := by rw [eqb]; exact decide_eq_false h10
            go_enter Tryz.func25, Tryz.ntmps25
            go_wp2_with fail
            go_end0
            exact ⟨rfl, ScrTo.after HB.out (ScrTo.refl HS.out)⟩
end Go.Proofs.YtbnkfiaggehmgaaGreatDoor

/- Walks: the law's does on a screen (printed by wip/tools/mkdoes.py). -/
namespace Go.Proofs.YtbnkfiaggehmgaaGreatDoor
open Go.RowKit
set_option linter.unusedSimpArgs false
set_option linter.unusedVariables false
attribute [local go_sem] alloc_drewN setCell_drewN World.cell?_alloc_some frozen_alloc_some size_f0 size_f1

theorem ScrTo.box4 {w W0 w2 : World} {sp : Nat} {F : Nat → Prop} {S' : Vz.Sr} (hb0 : Below w.heap.size w W0) (h : ScrTo W0 w2 sp F S') (hF : ∀ k, F k → k < w.heap.size) (hbl : 0 < w.heap.size) {b : Nat} (h1 : w.heap.size ≤ b) (h2 : b < W0.heap.size) (u0 u1 u2 u3 : Value) :
    ScrTo w ((((w2.setCell ⟨b, 0, none⟩ u0).setCell ⟨b, 1, none⟩ u1).setCell ⟨b, 2, none⟩ u2).setCell ⟨b, 3, none⟩ u3) sp F S' := by
  obtain ⟨⟨F', ⟨gp, tp, mb, FG, hA, hFF⟩, hn⟩, hK⟩ := h
  have hne : ∀ k, F' k → k ≠ b := fun k hk e => by
    rcases hn k hk with h | h
    · have := hF k h; omega
    · omega
  have ho : ∀ k, k ≠ b → ((((w2.setCell ⟨b, 0, none⟩ u0).setCell ⟨b, 1, none⟩ u1).setCell ⟨b, 2, none⟩ u2).setCell ⟨b, 3, none⟩ u3).heap[k]? = w2.heap[k]? := fun k hk =>
    (heap_setCell_other _ _ _ _ (by show k ≠ b; exact hk)).trans ((heap_setCell_other _ _ _ _ (by show k ≠ b; exact hk)).trans ((heap_setCell_other _ _ _ _ (by show k ≠ b; exact hk)).trans (heap_setCell_other _ _ _ _ (by show k ≠ b; exact hk))))
  refine ⟨⟨F', ⟨gp, tp, mb, FG, hA.of_blocks (fun k hk => ho k (hne k ((hFF k).2 hk))) (ho _ (by omega)), hFF⟩, fun k hk => (hn k hk).imp id fun h => by have := hb0.size; omega⟩, ?_⟩
  have hk1 : Keeps F w w2 := (Keeps.of_below hb0).trans hK fun k hk => .inl hk
  exact (((hk1.setCellBox h1 u0).setCellBox h1 u1).setCellBox h1 u2).setCellBox h1 u3
theorem does_pre (sp : Nat) (F : Nat → Prop) (S : Vz.Sr) (o : Vz.Op) (w : World) (h : Scr w sp F S) : ∃ W0, W0 = (w.alloc (.cells (opC o).toArray 32)).alloc (.cells #[.int .i32 0, .int .i64 0, .bool false, .int .i64 0] 24) ∧ OpAt W0 w.heap.size 0 o ∧ Scr W0 sp F S ∧
    (∀ w2 S', ScrTo W0 w2 sp F S' → w2.heap[w.heap.size + 1]? = some (.cells #[.int .i32 0, .int .i64 0, .bool false, .int .i64 0] 24 (0, 0)) ∧ ∀ u0 u1 u2 u3, ScrTo w ((((w2.setCell ⟨w.heap.size + 1, 0, none⟩ u0).setCell ⟨w.heap.size + 1, 1, none⟩ u1).setCell ⟨w.heap.size + 1, 2, none⟩ u2).setCell ⟨w.heap.size + 1, 3, none⟩ u3) sp F S') := by
  refine ⟨_, rfl, ?_, ?_, ?_⟩
  · have h0 := op_box (w := w) o 32
    exact h0.below (below1 _ _) (by simp)
  · exact h.below (Grows.below (((Grows.refl w).alloc _).alloc _))
  · intro w2 S' ht
    obtain ⟨hn0, hn1, _⟩ := box2 (Below.refl ((w.alloc (.cells (opC o).toArray 32)).alloc (.cells #[.int .i32 0, .int .i64 0, .bool false, .int .i64 0] 24)).heap.size ((w.alloc (.cells (opC o).toArray 32)).alloc (.cells #[.int .i32 0, .int .i64 0, .bool false, .int .i64 0] 24)))
    have hb0 : Below w.heap.size w ((w.alloc (.cells (opC o).toArray 32)).alloc (.cells #[.int .i32 0, .int .i64 0, .bool false, .int .i64 0] 24)) := Grows.below (((Grows.refl w).alloc _).alloc _)
    exact ⟨(ht.2.block _ (block_lt hn1) (fun hf => by have := h.lt _ hf; omega)).trans hn1, fun u0 u1 u2 u3 => ScrTo.box4 hb0 ht h.lt h.blk.1.lt (Nat.le_succ _) (block_lt hn1) u0 u1 u2 u3⟩
def inB (p : Vz.Ps) (R C : Nat) : Bool := decide (0 ≤ p.row) && decide (p.row < (R : Int)) && decide (0 ≤ p.col) && decide (p.col < (C : Int))
theorem inB_iff {p : Vz.Ps} {R C : Nat} : inB p R C = true ↔ p.inS R C := by
  unfold inB Vz.Ps.inS
  simp only [Bool.and_eq_true, decide_eq_true_eq, and_assoc]
theorem inB_no {p : Vz.Ps} {R C : Nat} (h : inB p R C = false) : ¬ p.inS R C := fun h' => by rw [inB_iff.2 h'] at h; cases h
/-- What a call answers, and the screen behind it. -/
def doesR (S : Vz.Sr) (o : Vz.Op) : Vz.Sr × Vz.Cl × Int :=
  if o.ask = 0 ∨ o.ask = 7 ∨ o.ask = 8 ∨ o.ask = 9 ∨ o.ask = 10 then (drawS S o, Vz.Cl.zero, 0)
  else if o.ask = 1 then ({ S with pl := ⟨Vz.nearP S.D.R S.D.C o.a, false⟩ }, Vz.Cl.zero, 0)
  else if o.ask = 2 then ({ S with pl := Vz.stepP S.D.R S.D.C S.pl o.a.row o.a.col }, Vz.Cl.zero, 0)
  else if o.ask = 3 then (feedS S o.n, Vz.Cl.zero, 0)
  else if o.ask = 4 then (tabS S o.n, Vz.Cl.zero, 0)
  else if o.ask = 5 then (stopS S o.n (!o.gd), Vz.Cl.zero, 0)
  else if o.ask = 6 then (stopsS S o.n, Vz.Cl.zero, 0)
  else if o.ask = 11 then (freeS S (if o.gd = true then -1 else 1), (if (openN S.D S.pl.at_ (if o.gd = true then -1 else 1)).isSome = true then ⟨0, 0, false, 1⟩ else Vz.Cl.zero), 0)
  else if o.ask = 12 then (if Vz.mayS o.a.row o.a.col = true then (resizeS S o.a.row.toNat o.a.col.toNat, Vz.Cl.zero, 0) else (S, Vz.Cl.zero, 10))
  else if o.ask = 13 then (if inB o.a S.D.R S.D.C = true then ({ S with D := S.D.set o.a.row.toNat o.a.col.toNat o.c }, Vz.Cl.zero, 0) else (S, Vz.Cl.zero, 11))
  else (if inB o.a S.D.R S.D.C = true then (S, atD S.D o.a, 0) else (S, Vz.Cl.zero, 11))
set_option maxRecDepth 100000 in
set_option maxHeartbeats 8000000 in
theorem doesc_0 (sp : Nat) (F : Nat → Prop) (S : Vz.Sr) (ask a0 a1 b0 b1 n : Int) (c : Vz.Cl) (wr : Int) (gd : Bool) (w : World) (h : Scr w sp F S) (ha : ask = 0) : Calls Tryz.prog 14 #[.pointer (some ⟨sp, 0, none⟩), .agg (opC ⟨ask, ⟨a0, a1⟩, ⟨b0, b1⟩, n, c, wr, gd⟩).toArray] w fun e w' => e = .returned (.tuple #[.agg #[.int .i32 0, .int .i64 0, .bool false, .int .i64 0], .int .i64 0]) ∧ ScrTo w w' sp F (drawS S ⟨ask, ⟨a0, a1⟩, ⟨b0, b1⟩, n, c, wr, gd⟩) := by
  obtain ⟨W0, hW0, hop, hS0, hend⟩ := does_pre sp F S ⟨ask, ⟨a0, a1⟩, ⟨b0, b1⟩, n, c, wr, gd⟩ w h
  obtain ⟨c0, c1, c2, c3, c4, c5, c6, c7, c8, c9, c10, c11⟩ := hop
  have HEND := Lib.hid hend
  have HC := Lib.hid (draws_ok sp F S ⟨ask, ⟨a0, a1⟩, ⟨b0, b1⟩, n, c, wr, gd⟩ W0 hS0)
  have HS := Lib.hid hS0
  clear h hend hS0
  subst hW0
  subst ha
  unfold opC at *
  simp only at *
  go_enter Tryz.func14, Tryz.ntmps14
  go_wp2_with (go_at_call 25; refine HC.out.mono ?_; rintro e w2 ⟨rfl, hg⟩; have HG := Lib.hid hg; have HX := Lib.hid (HEND.out _ _ HG.out).1; clear hg; obtain ⟨x0, x1, x2, x3, f0, f1, f2, f3⟩ := row4 HX.out)
  obtain ⟨r0, r1, r2, r3, _⟩ := row4 (set_four HX.out (.int .i32 0) (.int .i64 0) (.bool false) (.int .i64 0))
  refine bodyPost_ret (v := .tuple #[.agg #[.int .i32 0, .int .i64 0, .bool false, .int .i64 0], .int .i64 0]) (by simp [results, Tryz.results14, go_sem, r0, r1, r2, r3]) rfl ⟨rfl, (HEND.out _ _ HG.out).2 _ _ _ _⟩
set_option maxRecDepth 100000 in
set_option maxHeartbeats 8000000 in
theorem doesc_7 (sp : Nat) (F : Nat → Prop) (S : Vz.Sr) (ask a0 a1 b0 b1 n : Int) (c : Vz.Cl) (wr : Int) (gd : Bool) (w : World) (h : Scr w sp F S) (ha : ask = 7) : Calls Tryz.prog 14 #[.pointer (some ⟨sp, 0, none⟩), .agg (opC ⟨ask, ⟨a0, a1⟩, ⟨b0, b1⟩, n, c, wr, gd⟩).toArray] w fun e w' => e = .returned (.tuple #[.agg #[.int .i32 0, .int .i64 0, .bool false, .int .i64 0], .int .i64 0]) ∧ ScrTo w w' sp F (drawS S ⟨ask, ⟨a0, a1⟩, ⟨b0, b1⟩, n, c, wr, gd⟩) := by
  obtain ⟨W0, hW0, hop, hS0, hend⟩ := does_pre sp F S ⟨ask, ⟨a0, a1⟩, ⟨b0, b1⟩, n, c, wr, gd⟩ w h
  obtain ⟨c0, c1, c2, c3, c4, c5, c6, c7, c8, c9, c10, c11⟩ := hop
  have HEND := Lib.hid hend
  have HC := Lib.hid (draws_ok sp F S ⟨ask, ⟨a0, a1⟩, ⟨b0, b1⟩, n, c, wr, gd⟩ W0 hS0)
  have HS := Lib.hid hS0
  clear h hend hS0
  subst hW0
  subst ha
  unfold opC at *
  simp only at *
  go_enter Tryz.func14, Tryz.ntmps14
  go_wp2_with (go_at_call 25; refine HC.out.mono ?_; rintro e w2 ⟨rfl, hg⟩; have HG := Lib.hid hg; have HX := Lib.hid (HEND.out _ _ HG.out).1; clear hg; obtain ⟨x0, x1, x2, x3, f0, f1, f2, f3⟩ := row4 HX.out)
  obtain ⟨r0, r1, r2, r3, _⟩ := row4 (set_four HX.out (.int .i32 0) (.int .i64 0) (.bool false) (.int .i64 0))
  refine bodyPost_ret (v := .tuple #[.agg #[.int .i32 0, .int .i64 0, .bool false, .int .i64 0], .int .i64 0]) (by simp [results, Tryz.results14, go_sem, r0, r1, r2, r3]) rfl ⟨rfl, (HEND.out _ _ HG.out).2 _ _ _ _⟩
set_option maxRecDepth 100000 in
set_option maxHeartbeats 8000000 in
theorem doesc_8 (sp : Nat) (F : Nat → Prop) (S : Vz.Sr) (ask a0 a1 b0 b1 n : Int) (c : Vz.Cl) (wr : Int) (gd : Bool) (w : World) (h : Scr w sp F S) (ha : ask = 8) : Calls Tryz.prog 14 #[.pointer (some ⟨sp, 0, none⟩), .agg (opC ⟨ask, ⟨a0, a1⟩, ⟨b0, b1⟩, n, c, wr, gd⟩).toArray] w fun e w' => e = .returned (.tuple #[.agg #[.int .i32 0, .int .i64 0, .bool false, .int .i64 0], .int .i64 0]) ∧ ScrTo w w' sp F (drawS S ⟨ask, ⟨a0, a1⟩, ⟨b0, b1⟩, n, c, wr, gd⟩) := by
  obtain ⟨W0, hW0, hop, hS0, hend⟩ := does_pre sp F S ⟨ask, ⟨a0, a1⟩, ⟨b0, b1⟩, n, c, wr, gd⟩ w h
  obtain ⟨c0, c1, c2, c3, c4, c5, c6, c7, c8, c9, c10, c11⟩ := hop
  have HEND := Lib.hid hend
  have HC := Lib.hid (draws_ok sp F S ⟨ask, ⟨a0, a1⟩, ⟨b0, b1⟩, n, c, wr, gd⟩ W0 hS0)
  have HS := Lib.hid hS0
  clear h hend hS0
  subst hW0
  subst ha
  unfold opC at *
  simp only at *
  go_enter Tryz.func14, Tryz.ntmps14
  go_wp2_with (go_at_call 25; refine HC.out.mono ?_; rintro e w2 ⟨rfl, hg⟩; have HG := Lib.hid hg; have HX := Lib.hid (HEND.out _ _ HG.out).1; clear hg; obtain ⟨x0, x1, x2, x3, f0, f1, f2, f3⟩ := row4 HX.out)
  obtain ⟨r0, r1, r2, r3, _⟩ := row4 (set_four HX.out (.int .i32 0) (.int .i64 0) (.bool false) (.int .i64 0))
  refine bodyPost_ret (v := .tuple #[.agg #[.int .i32 0, .int .i64 0, .bool false, .int .i64 0], .int .i64 0]) (by simp [results, Tryz.results14, go_sem, r0, r1, r2, r3]) rfl ⟨rfl, (HEND.out _ _ HG.out).2 _ _ _ _⟩
set_option maxRecDepth 100000 in
set_option maxHeartbeats 8000000 in
theorem doesc_9 (sp : Nat) (F : Nat → Prop) (S : Vz.Sr) (ask a0 a1 b0 b1 n : Int) (c : Vz.Cl) (wr : Int) (gd : Bool) (w : World) (h : Scr w sp F S) (ha : ask = 9) : Calls Tryz.prog 14 #[.pointer (some ⟨sp, 0, none⟩), .agg (opC ⟨ask, ⟨a0, a1⟩, ⟨b0, b1⟩, n, c, wr, gd⟩).toArray] w fun e w' => e = .returned (.tuple #[.agg #[.int .i32 0, .int .i64 0, .bool false, .int .i64 0], .int .i64 0]) ∧ ScrTo w w' sp F (drawS S ⟨ask, ⟨a0, a1⟩, ⟨b0, b1⟩, n, c, wr, gd⟩) := by
  obtain ⟨W0, hW0, hop, hS0, hend⟩ := does_pre sp F S ⟨ask, ⟨a0, a1⟩, ⟨b0, b1⟩, n, c, wr, gd⟩ w h
  obtain ⟨c0, c1, c2, c3, c4, c5, c6, c7, c8, c9, c10, c11⟩ := hop
  have HEND := Lib.hid hend
  have HC := Lib.hid (draws_ok sp F S ⟨ask, ⟨a0, a1⟩, ⟨b0, b1⟩, n, c, wr, gd⟩ W0 hS0)
  have HS := Lib.hid hS0
  clear h hend hS0
  subst hW0
  subst ha
  unfold opC at *
  simp only at *
  go_enter Tryz.func14, Tryz.ntmps14
  go_wp2_with (go_at_call 25; refine HC.out.mono ?_; rintro e w2 ⟨rfl, hg⟩; have HG := Lib.hid hg; have HX := Lib.hid (HEND.out _ _ HG.out).1; clear hg; obtain ⟨x0, x1, x2, x3, f0, f1, f2, f3⟩ := row4 HX.out)
  obtain ⟨r0, r1, r2, r3, _⟩ := row4 (set_four HX.out (.int .i32 0) (.int .i64 0) (.bool false) (.int .i64 0))
  refine bodyPost_ret (v := .tuple #[.agg #[.int .i32 0, .int .i64 0, .bool false, .int .i64 0], .int .i64 0]) (by simp [results, Tryz.results14, go_sem, r0, r1, r2, r3]) rfl ⟨rfl, (HEND.out _ _ HG.out).2 _ _ _ _⟩
set_option maxRecDepth 100000 in
set_option maxHeartbeats 8000000 in
theorem doesc_10 (sp : Nat) (F : Nat → Prop) (S : Vz.Sr) (ask a0 a1 b0 b1 n : Int) (c : Vz.Cl) (wr : Int) (gd : Bool) (w : World) (h : Scr w sp F S) (ha : ask = 10) : Calls Tryz.prog 14 #[.pointer (some ⟨sp, 0, none⟩), .agg (opC ⟨ask, ⟨a0, a1⟩, ⟨b0, b1⟩, n, c, wr, gd⟩).toArray] w fun e w' => e = .returned (.tuple #[.agg #[.int .i32 0, .int .i64 0, .bool false, .int .i64 0], .int .i64 0]) ∧ ScrTo w w' sp F (drawS S ⟨ask, ⟨a0, a1⟩, ⟨b0, b1⟩, n, c, wr, gd⟩) := by
  obtain ⟨W0, hW0, hop, hS0, hend⟩ := does_pre sp F S ⟨ask, ⟨a0, a1⟩, ⟨b0, b1⟩, n, c, wr, gd⟩ w h
  obtain ⟨c0, c1, c2, c3, c4, c5, c6, c7, c8, c9, c10, c11⟩ := hop
  have HEND := Lib.hid hend
  have HC := Lib.hid (draws_ok sp F S ⟨ask, ⟨a0, a1⟩, ⟨b0, b1⟩, n, c, wr, gd⟩ W0 hS0)
  have HS := Lib.hid hS0
  clear h hend hS0
  subst hW0
  subst ha
  unfold opC at *
  simp only at *
  go_enter Tryz.func14, Tryz.ntmps14
  go_wp2_with (go_at_call 25; refine HC.out.mono ?_; rintro e w2 ⟨rfl, hg⟩; have HG := Lib.hid hg; have HX := Lib.hid (HEND.out _ _ HG.out).1; clear hg; obtain ⟨x0, x1, x2, x3, f0, f1, f2, f3⟩ := row4 HX.out)
  obtain ⟨r0, r1, r2, r3, _⟩ := row4 (set_four HX.out (.int .i32 0) (.int .i64 0) (.bool false) (.int .i64 0))
  refine bodyPost_ret (v := .tuple #[.agg #[.int .i32 0, .int .i64 0, .bool false, .int .i64 0], .int .i64 0]) (by simp [results, Tryz.results14, go_sem, r0, r1, r2, r3]) rfl ⟨rfl, (HEND.out _ _ HG.out).2 _ _ _ _⟩
set_option maxRecDepth 100000 in
set_option maxHeartbeats 8000000 in
theorem doesc_1 (sp : Nat) (F : Nat → Prop) (S : Vz.Sr) (ask a0 a1 b0 b1 n : Int) (c : Vz.Cl) (wr : Int) (gd : Bool) (w : World) (h : Scr w sp F S) (ha : ask = 1) : Calls Tryz.prog 14 #[.pointer (some ⟨sp, 0, none⟩), .agg (opC ⟨ask, ⟨a0, a1⟩, ⟨b0, b1⟩, n, c, wr, gd⟩).toArray] w fun e w' => e = .returned (.tuple #[.agg #[.int .i32 0, .int .i64 0, .bool false, .int .i64 0], .int .i64 0]) ∧ ScrTo w w' sp F ({ S with pl := ⟨Vz.nearP S.D.R S.D.C ⟨a0, a1⟩, false⟩ }) := by
  obtain ⟨W0, hW0, hop, hS0, hend⟩ := does_pre sp F S ⟨ask, ⟨a0, a1⟩, ⟨b0, b1⟩, n, c, wr, gd⟩ w h
  obtain ⟨c0, c1, c2, c3, c4, c5, c6, c7, c8, c9, c10, c11⟩ := hop
  have HEND := Lib.hid hend
  have HC := Lib.hid (scr_move sp F S ⟨a0, a1⟩ W0 hS0)
  have HS := Lib.hid hS0
  clear h hend hS0
  subst hW0
  subst ha
  unfold opC at *
  simp only at *
  go_enter Tryz.func14, Tryz.ntmps14
  go_wp2_with (go_at_call 26; refine HC.out.mono ?_; rintro e w2 ⟨rfl, hg⟩; have HG := Lib.hid hg; have HX := Lib.hid (HEND.out _ _ HG.out).1; clear hg; obtain ⟨x0, x1, x2, x3, f0, f1, f2, f3⟩ := row4 HX.out)
  obtain ⟨r0, r1, r2, r3, _⟩ := row4 (set_four HX.out (.int .i32 0) (.int .i64 0) (.bool false) (.int .i64 0))
  refine bodyPost_ret (v := .tuple #[.agg #[.int .i32 0, .int .i64 0, .bool false, .int .i64 0], .int .i64 0]) (by simp [results, Tryz.results14, go_sem, r0, r1, r2, r3]) rfl ⟨rfl, (HEND.out _ _ HG.out).2 _ _ _ _⟩
set_option maxRecDepth 100000 in
set_option maxHeartbeats 8000000 in
theorem doesc_2 (sp : Nat) (F : Nat → Prop) (S : Vz.Sr) (ask a0 a1 b0 b1 n : Int) (c : Vz.Cl) (wr : Int) (gd : Bool) (w : World) (h : Scr w sp F S) (ha : ask = 2) : Calls Tryz.prog 14 #[.pointer (some ⟨sp, 0, none⟩), .agg (opC ⟨ask, ⟨a0, a1⟩, ⟨b0, b1⟩, n, c, wr, gd⟩).toArray] w fun e w' => e = .returned (.tuple #[.agg #[.int .i32 0, .int .i64 0, .bool false, .int .i64 0], .int .i64 0]) ∧ ScrTo w w' sp F ({ S with pl := Vz.stepP S.D.R S.D.C S.pl a0 a1 }) := by
  obtain ⟨W0, hW0, hop, hS0, hend⟩ := does_pre sp F S ⟨ask, ⟨a0, a1⟩, ⟨b0, b1⟩, n, c, wr, gd⟩ w h
  obtain ⟨c0, c1, c2, c3, c4, c5, c6, c7, c8, c9, c10, c11⟩ := hop
  have HEND := Lib.hid hend
  have HC := Lib.hid (scr_step sp F S a0 a1 W0 hS0)
  have HS := Lib.hid hS0
  clear h hend hS0
  subst hW0
  subst ha
  unfold opC at *
  simp only at *
  go_enter Tryz.func14, Tryz.ntmps14
  go_wp2_with (go_at_call 34; refine HC.out.mono ?_; rintro e w2 ⟨rfl, hg⟩; have HG := Lib.hid hg; have HX := Lib.hid (HEND.out _ _ HG.out).1; clear hg; obtain ⟨x0, x1, x2, x3, f0, f1, f2, f3⟩ := row4 HX.out)
  obtain ⟨r0, r1, r2, r3, _⟩ := row4 (set_four HX.out (.int .i32 0) (.int .i64 0) (.bool false) (.int .i64 0))
  refine bodyPost_ret (v := .tuple #[.agg #[.int .i32 0, .int .i64 0, .bool false, .int .i64 0], .int .i64 0]) (by simp [results, Tryz.results14, go_sem, r0, r1, r2, r3]) rfl ⟨rfl, (HEND.out _ _ HG.out).2 _ _ _ _⟩
set_option maxRecDepth 100000 in
set_option maxHeartbeats 8000000 in
theorem doesc_3 (sp : Nat) (F : Nat → Prop) (S : Vz.Sr) (ask a0 a1 b0 b1 n : Int) (c : Vz.Cl) (wr : Int) (gd : Bool) (w : World) (h : Scr w sp F S) (ha : ask = 3) : Calls Tryz.prog 14 #[.pointer (some ⟨sp, 0, none⟩), .agg (opC ⟨ask, ⟨a0, a1⟩, ⟨b0, b1⟩, n, c, wr, gd⟩).toArray] w fun e w' => e = .returned (.tuple #[.agg #[.int .i32 0, .int .i64 0, .bool false, .int .i64 0], .int .i64 0]) ∧ ScrTo w w' sp F (feedS S n) := by
  obtain ⟨W0, hW0, hop, hS0, hend⟩ := does_pre sp F S ⟨ask, ⟨a0, a1⟩, ⟨b0, b1⟩, n, c, wr, gd⟩ w h
  obtain ⟨c0, c1, c2, c3, c4, c5, c6, c7, c8, c9, c10, c11⟩ := hop
  have HEND := Lib.hid hend
  have HC := Lib.hid (scr_feed sp F S n W0 hS0)
  have HS := Lib.hid hS0
  clear h hend hS0
  subst hW0
  subst ha
  unfold opC at *
  simp only at *
  go_enter Tryz.func14, Tryz.ntmps14
  go_wp2_with (go_at_call 31; refine HC.out.mono ?_; rintro e w2 ⟨rfl, hg⟩; have HG := Lib.hid hg; have HX := Lib.hid (HEND.out _ _ HG.out).1; clear hg; obtain ⟨x0, x1, x2, x3, f0, f1, f2, f3⟩ := row4 HX.out)
  obtain ⟨r0, r1, r2, r3, _⟩ := row4 (set_four HX.out (.int .i32 0) (.int .i64 0) (.bool false) (.int .i64 0))
  refine bodyPost_ret (v := .tuple #[.agg #[.int .i32 0, .int .i64 0, .bool false, .int .i64 0], .int .i64 0]) (by simp [results, Tryz.results14, go_sem, r0, r1, r2, r3]) rfl ⟨rfl, (HEND.out _ _ HG.out).2 _ _ _ _⟩
set_option maxRecDepth 100000 in
set_option maxHeartbeats 8000000 in
theorem doesc_4 (sp : Nat) (F : Nat → Prop) (S : Vz.Sr) (ask a0 a1 b0 b1 n : Int) (c : Vz.Cl) (wr : Int) (gd : Bool) (w : World) (h : Scr w sp F S) (ha : ask = 4) (hn : -9223372036854775808 ≤ n ∧ n < 9223372036854775808) : Calls Tryz.prog 14 #[.pointer (some ⟨sp, 0, none⟩), .agg (opC ⟨ask, ⟨a0, a1⟩, ⟨b0, b1⟩, n, c, wr, gd⟩).toArray] w fun e w' => e = .returned (.tuple #[.agg #[.int .i32 0, .int .i64 0, .bool false, .int .i64 0], .int .i64 0]) ∧ ScrTo w w' sp F (tabS S n) := by
  obtain ⟨W0, hW0, hop, hS0, hend⟩ := does_pre sp F S ⟨ask, ⟨a0, a1⟩, ⟨b0, b1⟩, n, c, wr, gd⟩ w h
  obtain ⟨c0, c1, c2, c3, c4, c5, c6, c7, c8, c9, c10, c11⟩ := hop
  have HEND := Lib.hid hend
  have HC := Lib.hid (scr_tab sp F S n W0 hS0 hn)
  have HS := Lib.hid hS0
  clear h hend hS0
  subst hW0
  subst ha
  unfold opC at *
  simp only at *
  go_enter Tryz.func14, Tryz.ntmps14
  go_wp2_with (go_at_call 35; refine HC.out.mono ?_; rintro e w2 ⟨rfl, hg⟩; have HG := Lib.hid hg; have HX := Lib.hid (HEND.out _ _ HG.out).1; clear hg; obtain ⟨x0, x1, x2, x3, f0, f1, f2, f3⟩ := row4 HX.out)
  obtain ⟨r0, r1, r2, r3, _⟩ := row4 (set_four HX.out (.int .i32 0) (.int .i64 0) (.bool false) (.int .i64 0))
  refine bodyPost_ret (v := .tuple #[.agg #[.int .i32 0, .int .i64 0, .bool false, .int .i64 0], .int .i64 0]) (by simp [results, Tryz.results14, go_sem, r0, r1, r2, r3]) rfl ⟨rfl, (HEND.out _ _ HG.out).2 _ _ _ _⟩
set_option maxRecDepth 100000 in
set_option maxHeartbeats 8000000 in
theorem doesc_5 (sp : Nat) (F : Nat → Prop) (S : Vz.Sr) (ask a0 a1 b0 b1 n : Int) (c : Vz.Cl) (wr : Int) (gd : Bool) (w : World) (h : Scr w sp F S) (ha : ask = 5) : Calls Tryz.prog 14 #[.pointer (some ⟨sp, 0, none⟩), .agg (opC ⟨ask, ⟨a0, a1⟩, ⟨b0, b1⟩, n, c, wr, gd⟩).toArray] w fun e w' => e = .returned (.tuple #[.agg #[.int .i32 0, .int .i64 0, .bool false, .int .i64 0], .int .i64 0]) ∧ ScrTo w w' sp F (stopS S n (!gd)) := by
  obtain ⟨W0, hW0, hop, hS0, hend⟩ := does_pre sp F S ⟨ask, ⟨a0, a1⟩, ⟨b0, b1⟩, n, c, wr, gd⟩ w h
  obtain ⟨c0, c1, c2, c3, c4, c5, c6, c7, c8, c9, c10, c11⟩ := hop
  have HEND := Lib.hid hend
  have HC := Lib.hid (scr_stop sp F S n (!gd) W0 hS0)
  have HS := Lib.hid hS0
  clear h hend hS0
  subst hW0
  subst ha
  unfold opC at *
  simp only at *
  go_enter Tryz.func14, Tryz.ntmps14
  go_wp2_with (go_at_call 36; refine HC.out.mono ?_; rintro e w2 ⟨rfl, hg⟩; have HG := Lib.hid hg; have HX := Lib.hid (HEND.out _ _ HG.out).1; clear hg; obtain ⟨x0, x1, x2, x3, f0, f1, f2, f3⟩ := row4 HX.out)
  obtain ⟨r0, r1, r2, r3, _⟩ := row4 (set_four HX.out (.int .i32 0) (.int .i64 0) (.bool false) (.int .i64 0))
  refine bodyPost_ret (v := .tuple #[.agg #[.int .i32 0, .int .i64 0, .bool false, .int .i64 0], .int .i64 0]) (by simp [results, Tryz.results14, go_sem, r0, r1, r2, r3]) rfl ⟨rfl, (HEND.out _ _ HG.out).2 _ _ _ _⟩
set_option maxRecDepth 100000 in
set_option maxHeartbeats 8000000 in
theorem doesc_6 (sp : Nat) (F : Nat → Prop) (S : Vz.Sr) (ask a0 a1 b0 b1 n : Int) (c : Vz.Cl) (wr : Int) (gd : Bool) (w : World) (h : Scr w sp F S) (ha : ask = 6) (hn : -9223372036854775808 ≤ n ∧ n < 9223372036854775808) : Calls Tryz.prog 14 #[.pointer (some ⟨sp, 0, none⟩), .agg (opC ⟨ask, ⟨a0, a1⟩, ⟨b0, b1⟩, n, c, wr, gd⟩).toArray] w fun e w' => e = .returned (.tuple #[.agg #[.int .i32 0, .int .i64 0, .bool false, .int .i64 0], .int .i64 0]) ∧ ScrTo w w' sp F (stopsS S n) := by
  obtain ⟨W0, hW0, hop, hS0, hend⟩ := does_pre sp F S ⟨ask, ⟨a0, a1⟩, ⟨b0, b1⟩, n, c, wr, gd⟩ w h
  obtain ⟨c0, c1, c2, c3, c4, c5, c6, c7, c8, c9, c10, c11⟩ := hop
  have HEND := Lib.hid hend
  have HC := Lib.hid (scr_stops sp F S n W0 hS0 hn.2)
  have HS := Lib.hid hS0
  clear h hend hS0
  subst hW0
  subst ha
  unfold opC at *
  simp only at *
  go_enter Tryz.func14, Tryz.ntmps14
  go_wp2_with (go_at_call 37; refine HC.out.mono ?_; rintro e w2 ⟨rfl, hg⟩; have HG := Lib.hid hg; have HX := Lib.hid (HEND.out _ _ HG.out).1; clear hg; obtain ⟨x0, x1, x2, x3, f0, f1, f2, f3⟩ := row4 HX.out)
  obtain ⟨r0, r1, r2, r3, _⟩ := row4 (set_four HX.out (.int .i32 0) (.int .i64 0) (.bool false) (.int .i64 0))
  refine bodyPost_ret (v := .tuple #[.agg #[.int .i32 0, .int .i64 0, .bool false, .int .i64 0], .int .i64 0]) (by simp [results, Tryz.results14, go_sem, r0, r1, r2, r3]) rfl ⟨rfl, (HEND.out _ _ HG.out).2 _ _ _ _⟩
set_option maxRecDepth 100000 in
set_option maxHeartbeats 8000000 in
theorem doesc_11_true_no (sp : Nat) (F : Nat → Prop) (S : Vz.Sr) (ask a0 a1 b0 b1 n : Int) (c : Vz.Cl) (wr : Int) (gd : Bool) (w : World) (h : Scr w sp F S) (ha : ask = 11) (hgd : gd = true) (ho : (openN S.D S.pl.at_ (-1)).isSome = false) : Calls Tryz.prog 14 #[.pointer (some ⟨sp, 0, none⟩), .agg (opC ⟨ask, ⟨a0, a1⟩, ⟨b0, b1⟩, n, c, wr, gd⟩).toArray] w fun e w' => e = .returned (.tuple #[.agg #[.int .i32 0, .int .i64 0, .bool false, .int .i64 0], .int .i64 0]) ∧ ScrTo w w' sp F (freeS S (-1)) := by
  obtain ⟨W0, hW0, hop, hS0, hend⟩ := does_pre sp F S ⟨ask, ⟨a0, a1⟩, ⟨b0, b1⟩, n, c, wr, gd⟩ w h
  obtain ⟨c0, c1, c2, c3, c4, c5, c6, c7, c8, c9, c10, c11⟩ := hop
  have HEND := Lib.hid hend
  have hcf := scr_free sp F S true W0 hS0
  rw [if_pos rfl, ho] at hcf
  have HC := Lib.hid hcf
  clear hcf
  have HS := Lib.hid hS0
  clear h hend hS0
  subst hW0
  subst ha
  subst hgd
  unfold opC at *
  simp only at *
  go_enter Tryz.func14, Tryz.ntmps14
  go_wp2_with (go_at_call 38; refine HC.out.mono ?_; rintro e w2 ⟨rfl, hg⟩; have HG := Lib.hid hg; have HX := Lib.hid (HEND.out _ _ HG.out).1; clear hg; obtain ⟨x0, x1, x2, x3, f0, f1, f2, f3⟩ := row4 HX.out)
  obtain ⟨r0, r1, r2, r3, _⟩ := row4 (set_four HX.out (.int .i32 0) (.int .i64 0) (.bool false) (.int .i64 0))
  refine bodyPost_ret (v := .tuple #[.agg #[.int .i32 0, .int .i64 0, .bool false, .int .i64 0], .int .i64 0]) (by simp [results, Tryz.results14, go_sem, r0, r1, r2, r3]) rfl ⟨rfl, (HEND.out _ _ HG.out).2 _ _ _ _⟩
set_option maxRecDepth 100000 in
set_option maxHeartbeats 8000000 in
theorem doesc_11_true_yes (sp : Nat) (F : Nat → Prop) (S : Vz.Sr) (ask a0 a1 b0 b1 n : Int) (c : Vz.Cl) (wr : Int) (gd : Bool) (w : World) (h : Scr w sp F S) (ha : ask = 11) (hgd : gd = true) (ho : (openN S.D S.pl.at_ (-1)).isSome = true) : Calls Tryz.prog 14 #[.pointer (some ⟨sp, 0, none⟩), .agg (opC ⟨ask, ⟨a0, a1⟩, ⟨b0, b1⟩, n, c, wr, gd⟩).toArray] w fun e w' => e = .returned (.tuple #[.agg #[.int .i32 0, .int .i64 0, .bool false, .int .i64 1], .int .i64 0]) ∧ ScrTo w w' sp F (freeS S (-1)) := by
  obtain ⟨W0, hW0, hop, hS0, hend⟩ := does_pre sp F S ⟨ask, ⟨a0, a1⟩, ⟨b0, b1⟩, n, c, wr, gd⟩ w h
  obtain ⟨c0, c1, c2, c3, c4, c5, c6, c7, c8, c9, c10, c11⟩ := hop
  have HEND := Lib.hid hend
  have hcf := scr_free sp F S true W0 hS0
  rw [if_pos rfl, ho] at hcf
  have HC := Lib.hid hcf
  clear hcf
  have HS := Lib.hid hS0
  clear h hend hS0
  subst hW0
  subst ha
  subst hgd
  unfold opC at *
  simp only at *
  go_enter Tryz.func14, Tryz.ntmps14
  go_wp2_with (go_at_call 38; refine HC.out.mono ?_; rintro e w2 ⟨rfl, hg⟩; have HG := Lib.hid hg; have HX := Lib.hid (HEND.out _ _ HG.out).1; clear hg; obtain ⟨x0, x1, x2, x3, f0, f1, f2, f3⟩ := row4 HX.out)
  obtain ⟨r0, r1, r2, r3, _⟩ := row4 (set_four HX.out (.int .i32 0) (.int .i64 0) (.bool false) (.int .i64 1))
  refine bodyPost_ret (v := .tuple #[.agg #[.int .i32 0, .int .i64 0, .bool false, .int .i64 1], .int .i64 0]) (by simp [results, Tryz.results14, go_sem, r0, r1, r2, r3]) rfl ⟨rfl, (HEND.out _ _ HG.out).2 _ _ _ _⟩
set_option maxRecDepth 100000 in
set_option maxHeartbeats 8000000 in
theorem doesc_11_false_no (sp : Nat) (F : Nat → Prop) (S : Vz.Sr) (ask a0 a1 b0 b1 n : Int) (c : Vz.Cl) (wr : Int) (gd : Bool) (w : World) (h : Scr w sp F S) (ha : ask = 11) (hgd : gd = false) (ho : (openN S.D S.pl.at_ (1)).isSome = false) : Calls Tryz.prog 14 #[.pointer (some ⟨sp, 0, none⟩), .agg (opC ⟨ask, ⟨a0, a1⟩, ⟨b0, b1⟩, n, c, wr, gd⟩).toArray] w fun e w' => e = .returned (.tuple #[.agg #[.int .i32 0, .int .i64 0, .bool false, .int .i64 0], .int .i64 0]) ∧ ScrTo w w' sp F (freeS S (1)) := by
  obtain ⟨W0, hW0, hop, hS0, hend⟩ := does_pre sp F S ⟨ask, ⟨a0, a1⟩, ⟨b0, b1⟩, n, c, wr, gd⟩ w h
  obtain ⟨c0, c1, c2, c3, c4, c5, c6, c7, c8, c9, c10, c11⟩ := hop
  have HEND := Lib.hid hend
  have hcf := scr_free sp F S false W0 hS0
  rw [if_neg Bool.false_ne_true, ho] at hcf
  have HC := Lib.hid hcf
  clear hcf
  have HS := Lib.hid hS0
  clear h hend hS0
  subst hW0
  subst ha
  subst hgd
  unfold opC at *
  simp only at *
  go_enter Tryz.func14, Tryz.ntmps14
  go_wp2_with (go_at_call 38; refine HC.out.mono ?_; rintro e w2 ⟨rfl, hg⟩; have HG := Lib.hid hg; have HX := Lib.hid (HEND.out _ _ HG.out).1; clear hg; obtain ⟨x0, x1, x2, x3, f0, f1, f2, f3⟩ := row4 HX.out)
  obtain ⟨r0, r1, r2, r3, _⟩ := row4 (set_four HX.out (.int .i32 0) (.int .i64 0) (.bool false) (.int .i64 0))
  refine bodyPost_ret (v := .tuple #[.agg #[.int .i32 0, .int .i64 0, .bool false, .int .i64 0], .int .i64 0]) (by simp [results, Tryz.results14, go_sem, r0, r1, r2, r3]) rfl ⟨rfl, (HEND.out _ _ HG.out).2 _ _ _ _⟩
set_option maxRecDepth 100000 in
set_option maxHeartbeats 8000000 in
theorem doesc_11_false_yes (sp : Nat) (F : Nat → Prop) (S : Vz.Sr) (ask a0 a1 b0 b1 n : Int) (c : Vz.Cl) (wr : Int) (gd : Bool) (w : World) (h : Scr w sp F S) (ha : ask = 11) (hgd : gd = false) (ho : (openN S.D S.pl.at_ (1)).isSome = true) : Calls Tryz.prog 14 #[.pointer (some ⟨sp, 0, none⟩), .agg (opC ⟨ask, ⟨a0, a1⟩, ⟨b0, b1⟩, n, c, wr, gd⟩).toArray] w fun e w' => e = .returned (.tuple #[.agg #[.int .i32 0, .int .i64 0, .bool false, .int .i64 1], .int .i64 0]) ∧ ScrTo w w' sp F (freeS S (1)) := by
  obtain ⟨W0, hW0, hop, hS0, hend⟩ := does_pre sp F S ⟨ask, ⟨a0, a1⟩, ⟨b0, b1⟩, n, c, wr, gd⟩ w h
  obtain ⟨c0, c1, c2, c3, c4, c5, c6, c7, c8, c9, c10, c11⟩ := hop
  have HEND := Lib.hid hend
  have hcf := scr_free sp F S false W0 hS0
  rw [if_neg Bool.false_ne_true, ho] at hcf
  have HC := Lib.hid hcf
  clear hcf
  have HS := Lib.hid hS0
  clear h hend hS0
  subst hW0
  subst ha
  subst hgd
  unfold opC at *
  simp only at *
  go_enter Tryz.func14, Tryz.ntmps14
  go_wp2_with (go_at_call 38; refine HC.out.mono ?_; rintro e w2 ⟨rfl, hg⟩; have HG := Lib.hid hg; have HX := Lib.hid (HEND.out _ _ HG.out).1; clear hg; obtain ⟨x0, x1, x2, x3, f0, f1, f2, f3⟩ := row4 HX.out)
  obtain ⟨r0, r1, r2, r3, _⟩ := row4 (set_four HX.out (.int .i32 0) (.int .i64 0) (.bool false) (.int .i64 1))
  refine bodyPost_ret (v := .tuple #[.agg #[.int .i32 0, .int .i64 0, .bool false, .int .i64 1], .int .i64 0]) (by simp [results, Tryz.results14, go_sem, r0, r1, r2, r3]) rfl ⟨rfl, (HEND.out _ _ HG.out).2 _ _ _ _⟩
set_option maxRecDepth 100000 in
set_option maxHeartbeats 8000000 in
theorem doesc_12 (sp : Nat) (F : Nat → Prop) (S : Vz.Sr) (ask a0 a1 b0 b1 n : Int) (c : Vz.Cl) (wr : Int) (gd : Bool) (w : World) (h : Scr w sp F S) (ha : ask = 12) (R C : Nat) (hR : a0 = R) (hCC : a1 = C) (hm : Vz.mayS R C = true) : Calls Tryz.prog 14 #[.pointer (some ⟨sp, 0, none⟩), .agg (opC ⟨ask, ⟨a0, a1⟩, ⟨b0, b1⟩, n, c, wr, gd⟩).toArray] w fun e w' => e = .returned (.tuple #[.agg #[.int .i32 0, .int .i64 0, .bool false, .int .i64 0], .int .i64 0]) ∧ ScrTo w w' sp F (resizeS S R C) := by
  obtain ⟨W0, hW0, hop, hS0, hend⟩ := does_pre sp F S ⟨ask, ⟨a0, a1⟩, ⟨b0, b1⟩, n, c, wr, gd⟩ w h
  obtain ⟨c0, c1, c2, c3, c4, c5, c6, c7, c8, c9, c10, c11⟩ := hop
  have HEND := Lib.hid hend
  have HC := Lib.hid (scr_resize sp F S R C W0 hS0 hm)
  have HS := Lib.hid hS0
  clear h hend hS0
  subst hW0
  subst ha hR hCC
  unfold opC at *
  simp only at *
  go_enter Tryz.func14, Tryz.ntmps14
  go_wp2_with (go_at_call 33; refine HC.out.mono ?_; rintro e w2 ⟨rfl, hg⟩; have HG := Lib.hid hg; have HX := Lib.hid (HEND.out _ _ HG.out).1; clear hg; obtain ⟨x0, x1, x2, x3, f0, f1, f2, f3⟩ := row4 HX.out)
  obtain ⟨r0, r1, r2, r3, _⟩ := row4 (set_four HX.out (.int .i32 0) (.int .i64 0) (.bool false) (.int .i64 0))
  refine bodyPost_ret (v := .tuple #[.agg #[.int .i32 0, .int .i64 0, .bool false, .int .i64 0], .int .i64 0]) (by simp [results, Tryz.results14, go_sem, r0, r1, r2, r3]) rfl ⟨rfl, (HEND.out _ _ HG.out).2 _ _ _ _⟩
set_option maxRecDepth 100000 in
set_option maxHeartbeats 8000000 in
theorem doesc_12n (sp : Nat) (F : Nat → Prop) (S : Vz.Sr) (ask a0 a1 b0 b1 n : Int) (c : Vz.Cl) (wr : Int) (gd : Bool) (w : World) (h : Scr w sp F S) (ha : ask = 12) (hm : Vz.mayS a0 a1 = false) : Calls Tryz.prog 14 #[.pointer (some ⟨sp, 0, none⟩), .agg (opC ⟨ask, ⟨a0, a1⟩, ⟨b0, b1⟩, n, c, wr, gd⟩).toArray] w fun e w' => e = .returned (.tuple #[.agg #[.int .i32 0, .int .i64 0, .bool false, .int .i64 0], .int .i64 10]) ∧ ScrTo w w' sp F (S) := by
  obtain ⟨W0, hW0, hop, hS0, hend⟩ := does_pre sp F S ⟨ask, ⟨a0, a1⟩, ⟨b0, b1⟩, n, c, wr, gd⟩ w h
  obtain ⟨c0, c1, c2, c3, c4, c5, c6, c7, c8, c9, c10, c11⟩ := hop
  have HEND := Lib.hid hend
  have HC := Lib.hid (scr_resize_no sp F S a0 a1 W0 hS0 hm)
  have HS := Lib.hid hS0
  clear h hend hS0
  subst hW0
  subst ha
  unfold opC at *
  simp only at *
  go_enter Tryz.func14, Tryz.ntmps14
  go_wp2_with (go_at_call 33; refine HC.out.mono ?_; rintro e w2 ⟨rfl, hg⟩; have HG := Lib.hid ((ScrTo.refl HS.out).later hg); have HX := Lib.hid (HEND.out _ _ HG.out).1; clear hg; obtain ⟨x0, x1, x2, x3, f0, f1, f2, f3⟩ := row4 HX.out)
  obtain ⟨r0, r1, r2, r3, _⟩ := row4 (set_four HX.out (.int .i32 0) (.int .i64 0) (.bool false) (.int .i64 0))
  refine bodyPost_ret (v := .tuple #[.agg #[.int .i32 0, .int .i64 0, .bool false, .int .i64 0], .int .i64 10]) (by simp [results, Tryz.results14, go_sem, r0, r1, r2, r3]) rfl ⟨rfl, (HEND.out _ _ HG.out).2 _ _ _ _⟩
set_option maxRecDepth 100000 in
set_option maxHeartbeats 8000000 in
theorem doesc_13 (sp : Nat) (F : Nat → Prop) (S : Vz.Sr) (ask a0 a1 b0 b1 n : Int) (c : Vz.Cl) (wr : Int) (gd : Bool) (w : World) (h : Scr w sp F S) (ha : ask = 13) (hin : (⟨a0, a1⟩ : Vz.Ps).inS S.D.R S.D.C) : Calls Tryz.prog 14 #[.pointer (some ⟨sp, 0, none⟩), .agg (opC ⟨ask, ⟨a0, a1⟩, ⟨b0, b1⟩, n, c, wr, gd⟩).toArray] w fun e w' => e = .returned (.tuple #[.agg #[.int .i32 0, .int .i64 0, .bool false, .int .i64 0], .int .i64 0]) ∧ ScrTo w w' sp F ({ S with D := S.D.set a0.toNat a1.toNat c }) := by
  obtain ⟨W0, hW0, hop, hS0, hend⟩ := does_pre sp F S ⟨ask, ⟨a0, a1⟩, ⟨b0, b1⟩, n, c, wr, gd⟩ w h
  obtain ⟨c0, c1, c2, c3, c4, c5, c6, c7, c8, c9, c10, c11⟩ := hop
  have HEND := Lib.hid hend
  have HC := Lib.hid (scr_set sp F S ⟨a0, a1⟩ c W0 hS0 hin)
  have HS := Lib.hid hS0
  clear h hend hS0
  subst hW0
  subst ha
  unfold opC at *
  simp only at *
  go_enter Tryz.func14, Tryz.ntmps14
  go_wp2_with (go_at_call 39; refine HC.out.mono ?_; rintro e w2 ⟨rfl, hg⟩; have HG := Lib.hid hg; have HX := Lib.hid (HEND.out _ _ HG.out).1; clear hg; obtain ⟨x0, x1, x2, x3, f0, f1, f2, f3⟩ := row4 HX.out)
  obtain ⟨r0, r1, r2, r3, _⟩ := row4 (set_four HX.out (.int .i32 0) (.int .i64 0) (.bool false) (.int .i64 0))
  refine bodyPost_ret (v := .tuple #[.agg #[.int .i32 0, .int .i64 0, .bool false, .int .i64 0], .int .i64 0]) (by simp [results, Tryz.results14, go_sem, r0, r1, r2, r3]) rfl ⟨rfl, (HEND.out _ _ HG.out).2 _ _ _ _⟩
set_option maxRecDepth 100000 in
set_option maxHeartbeats 8000000 in
theorem doesc_13n (sp : Nat) (F : Nat → Prop) (S : Vz.Sr) (ask a0 a1 b0 b1 n : Int) (c : Vz.Cl) (wr : Int) (gd : Bool) (w : World) (h : Scr w sp F S) (ha : ask = 13) (hin : ¬ (⟨a0, a1⟩ : Vz.Ps).inS S.D.R S.D.C) : Calls Tryz.prog 14 #[.pointer (some ⟨sp, 0, none⟩), .agg (opC ⟨ask, ⟨a0, a1⟩, ⟨b0, b1⟩, n, c, wr, gd⟩).toArray] w fun e w' => e = .returned (.tuple #[.agg #[.int .i32 0, .int .i64 0, .bool false, .int .i64 0], .int .i64 11]) ∧ ScrTo w w' sp F (S) := by
  obtain ⟨W0, hW0, hop, hS0, hend⟩ := does_pre sp F S ⟨ask, ⟨a0, a1⟩, ⟨b0, b1⟩, n, c, wr, gd⟩ w h
  obtain ⟨c0, c1, c2, c3, c4, c5, c6, c7, c8, c9, c10, c11⟩ := hop
  have HEND := Lib.hid hend
  have HC := Lib.hid (scr_set_no sp F S ⟨a0, a1⟩ c W0 hS0 hin)
  have HS := Lib.hid hS0
  clear h hend hS0
  subst hW0
  subst ha
  unfold opC at *
  simp only at *
  go_enter Tryz.func14, Tryz.ntmps14
  go_wp2_with (go_at_call 39; refine HC.out.mono ?_; rintro e w2 ⟨rfl, hg⟩; have HG := Lib.hid ((ScrTo.refl HS.out).later hg); have HX := Lib.hid (HEND.out _ _ HG.out).1; clear hg; obtain ⟨x0, x1, x2, x3, f0, f1, f2, f3⟩ := row4 HX.out)
  obtain ⟨r0, r1, r2, r3, _⟩ := row4 (set_four HX.out (.int .i32 0) (.int .i64 0) (.bool false) (.int .i64 0))
  refine bodyPost_ret (v := .tuple #[.agg #[.int .i32 0, .int .i64 0, .bool false, .int .i64 0], .int .i64 11]) (by simp [results, Tryz.results14, go_sem, r0, r1, r2, r3]) rfl ⟨rfl, (HEND.out _ _ HG.out).2 _ _ _ _⟩
set_option maxRecDepth 100000 in
set_option maxHeartbeats 8000000 in
theorem doesc_at (sp : Nat) (F : Nat → Prop) (S : Vz.Sr) (ask a0 a1 b0 b1 n : Int) (c : Vz.Cl) (wr : Int) (gd : Bool) (w : World) (h : Scr w sp F S) (ha : ask < 0 ∨ 13 < ask) (hin : (⟨a0, a1⟩ : Vz.Ps).inS S.D.R S.D.C) : Calls Tryz.prog 14 #[.pointer (some ⟨sp, 0, none⟩), .agg (opC ⟨ask, ⟨a0, a1⟩, ⟨b0, b1⟩, n, c, wr, gd⟩).toArray] w fun e w' => e = .returned (.tuple #[.agg #[.int .i32 (atD S.D ⟨a0, a1⟩).g, .int .i64 (atD S.D ⟨a0, a1⟩).a, .bool (atD S.D ⟨a0, a1⟩).gd, .int .i64 (atD S.D ⟨a0, a1⟩).m], .int .i64 0]) ∧ ScrTo w w' sp F (S) := by
  obtain ⟨W0, hW0, hop, hS0, hend⟩ := does_pre sp F S ⟨ask, ⟨a0, a1⟩, ⟨b0, b1⟩, n, c, wr, gd⟩ w h
  obtain ⟨c0, c1, c2, c3, c4, c5, c6, c7, c8, c9, c10, c11⟩ := hop
  have HEND := Lib.hid hend
  have HC := Lib.hid (scr_at sp F S ⟨a0, a1⟩ W0 hS0 hin)
  have HS := Lib.hid hS0
  have e0 : (ask == 0) = false := by rw [eqb]; exact decide_eq_false (by omega)
  have e1 : (ask == 1) = false := by rw [eqb]; exact decide_eq_false (by omega)
  have e2 : (ask == 2) = false := by rw [eqb]; exact decide_eq_false (by omega)
  have e3 : (ask == 3) = false := by rw [eqb]; exact decide_eq_false (by omega)
  have e4 : (ask == 4) = false := by rw [eqb]; exact decide_eq_false (by omega)
  have e5 : (ask == 5) = false := by rw [eqb]; exact decide_eq_false (by omega)
  have e6 : (ask == 6) = false := by rw [eqb]; exact decide_eq_false (by omega)
  have e7 : (ask == 7) = false := by rw [eqb]; exact decide_eq_false (by omega)
  have e8 : (ask == 8) = false := by rw [eqb]; exact decide_eq_false (by omega)
  have e9 : (ask == 9) = false := by rw [eqb]; exact decide_eq_false (by omega)
  have e10 : (ask == 10) = false := by rw [eqb]; exact decide_eq_false (by omega)
  have e11 : (ask == 11) = false := by rw [eqb]; exact decide_eq_false (by omega)
  have e12 : (ask == 12) = false := by rw [eqb]; exact decide_eq_false (by omega)
  have e13 : (ask == 13) = false := by rw [eqb]; exact decide_eq_false (by omega)
  clear h hend hS0
  subst hW0
  unfold opC at *
  simp only at *
  go_enter Tryz.func14, Tryz.ntmps14
  go_wp2_with (go_at_call 18; refine HC.out.mono ?_; rintro e w2 ⟨rfl, hg⟩; have HG := Lib.hid ((ScrTo.refl HS.out).later hg); have HX := Lib.hid (HEND.out _ _ HG.out).1; clear hg; obtain ⟨x0, x1, x2, x3, f0, f1, f2, f3⟩ := row4 HX.out)
  obtain ⟨r0, r1, r2, r3, _⟩ := row4 (set_four HX.out (.int .i32 (atD S.D ⟨a0, a1⟩).g) (.int .i64 (atD S.D ⟨a0, a1⟩).a) (.bool (atD S.D ⟨a0, a1⟩).gd) (.int .i64 (atD S.D ⟨a0, a1⟩).m))
  refine bodyPost_ret (v := .tuple #[.agg #[.int .i32 (atD S.D ⟨a0, a1⟩).g, .int .i64 (atD S.D ⟨a0, a1⟩).a, .bool (atD S.D ⟨a0, a1⟩).gd, .int .i64 (atD S.D ⟨a0, a1⟩).m], .int .i64 0]) (by simp [results, Tryz.results14, go_sem, r0, r1, r2, r3]) rfl ⟨rfl, (HEND.out _ _ HG.out).2 _ _ _ _⟩
set_option maxRecDepth 100000 in
set_option maxHeartbeats 8000000 in
theorem doesc_atn (sp : Nat) (F : Nat → Prop) (S : Vz.Sr) (ask a0 a1 b0 b1 n : Int) (c : Vz.Cl) (wr : Int) (gd : Bool) (w : World) (h : Scr w sp F S) (ha : ask < 0 ∨ 13 < ask) (hin : ¬ (⟨a0, a1⟩ : Vz.Ps).inS S.D.R S.D.C) : Calls Tryz.prog 14 #[.pointer (some ⟨sp, 0, none⟩), .agg (opC ⟨ask, ⟨a0, a1⟩, ⟨b0, b1⟩, n, c, wr, gd⟩).toArray] w fun e w' => e = .returned (.tuple #[.agg #[.int .i32 0, .int .i64 0, .bool false, .int .i64 0], .int .i64 11]) ∧ ScrTo w w' sp F (S) := by
  obtain ⟨W0, hW0, hop, hS0, hend⟩ := does_pre sp F S ⟨ask, ⟨a0, a1⟩, ⟨b0, b1⟩, n, c, wr, gd⟩ w h
  obtain ⟨c0, c1, c2, c3, c4, c5, c6, c7, c8, c9, c10, c11⟩ := hop
  have HEND := Lib.hid hend
  have HC := Lib.hid (scr_at_no sp F S ⟨a0, a1⟩ W0 hS0 hin)
  have HS := Lib.hid hS0
  have e0 : (ask == 0) = false := by rw [eqb]; exact decide_eq_false (by omega)
  have e1 : (ask == 1) = false := by rw [eqb]; exact decide_eq_false (by omega)
  have e2 : (ask == 2) = false := by rw [eqb]; exact decide_eq_false (by omega)
  have e3 : (ask == 3) = false := by rw [eqb]; exact decide_eq_false (by omega)
  have e4 : (ask == 4) = false := by rw [eqb]; exact decide_eq_false (by omega)
  have e5 : (ask == 5) = false := by rw [eqb]; exact decide_eq_false (by omega)
  have e6 : (ask == 6) = false := by rw [eqb]; exact decide_eq_false (by omega)
  have e7 : (ask == 7) = false := by rw [eqb]; exact decide_eq_false (by omega)
  have e8 : (ask == 8) = false := by rw [eqb]; exact decide_eq_false (by omega)
  have e9 : (ask == 9) = false := by rw [eqb]; exact decide_eq_false (by omega)
  have e10 : (ask == 10) = false := by rw [eqb]; exact decide_eq_false (by omega)
  have e11 : (ask == 11) = false := by rw [eqb]; exact decide_eq_false (by omega)
  have e12 : (ask == 12) = false := by rw [eqb]; exact decide_eq_false (by omega)
  have e13 : (ask == 13) = false := by rw [eqb]; exact decide_eq_false (by omega)
  clear h hend hS0
  subst hW0
  unfold opC at *
  simp only at *
  go_enter Tryz.func14, Tryz.ntmps14
  go_wp2_with (go_at_call 18; refine HC.out.mono ?_; rintro e w2 ⟨rfl, hg⟩; have HG := Lib.hid ((ScrTo.refl HS.out).later hg); have HX := Lib.hid (HEND.out _ _ HG.out).1; clear hg; obtain ⟨x0, x1, x2, x3, f0, f1, f2, f3⟩ := row4 HX.out)
  obtain ⟨r0, r1, r2, r3, _⟩ := row4 (set_four HX.out (.int .i32 0) (.int .i64 0) (.bool false) (.int .i64 0))
  refine bodyPost_ret (v := .tuple #[.agg #[.int .i32 0, .int .i64 0, .bool false, .int .i64 0], .int .i64 11]) (by simp [results, Tryz.results14, go_sem, r0, r1, r2, r3]) rfl ⟨rfl, (HEND.out _ _ HG.out).2 _ _ _ _⟩
theorem does_ok (sp : Nat) (F : Nat → Prop) (S : Vz.Sr) (o : Vz.Op) (w : World) (h : Scr w sp F S) (ho : OpOk o) : Calls Tryz.prog 14 #[.pointer (some ⟨sp, 0, none⟩), .agg (opC o).toArray] w fun e w' => e = .returned (.tuple #[.agg #[.int .i32 (doesR S o).2.1.g, .int .i64 (doesR S o).2.1.a, .bool (doesR S o).2.1.gd, .int .i64 (doesR S o).2.1.m], .int .i64 (doesR S o).2.2]) ∧ ScrTo w w' sp F (doesR S o).1 := by
  obtain ⟨ask, ⟨a0, a1⟩, ⟨b0, b1⟩, n, c, wr, gd⟩ := o
  obtain ⟨hn, _, _⟩ := ho
  unfold doesR
  dsimp only at *
  by_cases hd : ask = 0 ∨ ask = 7 ∨ ask = 8 ∨ ask = 9 ∨ ask = 10
  · rw [if_pos hd]
    rcases hd with ha | ha | ha | ha | ha
    · exact doesc_0 sp F S ask a0 a1 b0 b1 n c wr gd w h ha
    · exact doesc_7 sp F S ask a0 a1 b0 b1 n c wr gd w h ha
    · exact doesc_8 sp F S ask a0 a1 b0 b1 n c wr gd w h ha
    · exact doesc_9 sp F S ask a0 a1 b0 b1 n c wr gd w h ha
    · exact doesc_10 sp F S ask a0 a1 b0 b1 n c wr gd w h ha
  rw [if_neg hd]
  by_cases h1 : ask = 1
  · rw [if_pos h1]
    exact doesc_1 sp F S ask a0 a1 b0 b1 n c wr gd w h h1
  rw [if_neg h1]
  by_cases h2 : ask = 2
  · rw [if_pos h2]
    exact doesc_2 sp F S ask a0 a1 b0 b1 n c wr gd w h h2
  rw [if_neg h2]
  by_cases h3 : ask = 3
  · rw [if_pos h3]
    exact doesc_3 sp F S ask a0 a1 b0 b1 n c wr gd w h h3
  rw [if_neg h3]
  by_cases h4 : ask = 4
  · rw [if_pos h4]
    exact doesc_4 sp F S ask a0 a1 b0 b1 n c wr gd w h h4 hn
  rw [if_neg h4]
  by_cases h5 : ask = 5
  · rw [if_pos h5]
    exact doesc_5 sp F S ask a0 a1 b0 b1 n c wr gd w h h5
  rw [if_neg h5]
  by_cases h6 : ask = 6
  · rw [if_pos h6]
    exact doesc_6 sp F S ask a0 a1 b0 b1 n c wr gd w h h6 hn
  rw [if_neg h6]
  by_cases h11 : ask = 11
  · rw [if_pos h11]
    cases gd
    · rw [if_neg Bool.false_ne_true]
      cases hoo : (openN S.D S.pl.at_ 1).isSome
      · exact doesc_11_false_no sp F S ask a0 a1 b0 b1 n c wr false w h h11 rfl hoo
      · exact doesc_11_false_yes sp F S ask a0 a1 b0 b1 n c wr false w h h11 rfl hoo
    · rw [if_pos rfl]
      cases hoo : (openN S.D S.pl.at_ (-1)).isSome
      · exact doesc_11_true_no sp F S ask a0 a1 b0 b1 n c wr true w h h11 rfl hoo
      · exact doesc_11_true_yes sp F S ask a0 a1 b0 b1 n c wr true w h h11 rfl hoo
  rw [if_neg h11]
  by_cases h12 : ask = 12
  · rw [if_pos h12]
    cases hm : Vz.mayS a0 a1
    · rw [if_neg Bool.false_ne_true]
      exact doesc_12n sp F S ask a0 a1 b0 b1 n c wr gd w h h12 hm
    · rw [if_pos rfl]
      have hmm := (Vz.mayS_iff a0 a1).1 hm
      obtain ⟨R, rfl⟩ := Int.eq_ofNat_of_zero_le (show 0 ≤ a0 by omega)
      obtain ⟨C, rfl⟩ := Int.eq_ofNat_of_zero_le (show 0 ≤ a1 by omega)
      exact doesc_12 sp F S ask R C b0 b1 n c wr gd w h h12 R C rfl rfl hm
  rw [if_neg h12]
  by_cases h13 : ask = 13
  · rw [if_pos h13]
    cases hin : inB ⟨a0, a1⟩ S.D.R S.D.C
    · rw [if_neg Bool.false_ne_true]
      exact doesc_13n sp F S ask a0 a1 b0 b1 n c wr gd w h h13 (inB_no hin)
    · rw [if_pos rfl]
      exact doesc_13 sp F S ask a0 a1 b0 b1 n c wr gd w h h13 (inB_iff.1 hin)
  rw [if_neg h13]
  cases hin : inB ⟨a0, a1⟩ S.D.R S.D.C
  · rw [if_neg Bool.false_ne_true]
    exact doesc_atn sp F S ask a0 a1 b0 b1 n c wr gd w h (by omega) (inB_no hin)
  · rw [if_pos rfl]
    exact doesc_at sp F S ask a0 a1 b0 b1 n c wr gd w h (by omega) (inB_iff.1 hin)
end Go.Proofs.YtbnkfiaggehmgaaGreatDoor

/- Walks: the law's begun: a screen behind calls. -/
namespace Go.Proofs.YtbnkfiaggehmgaaGreatDoor
open Go.RowKit
set_option linter.unusedSimpArgs false
set_option linter.unusedVariables false
attribute [local go_sem] alloc_drewN setCell_drewN World.cell?_alloc_some frozen_alloc_some size_f0 size_f1

/-- A screen behind calls. -/
def runS (S : Vz.Sr) (L : List Vz.Op) : Vz.Sr := L.foldl (fun S o => (doesR S o).1) S
theorem runS_step (S : Vz.Sr) (L : List Vz.Op) {k : Nat} (hk : k < L.length) : runS S (L.take (k + 1)) = (doesR (runS S (L.take k)) (L[k]?.getD Vz.Op.nil)).1 := by
  unfold runS
  rw [List.take_add_one, List.foldl_append, List.getElem?_eq_getElem hk]
  rfl
set_option maxRecDepth 100000 in
set_option maxHeartbeats 8000000 in
theorem begun_ok (A : Option Addr) (m cap : Nat) (L : List Vz.Op) (w : World) (hbl : Blanked w) (h : Opers w.heap.size w A m L) (hm : m ≤ maxLen) : Calls Tryz.prog 13 #[.slice A m cap] w fun e w' => ∃ sp, e = .returned (.pointer (some ⟨sp, 0, none⟩)) ∧ NewScr w w' sp (runS (newS 5 9) L) := by
  have hm' : m ≤ 9223372036854775807 := Nat.le_trans hm (by unfold maxLen; decide)
  have H := Lib.hid h
  have HN : Hid (Calls Tryz.prog 20 #[.agg #[.int .i64 5, .int .i64 9]] w fun e w' => ∃ sp, e = .returned (.tuple #[.pointer (some ⟨sp, 0, none⟩), .int .i64 0]) ∧ NewScr w w' sp (newS 5 9)) := scr_new 5 9 (by decide) w hbl
  have hml : m = L.length := h.1
  have HML := Lib.hid hml
  clear h hm hbl hml
  generalize hS0 : newS 5 9 = S0 at *
  go_enter Tryz.func13, Tryz.ntmps13
  go_wp2_with (go_at_call 20; refine HN.out.mono ?_; rintro e w1 ⟨sp, rfl, hnew⟩; have HNS := Lib.hid hnew; clear hnew)
  go_loopw [5] (fun i wr => ∃ k : Nat, k ≤ m ∧ i = .int .i64 (k : Int) ∧ NewScr w wr sp (runS S0 (L.take k))) (fun i _ => m - (intOf i).toNat)
  case atStart => exact ⟨0, Nat.zero_le _, rfl, HNS.out⟩
  case round =>
    obtain ⟨k, hk, rfl, ⟨F, hs, hn⟩, hb⟩ := hrel
    by_cases hlt : k < m
    · obtain ⟨b, o, rfl, hbl, hop, hok⟩ := (H.out.below hb (Nat.le_refl _)).at_ hlt
      have hst := runS_step S0 L (k := k) (by rw [← HML.out]; exact hlt)
      generalize L[k]?.getD Vz.Op.nil = x at *
      have HD := Lib.hid (does_ok sp F _ x wr hs hok)
      obtain ⟨c0, c1, c2, c3, c4, c5, c6, c7, c8, c9, c10, c11⟩ := hop
      have hkz : (k : Int) < (m : Int) := by omega
      have hwk : IntKind.i64.wrap ((k : Int) + 1) = ((k + 1 : Nat) : Int) := by rw [wrap_in (by omega) (by omega)]; rfl
      have HST := Lib.hid hst
      have HB := Lib.hid (And.intro hn hb)
      clear hs hn hb hok hst
      generalize runS S0 (L.take k) = S at *
      generalize doesR S x = R at *
      go_wp2_with (go_at_call 14; refine HD.out.mono ?_; rintro e w2 ⟨rfl, hg⟩; have HG := Lib.hid hg; clear hg)
      exact ⟨⟨k + 1, by omega, rfl, by rw [HST.out]; exact NewScr.link HB.out.1 HB.out.2 HG.out⟩, by simp [intOf]; omega⟩
    · obtain rfl : k = m := by omega
      have HE : Hid (NewScr w wr sp (runS S0 L)) := by
        have : L.take k = L := List.take_of_length_le (by rw [← HML.out]; exact Nat.le_refl _)
        rw [this] at hs
        exact ⟨⟨F, hs, hn⟩, hb⟩
      clear hs hn hb
      go_wp2_with fail
      go_ret
      exact ⟨sp, rfl, HE.out⟩
end Go.Proofs.YtbnkfiaggehmgaaGreatDoor
