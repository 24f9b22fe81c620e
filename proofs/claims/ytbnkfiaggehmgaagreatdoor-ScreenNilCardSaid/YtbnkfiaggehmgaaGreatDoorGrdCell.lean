/- Walks: a grid's At and Set. -/
import Derived.Test.YtbnkfiaggehmgaaGreatDoorBoxes
namespace Go.Proofs.YtbnkfiaggehmgaaGreatDoor
open Go.RowKit
set_option linter.unusedSimpArgs false
set_option linter.unusedVariables false
attribute [local go_sem] alloc_drewN setCell_drewN World.cell?_alloc_some frozen_alloc_some

/-- What is at a place of a grid. -/
def atD (D : Vz.Gd) (p : Vz.Ps) : Vz.Cl := D.X p.row.toNat p.col.toNat
set_option maxRecDepth 10000 in
set_option maxHeartbeats 2000000 in
theorem gat_ok (gp : Nat) (F : Nat → Prop) (D : Vz.Gd) (p : Vz.Ps) (w : World) (h : Grid w gp F D) (hP : p.inS D.R D.C) :
    Calls Tryz.prog 43 #[.pointer (some ⟨gp, 0, none⟩), .agg #[.int .i64 p.row, .int .i64 p.col]] w fun e w' => e = .returned (.tuple #[.agg #[.int .i32 (atD D p).g, .int .i64 (atD D p).a, .bool (atD D p).gd, .int .i64 (atD D p).m], .int .i64 0]) ∧ Below w.heap.size w w' := by
  obtain ⟨i, j, rfl, hi, hj⟩ := Ps.nats hP
  have hX : Hid (atD D ⟨i, j⟩ = D.X i j) := rfl
  rw [hX.out]
  have HP := Lib.hid hP
  obtain ⟨m1, m2, m3, m4⟩ := h.may
  have hlt := block_lt h.choose_spec.choose_spec.choose_spec.choose_spec.1.box
  have HTH := Lib.hid (fun (W : World) (hb : Below w.heap.size w W) (b : Nat) (hl : W.cell? ⟨b, 0, none⟩ = some (.int .i64 (i : Int)) ∧ W.cell? ⟨b, 1, none⟩ = some (.int .i64 (j : Int))) =>
    there_yes gp b F D 1 (fun _ => ⟨i, j⟩) W (h.below hb) (by decide) (fun _ _ => hP) (fun k hk => by obtain rfl : k = 0 := (by omega); exact ⟨by simpa using hl.1, by simpa using hl.2⟩))
  have HAT : Hid (∀ W, Below w.heap.size w W → ∃ B cap G K, W.cell? ⟨gp, 0, none⟩ = some (.slice (some ⟨B, 0, none⟩) D.R cap) ∧ W.cell? ⟨B, i, none⟩ = some (.slice (some ⟨G, 0, none⟩) D.C K) ∧ W.cell? ⟨G, j * 4, none⟩ = some (.int .i32 (D.X i j).g) ∧ W.cell? ⟨G, j * 4 + 1, none⟩ = some (.int .i64 (D.X i j).a) ∧ W.cell? ⟨G, j * 4 + 2, none⟩ = some (.bool (D.X i j).gd) ∧ W.cell? ⟨G, j * 4 + 3, none⟩ = some (.int .i64 (D.X i j).m)) := fun W hb => by
    obtain ⟨B, cap, G, K, hg, _⟩ := h.below hb
    exact ⟨B, cap, G i, K i, hg.head, hg.line hi, hg.cells hi hj⟩
  clear h hP hX
  generalize D.X i j = x at *
  go_enter Tryz.func43, Tryz.ntmps43
  go_wp2_with (go_at_call 85; refine (HTH.out _ (Grows.below ((((Grows.refl _).alloc _).alloc _).alloc _)) _ (new3 _ _ _ _ _ _)).mono ?_; rintro e w1 ⟨rfl, hb1⟩; obtain ⟨x0, x1, x2, hb⟩ := box3 hb1; obtain ⟨B, cap, G, K, d0, d1, d2, d3, d4, d5⟩ := HAT.out _ hb; obtain ⟨e0, e1, _, _⟩ := row2 x0; obtain ⟨y0, y1, y2, y3, z0, z1, z2, z3⟩ := row4 x1; have HB1 := Lib.hid hb; have X1 := Lib.hid x1; clear hb1 hb x0 x1 x2)
  have hiR : (i : Int) < (D.R : Int) := by omega
  have hjC : (j : Int) < (D.C : Int) := by omega
  refine region_tail 12 (by kernel_rfl) (by kernel_rfl) ?_
  simp only [List.take_succ_cons, List.take_zero, List.drop_succ_cons, List.drop_zero]
  repeat still_step
  try refine wpStill_nil ?_
  go_wp2_with fail
  obtain ⟨q0, q1, q2, q3, _⟩ := row4 (set_four X1.out (.int .i32 x.g) (.int .i64 x.a) (.bool x.gd) (.int .i64 x.m))
  refine bodyPost_ret (v := .tuple #[.agg #[.int .i32 x.g, .int .i64 x.a, .bool x.gd, .int .i64 x.m], .int .i64 0]) (by simp [results, Tryz.results43, go_sem, q0, q1, q2, q3]) rfl ⟨rfl, ?_⟩
  exact Below.draws (Below.set4 HB1.out (Nat.le_succ _) _ _ _ _) _
set_option maxRecDepth 10000 in
set_option maxHeartbeats 2000000 in
theorem gat_no (gp : Nat) (F : Nat → Prop) (D : Vz.Gd) (p : Vz.Ps) (w : World) (h : Grid w gp F D) (hP : ¬ p.inS D.R D.C) :
    Calls Tryz.prog 43 #[.pointer (some ⟨gp, 0, none⟩), .agg #[.int .i64 p.row, .int .i64 p.col]] w fun e w' => e = .returned (.tuple #[.agg #[.int .i32 0, .int .i64 0, .bool false, .int .i64 0], .int .i64 11]) ∧ Below w.heap.size w w' := by
  have HTH := Lib.hid (fun (W : World) (hb : Below w.heap.size w W) (b : Nat) (hl : W.cell? ⟨b, 0, none⟩ = some (.int .i64 p.row) ∧ W.cell? ⟨b, 1, none⟩ = some (.int .i64 p.col)) =>
    there_no gp b F D p W (h.below hb) hP hl)
  clear h hP
  generalize p.row = pr at *
  generalize p.col = pc at *
  go_enter Tryz.func43, Tryz.ntmps43
  go_wp2_with (go_at_call 85; refine (HTH.out _ (Grows.below ((((Grows.refl _).alloc _).alloc _).alloc _)) _ (new3 _ _ _ _ _ _)).mono ?_; rintro e w1 ⟨rfl, hb1⟩; obtain ⟨x0, x1, x2, hb⟩ := box3 hb1; obtain ⟨e0, e1, _, _⟩ := row2 x0; obtain ⟨y0, y1, y2, y3, z0, z1, z2, z3⟩ := row4 x1; have HB1 := Lib.hid hb; have X1 := Lib.hid x1; clear hb1 hb x0 x1 x2)
  obtain ⟨q0, q1, q2, q3, _⟩ := row4 (set_four X1.out (.int .i32 0) (.int .i64 0) (.bool false) (.int .i64 0))
  refine bodyPost_ret (v := .tuple #[.agg #[.int .i32 0, .int .i64 0, .bool false, .int .i64 0], .int .i64 11]) (by simp [results, Tryz.results43, go_sem, q0, q1, q2, q3]) rfl ⟨rfl, ?_⟩
  exact Below.set4 HB1.out (Nat.le_succ _) _ _ _ _
set_option maxRecDepth 10000 in
set_option maxHeartbeats 2000000 in
theorem gset_ok (gp : Nat) (F : Nat → Prop) (D : Vz.Gd) (p : Vz.Ps) (x : Vz.Cl) (w : World) (h : Grid w gp F D) (hP : p.inS D.R D.C) :
    Calls Tryz.prog 79 #[.pointer (some ⟨gp, 0, none⟩), .agg #[.int .i64 p.row, .int .i64 p.col], .agg #[.int .i32 x.g, .int .i64 x.a, .bool x.gd, .int .i64 x.m]] w fun e w' => e = .returned (.int .i64 0) ∧ Grid w' gp F (D.set p.row.toNat p.col.toNat x) ∧ Keeps F w w' := by
  obtain ⟨i, j, rfl, hi, hj⟩ := Ps.nats hP
  have HP := Lib.hid hP
  obtain ⟨m1, m2, m3, m4⟩ := h.may
  have hlt := block_lt h.choose_spec.choose_spec.choose_spec.choose_spec.1.box
  have HTH := Lib.hid (fun (W : World) (hb : Below w.heap.size w W) (b : Nat) (hl : W.cell? ⟨b, 0, none⟩ = some (.int .i64 (i : Int)) ∧ W.cell? ⟨b, 1, none⟩ = some (.int .i64 (j : Int))) =>
    there_yes gp b F D 1 (fun _ => ⟨i, j⟩) W (h.below hb) (by decide) (fun _ _ => hP) (fun k hk => by obtain rfl : k = 0 := (by omega); exact ⟨by simpa using hl.1, by simpa using hl.2⟩))
  have HAT := Lib.hid (fun (W : World) (hb : Below w.heap.size w W) => (h.below hb).setAt hi hj x)
  clear h hP
  go_enter Tryz.func79, Tryz.ntmps79
  go_wp2_with (go_at_call 85; refine (HTH.out _ (Grows.below ((((Grows.refl _).alloc _).alloc _).alloc _)) _ (new3 _ _ _ _ _ _)).mono ?_; rintro e w1 ⟨rfl, hb1⟩; obtain ⟨x0, x1, x2, hb⟩ := box3 hb1; obtain ⟨B, cap, g, K, d0, d1, d6, d8, ⟨k0, k1, k2, k3, d2, d3, d4, d5⟩, HFK, HFG⟩ := HAT.out _ hb; have HFK := Lib.hid HFK; have HFG := Lib.hid HFG; obtain ⟨e0, e1, _, _⟩ := row2 x0; obtain ⟨y0, y1, y2, y3, z0, z1, z2, z3⟩ := row4 x1; have HB1 := Lib.hid hb; clear hb1 hb x0 x2)
  have hiR : (i : Int) < (D.R : Int) := by omega
  have hjC : (j : Int) < (D.C : Int) := by omega
  refine region_tail 12 (by kernel_rfl) (by kernel_rfl) ?_
  simp only [List.take_succ_cons, List.take_zero, List.drop_succ_cons, List.drop_zero]
  repeat still_step
  try refine wpStill_nil ?_
  go_wp2_with fail
  go_ret
  exact ⟨rfl, HFG.out.of_blocks (fun _ _ => rfl), ((Keeps.of_below HB1.out).trans HFK.out fun k hk => .inl hk).draws 1⟩
set_option maxRecDepth 10000 in
set_option maxHeartbeats 2000000 in
theorem gset_no (gp : Nat) (F : Nat → Prop) (D : Vz.Gd) (p : Vz.Ps) (x : Vz.Cl) (w : World) (h : Grid w gp F D) (hP : ¬ p.inS D.R D.C) :
    Calls Tryz.prog 79 #[.pointer (some ⟨gp, 0, none⟩), .agg #[.int .i64 p.row, .int .i64 p.col], .agg #[.int .i32 x.g, .int .i64 x.a, .bool x.gd, .int .i64 x.m]] w fun e w' => e = .returned (.int .i64 11) ∧ Below w.heap.size w w' := by
  have HTH := Lib.hid (fun (W : World) (hb : Below w.heap.size w W) (b : Nat) (hl : W.cell? ⟨b, 0, none⟩ = some (.int .i64 p.row) ∧ W.cell? ⟨b, 1, none⟩ = some (.int .i64 p.col)) =>
    there_no gp b F D p W (h.below hb) hP hl)
  clear h hP
  generalize p.row = pr at *
  generalize p.col = pc at *
  go_enter Tryz.func79, Tryz.ntmps79
  go_wp2_with (go_at_call 85; refine (HTH.out _ (Grows.below ((((Grows.refl _).alloc _).alloc _).alloc _)) _ (new3 _ _ _ _ _ _)).mono ?_; rintro e w1 ⟨rfl, hb1⟩; obtain ⟨x0, x1, x2, hb⟩ := box3 hb1; obtain ⟨e0, e1, _, _⟩ := row2 x0; obtain ⟨y0, y1, y2, y3, z0, z1, z2, z3⟩ := row4 x1; have HB1 := Lib.hid hb; have X1 := Lib.hid x1; clear hb1 hb x0 x1 x2)
  go_ret
  exact ⟨rfl, HB1.out⟩
end Go.Proofs.YtbnkfiaggehmgaaGreatDoor
