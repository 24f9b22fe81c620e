import Derived.Test.YtncgigapgklhcaaGreatDoorHF
import Derived.Test.YtncgigapgklhcaaGreatDoorHC
import Derived.RangeFuncCalls
import Derived.TacticsInMore
import Derived.LoopNIn
import Derived.LoopIn
import Derived.OwnWalkIn
import Derived.RangeFuncLeaves
import Derived.RangeFuncBound

set_option maxRecDepth 100000
set_option maxHeartbeats 16000000
namespace Go.Proofs.YtncgigapgklhcaaGreatDoor
open Go.RowKit
set_option linter.unusedSimpArgs false
set_option linter.unusedVariables false
/- Walks: a grid's All. -/
section
attribute [local go_sem] alloc_drewN setCell_drewN World.cell?_alloc_some frozen_alloc_some size_f0 size_f1
theorem all_in (n gp : Nat) (w : World) :
 CallsIn Fence.wide n Tryz.prog 61 #[.pointer (some ⟨gp, 0, none⟩)] w fun e w' => e = .returned (.func (.func 92) #[] #[.pointer (some ⟨w.heap.size, 0, none⟩)]) ∧ w' = w.alloc (.cells #[.pointer (some ⟨gp, 0, none⟩)] 77) := by
 refine callsIn_of_wp Tryz.func61 rfl trivial ?_ rfl
 simp only [Tryz.ntmps61, List.size_toArray, List.length_cons, List.length_nil, Nat.reduceAdd, Nat.reduceSub, Array.replicate_succ, Array.replicate_zero, List.push_toArray, List.append_toArray, List.nil_append, List.cons_append]
 gi_wp2
 go_ret
 exact ⟨rfl, rfl⟩
abbrev AllX := Nat × Vz.Cl
def allV (C : Nat) (x : AllX) : Array Value := #[.agg #[.int .i64 ((x.1 / C : Nat) : Int), .int .i64 ((x.1 % C : Nat) : Int)], .agg #[.int .i32 x.2.g, .int .i64 x.2.a, .bool x.2.gd, .int .i64 x.2.m]]
def allI (pre : List AllX) : Prop := pre.map Prod.fst = List.range pre.length
def AllG (gp R C bb : Nat) (W : World) : Prop := (∃ F D, Grid W gp F D ∧ D.R = R ∧ D.C = C) ∧ W.cell? ⟨bb, 0, none⟩ = some (.pointer (some ⟨gp, 0, none⟩))
def AllT (gp R C : Nat) (pre : List AllX) (x : AllX) (W : World) : Prop := x.1 = pre.length ∧ pre.length < R * C ∧ allI pre ∧ ∃ F D, Grid W gp F D ∧ D.R = R ∧ D.C = C ∧ x.2 = D.X (x.1 / C) (x.1 % C)
def KpC (B : Nat) (W W' : World) : Prop := ∀ k c t fr, B ≤ k → W.heap[k]? = some (.cells c t fr) → W'.heap[k]? = some (.cells c t fr)
theorem KpC.trans {B : Nat} {X Y Z : World} (h : KpC B X Y) (k : KpC B Y Z) : KpC B X Z := fun i c t fr hB hi => k i c t fr hB (h i c t fr hB hi)
theorem KpC.putObj {B : Nat} (W : World) (l : Nat) (o o' : Obj) (hl : W.heap[l]? = some o) (ho : o.isCells = false) : KpC B W (W.putObj l o') := fun k c t fr _ hk => (World.putObj_heap_other (fun e => by
 subst e
 rw [hl] at hk
 injection hk with hk
 subst hk
 cases ho)).trans hk
theorem KpC.of_below {B : Nat} {W W' : World} (h : Below W.heap.size W W') : KpC B W W' := fun k c t fr _ hk => (h.block k (block_lt hk)).trans hk
theorem allI_snoc {pre : List AllX} {x : AllX} (h : allI pre) (hx : x.1 = pre.length) : allI (pre ++ [x]) := by
 unfold allI at *
 simp [h, hx, List.range_succ]
theorem div_at (C r c : Nat) (h : c < C) : (r * C + c) / C = r ∧ (r * C + c) % C = c := by
 have hC : 0 < C := by omega
 rw [Nat.mul_comm]
 exact ⟨by rw [Nat.mul_add_div hC, Nat.div_eq_of_lt h, Nat.add_zero], by rw [Nat.mul_add_mod, Nat.mod_eq_of_lt h]⟩
theorem grown_of_below {W W' : World} (h : Below W.heap.size W W') : W.grownBy W' none := ⟨h.os, h.tape, h.output, h.size, fun k hk _ => h.block k hk⟩
theorem AllG.look {gp R C bb : Nat} {W : World} (h : AllG gp R C bb W) {r c : Nat} (hr : r < R) (hc : c < C) : ∃ (B cap g K : Nat) (x : Vz.Cl), W.cell? ⟨gp, 0, none⟩ = some (.slice (some ⟨B, 0, none⟩) R cap) ∧ W.cell? ⟨B, r, none⟩ = some (.slice (some ⟨g, 0, none⟩) C K) ∧
 (W.cell? ⟨g, c * 4, none⟩ = some (.int .i32 x.g) ∧ W.cell? ⟨g, c * 4 + 1, none⟩ = some (.int .i64 x.a) ∧ W.cell? ⟨g, c * 4 + 2, none⟩ = some (.bool x.gd) ∧ W.cell? ⟨g, c * 4 + 3, none⟩ = some (.int .i64 x.m)) ∧ W.cell? ⟨bb, 0, none⟩ = some (.pointer (some ⟨gp, 0, none⟩)) ∧ ∃ F D, Grid W gp F D ∧ D.R = R ∧ D.C = C ∧ x = D.X r c := by
 obtain ⟨⟨F, D, hg, rfl, rfl⟩, hb⟩ := h
 obtain ⟨B, cap, G, K, hA, hF⟩ := hg
 exact ⟨B, cap, G r, K r, D.X r c, hA.head, hA.line hr, hA.cells hr hc, hb, F, D, ⟨B, cap, G, K, hA, hF⟩, rfl, rfl, rfl⟩
theorem all1_in (n : Nat) (hn : 1 ≤ n) (l bb gp R C B : Nat) (hR : 1 ≤ R ∧ R ≤ 255) (hC : 1 ≤ C ∧ C ≤ 255) (J Jx : List AllX → World → Prop) (hJ : ∀ s A, J s A → AllG gp R C bb A)
 (hY : ∀ pre x W, J pre W → AllT gp R C pre x W → YieldAt Fence.wide (n - 1) Tryz.prog l (allV C x) W fun e W' =>
   (e = .returned (.bool true) ∧ J (pre ++ [x]) W' ∧ KpC B W W') ∨ (e = .returned (.bool false) ∧ Jx (pre ++ [x]) W'))
 (W : World) (hB : B ≤ W.heap.size) (hAb : AbidesFrom W.heap.size J) (h0 : J [] W) :
 CallsIn Fence.wide n Tryz.prog 92 #[.func (.yield l) #[] #[], .pointer (some ⟨bb, 0, none⟩)] W fun e W' => (∃ v, e = .returned v) ∧
  ((∃ ys, (ys.length = R * C ∧ allI ys) ∧ J ys W') ∨ (∃ pre, (pre.length ≤ R * C ∧ allI pre) ∧ Jx pre W')) := by
 have HJ := Lib.hid hJ
 have HY := Lib.hid hY
 have HAB : Hid (∀ s W', J s W → Below W.heap.size W W' → J s W') := fun s W' hj hb => hAb s W W' none hj (grown_of_below hb) (fun r e => by cases e)
 obtain ⟨⟨F0, D0, hg0, rfl, rfl⟩, hc0⟩ := hJ _ _ h0
 have HSZ := Lib.hid (gsize_ok gp F0 D0 W hg0)
 have H0 := Lib.hid h0
 have HBB := Lib.hid hB
 obtain ⟨r1, r2⟩ := hR
 obtain ⟨c1, c2⟩ := hC
 generalize D0.R = R at *
 generalize D0.C = C at *
 clear hJ hY hAb hg0 h0 hB
 refine callsIn_of_wp Tryz.func92 rfl trivial ?_ rfl
 simp only [Tryz.ntmps92, List.size_toArray, List.length_cons, List.length_nil, Nat.reduceAdd, Nat.reduceSub, Array.replicate_succ, Array.replicate_zero, List.push_toArray, List.append_toArray, List.nil_append, List.cons_append]
 gi_wp2_with (refine ⟨trivial, ?_⟩; gi_at_call 60; refine (callsIn_wide.2 HSZ.out).mono ?_; rintro e w1 ⟨rfl, hb1⟩; have HB1 := Lib.hid hb1; clear hb1)
 gi_loopw [10] (fun i wr => ∃ (r : Nat) (pre : List AllX), r ≤ R ∧ i = .int .i64 r ∧ pre.length = r * C ∧ allI pre ∧ J pre wr ∧ wr.heap[w1.heap.size]? = some (.cells #[.int .i64 R, .int .i64 C] 23 (0, 0))) (fun i _ => R - (intOf i).toNat)
 case atStart => exact ⟨0, [], Nat.zero_le _, rfl, by simp, rfl, HAB.out _ _ H0.out (Below.later HB1.out (below1 _ _) HB1.out.size), heap_alloc_new _ _⟩
 case round =>
  obtain ⟨r, pre, hr, rfl, hlen, hix, hj, hbx⟩ := hrel
  have s0 : wr.cell? ⟨w1.heap.size, 0, none⟩ = some (.int .i64 R) := cell_row hbx 0
  have s1 : wr.cell? ⟨w1.heap.size, 1, none⟩ = some (.int .i64 C) := cell_row hbx 1
  have HL := Lib.hid hlen
  have HIX := Lib.hid hix
  have HJJ := Lib.hid hj
  have HBX := Lib.hid hbx
  clear hlen hix hj hbx
  by_cases hlt : r < R
  · gi_wp2
    gi_loopw [15] (fun j wr => ∃ (c : Nat) (pre : List AllX), c ≤ C ∧ j = .int .i64 c ∧ pre.length = r * C + c ∧ allI pre ∧ J pre wr ∧ wr.heap[w1.heap.size]? = some (.cells #[.int .i64 R, .int .i64 C] 23 (0, 0))) (fun j _ => C - (intOf j).toNat)
    case atStart => exact ⟨0, pre, Nat.zero_le _, rfl, by rw [HL.out]; rfl, HIX.out, HJJ.out, HBX.out⟩
    case round =>
     clear s0 s1 HL HIX HJJ HBX pre
     obtain ⟨c, pre, hc, rfl, hlen, hix, hj, hbx⟩ := hrel
     by_cases hlc : c < C
     · obtain ⟨B1, cap, g, K1, x, d0, d1, ⟨d2, d3, d4, d5⟩, d6, hD⟩ := (HJ.out _ _ hj).look hlt hlc
       have hlt2 : r * C + c < R * C := Nat.lt_of_lt_of_le (show r * C + c < (r + 1) * C by rw [Nat.succ_mul]; omega) (Nat.mul_le_mul_right C hlt)
       obtain ⟨e1, e2⟩ := div_at C r c hlc
       have hT : AllT gp R C pre (r * C + c, x) _ := ⟨hlen.symm, by rw [hlen]; exact hlt2, hix, by obtain ⟨F, D, hg, h1, h2, h3⟩ := hD; exact ⟨F, D, hg, h1, h2, by rw [e1, e2]; exact h3⟩⟩
       have hYY := HY.out pre (r * C + c, x) _ hj hT
       unfold allV at hYY
       simp only [e1, e2] at hYY
       obtain ⟨fn, tmps, assign, body, hy, hR⟩ := hYY
       have HR := Lib.hid hR
       have HLE := Lib.hid hlen
       have HIX := Lib.hid (allI_snoc (x := (r * C + c, x)) hix hlen.symm)
       have HLT := Lib.hid hlt2
       have HBX := Lib.hid hbx
       have hBw : Hid (B ≤ w1.heap.size) := Nat.le_trans HBB.out HB1.out.size
       have i1 : (r : Int) < (R : Int) := by omega
       have i2 : (c : Int) < (C : Int) := by omega
       clear hR hlen hix hlt2 hbx e1 e2 hT hD hj
       gi_wp2
       refine HR.out.mono ?_
       rintro e W3 (⟨rfl, hJ3, hk3⟩ | ⟨rfl, hJx3⟩)
       · have HB3 := Lib.hid (hk3 _ _ _ _ hBw.out HBX.out)
         clear hk3
         gi_wp2
         exact ⟨⟨c + 1, _, by omega, by go_num, by rw [List.length_append, HLE.out]; rfl, HIX.out, hJ3, HB3.out⟩, by simp [intOf]; omega⟩
       · gi_wp2
         refine bodyPost_ret (results_none rfl _ _ _) rfl ⟨⟨_, rfl⟩, .inr ⟨_, ⟨?_, HIX.out⟩, hJx3⟩⟩
         rw [List.length_append, HLE.out]
         exact HLT.out
     · obtain rfl : c = C := by omega
       have HLE := Lib.hid hlen
       have HIX := Lib.hid hix
       have HBX := Lib.hid hbx
       have HJJ := Lib.hid hj
       clear hlen hix hbx hj
       gi_wp2
       exact ⟨⟨r + 1, pre, by omega, by go_num, by rw [HLE.out, Nat.succ_mul], HIX.out, HJJ.out, HBX.out⟩, by simp [intOf]; omega⟩
  · obtain rfl : r = R := by omega
    gi_wp2
    go_end0
    exact ⟨⟨_, rfl⟩, .inl ⟨_, ⟨HL.out, HIX.out⟩, HJJ.out⟩⟩
theorem all_stops (n : Nat) (hn : 1 ≤ n) (bb gp R C B : Nat) (hR : 1 ≤ R ∧ R ≤ 255) (hC : 1 ≤ C ∧ C ≤ 255) (w : World) (hB : B ≤ w.heap.size) :
 SeqStopsT Fence.wide n Tryz.prog 92 #[.pointer (some ⟨bb, 0, none⟩)] (allV C) (KpC B) (fun ys => ys.length = R * C ∧ allI ys) (fun pre => pre.length ≤ R * C ∧ allI pre) (AllT gp R C) (AllG gp R C bb) w :=
 fun l J Jx W hW hAb _ hJ hY h0 => all1_in n hn l bb gp R C B hR hC J Jx hJ hY W (Nat.le_trans hB hW.size) hAb h0
end
section
attribute [local go_sem] alloc_drewN setCell_drewN World.cell?_alloc_some frozen_alloc_some size_f0 size_f1 Oper.semAt_some
theorem Grid.same {W : World} {gp : Nat} {F F' : Nat → Prop} {D D' : Vz.Gd} (h : Grid W gp F D) (h' : Grid W gp F' D') : D.R = D'.R ∧ D.C = D'.C ∧ ∀ i j, i < D.R → j < D.C → D.X i j = D'.X i j := by
 obtain ⟨B, cap, G, K, hA, hF⟩ := h
 obtain ⟨B', cap', G', K', hA', hF'⟩ := h'
 have h1 := hA.head.symm.trans hA'.head
 injection h1 with h1
 injection h1 with h1 h2 h3
 injection h1 with h1
 injection h1 with h1
 subst h1
 have hR : D.R = D'.R := h2
 have hline : ∀ i, i < D.R → G i = G' i ∧ D.C = D'.C := fun i hi => by
  have h4 := (hA.line hi).symm.trans (hA'.line (by omega))
  injection h4 with h4
  injection h4 with h4 h5 h6
  injection h4 with h4
  injection h4 with h4
  exact ⟨h4, h5⟩
 have hC : D.C = D'.C := (hline 0 hA.may.1).2
 refine ⟨hR, hC, fun i j hi hj => ?_⟩
 obtain ⟨a0, a1, a2, a3⟩ := hA.cells hi hj
 obtain ⟨b0, b1, b2, b3⟩ := hA'.cells (i := i) (j := j) (by omega) (by omega)
 rw [← (hline i hi).1] at b0 b1 b2 b3
 have e0 := a0.symm.trans b0
 have e1 := a1.symm.trans b1
 have e2 := a2.symm.trans b2
 have e3 := a3.symm.trans b3
 injection e0 with e0
 injection e0 with _ e0
 injection e1 with e1
 injection e1 with _ e1
 injection e2 with e2
 injection e2 with e2
 injection e3 with e3
 injection e3 with _ e3
 cases hx : D.X i j
 cases hy : D'.X i j
 simp only [hx, hy] at e0 e1 e2 e3
 subst e0 e1 e2 e3
 rfl
theorem place_of (k R C : Nat) (hC : 1 ≤ C) (hk : k < R * C) : k / C < R ∧ k % C < C := ⟨Nat.div_lt_of_lt_mul (by rwa [Nat.mul_comm]), Nat.mod_lt _ hC⟩
theorem AllT.cell {gp R C : Nat} {pre : List AllX} {x : AllX} {W : World} {F : Nat → Prop} {D : Vz.Gd} (h : AllT gp R C pre x W) (hg : Grid W gp F D) (hC : 1 ≤ C) (hR : D.R = R) (hCC : D.C = C) : x = (pre.length, D.X (pre.length / C) (pre.length % C)) := by
 obtain ⟨h1, h2, h3, F', D', hg', h4, h5, h6⟩ := h
 obtain ⟨a1, a2⟩ := place_of pre.length R C hC h2
 obtain ⟨s1, s2, s3⟩ := hg.same hg'
 rw [h1] at h6
 rw [s3 _ _ (by omega) (by omega), ← h6, ← h1]
def guardN (D : Vz.Gd) (row : Int) : Nat → Nat
 | 0 => 0
 | k + 1 => guardN D row k + if row ≤ ((k / D.C : Nat) : Int) ∧ (D.X (k / D.C) (k % D.C)).gd = true then 1 else 0
theorem guardN_le (D : Vz.Gd) (row : Int) (k : Nat) : guardN D row k ≤ k := by
 induction k with
 | zero => exact Nat.le_refl _
 | succ k ih =>
   unfold guardN
   split <;> omega
def mkPC (C : Nat) (x : AllX) (W : World) : World := (W.alloc (.cells #[.int .i64 ((x.1 / C : Nat) : Int), .int .i64 ((x.1 % C : Nat) : Int)] 36)).alloc (.cells (cellB x.2) 56)
def bxPC (C : Nat) (x : AllX) (b : Nat) (W : World) : Prop := W.heap[b]? = some (.cells #[.int .i64 ((x.1 / C : Nat) : Int), .int .i64 ((x.1 % C : Nat) : Int)] 36 (0, 0)) ∧ W.heap[b + 1]? = some (.cells (cellB x.2) 56 (0, 0))
theorem mkPC_below (C : Nat) (x : AllX) (W : World) : Below W.heap.size W (mkPC C x W) := Grows.below (((Grows.refl W).alloc _).alloc _)
theorem mkPC_bx (C : Nat) (x : AllX) (W : World) : bxPC C x W.heap.size (mkPC C x W) := by
 obtain ⟨h0, h1, _⟩ := box2 (Below.refl (mkPC C x W).heap.size (mkPC C x W))
 exact ⟨h0, h1⟩
theorem cells_kept {A B : World} {row : Option Nat} {n k : Nat} {c : Array Value} {t : TypeId} {fr : Nat × Nat} (hg : A.grownBy B row) (hr : ∀ r, row = some r → n ≤ r ∧ ∃ o : Obj, A.heap[r]? = some o ∧ o.isCells = false) (h : A.heap[k]? = some (.cells c t fr)) : B.heap[k]? = some (.cells c t fr) :=
 (hg.block k (block_lt h) (fun e => by
   obtain ⟨_, o, ho, hc⟩ := hr k e.symm
   rw [h] at ho
   injection ho with ho
   subst ho
   cases hc)).trans h
theorem bxPC_own (C n : Nat) : OwnFrom n (fun (p : AllX × Nat) W => bxPC C p.1 p.2 W) := fun p A B row h hg hr => ⟨cells_kept hg hr h.1, cells_kept hg hr h.2⟩
theorem below_own {w A B : World} {row : Option Nat} {n : Nat} (hn : w.heap.size ≤ n) (h : Below w.heap.size w A) (hg : A.grownBy B row) (hr : ∀ r, row = some r → n ≤ r ∧ ∃ o : Obj, A.heap[r]? = some o ∧ o.isCells = false) : Below w.heap.size w B :=
 h.grown hg h.size fun k e => Nat.le_trans hn (hr k e).1
theorem grid_own {A B : World} {row : Option Nat} {n gp : Nat} {F : Nat → Prop} {D : Vz.Gd} (h : Grid A gp F D) (hg : A.grownBy B row) (hr : ∀ r, row = some r → n ≤ r ∧ ∃ o : Obj, A.heap[r]? = some o ∧ o.isCells = false) : Grid B gp F D := by
 obtain ⟨bB, cap, G, K, hA, hF⟩ := h
 have hb : ∀ k, footG gp bB G D.R k → B.heap[k]? = A.heap[k]? := fun k hk => by
  rcases hk with rfl | rfl | ⟨i, hi, rfl⟩
  · exact (cells_kept hg hr hA.box).trans hA.box.symm
  · obtain ⟨c, hc, _⟩ := hA.outer
    exact (cells_kept hg hr hc).trans hc.symm
  · obtain ⟨c, hc, _⟩ := hA.row i hi
    exact (cells_kept hg hr hc).trans hc.symm
 exact ⟨bB, cap, G, K, hA.of_blocks hb, hF⟩
theorem allT_own (gp R C n : Nat) : OwnFrom n (fun (p : List AllX × AllX) W => AllT gp R C p.1 p.2 W) := fun p A B row h hg hr => by
 obtain ⟨h1, h2, h3, F, D, hG, h4⟩ := h
 exact ⟨h1, h2, h3, F, D, grid_own hG hg hr, h4⟩
theorem Grid.setBox {W : World} {gp b : Nat} {F : Nat → Prop} {D : Vz.Gd} (h : Grid W gp F D) (hb : ∀ k, F k → k ≠ b) (v : Value) : Grid (W.setCell ⟨b, 0, none⟩ v) gp F D := by
 obtain ⟨B, cap, G, K, hA, hF⟩ := h
 exact ⟨B, cap, G, K, hA.of_blocks fun k hk => heap_setCell_other _ _ _ _ (hb k ((hF k).2 hk)), hF⟩
theorem set_one {W : World} {b : Nat} {v : Value} {t : TypeId} (h : W.heap[b]? = some (.cells #[v] t (0, 0))) (v' : Value) : (W.setCell ⟨b, 0, none⟩ v').heap[b]? = some (.cells #[v'] t (0, 0)) := heap_setCell_same W b 0 _ t v' h
theorem guarded_in (n : Nat) (hn : 3 ≤ n) (gp : Nat) (F : Nat → Prop) (D : Vz.Gd) (row : Int) (w : World) (h : Grid w gp F D) (hr : 0 ≤ row ∧ row < D.R) :
 CallsIn Fence.wide n Tryz.prog 146 #[.pointer (some ⟨gp, 0, none⟩), .int .i64 row] w fun e w' => e = .returned (.tuple #[.int .i64 (guardN D row (D.R * D.C) : Nat), .int .i64 0]) ∧ Below w.heap.size w w' := by
 have h1 : 1 ≤ n := by omega
 obtain ⟨m1, m2, m3, m4⟩ := h.may
 have HAT := Lib.hid (gat_ok gp F D ⟨row, 0⟩ (w.alloc (.cells #[.int .i64 row] 3)) (h.below (below1 _ _)) ⟨hr.1, hr.2, Int.le_refl _, by show (0 : Int) < (D.C : Int); omega⟩)
 have HB0 : Hid (Below w.heap.size w (w.alloc (.cells #[.int .i64 row] 3))) := below1 _ _
 have HX0 := Lib.hid (heap_alloc_new w (.cells #[.int .i64 row] 3))
 have H := Lib.hid h
 clear h hr
 generalize atD D ⟨row, 0⟩ = cx at *
 refine callsIn_of_wp_marks Tryz.func146 rfl trivial ?_ rfl
 simp only [Tryz.ntmps146, List.size_toArray, List.length_cons, List.length_nil, Nat.reduceAdd, Nat.reduceSub, Array.replicate_succ, Array.replicate_zero, List.push_toArray, List.append_toArray, List.nil_append, List.cons_append]
 gi_wp2_with (first
  | (refine ⟨trivial, ?_⟩; gi_at_call 39; refine (callsIn_wide.2 HAT.out).mono ?_; rintro e w1 ⟨rfl, hb1⟩; have HB1 := Lib.hid (Below.later HB0.out hb1 HB0.out.size); have HX1 := Lib.hid ((hb1.block _ (block_lt HX0.out)).trans HX0.out); clear hb1)
  | (refine ⟨trivial, ?_⟩; gi_at_call 61; refine (all_in (n - 1) gp _).mono ?_; rintro e w2 ⟨rfl, rfl⟩))
 have hz1 : w.heap.size < w1.heap.size := block_lt HX1.out
 obtain ⟨n0, n1, n2, nb⟩ := box3 (Below.refl ((((w1.alloc (.cells #[.int .i32 cx.g, .int .i64 cx.a, .bool cx.gd, .int .i64 cx.m] 56)).alloc (.cells #[.int .i64 0] 3)).alloc (.cells #[.pointer (some ⟨gp, 0, none⟩)] 77))).heap.size (((w1.alloc (.cells #[.int .i32 cx.g, .int .i64 cx.a, .bool cx.gd, .int .i64 cx.m] 56)).alloc (.cells #[.int .i64 0] 3)).alloc (.cells #[.pointer (some ⟨gp, 0, none⟩)] 77)))
 have HW3 := Lib.hid (Below.later HB1.out nb HB1.out.size)
 have HLT : Hid (∀ k, F k → k < w.heap.size) := H.out.lt
 have hR : 1 ≤ D.R ∧ D.R ≤ 255 := ⟨m1, m2⟩
 have hC : 1 ≤ D.C ∧ D.C ≤ 255 := ⟨m3, m4⟩
 refine wpIn_rangeFunc_T rfl h1 (gf := 92) (lb := #[.pointer (some ⟨w1.heap.size + 1 + 1, 0, none⟩)]) rfl trivial (enters_of Tryz.func92 (by kernel_rfl) rfl)
  (all_stops (n - 1) (by omega) (w1.heap.size + 1 + 1) gp D.R D.C (w1.heap.size + 1 + 1 + 1) hR hC _ (by simp)) (fun h k => h.trans k) (fun W l o o' _ hl ho _ => KpC.putObj W l o o' hl ho) (Below.refl _ _) (fun _ => rfl)
  (fun pre W => Grid W gp F D ∧ W.heap[w.heap.size]? = some (.cells #[.int .i64 row] 3 (0, 0)) ∧ W.heap[w1.heap.size + 1]? = some (.cells #[.int .i64 (guardN D row pre.length : Nat)] 3 (0, 0)) ∧ W.heap[w1.heap.size + 1 + 1]? = some (.cells #[.pointer (some ⟨gp, 0, none⟩)] 77 (0, 0)) ∧ Below w.heap.size w W)
  (fun _ _ _ => False)
  ?hI ?hIx ?hT ?hGd ?h0
  (fun x b => { tmps := #[.pointer (some ⟨gp, 0, none⟩), .int .i64 row, undef, .pointer (some ⟨w.heap.size, 0, none⟩), .int .i64 0, .int .i64 0, .pointer (some ⟨w1.heap.size, 0, none⟩), .int .i64 0, .pointer (some ⟨w1.heap.size + 1, 0, none⟩), .pointer (some ⟨b, 0, none⟩), .pointer (some ⟨b + 1, 0, none⟩), .tuple #[.agg #[.int .i32 cx.g, .int .i64 cx.a, .bool cx.gd, .int .i64 cx.m], .int .i64 0], .pointer (some ⟨gp, 0, none⟩), .int .i64 row, .agg #[.int .i64 row, .int .i64 0], .tuple #[.agg #[.int .i32 cx.g, .int .i64 cx.a, .bool cx.gd, .int .i64 cx.m], .int .i64 0], .agg #[.int .i32 cx.g, .int .i64 cx.a, .bool cx.gd, .int .i64 cx.m], .int .i64 0, .int .i64 0, .bool false, undef, .pointer (some ⟨gp, 0, none⟩), .func (.func 92) #[] #[.pointer (some ⟨w1.heap.size + 1 + 1, 0, none⟩)], .agg #[.int .i64 ((x.1 / D.C : Nat) : Int), .int .i64 ((x.1 % D.C : Nat) : Int)], .agg #[.int .i32 x.2.g, .int .i64 x.2.a, .bool x.2.gd, .int .i64 x.2.m], undef, undef, undef, undef, undef, undef, undef, undef, undef, undef, undef], defers := [] })
  (mkPC D.C) (bxPC D.C) (fun x W => grown_of_below (mkPC_below D.C x W)) (fun x W => KpC.of_below (mkPC_below D.C x W)) (mkPC_bx D.C) (bxPC_own D.C _) ?assign ?body ?done ?stop
 case hI =>
  rintro pre X Y rw ⟨hg, i1, i2, i3, hB⟩ hgr hrow
  exact ⟨grid_own hg hgr hrow, cells_kept hgr hrow i1, cells_kept hgr hrow i2, cells_kept hgr hrow i3, below_own (by simp; omega) hB hgr hrow⟩
 case hIx => exact fun _ _ _ _ _ h _ _ => h
 case hT => exact allT_own gp D.R D.C _
 case hGd =>
  rintro s A ⟨hg, i1, i2, i3, hB⟩
  exact ⟨⟨F, D, hg, rfl, rfl⟩, cell_row i3 0⟩
 case h0 => exact ⟨H.out.below HW3.out, (nb.block _ hz1).trans HX1.out, n1, n2, HW3.out⟩
 case assign =>
  intro l x W K hK
  unfold mkPC cellB at hK
  unfold allV
  generalize x.1 / D.C = pr at *
  generalize x.1 % D.C = pc at *
  gi_wp2
  exact hK
 case body =>
  rintro l pre x b W hb ⟨hg, i1, i2, i3, hB⟩ hT ⟨bx0, bx1⟩
  have hx := hT.cell hg hC.1 rfl rfl
  have HT := Lib.hid hT
  have hgl := guardN_le D row pre.length
  have hpl : pre.length < D.R * D.C := hT.2.1
  have hbig : D.R * D.C ≤ 255 * 255 := Nat.mul_le_mul m2 m4
  clear hT
  subst hx
  have hrowc : W.cell? ⟨w.heap.size, 0, none⟩ = some (.int .i64 row) := cell_row i1 0
  have hcnt : W.cell? ⟨w1.heap.size + 1, 0, none⟩ = some (.int .i64 (guardN D row pre.length : Nat)) := cell_row i2 0
  have hcf := frozen_row i2 0
  have hpr : W.cell? ⟨b, 0, none⟩ = some (.int .i64 ((pre.length / D.C : Nat) : Int)) := cell_row bx0 0
  have hgd : W.cell? ⟨b + 1, 2, none⟩ = some (.bool (D.X (pre.length / D.C) (pre.length % D.C)).gd) := cell_row bx1 2
  have HG := Lib.hid hg
  have HI1 := Lib.hid i1
  have HI2 := Lib.hid i2
  have HI3 := Lib.hid i3
  have HBB := Lib.hid hB
  have HGS : Hid (guardN D row (pre ++ [(pre.length, D.X (pre.length / D.C) (pre.length % D.C))]).length = guardN D row pre.length + if row ≤ ((pre.length / D.C : Nat) : Int) ∧ (D.X (pre.length / D.C) (pre.length % D.C)).gd = true then 1 else 0) := by rw [List.length_append]; rfl
  clear hg i1 i2 i3 hB bx0 bx1
  generalize hpn : pre.length / D.C = pr at *
  generalize hpc : pre.length % D.C = pc at *
  generalize hcl : D.X pr pc = cl at *
  have hB3 : w1.heap.size + 1 + 1 + 1 ≤ W.heap.size := block_lt HI3.out
  by_cases c1 : row ≤ (pr : Int)
  · by_cases c2 : cl.gd = true
    · have h3 : guardN D row (pre ++ [(pre.length, cl)]).length = guardN D row pre.length + 1 := by
       rw [HGS.out, if_pos ⟨c1, c2⟩]
      gi_wp2
      refine ⟨(KeepsOthers.setCell _ _ _).from _, fun k c t fr hk h => (heap_setCell_other _ _ _ _ (by show k ≠ w1.heap.size + 1; omega)).trans h, HG.out.setBox (fun k hk => by have := HLT.out k hk; omega) _, (heap_setCell_other _ _ _ _ (by show w.heap.size ≠ w1.heap.size + 1; omega)).trans HI1.out, ?_, (heap_setCell_other _ _ _ _ (by show w1.heap.size + 1 + 1 ≠ w1.heap.size + 1; omega)).trans HI3.out, HBB.out.setCell (p := ⟨w1.heap.size + 1, 0, none⟩) (by show w.heap.size ≤ w1.heap.size + 1; omega) _⟩
      rw [h3]
      exact set_one HI2.out _
    · have h3 : guardN D row (pre ++ [(pre.length, cl)]).length = guardN D row pre.length := by
       rw [HGS.out, if_neg (fun h => c2 h.2)]; rfl
      have c3 : cl.gd = false := by simpa using c2
      gi_wp2
      exact ⟨KeepsFrom.refl _ _, fun _ _ _ _ _ h => h, HG.out, HI1.out, by rw [h3]; exact HI2.out, HI3.out, HBB.out⟩
  · have h3 : guardN D row (pre ++ [(pre.length, cl)]).length = guardN D row pre.length := by
     rw [HGS.out, if_neg (fun h => c1 h.1)]; rfl
    gi_wp2
    exact ⟨KeepsFrom.refl _ _, fun _ _ _ _ _ h => h, HG.out, HI1.out, by rw [h3]; exact HI2.out, HI3.out, HBB.out⟩
 case done =>
  rintro E ys W hE ⟨hS, hS2⟩ ⟨hg, i1, i2, i3, hB⟩ hK
  have hcnt := cell_row i2 0
  rw [hS] at hcnt
  gi_wp2
  refine ⟨by simp, .inl ⟨_, _, rfl, run_takeDeferred hK, ?_⟩⟩
  have hh := grownBy_putObj' W E (.deferred none)
  refine ⟨.tuple #[.int .i64 (guardN D row (D.R * D.C) : Nat), .int .i64 0], by simp [results, Tryz.results146, go_sem], rfl, hB.grown hh hB.size (fun k e => by cases e; simp at hE; omega)⟩
 case stop =>
  rintro E c pre W hE hpre hF
  exact hF.elim
theorem guarded_any (gp : Nat) (F : Nat → Prop) (D : Vz.Gd) (row : Int) (w : World) (h : Grid w gp F D) (hr : 0 ≤ row ∧ row < D.R) :
 Calls Tryz.prog 146 #[.pointer (some ⟨gp, 0, none⟩), .int .i64 row] w fun e w' => e = .returned (.tuple #[.int .i64 (guardN D row (D.R * D.C) : Nat), .int .i64 0]) ∧ Below w.heap.size w w' :=
 callsIn_wide.1 (guarded_in 3 (Nat.le_refl _) gp F D row w h hr)
end
section
attribute [local go_sem] alloc_drewN setCell_drewN World.cell?_alloc_some frozen_alloc_some size_f0 size_f1
theorem all1_inK (n : Nat) (hn : 1 ≤ n) (l bb gp R C B : Nat) (hR : 1 ≤ R ∧ R ≤ 255) (hC : 1 ≤ C ∧ C ≤ 255) (Kp : World → World → Prop) (hKp : ∀ A A' k c, Kp A A' → B ≤ k → A.heap[k]? = some (.cells c 23 (0, 0)) → A'.heap[k]? = some (.cells c 23 (0, 0))) (J Jx : List AllX → World → Prop) (hJ : ∀ s A, J s A → AllG gp R C bb A)
 (hY : ∀ pre x W, J pre W → AllT gp R C pre x W → YieldAt Fence.wide (n - 1) Tryz.prog l (allV C x) W fun e W' =>
   (e = .returned (.bool true) ∧ J (pre ++ [x]) W' ∧ Kp W W') ∨ (e = .returned (.bool false) ∧ Jx (pre ++ [x]) W'))
 (W : World) (hB : B ≤ W.heap.size) (hAb : AbidesFrom W.heap.size J) (h0 : J [] W) :
 CallsIn Fence.wide n Tryz.prog 92 #[.func (.yield l) #[] #[], .pointer (some ⟨bb, 0, none⟩)] W fun e W' => (∃ v, e = .returned v) ∧
  ((∃ ys, (ys.length = R * C ∧ allI ys) ∧ J ys W') ∨ (∃ pre, (pre.length ≤ R * C ∧ allI pre) ∧ Jx pre W')) := by
 have HJ := Lib.hid hJ
 have HY := Lib.hid hY
 have HAB : Hid (∀ s W', J s W → Below W.heap.size W W' → J s W') := fun s W' hj hb => hAb s W W' none hj (grown_of_below hb) (fun r e => by cases e)
 obtain ⟨⟨F0, D0, hg0, rfl, rfl⟩, hc0⟩ := hJ _ _ h0
 have HSZ := Lib.hid (gsize_ok gp F0 D0 W hg0)
 have H0 := Lib.hid h0
 have HBB := Lib.hid hB
 have HKP := Lib.hid hKp
 obtain ⟨r1, r2⟩ := hR
 obtain ⟨c1, c2⟩ := hC
 generalize D0.R = R at *
 generalize D0.C = C at *
 clear hJ hY hAb hg0 h0 hB hKp
 refine callsIn_of_wp Tryz.func92 rfl trivial ?_ rfl
 simp only [Tryz.ntmps92, List.size_toArray, List.length_cons, List.length_nil, Nat.reduceAdd, Nat.reduceSub, Array.replicate_succ, Array.replicate_zero, List.push_toArray, List.append_toArray, List.nil_append, List.cons_append]
 gi_wp2_with (refine ⟨trivial, ?_⟩; gi_at_call 60; refine (callsIn_wide.2 HSZ.out).mono ?_; rintro e w1 ⟨rfl, hb1⟩; have HB1 := Lib.hid hb1; clear hb1)
 gi_loopw [10] (fun i wr => ∃ (r : Nat) (pre : List AllX), r ≤ R ∧ i = .int .i64 r ∧ pre.length = r * C ∧ allI pre ∧ J pre wr ∧ wr.heap[w1.heap.size]? = some (.cells #[.int .i64 R, .int .i64 C] 23 (0, 0))) (fun i _ => R - (intOf i).toNat)
 case atStart => exact ⟨0, [], Nat.zero_le _, rfl, by simp, rfl, HAB.out _ _ H0.out (Below.later HB1.out (below1 _ _) HB1.out.size), heap_alloc_new _ _⟩
 case round =>
  obtain ⟨r, pre, hr, rfl, hlen, hix, hj, hbx⟩ := hrel
  have s0 : wr.cell? ⟨w1.heap.size, 0, none⟩ = some (.int .i64 R) := cell_row hbx 0
  have s1 : wr.cell? ⟨w1.heap.size, 1, none⟩ = some (.int .i64 C) := cell_row hbx 1
  have HL := Lib.hid hlen
  have HIX := Lib.hid hix
  have HJJ := Lib.hid hj
  have HBX := Lib.hid hbx
  clear hlen hix hj hbx
  by_cases hlt : r < R
  · gi_wp2
    gi_loopw [15] (fun j wr => ∃ (c : Nat) (pre : List AllX), c ≤ C ∧ j = .int .i64 c ∧ pre.length = r * C + c ∧ allI pre ∧ J pre wr ∧ wr.heap[w1.heap.size]? = some (.cells #[.int .i64 R, .int .i64 C] 23 (0, 0))) (fun j _ => C - (intOf j).toNat)
    case atStart => exact ⟨0, pre, Nat.zero_le _, rfl, by rw [HL.out]; rfl, HIX.out, HJJ.out, HBX.out⟩
    case round =>
     clear s0 s1 HL HIX HJJ HBX pre
     obtain ⟨c, pre, hc, rfl, hlen, hix, hj, hbx⟩ := hrel
     by_cases hlc : c < C
     · obtain ⟨B1, cap, g, K1, x, d0, d1, ⟨d2, d3, d4, d5⟩, d6, hD⟩ := (HJ.out _ _ hj).look hlt hlc
       have hlt2 : r * C + c < R * C := Nat.lt_of_lt_of_le (show r * C + c < (r + 1) * C by rw [Nat.succ_mul]; omega) (Nat.mul_le_mul_right C hlt)
       obtain ⟨e1, e2⟩ := div_at C r c hlc
       have hT : AllT gp R C pre (r * C + c, x) _ := ⟨hlen.symm, by rw [hlen]; exact hlt2, hix, by obtain ⟨F, D, hg, h1, h2, h3⟩ := hD; exact ⟨F, D, hg, h1, h2, by rw [e1, e2]; exact h3⟩⟩
       have hYY := HY.out pre (r * C + c, x) _ hj hT
       unfold allV at hYY
       simp only [e1, e2] at hYY
       obtain ⟨fn, tmps, assign, body, hy, hR⟩ := hYY
       have HR := Lib.hid hR
       have HLE := Lib.hid hlen
       have HIX := Lib.hid (allI_snoc (x := (r * C + c, x)) hix hlen.symm)
       have HLT := Lib.hid hlt2
       have HBX := Lib.hid hbx
       have hBw : Hid (B ≤ w1.heap.size) := Nat.le_trans HBB.out HB1.out.size
       have i1 : (r : Int) < (R : Int) := by omega
       have i2 : (c : Int) < (C : Int) := by omega
       clear hR hlen hix hlt2 hbx e1 e2 hT hD hj
       gi_wp2
       refine HR.out.mono ?_
       rintro e W3 (⟨rfl, hJ3, hk3⟩ | ⟨rfl, hJx3⟩)
       · have HB3 := Lib.hid (HKP.out _ _ _ _ hk3 hBw.out HBX.out)
         clear hk3
         gi_wp2
         exact ⟨⟨c + 1, _, by omega, by go_num, by rw [List.length_append, HLE.out]; rfl, HIX.out, hJ3, HB3.out⟩, by simp [intOf]; omega⟩
       · gi_wp2
         refine bodyPost_ret (results_none rfl _ _ _) rfl ⟨⟨_, rfl⟩, .inr ⟨_, ⟨?_, HIX.out⟩, hJx3⟩⟩
         rw [List.length_append, HLE.out]
         exact HLT.out
     · obtain rfl : c = C := by omega
       have HLE := Lib.hid hlen
       have HIX := Lib.hid hix
       have HBX := Lib.hid hbx
       have HJJ := Lib.hid hj
       clear hlen hix hbx hj
       gi_wp2
       exact ⟨⟨r + 1, pre, by omega, by go_num, by rw [HLE.out, Nat.succ_mul], HIX.out, HJJ.out, HBX.out⟩, by simp [intOf]; omega⟩
  · obtain rfl : r = R := by omega
    gi_wp2
    go_end0
    exact ⟨⟨_, rfl⟩, .inl ⟨_, ⟨HL.out, HIX.out⟩, HJJ.out⟩⟩
theorem all_stopsK (n : Nat) (hn : 1 ≤ n) (bb gp R C B : Nat) (hR : 1 ≤ R ∧ R ≤ 255) (hC : 1 ≤ C ∧ C ≤ 255) (Kp : World → World → Prop) (hKp : ∀ A A' k c, Kp A A' → B ≤ k → A.heap[k]? = some (.cells c 23 (0, 0)) → A'.heap[k]? = some (.cells c 23 (0, 0))) (w : World) (hB : B ≤ w.heap.size) :
 SeqStopsT Fence.wide n Tryz.prog 92 #[.pointer (some ⟨bb, 0, none⟩)] (allV C) Kp (fun ys => ys.length = R * C ∧ allI ys) (fun pre => pre.length ≤ R * C ∧ allI pre) (AllT gp R C) (AllG gp R C bb) w :=
 fun l J Jx W hW hAb _ hJ hY h0 => all1_inK n hn l bb gp R C B hR hC Kp hKp J Jx hJ hY W (Nat.le_trans hB hW.size) hAb h0
def KpS (B : Nat) (W W' : World) : Prop := ∀ k c, B ≤ k → W.heap[k]? = some (.cells c 23 (0, 0)) → W'.heap[k]? = some (.cells c 23 (0, 0))
theorem KpS.trans {B : Nat} {X Y Z : World} (h : KpS B X Y) (k : KpS B Y Z) : KpS B X Z := fun i c hB hi => k i c hB (h i c hB hi)
theorem KpC.s {B : Nat} {W W' : World} (h : KpC B W W') : KpS B W W' := fun k c hB hk => h k c _ _ hB hk
def aheadB (a b c d : Int) : Bool := decide (a < c) || (decide (a = c) && decide (b < d))
theorem ahead2_any (a b c d : Int) (w : World) : Calls Tryz.prog 152 #[.agg #[.int .i64 a, .int .i64 b], .agg #[.int .i64 c, .int .i64 d]] w fun e w' => e = .returned (.bool (aheadB a b c d)) ∧ w' = (w.alloc (.cells #[.int .i64 a, .int .i64 b] 36)).alloc (.cells #[.int .i64 c, .int .i64 d] 36) := by
 obtain ⟨x0, x1, _⟩ := box2 (Below.refl ((w.alloc (.cells #[.int .i64 a, .int .i64 b] 36)).alloc (.cells #[.int .i64 c, .int .i64 d] 36)).heap.size _)
 obtain ⟨p0, p1, _⟩ := row2 x0
 obtain ⟨q0, q1, _⟩ := row2 x1
 clear x0 x1
 by_cases h1 : a < c
 · have HV : Hid (aheadB a b c d = true) := by unfold aheadB Hid; rw [decide_eq_true h1]; rfl
   rw [HV.out]
   go_enter Tryz.func152, Tryz.ntmps152
   go_wp2_with fail
   go_ret
   exact ⟨rfl, rfl⟩
 · by_cases h2 : a = c
   · subst h2
     by_cases h3 : b < d
     · have HV : Hid (aheadB a b a d = true) := by unfold aheadB Hid; rw [decide_eq_true h3, decide_eq_true rfl]; simp
       rw [HV.out]
       go_enter Tryz.func152, Tryz.ntmps152
       go_wp2_with fail
       go_ret
       exact ⟨rfl, rfl⟩
     · have HV : Hid (aheadB a b a d = false) := by unfold aheadB Hid; rw [decide_eq_false h3, decide_eq_false h1]; simp
       rw [HV.out]
       go_enter Tryz.func152, Tryz.ntmps152
       go_wp2_with fail
       go_ret
       exact ⟨rfl, rfl⟩
   · have HV : Hid (aheadB a b c d = false) := by unfold aheadB Hid; rw [decide_eq_false h2, decide_eq_false h1]; simp
     rw [HV.out]
     go_enter Tryz.func152, Tryz.ntmps152
     go_wp2_with fail
     go_ret
     exact ⟨rfl, rfl⟩
def HowC (F : Nat → Prop) (w : World) (f : Nat) (caps : Array Value) (φ : Vz.Cl → Vz.Cl) : Prop :=
 ∀ (W : World) (b : Nat) (x : Vz.Cl), Keeps F w W → w.heap.size ≤ b → W.heap[b]? = some (.cells (cellB x) 56 (0, 0)) →
   Calls Tryz.prog f (#[.pointer (some ⟨b, 0, none⟩)] ++ caps) W fun e w' => e = .returned (.tuple #[]) ∧ w'.heap[b]? = some (.cells (cellB (φ x)) 56 (0, 0)) ∧ w'.heap.size = W.heap.size ∧ Keeps (fun k => k = b) W w'
def wipeX (gd : Bool) (c x : Vz.Cl) : Vz.Cl := if gd = true ∧ x.gd = true then x else c
theorem how_wipe (F : Nat → Prop) (w : World) (bg bc : Nat) (gd : Bool) (c : Vz.Cl) (hF : ¬ F bg ∧ ¬ F bc) (hg : w.heap[bg]? = some (.cells #[.bool gd] 4 (0, 0))) (hc : w.heap[bc]? = some (.cells (cellB c) 56 (0, 0))) :
 HowC F w 138 #[.pointer (some ⟨bg, 0, none⟩), .pointer (some ⟨bc, 0, none⟩)] (wipeX gd c) := by
 intro W b x hK hb hx
 have hg1 := (hK.block _ (block_lt hg) hF.1).trans hg
 have hc1 := (hK.block _ (block_lt hc) hF.2).trans hc
 have g0 : W.cell? ⟨bg, 0, none⟩ = some (.bool gd) := cell_row hg1 0
 obtain ⟨c0, c1, c2, c3⟩ := cell4 hc1
 obtain ⟨x0, x1, x2, x3, f0, f1, f2, f3⟩ := row4 hx
 have HX := Lib.hid hx
 clear hx hg1 hc1 hK hg hc hF
 by_cases h : gd = true ∧ x.gd = true
 · have HV : Hid (wipeX gd c x = x) := by unfold wipeX Hid; rw [if_pos h]
   rw [HV.out]
   obtain ⟨rfl, h2⟩ := h
   rw [h2] at x2
   go_enter Tryz.func138, Tryz.ntmps138
   go_wp2_with fail
   go_end0
   exact ⟨rfl, HX.out, rfl, Keeps.refl _ _⟩
 · have HV : Hid (wipeX gd c x = c) := by unfold wipeX Hid; rw [if_neg h]
   rw [HV.out]
   cases gd
   · go_enter Tryz.func138, Tryz.ntmps138
     go_wp2_with fail
     go_end0
     exact ⟨rfl, set_four HX.out _ _ _ _, by simp, Keeps.set4 (F := fun k => k = b) rfl 0 c⟩
   · have h2 : x.gd = false := by cases hx : x.gd; rfl; exact absurd ⟨rfl, hx⟩ h
     rw [h2] at x2
     go_enter Tryz.func138, Tryz.ntmps138
     go_wp2_with fail
     go_end0
     exact ⟨rfl, set_four HX.out _ _ _ _, by simp, Keeps.set4 (F := fun k => k = b) rfl 0 c⟩
end
end Go.Proofs.YtncgigapgklhcaaGreatDoor
