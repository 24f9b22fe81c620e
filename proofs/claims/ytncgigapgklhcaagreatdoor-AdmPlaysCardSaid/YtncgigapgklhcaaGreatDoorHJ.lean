import Derived.Test.YtncgigapgklhcaaGreatDoorHH
import Derived.Laws.StructEq
import Derived.Test.YtncgigapgklhcaaGreatDoorHG

set_option maxRecDepth 100000
set_option maxHeartbeats 16000000
namespace Go.Proofs.YtncgigapgklhcaaGreatDoor
open Go.RowKit
set_option linter.unusedSimpArgs false
set_option linter.unusedVariables false
/- Walks: wipe.turn. -/
section
attribute [local go_sem] alloc_drewN setCell_drewN World.cell?_alloc_some frozen_alloc_some size_f0 size_f1 Oper.semAt_some
def within (a b : Vz.Ps) (i j : Int) : Bool := !(aheadB i j a.row a.col) && !(aheadB b.row b.col i j)
def turnK (D : Vz.Gd) (a b : Vz.Ps) (φ : Vz.Cl → Vz.Cl) (k : Nat) : Vz.Gd := ⟨D.R, D.C, fun i j => if i * D.C + j < k ∧ within a b i j = true then φ (D.X i j) else D.X i j⟩
def turnD (D : Vz.Gd) (a b : Vz.Ps) (φ : Vz.Cl → Vz.Cl) : Vz.Gd := ⟨D.R, D.C, fun i j => if within a b i j = true then φ (D.X i j) else D.X i j⟩
theorem Grid.congr {W : World} {gp : Nat} {F : Nat → Prop} {D D' : Vz.Gd} (h : Grid W gp F D) (hR : D'.R = D.R) (hC : D'.C = D.C) (hX : ∀ i j, i < D.R → j < D.C → D'.X i j = D.X i j) : Grid W gp F D' := by
 obtain ⟨B, cap, G, K, hA, hF⟩ := h
 refine ⟨B, cap, G, K, ⟨by unfold Vz.Gd.may; rw [hR, hC]; exact hA.may, by rw [hR]; exact hA.box, by rw [hR, hC]; exact hA.outer, fun i hi => ?_, fun i j hi hj => hA.inj i j (by omega) (by omega)⟩, fun k => by rw [hR]; exact hF k⟩
 rw [hC]
 refine (hA.row i (by omega)).congr fun q hq => ?_
 unfold Vz.flatC
 rw [hX i (q / 4) (by omega) (by omega)]
theorem turnK_at (D : Vz.Gd) (a b : Vz.Ps) (φ : Vz.Cl → Vz.Cl) (k : Nat) : (turnK D a b φ k).X (k / D.C) (k % D.C) = D.X (k / D.C) (k % D.C) := by
 show (if _ then _ else _) = _
 rw [if_neg]
 intro h
 have := Nat.div_add_mod k D.C
 rw [Nat.mul_comm] at this
 omega
theorem place_eq {C i j k : Nat} (hj : j < C) (h : i * C + j = k) : i = k / C ∧ j = k % C := by
 obtain ⟨h1, h2⟩ := div_at C i j hj
 rw [h] at h1 h2
 exact ⟨h1.symm, h2.symm⟩
theorem turnK_stay {D : Vz.Gd} {a b : Vz.Ps} {φ : Vz.Cl → Vz.Cl} {k : Nat} (h : within a b ((k / D.C : Nat) : Int) ((k % D.C : Nat) : Int) = false ∨ φ (D.X (k / D.C) (k % D.C)) = D.X (k / D.C) (k % D.C)) {W : World} {gp : Nat} {F : Nat → Prop} (hg : Grid W gp F (turnK D a b φ k)) : Grid W gp F (turnK D a b φ (k + 1)) :=
 hg.congr rfl rfl fun i j hi hj => by
  have hj' : j < D.C := hj
  show (if i * D.C + j < k + 1 ∧ within a b i j = true then φ (D.X i j) else D.X i j) = if i * D.C + j < k ∧ within a b i j = true then φ (D.X i j) else D.X i j
  by_cases he : i * D.C + j = k
  · obtain ⟨rfl, rfl⟩ := place_eq hj' he
    rw [if_neg (show ¬ (k / D.C * D.C + k % D.C < k ∧ _) from fun hh => by omega)]
    split
    · rename_i hh
      rcases h with h | h
      · rw [hh.2] at h
        cases h
      · exact h
    · rfl
  · have hiff : (i * D.C + j < k + 1 ∧ within a b i j = true) ↔ (i * D.C + j < k ∧ within a b i j = true) := ⟨fun h => ⟨by omega, h.2⟩, fun h => ⟨by omega, h.2⟩⟩
    simp only [hiff]
theorem turnK_set {D : Vz.Gd} {a b : Vz.Ps} {φ : Vz.Cl → Vz.Cl} {k : Nat} (h : within a b ((k / D.C : Nat) : Int) ((k % D.C : Nat) : Int) = true) {W : World} {gp : Nat} {F : Nat → Prop} (hg : Grid W gp F ((turnK D a b φ k).set (k / D.C) (k % D.C) (φ (D.X (k / D.C) (k % D.C))))) : Grid W gp F (turnK D a b φ (k + 1)) :=
 hg.congr rfl rfl fun i j hi hj => by
  have hj' : j < D.C := hj
  show (if i * D.C + j < k + 1 ∧ within a b i j = true then φ (D.X i j) else D.X i j) = if i = k / D.C ∧ j = k % D.C then φ (D.X (k / D.C) (k % D.C)) else if i * D.C + j < k ∧ within a b i j = true then φ (D.X i j) else D.X i j
  by_cases he : i * D.C + j = k
  · obtain ⟨rfl, rfl⟩ := place_eq hj' he
    rw [if_pos ⟨by omega, h⟩, if_pos ⟨rfl, rfl⟩]
  · rw [if_neg (show ¬ (i = k / D.C ∧ j = k % D.C) from fun hh => he (by rw [hh.1, hh.2, Nat.mul_comm]; exact Nat.div_add_mod k D.C))]
    have hiff : (i * D.C + j < k + 1 ∧ within a b i j = true) ↔ (i * D.C + j < k ∧ within a b i j = true) := ⟨fun h => ⟨by omega, h.2⟩, fun h => ⟨by omega, h.2⟩⟩
    simp only [hiff]
theorem turnK_done {D : Vz.Gd} {a b : Vz.Ps} {φ : Vz.Cl → Vz.Cl} {W : World} {gp : Nat} {F : Nat → Prop} (hg : Grid W gp F (turnK D a b φ (D.R * D.C))) : Grid W gp F (turnD D a b φ) :=
 hg.congr rfl rfl fun i j hi hj => by
  have hi' : i < D.R := hi
  have hj' : j < D.C := hj
  have hlt : i * D.C + j < D.R * D.C := Nat.lt_of_lt_of_le (show i * D.C + j < (i + 1) * D.C by rw [Nat.succ_mul]; omega) (Nat.mul_le_mul_right D.C hi')
  show (if within a b i j = true then φ (D.X i j) else D.X i j) = if i * D.C + j < D.R * D.C ∧ within a b i j = true then φ (D.X i j) else D.X i j
  simp only [hlt, true_and]
theorem turnK_zero {D : Vz.Gd} {a b : Vz.Ps} {φ : Vz.Cl → Vz.Cl} {W : World} {gp : Nat} {F : Nat → Prop} (hg : Grid W gp F D) : Grid W gp F (turnK D a b φ 0) :=
 hg.congr rfl rfl fun i j _ _ => by
  show (if i * D.C + j < 0 ∧ within a b i j = true then φ (D.X i j) else D.X i j) = _
  rw [if_neg (fun h => absurd h.1 (Nat.not_lt_zero _))]
theorem keeps_own {w A B : World} {row : Option Nat} {n : Nat} {F : Nat → Prop} (hn : w.heap.size ≤ n) (h : Keeps F w A) (hg : A.grownBy B row) (hr : ∀ r, row = some r → n ≤ r ∧ ∃ o : Obj, A.heap[r]? = some o ∧ o.isCells = false) : Keeps F w B :=
 ⟨hg.os.trans h.os, hg.tape.trans h.tape, hg.output.trans h.output, Nat.le_trans h.size hg.size, fun k hk hf => (hg.block k (Nat.lt_of_lt_of_le hk h.size) (fun e => by have := (hr k e.symm).1; omega)).trans (h.block k hk hf)⟩
theorem Keeps.setCellBox {F : Nat → Prop} {W W' : World} (h : Keeps F W W') {b o : Nat} (hb : W.heap.size ≤ b) (v : Value) : Keeps F W (W'.setCell ⟨b, o, none⟩ v) :=
 ⟨h.os, h.tape, h.output, by rw [World.size_setCell]; exact h.size, fun k hk hn => (heap_setCell_other _ _ _ _ (by show k ≠ b; omega)).trans (h.block k hk hn)⟩
theorem Cl.same {x y : Vz.Cl} (h1 : x.g = y.g) (h2 : x.a = y.a) (h3 : x.gd = y.gd) (h4 : x.m = y.m) : x = y := by
 cases x
 cases y
 simp only at h1 h2 h3 h4
 subst h1 h2 h3 h4
 rfl
theorem Keeps.from {F : Nat → Prop} {W W' : World} {B : Nat} (h : Keeps F W W') (hF : ∀ k, F k → k < B) : KeepsFrom B W W' :=
 ⟨h.size, fun k o hB hk ho => (h.block k (block_lt hk) (fun hf => by have := hF k hf; omega)).trans hk⟩
theorem Keeps.kpC {F : Nat → Prop} {W W' : World} {B : Nat} (h : Keeps F W W') (hF : ∀ k, F k → k < B) : KpC B W W' :=
 fun k c t fr hB hk => (h.block k (block_lt hk) (fun hf => by have := hF k hf; omega)).trans hk
theorem turn_in (n : Nat) (hn : 3 ≤ n) (gp : Nat) (F : Nat → Prop) (D : Vz.Gd) (a b : Vz.Ps) (hf : Nat) (caps : Array Value) (φ : Vz.Cl → Vz.Cl) (w : World) (h : Grid w gp F D) (ha : a.inS D.R D.C) (hb : b.inS D.R D.C) (hh : HowC F w hf caps φ) (heg : ∀ (args : Array Value) (W : World), Sem.run Tryz.prog (callFunc hf args) W = .ok (.enter hf args) W) :
 CallsIn Fence.wide n Tryz.prog 137 #[.pointer (some ⟨gp, 0, none⟩), .agg #[.int .i64 a.row, .int .i64 a.col], .agg #[.int .i64 b.row, .int .i64 b.col], .func (.func hf) #[] caps] w fun e w' => (∃ c : Int, e = .returned (.tuple #[.int .i64 c, .int .i64 (if aheadB b.row b.col a.row a.col = true then 1 else 0)])) ∧ Grid w' gp F (if aheadB b.row b.col a.row a.col = true then D else turnD D a b φ) ∧ Keeps F w w' := by
 have h1 : 1 ≤ n := by omega
 obtain ⟨m1, m2, m3, m4⟩ := h.may
 have HB0 : Hid (Below w.heap.size w (((((w.alloc (.cells #[.pointer (some ⟨gp, 0, none⟩)] 77)).alloc (.cells #[.int .i64 a.row, .int .i64 a.col] 36)).alloc (.cells #[.int .i64 b.row, .int .i64 b.col] 36)).alloc (.cells #[.func (.func hf) #[] caps] 190)).alloc (.cells #[.int .i64 a.row, .int .i64 a.col, .int .i64 b.row, .int .i64 b.col] 36))) := Grows.below ((((((Grows.refl w).alloc _).alloc _).alloc _).alloc _).alloc _)
 have H := Lib.hid h
 have HIN : Hid (a.inS D.R D.C ∧ b.inS D.R D.C) := ⟨ha, hb⟩
 have HAH := Lib.hid (ahead2_any b.row b.col a.row a.col)
 have HBB : Hid (∀ W, Below (w.heap.size + 1 + 1 + 1 + 1 + 1) (((((w.alloc (.cells #[.pointer (some ⟨gp, 0, none⟩)] 77)).alloc (.cells #[.int .i64 a.row, .int .i64 a.col] 36)).alloc (.cells #[.int .i64 b.row, .int .i64 b.col] 36)).alloc (.cells #[.func (.func hf) #[] caps] 190)).alloc (.cells #[.int .i64 a.row, .int .i64 a.col, .int .i64 b.row, .int .i64 b.col] 36)) W → Below w.heap.size w W) := fun W hb => Below.later HB0.out (hb.mono (by simp)) HB0.out.size
 have HBX : Hid (∀ W, Below (w.heap.size + 1 + 1 + 1 + 1 + 1) (((((w.alloc (.cells #[.pointer (some ⟨gp, 0, none⟩)] 77)).alloc (.cells #[.int .i64 a.row, .int .i64 a.col] 36)).alloc (.cells #[.int .i64 b.row, .int .i64 b.col] 36)).alloc (.cells #[.func (.func hf) #[] caps] 190)).alloc (.cells #[.int .i64 a.row, .int .i64 a.col, .int .i64 b.row, .int .i64 b.col] 36)) W → W.heap[w.heap.size]? = some (.cells #[.pointer (some ⟨gp, 0, none⟩)] 77 (0, 0)) ∧ W.heap[w.heap.size + 1]? = some (.cells #[.int .i64 a.row, .int .i64 a.col] 36 (0, 0)) ∧ W.heap[w.heap.size + 1 + 1]? = some (.cells #[.int .i64 b.row, .int .i64 b.col] 36 (0, 0)) ∧ W.heap[w.heap.size + 1 + 1 + 1]? = some (.cells #[.func (.func hf) #[] caps] 190 (0, 0)) ∧ W.heap[w.heap.size + 1 + 1 + 1 + 1]? = some (.cells #[.int .i64 a.row, .int .i64 a.col, .int .i64 b.row, .int .i64 b.col] 36 (0, 0))) := fun W hb => by
  have h1 := (Has.nil w.heap.size 0 w).alloc (Nat.le_refl _) (.cells #[.pointer (some ⟨gp, 0, none⟩)] 77)
  have h2 := h1.alloc (by simp) (.cells #[.int .i64 a.row, .int .i64 a.col] 36)
  have h3 := h2.alloc (by simp; omega) (.cells #[.int .i64 b.row, .int .i64 b.col] 36)
  have h4 := h3.alloc (by simp; omega) (.cells #[.func (.func hf) #[] caps] 190)
  have h5 := (h4.alloc (by simp; omega) (.cells #[.int .i64 a.row, .int .i64 a.col, .int .i64 b.row, .int .i64 b.col] 36)).below (hb.mono (by simp))
  simp only [World.size_alloc] at h5
  exact ⟨h5.nth 4 rfl, h5.nth 3 rfl, h5.nth 2 rfl, h5.nth 1 rfl, h5.nth 0 rfl⟩
 have HAT : Hid ((∀ W, Below (w.heap.size + 1 + 1 + 1 + 1 + 1) (((((w.alloc (.cells #[.pointer (some ⟨gp, 0, none⟩)] 77)).alloc (.cells #[.int .i64 a.row, .int .i64 a.col] 36)).alloc (.cells #[.int .i64 b.row, .int .i64 b.col] 36)).alloc (.cells #[.func (.func hf) #[] caps] 190)).alloc (.cells #[.int .i64 a.row, .int .i64 a.col, .int .i64 b.row, .int .i64 b.col] 36)) W → Calls Tryz.prog 39 #[.pointer (some ⟨gp, 0, none⟩), .agg #[.int .i64 a.row, .int .i64 a.col]] W fun e w' => e = .returned (.tuple #[.agg #[.int .i32 (atD D a).g, .int .i64 (atD D a).a, .bool (atD D a).gd, .int .i64 (atD D a).m], .int .i64 0]) ∧ Below W.heap.size W w') ∧ (∀ W, Below (w.heap.size + 1 + 1 + 1 + 1 + 1) (((((w.alloc (.cells #[.pointer (some ⟨gp, 0, none⟩)] 77)).alloc (.cells #[.int .i64 a.row, .int .i64 a.col] 36)).alloc (.cells #[.int .i64 b.row, .int .i64 b.col] 36)).alloc (.cells #[.func (.func hf) #[] caps] 190)).alloc (.cells #[.int .i64 a.row, .int .i64 a.col, .int .i64 b.row, .int .i64 b.col] 36)) W → Calls Tryz.prog 39 #[.pointer (some ⟨gp, 0, none⟩), .agg #[.int .i64 b.row, .int .i64 b.col]] W fun e w' => e = .returned (.tuple #[.agg #[.int .i32 (atD D b).g, .int .i64 (atD D b).a, .bool (atD D b).gd, .int .i64 (atD D b).m], .int .i64 0]) ∧ Below W.heap.size W w')) := ⟨fun W hb' => gat_ok gp F D a W (h.below (HBB.out W hb')) ha, fun W hb' => gat_ok gp F D b W (h.below (HBB.out W hb')) hb⟩
 generalize hEr : (if aheadB b.row b.col a.row a.col = true then (1 : Int) else 0) = er
 generalize hDr : (if aheadB b.row b.col a.row a.col = true then D else turnD D a b φ) = Dr
 have HER := Lib.hid hEr
 have HDR := Lib.hid hDr
 clear hEr hDr
 generalize atD D a = ca at *
 generalize atD D b = cb at *
 clear h ha hb
 refine callsIn_of_wp_marks Tryz.func137 rfl trivial ?_ rfl
 simp only [Tryz.ntmps137, List.size_toArray, List.length_cons, List.length_nil, Nat.reduceAdd, Nat.reduceSub, Array.replicate_succ, Array.replicate_zero, List.push_toArray, List.append_toArray, List.nil_append, List.cons_append]
 gi_wp2
 gi_loopw [22] (fun i wr => ∃ (k : Nat), k ≤ 2 ∧ i = .int .i64 k ∧ Below (w.heap.size + 1 + 1 + 1 + 1 + 1) (((((w.alloc (.cells #[.pointer (some ⟨gp, 0, none⟩)] 77)).alloc (.cells #[.int .i64 a.row, .int .i64 a.col] 36)).alloc (.cells #[.int .i64 b.row, .int .i64 b.col] 36)).alloc (.cells #[.func (.func hf) #[] caps] 190)).alloc (.cells #[.int .i64 a.row, .int .i64 a.col, .int .i64 b.row, .int .i64 b.col] 36)) wr) (fun i _ => 2 - (intOf i).toNat)
 case atStart => exact ⟨0, by omega, rfl, Below.refl _ _⟩
 case round =>
  obtain ⟨k, hk, rfl, hb⟩ := hrel
  have HBK := Lib.hid hb
  obtain ⟨y0, y1, y2, y3, y4⟩ := HBX.out _ hb
  obtain ⟨p0, p1, _⟩ := row2 y1
  obtain ⟨q0, q1, _⟩ := row2 y2
  obtain ⟨s0, s1, s2, s3, _⟩ := row4 y4
  have g0 : wr.cell? ⟨w.heap.size, 0, none⟩ = some (.pointer (some ⟨gp, 0, none⟩)) := cell_row y0 0
  clear hb y0 y1 y2 y3 y4
  obtain rfl | rfl | rfl : k = 0 ∨ k = 1 ∨ k = 2 := by omega
  · gi_wp2_with (refine ⟨trivial, ?_⟩; gi_at_call 39; refine (callsIn_wide.2 (HAT.out.1 _ (HBK.out.alloc (Nat.le_trans (by simp) HBK.out.size) _))).mono ?_; rintro e w1 ⟨rfl, hb1⟩; have HB1 := Lib.hid hb1; clear hb1)
    exact ⟨⟨1, by omega, rfl, Below.later HBK.out (Below.later (below1 wr _) (Below.later HB1.out (below1 w1 _) HB1.out.size) (by simp)) (Nat.le_trans (by simp) HBK.out.size)⟩, by simp [intOf]⟩
  · gi_wp2_with (refine ⟨trivial, ?_⟩; gi_at_call 39; refine (callsIn_wide.2 (HAT.out.2 _ (HBK.out.alloc (Nat.le_trans (by simp) HBK.out.size) _))).mono ?_; rintro e w1 ⟨rfl, hb1⟩; have HB1 := Lib.hid hb1; clear hb1)
    exact ⟨⟨2, by omega, rfl, Below.later HBK.out (Below.later (below1 wr _) (Below.later HB1.out (below1 w1 _) HB1.out.size) (by simp)) (Nat.le_trans (by simp) HBK.out.size)⟩, by simp [intOf]⟩
  · have her := HER.out
    have hdr := HDR.out
    clear HER HDR
    cases hah : aheadB b.row b.col a.row a.col
    all_goals
     rw [hah] at her hdr
     simp only [if_true, if_false, Bool.false_eq_true] at her hdr
     subst her hdr
    · gi_wp2_with (first
       | (refine ⟨trivial, ?_⟩; gi_at_call 152; refine (callsIn_wide.2 (HAH.out _)).mono ?_; rw [hah]; rintro e w1 ⟨rfl, hw1⟩; have HB1 := Lib.hid (show Below (w.heap.size + 1 + 1 + 1 + 1 + 1) _ w1 from by rw [hw1]; exact Below.later HBK.out (Grows.below (((Grows.refl wr).alloc _).alloc _)) (Nat.le_trans (by simp) HBK.out.size)); clear hw1 g0 p0 p1 q0 q1 s0 s1 s2 s3; obtain ⟨y0, y1, y2, y3, y4⟩ := HBX.out _ HB1.out; have g0 : w1.cell? ⟨w.heap.size, 0, none⟩ = some (.pointer (some ⟨gp, 0, none⟩)) := cell_row y0 0)
       | (refine ⟨trivial, ?_⟩; gi_at_call 61; refine (all_in (n - 1) gp _).mono ?_; rintro e w2 ⟨rfl, rfl⟩))
      have hz1 : w.heap.size + 1 + 1 + 1 + 1 + 1 ≤ w1.heap.size := Nat.le_trans (by simp) HB1.out.size
      obtain ⟨n0, n1, nb⟩ := box2 (Below.refl ((w1.alloc (.cells #[.int .i64 0] 3)).alloc (.cells #[.pointer (some ⟨gp, 0, none⟩)] 77)).heap.size ((w1.alloc (.cells #[.int .i64 0] 3)).alloc (.cells #[.pointer (some ⟨gp, 0, none⟩)] 77)))
      have HW3 := Lib.hid (Below.later HB1.out nb hz1)
      have HLT : Hid (∀ k, F k → k < w.heap.size) := H.out.lt
      have hR : 1 ≤ D.R ∧ D.R ≤ 255 := ⟨m1, m2⟩
      have hC : 1 ≤ D.C ∧ D.C ≤ 255 := ⟨m3, m4⟩
      obtain ⟨z0, z1, z2, z3, z4⟩ := HBX.out _ HW3.out
      refine wpIn_rangeFunc_T rfl h1 (gf := 92) (lb := #[.pointer (some ⟨w1.heap.size + 1, 0, none⟩)]) rfl trivial (enters_of Tryz.func92 (by kernel_rfl) rfl)
       (all_stops (n - 1) (by omega) (w1.heap.size + 1) gp D.R D.C (w1.heap.size + 1 + 1) hR hC _ (by simp)) (fun h k => h.trans k) (fun W l o o' _ hl ho _ => KpC.putObj W l o o' hl ho) (Below.refl _ _) (fun _ => rfl)
       (fun pre W => Grid W gp F (turnK D a b φ pre.length) ∧ (∃ cnt : Nat, cnt ≤ pre.length ∧ W.heap[w1.heap.size]? = some (.cells #[.int .i64 cnt] 3 (0, 0))) ∧ W.heap[w1.heap.size + 1]? = some (.cells #[.pointer (some ⟨gp, 0, none⟩)] 77 (0, 0)) ∧ W.heap[w.heap.size]? = some (.cells #[.pointer (some ⟨gp, 0, none⟩)] 77 (0, 0)) ∧ W.heap[w.heap.size + 1]? = some (.cells #[.int .i64 a.row, .int .i64 a.col] 36 (0, 0)) ∧ W.heap[w.heap.size + 1 + 1]? = some (.cells #[.int .i64 b.row, .int .i64 b.col] 36 (0, 0)) ∧ W.heap[w.heap.size + 1 + 1 + 1]? = some (.cells #[.func (.func hf) #[] caps] 190 (0, 0)) ∧ Keeps F w W)
       (fun _ _ _ => False)
       ?hI ?hIx ?hT ?hGd ?h0
       (fun x bb => { tmps := #[.pointer (some ⟨gp, 0, none⟩), .agg #[.int .i64 a.row, .int .i64 a.col], .agg #[.int .i64 b.row, .int .i64 b.col], .func (.func hf) #[] caps, .pointer (some ⟨w.heap.size, 0, none⟩), .pointer (some ⟨w.heap.size + 1, 0, none⟩), .pointer (some ⟨w.heap.size + 1 + 1, 0, none⟩), .pointer (some ⟨w.heap.size + 1 + 1 + 1, 0, none⟩), u8, u9, undef, u11, u12, u13, .pointer (some ⟨w1.heap.size, 0, none⟩), .pointer (some ⟨bb, 0, none⟩), .pointer (some ⟨bb + 1, 0, none⟩), undef, .agg #[.int .i64 a.row, .int .i64 a.col], .agg #[.int .i64 b.row, .int .i64 b.col], .slice (some ⟨w.heap.size + 1 + 1 + 1 + 1, 0, none⟩) 2 2, .int .i64 2, .int .i64 2, .bool false, u24, u25, u26, u27, u28, u29, u30, u31, u32, u33, u34, u35, .agg #[.int .i64 b.row, .int .i64 b.col], .agg #[.int .i64 a.row, .int .i64 a.col], .bool false, .pointer (some ⟨gp, 0, none⟩), .func (.func 92) #[] #[.pointer (some ⟨w1.heap.size + 1, 0, none⟩)], .agg #[.int .i64 ((x.1 / D.C : Nat) : Int), .int .i64 ((x.1 % D.C : Nat) : Int)], .agg #[.int .i32 x.2.g, .int .i64 x.2.a, .bool x.2.gd, .int .i64 x.2.m], undef, undef, undef, undef, undef, undef, undef, undef, undef, undef, undef, undef, undef, undef, undef, undef, undef, undef, undef, undef, undef], defers := [] })
       (mkPC D.C) (bxPC D.C) (fun x W => grown_of_below (mkPC_below D.C x W)) (fun x W => KpC.of_below (mkPC_below D.C x W)) (mkPC_bx D.C) (bxPC_own D.C _) ?assign ?body ?done ?stop
      case hI =>
       rintro pre X Y rw ⟨hg, ⟨cnt, hc1, hc2⟩, i1, i2, i3, i4, i5, hK⟩ hgr hrow
       exact ⟨grid_own hg hgr hrow, ⟨cnt, hc1, cells_kept hgr hrow hc2⟩, cells_kept hgr hrow i1, cells_kept hgr hrow i2, cells_kept hgr hrow i3, cells_kept hgr hrow i4, cells_kept hgr hrow i5, keeps_own (by simp; omega) hK hgr hrow⟩
      case hIx => exact fun _ _ _ _ _ h _ _ => h
      case hT => exact allT_own gp D.R D.C _
      case hGd =>
       rintro s A ⟨hg, _, i1, _⟩
       exact ⟨⟨F, _, hg, rfl, rfl⟩, cell_row i1 0⟩
      case h0 => exact ⟨turnK_zero (H.out.below (HBB.out _ HW3.out)), ⟨0, Nat.le_refl _, n0⟩, n1, z0, z1, z2, z3, Keeps.of_below (HBB.out _ HW3.out)⟩
      case assign =>
       intro l x W K hK
       unfold mkPC cellB at hK
       unfold allV
       generalize x.1 / D.C = pr at *
       generalize x.1 % D.C = pc at *
       gi_wp2
       exact hK
      case body =>
       rintro l pre x bb W hbge ⟨hg, ⟨cnt, hc1, hc2⟩, i1, i2, i3, i4, i5, hK⟩ hT ⟨bx0, bx1⟩
       have hx := hT.cell hg hC.1 rfl rfl
       have hpl : pre.length < D.R * D.C := hT.2.1
       have hbig : D.R * D.C ≤ 255 * 255 := Nat.mul_le_mul m2 m4
       have hpc := place_of pre.length D.R D.C hC.1 hpl
       rw [turnK_at D a b φ pre.length] at hx
       subst hx
       have HST : Hid (∀ (W' : World) (g0 a0 : Int) (d0 : Bool) (m0 : Int), Grid W' gp F (turnK D a b φ pre.length) → g0 = (φ (D.X (pre.length / D.C) (pre.length % D.C))).g → a0 = (φ (D.X (pre.length / D.C) (pre.length % D.C))).a → d0 = (φ (D.X (pre.length / D.C) (pre.length % D.C))).gd → m0 = (φ (D.X (pre.length / D.C) (pre.length % D.C))).m → Calls Tryz.prog 126 #[.pointer (some ⟨gp, 0, none⟩), .agg #[.int .i64 ((pre.length / D.C : Nat) : Int), .int .i64 ((pre.length % D.C : Nat) : Int)], .agg #[.int .i32 g0, .int .i64 a0, .bool d0, .int .i64 m0]] W' fun e w' => e = .returned (.int .i64 0) ∧ Grid w' gp F ((turnK D a b φ pre.length).set (pre.length / D.C) (pre.length % D.C) (φ (D.X (pre.length / D.C) (pre.length % D.C)))) ∧ Keeps F W' w') := fun W' g0 a0 d0 m0 hg' e1 e2 e3 e4 => by
        subst e1 e2 e3 e4
        exact gset_ok gp F (turnK D a b φ pre.length) ⟨((pre.length / D.C : Nat) : Int), ((pre.length % D.C : Nat) : Int)⟩ (φ (D.X (pre.length / D.C) (pre.length % D.C))) W' hg' ⟨Int.natCast_nonneg _, Int.ofNat_lt.2 hpc.1, Int.natCast_nonneg _, Int.ofNat_lt.2 hpc.2⟩
       have HSTAY : Hid (∀ W', within a b ((pre.length / D.C : Nat) : Int) ((pre.length % D.C : Nat) : Int) = false ∨ φ (D.X (pre.length / D.C) (pre.length % D.C)) = D.X (pre.length / D.C) (pre.length % D.C) → Grid W' gp F (turnK D a b φ pre.length) → Grid W' gp F (turnK D a b φ (pre.length + 1))) := fun W' h1 h2 => turnK_stay h1 h2
       have HSETS : Hid (∀ W', within a b ((pre.length / D.C : Nat) : Int) ((pre.length % D.C : Nat) : Int) = true → Grid W' gp F ((turnK D a b φ pre.length).set (pre.length / D.C) (pre.length % D.C) (φ (D.X (pre.length / D.C) (pre.length % D.C)))) → Grid W' gp F (turnK D a b φ (pre.length + 1))) := fun W' h1 h2 => turnK_set h1 h2
       have HAG := Lib.hid ahead2_any
       have HBc : Hid (Below W.heap.size W W) := Below.refl _ _
       have HLEN : Hid ((pre ++ [(pre.length, D.X (pre.length / D.C) (pre.length % D.C))]).length = pre.length + 1) := by rw [Hid, List.length_append]; rfl
       have HWI : Hid (within a b ((pre.length / D.C : Nat) : Int) ((pre.length % D.C : Nat) : Int) = (!(aheadB ((pre.length / D.C : Nat) : Int) ((pre.length % D.C : Nat) : Int) a.row a.col) && !(aheadB b.row b.col ((pre.length / D.C : Nat) : Int) ((pre.length % D.C : Nat) : Int)))) := rfl
       have HG := Lib.hid hg
       have HKW := Lib.hid hK
       have HI := Lib.hid (show _ ∧ _ ∧ _ ∧ _ ∧ _ ∧ _ from ⟨hc2, i1, i2, i3, i4, i5⟩)
       have HHW : Hid (∀ (W' : World) (b' : Nat), Below W.heap.size W W' → w.heap.size ≤ b' → W'.heap[b']? = some (.cells (cellB (D.X (pre.length / D.C) (pre.length % D.C))) 56 (0, 0)) → Calls Tryz.prog hf (#[.pointer (some ⟨b', 0, none⟩)] ++ caps) W' fun e w' => e = .returned (.tuple #[]) ∧ w'.heap[b']? = some (.cells (cellB (φ (D.X (pre.length / D.C) (pre.length % D.C)))) 56 (0, 0)) ∧ w'.heap.size = W'.heap.size ∧ Keeps (fun k => k = b') W' w') := fun W' b' hb' hle hc' => hh W' b' _ (hK.trans (Keeps.of_below hb' : Keeps F W W') (fun k hk => .inl hk)) hle hc'
       have HCC : Hid (∀ W', Below W.heap.size W W' → W'.cell? ⟨bb, 0, none⟩ = some (.int .i64 ((pre.length / D.C : Nat) : Int)) ∧ W'.cell? ⟨bb, 1, none⟩ = some (.int .i64 ((pre.length % D.C : Nat) : Int)) ∧ (W'.cell? ⟨bb + 1, 0, none⟩ = some (.int .i32 (D.X (pre.length / D.C) (pre.length % D.C)).g) ∧ W'.cell? ⟨bb + 1, 1, none⟩ = some (.int .i64 (D.X (pre.length / D.C) (pre.length % D.C)).a) ∧ W'.cell? ⟨bb + 1, 2, none⟩ = some (.bool (D.X (pre.length / D.C) (pre.length % D.C)).gd) ∧ W'.cell? ⟨bb + 1, 3, none⟩ = some (.int .i64 (D.X (pre.length / D.C) (pre.length % D.C)).m)) ∧ W'.cell? ⟨w1.heap.size, 0, none⟩ = some (.int .i64 cnt) ∧ W'.frozen? ⟨w1.heap.size, 0, none⟩ = false ∧ W'.cell? ⟨w.heap.size, 0, none⟩ = some (.pointer (some ⟨gp, 0, none⟩)) ∧ (W'.cell? ⟨w.heap.size + 1, 0, none⟩ = some (.int .i64 a.row) ∧ W'.cell? ⟨w.heap.size + 1, 1, none⟩ = some (.int .i64 a.col)) ∧ (W'.cell? ⟨w.heap.size + 1 + 1, 0, none⟩ = some (.int .i64 b.row) ∧ W'.cell? ⟨w.heap.size + 1 + 1, 1, none⟩ = some (.int .i64 b.col)) ∧ W'.cell? ⟨w.heap.size + 1 + 1 + 1, 0, none⟩ = some (.func (.func hf) #[] caps)) := fun W' hb' => by
        have hk : ∀ {k : Nat} {c : Array Value} {t : TypeId}, W.heap[k]? = some (.cells c t (0, 0)) → W'.heap[k]? = some (.cells c t (0, 0)) := fun {k c t} h => (hb'.block _ (block_lt h)).trans h
        exact ⟨cell_row (hk bx0) 0, cell_row (hk bx0) 1, cell4 (hk bx1), cell_row (hk hc2) 0, frozen_row (hk hc2) 0, cell_row (hk i2) 0, ⟨cell_row (hk i3) 0, cell_row (hk i3) 1⟩, ⟨cell_row (hk i4) 0, cell_row (hk i4) 1⟩, cell_row (hk i5) 0⟩
       have hbb : w1.heap.size + 1 + 1 ≤ bb := by simpa using hbge
       have hzW : w1.heap.size + 1 + 1 ≤ W.heap.size := by have := block_lt i1; omega
       clear hg hK hc2 i1 i2 i3 i4 i5 hT bx0 bx1 hh
       generalize pre.length / D.C = pr at *
       generalize pre.length % D.C = pc at *
       generalize D.X pr pc = cl at *
       obtain ⟨e1, e2, ⟨e3, e4, e5, e6⟩, e7, e8, e9, ⟨e10, e11⟩, ⟨e12, e13⟩, e14⟩ := HCC.out _ (Below.refl _ _)
       have HIK : Hid (∀ W', Below W.heap.size W W' → W'.heap[w1.heap.size]? = some (.cells #[.int .i64 cnt] 3 (0, 0)) ∧ W'.heap[w1.heap.size + 1]? = some (.cells #[.pointer (some ⟨gp, 0, none⟩)] 77 (0, 0)) ∧ W'.heap[w.heap.size]? = some (.cells #[.pointer (some ⟨gp, 0, none⟩)] 77 (0, 0)) ∧ W'.heap[w.heap.size + 1]? = some (.cells #[.int .i64 a.row, .int .i64 a.col] 36 (0, 0)) ∧ W'.heap[w.heap.size + 1 + 1]? = some (.cells #[.int .i64 b.row, .int .i64 b.col] 36 (0, 0)) ∧ W'.heap[w.heap.size + 1 + 1 + 1]? = some (.cells #[.func (.func hf) #[] caps] 190 (0, 0)) ∧ Keeps F w W') := fun W' hb' => by
        have hk : ∀ {k : Nat} {c : Array Value} {t : TypeId}, W.heap[k]? = some (.cells c t (0, 0)) → W'.heap[k]? = some (.cells c t (0, 0)) := fun {k c t} h => (hb'.block _ (block_lt h)).trans h
        obtain ⟨i0, i1, i2, i3, i4, i5⟩ := HI.out
        exact ⟨hk i0, hk i1, hk i2, hk i3, hk i4, hk i5, HKW.out.trans (Keeps.of_below hb' : Keeps F W W') (fun k hk => .inl hk)⟩
       have HEND : Hid (∀ W', Below W.heap.size W W' → (within a b (pr : Int) (pc : Int) = false ∨ φ cl = cl) → ∀ act, ownPostG ((w1.alloc (.cells #[.int .i64 0] 3)).alloc (.cells #[.pointer (some ⟨gp, 0, none⟩)] 77)).heap.size (KpC (w1.heap.size + 1 + 1)) (fun pre W => Grid W gp F (turnK D a b φ pre.length) ∧ (∃ cnt : Nat, cnt ≤ pre.length ∧ W.heap[w1.heap.size]? = some (.cells #[.int .i64 cnt] 3 (0, 0))) ∧ W.heap[w1.heap.size + 1]? = some (.cells #[.pointer (some ⟨gp, 0, none⟩)] 77 (0, 0)) ∧ W.heap[w.heap.size]? = some (.cells #[.pointer (some ⟨gp, 0, none⟩)] 77 (0, 0)) ∧ W.heap[w.heap.size + 1]? = some (.cells #[.int .i64 a.row, .int .i64 a.col] 36 (0, 0)) ∧ W.heap[w.heap.size + 1 + 1]? = some (.cells #[.int .i64 b.row, .int .i64 b.col] 36 (0, 0)) ∧ W.heap[w.heap.size + 1 + 1 + 1]? = some (.cells #[.func (.func hf) #[] caps] 190 (0, 0)) ∧ Keeps F w W) (fun _ _ _ => False) (pre ++ [(pre.length, cl)]) W .normal act W') := fun W' hb' hst act => by
        obtain ⟨i0, i1, i2, i3, i4, i5, i6⟩ := HIK.out W' hb'
        refine ⟨(Keeps.of_below hb' : Keeps F W W').from (fun k hk => ?_), KpC.of_below hb', ?_, ⟨cnt, ?_, i0⟩, i1, i2, i3, i4, i5, i6⟩
        · have := HLT.out k hk
          simp
          omega
        · rw [HLEN.out]
          exact HSTAY.out _ hst (HG.out.below hb')
        · rw [HLEN.out]
          omega
       have HEND2 : Hid (∀ w5 w6 : World, Below W.heap.size W w5 → Keeps F (w5.setCell ⟨w1.heap.size, 0, none⟩ (.int .i64 ((cnt : Int) + 1))) w6 → Grid w6 gp F ((turnK D a b φ pre.length).set pr pc (φ cl)) → within a b (pr : Int) (pc : Int) = true → ∀ act, ownPostG ((w1.alloc (.cells #[.int .i64 0] 3)).alloc (.cells #[.pointer (some ⟨gp, 0, none⟩)] 77)).heap.size (KpC (w1.heap.size + 1 + 1)) (fun pre W => Grid W gp F (turnK D a b φ pre.length) ∧ (∃ cnt : Nat, cnt ≤ pre.length ∧ W.heap[w1.heap.size]? = some (.cells #[.int .i64 cnt] 3 (0, 0))) ∧ W.heap[w1.heap.size + 1]? = some (.cells #[.pointer (some ⟨gp, 0, none⟩)] 77 (0, 0)) ∧ W.heap[w.heap.size]? = some (.cells #[.pointer (some ⟨gp, 0, none⟩)] 77 (0, 0)) ∧ W.heap[w.heap.size + 1]? = some (.cells #[.int .i64 a.row, .int .i64 a.col] 36 (0, 0)) ∧ W.heap[w.heap.size + 1 + 1]? = some (.cells #[.int .i64 b.row, .int .i64 b.col] 36 (0, 0)) ∧ W.heap[w.heap.size + 1 + 1 + 1]? = some (.cells #[.func (.func hf) #[] caps] 190 (0, 0)) ∧ Keeps F w W) (fun _ _ _ => False) (pre ++ [(pre.length, cl)]) W .normal act w6) := fun w5 w6 hb' hk6 hg6 hwi act => by
        obtain ⟨i0, i1, i2, i3, i4, i5, i6⟩ := HIK.out w5 hb'
        have hlt : ∀ k, F k → k < w1.heap.size := fun k hk => by have := HLT.out k hk; omega
        have hs : ∀ {k : Nat} {o : Obj}, w5.heap[k]? = some o → k ≠ w1.heap.size → ¬ F k → w6.heap[k]? = some o := fun {k o} h hn hf => (hk6.block k (by rw [World.size_setCell]; exact block_lt h) hf).trans ((heap_setCell_other _ _ _ _ hn).trans h)
        have hb : ∀ k, w.heap.size ≤ k → ¬ F k := fun k hk hf => by have := HLT.out k hf; omega
        refine ⟨((Keeps.of_below hb' : Keeps F W w5).from (fun k hk => ?_)).trans (((KeepsOthers.setCell _ _ _).from _).trans (hk6.from (fun k hk => ?_))), (KpC.of_below hb').trans (KpC.trans (fun k c t fr hk h => (heap_setCell_other _ _ _ _ (by show k ≠ w1.heap.size; omega)).trans h) (hk6.kpC (fun k hk => by have := hlt k hk; omega))), ?_, ⟨cnt + 1, ?_, ?_⟩, hs i1 (by omega) (hb _ (by omega)), hs i2 (by omega) (hb _ (by omega)), hs i3 (by omega) (hb _ (by omega)), hs i4 (by omega) (hb _ (by omega)), hs i5 (by omega) (hb _ (by omega)), ?_⟩
        · have := HLT.out k hk
          simp
          omega
        · have := HLT.out k hk
          simp
          omega
        · rw [HLEN.out]
          exact HSETS.out _ hwi hg6
        · rw [HLEN.out]
          omega
        · have := (hk6.block w1.heap.size (by rw [World.size_setCell]; exact block_lt i0) (hb _ (by omega))).trans (set_one i0 (.int .i64 ((cnt : Int) + 1)))
          rw [this]
          rfl
        · exact (i6.setCellBox (by omega) _).trans hk6 fun k hk => .inl hk
       have HWA : Hid (∀ W' : World, Below W.heap.size W W' → w.heap.size ≤ W'.heap.size) := fun W' hb' => by have := hb'.size; omega
       cases hr1 : aheadB (pr : Int) (pc : Int) a.row a.col
       · cases hr2 : aheadB b.row b.col (pr : Int) (pc : Int)
         · have hwi : Hid (within a b (pr : Int) (pc : Int) = true) := by rw [Hid, HWI.out, hr1, hr2]; rfl
           gi_wp2_with (first
         | (refine ⟨trivial, (fun h => by cases h), ?_⟩; gi_at_call 152; refine (CallsIn.inRound l (callsIn_wide.2 (HAG.out _ _ _ _ _))).mono ?_; (first | rw [hr1] | rw [hr2]); rintro e wA ⟨rfl, hwA⟩; have HBn := Lib.hid (show Below W.heap.size W wA from by rw [hwA]; exact Below.later HBc.out (Grows.below (((Grows.refl _).alloc _).alloc _)) HBc.out.size); clear hwA e1 e2 e3 e4 e5 e6 e7 e8 e9 e10 e11 e12 e13 e14 HBc; have HBc := HBn; clear HBn; obtain ⟨e1, e2, ⟨e3, e4, e5, e6⟩, e7, e8, e9, ⟨e10, e11⟩, ⟨e12, e13⟩, e14⟩ := HCC.out _ HBc.out)
         | (refine ⟨trivial, (fun h => by cases h), ?_⟩; gi_at_call 126; refine (CallsIn.inRound l (callsIn_wide.2 (HST.out _ _ _ _ _ (HG5.out _) (by first | rfl | (symm; assumption)) (by first | rfl | (symm; assumption)) (by first | rfl | (symm; assumption)) (by first | rfl | (symm; assumption))))).mono ?_; rintro e w6 ⟨rfl, hg6, hk6⟩; have HG6 := Lib.hid hg6; have HK6 := Lib.hid hk6; clear hg6 hk6)
         | (refine ⟨trivial, (fun h => by cases h), ?_⟩; refine (CallsIn.inRound l (callsIn_wide.2 (HHW.out _ wA.heap.size (HBc.out.alloc HBc.out.size _) (HWA.out _ HBc.out) (heap_alloc_new _ _)))).mono ?_; rintro e w5 ⟨rfl, hx5, hz5, hk5⟩; have HB5 := Lib.hid (show Below W.heap.size W w5 from (HBc.out.alloc HBc.out.size _).trans (hk5.below (fun k hk => by rw [hk]; exact HBc.out.size) (Nat.le_trans HBc.out.size (by simp)))); clear e1 e2 e3 e4 e5 e6 e7 e8 e9 e10 e11 e12 e13 e14; obtain ⟨e1, e2, ⟨e3, e4, e5, e6⟩, e7, e8, e9, ⟨e10, e11⟩, ⟨e12, e13⟩, e14⟩ := HCC.out _ HB5.out; obtain ⟨s3, s4, s5, s6⟩ := cell4 hx5; clear hx5 hz5 hk5; have HFar : ∀ (v : Value) (k o : Nat) (u : Value), k ≠ w1.heap.size → w5.cell? ⟨k, o, none⟩ = some u → (w5.setCell ⟨w1.heap.size, 0, none⟩ v).cell? ⟨k, o, none⟩ = some u := (fun v k o u hk h => (World.cell?_setCell_far _ _ _ _ (by show w1.heap.size ≠ k; omega)).trans h); have t1 := (fun v => HFar v bb 0 _ (by omega) e1); have t2 := (fun v => HFar v bb 1 _ (by omega) e2); have t3 := (fun v => HFar v wA.heap.size 0 _ (by have := HBc.out.size; omega) s3); have t4 := (fun v => HFar v wA.heap.size 1 _ (by have := HBc.out.size; omega) s4); have t5 := (fun v => HFar v wA.heap.size 2 _ (by have := HBc.out.size; omega) s5); have t6 := (fun v => HFar v wA.heap.size 3 _ (by have := HBc.out.size; omega) s6); have t7 := (fun v => HFar v w.heap.size 0 _ (by omega) e9); clear HFar; have HG5 := Lib.hid (fun v : Value => (HG.out.below HB5.out).setBox (b := w1.heap.size) (fun k hk => by have := HLT.out k hk; omega) v))
         | refine ⟨trivial, ?_⟩)
           all_goals first
            | exact HEND.out _ HB5.out (.inr (Cl.same (by first | assumption | (symm; assumption)) (by first | assumption | (symm; assumption)) (by first | assumption | (symm; assumption)) (by first | assumption | (symm; assumption)))) _
            | exact HEND2.out _ _ HB5.out HK6.out HG6.out hwi.out _
         · gi_wp2_with (first
         | (refine ⟨trivial, (fun h => by cases h), ?_⟩; gi_at_call 152; refine (CallsIn.inRound l (callsIn_wide.2 (HAG.out _ _ _ _ _))).mono ?_; (first | rw [hr1] | rw [hr2]); rintro e wA ⟨rfl, hwA⟩; have HBn := Lib.hid (show Below W.heap.size W wA from by rw [hwA]; exact Below.later HBc.out (Grows.below (((Grows.refl _).alloc _).alloc _)) HBc.out.size); clear hwA e1 e2 e3 e4 e5 e6 e7 e8 e9 e10 e11 e12 e13 e14 HBc; have HBc := HBn; clear HBn; obtain ⟨e1, e2, ⟨e3, e4, e5, e6⟩, e7, e8, e9, ⟨e10, e11⟩, ⟨e12, e13⟩, e14⟩ := HCC.out _ HBc.out)
         | (refine ⟨trivial, (fun h => by cases h), ?_⟩; gi_at_call 126; refine (CallsIn.inRound l (callsIn_wide.2 (HST.out _ _ _ _ _ (HG5.out _) (by first | rfl | (symm; assumption)) (by first | rfl | (symm; assumption)) (by first | rfl | (symm; assumption)) (by first | rfl | (symm; assumption))))).mono ?_; rintro e w6 ⟨rfl, hg6, hk6⟩; have HG6 := Lib.hid hg6; have HK6 := Lib.hid hk6; clear hg6 hk6)
         | (refine ⟨trivial, (fun h => by cases h), ?_⟩; refine (CallsIn.inRound l (callsIn_wide.2 (HHW.out _ wA.heap.size (HBc.out.alloc HBc.out.size _) (HWA.out _ HBc.out) (heap_alloc_new _ _)))).mono ?_; rintro e w5 ⟨rfl, hx5, hz5, hk5⟩; have HB5 := Lib.hid (show Below W.heap.size W w5 from (HBc.out.alloc HBc.out.size _).trans (hk5.below (fun k hk => by rw [hk]; exact HBc.out.size) (Nat.le_trans HBc.out.size (by simp)))); clear e1 e2 e3 e4 e5 e6 e7 e8 e9 e10 e11 e12 e13 e14; obtain ⟨e1, e2, ⟨e3, e4, e5, e6⟩, e7, e8, e9, ⟨e10, e11⟩, ⟨e12, e13⟩, e14⟩ := HCC.out _ HB5.out; obtain ⟨s3, s4, s5, s6⟩ := cell4 hx5; clear hx5 hz5 hk5; have HFar : ∀ (v : Value) (k o : Nat) (u : Value), k ≠ w1.heap.size → w5.cell? ⟨k, o, none⟩ = some u → (w5.setCell ⟨w1.heap.size, 0, none⟩ v).cell? ⟨k, o, none⟩ = some u := (fun v k o u hk h => (World.cell?_setCell_far _ _ _ _ (by show w1.heap.size ≠ k; omega)).trans h); have t1 := (fun v => HFar v bb 0 _ (by omega) e1); have t2 := (fun v => HFar v bb 1 _ (by omega) e2); have t3 := (fun v => HFar v wA.heap.size 0 _ (by have := HBc.out.size; omega) s3); have t4 := (fun v => HFar v wA.heap.size 1 _ (by have := HBc.out.size; omega) s4); have t5 := (fun v => HFar v wA.heap.size 2 _ (by have := HBc.out.size; omega) s5); have t6 := (fun v => HFar v wA.heap.size 3 _ (by have := HBc.out.size; omega) s6); have t7 := (fun v => HFar v w.heap.size 0 _ (by omega) e9); clear HFar; have HG5 := Lib.hid (fun v : Value => (HG.out.below HB5.out).setBox (b := w1.heap.size) (fun k hk => by have := HLT.out k hk; omega) v))
         | refine ⟨trivial, ?_⟩)
           exact HEND.out _ HBc.out (.inl (by rw [HWI.out, hr1, hr2]; rfl)) _
       · gi_wp2_with (first
         | (refine ⟨trivial, (fun h => by cases h), ?_⟩; gi_at_call 152; refine (CallsIn.inRound l (callsIn_wide.2 (HAG.out _ _ _ _ _))).mono ?_; (first | rw [hr1] | rw [hr2]); rintro e wA ⟨rfl, hwA⟩; have HBn := Lib.hid (show Below W.heap.size W wA from by rw [hwA]; exact Below.later HBc.out (Grows.below (((Grows.refl _).alloc _).alloc _)) HBc.out.size); clear hwA e1 e2 e3 e4 e5 e6 e7 e8 e9 e10 e11 e12 e13 e14 HBc; have HBc := HBn; clear HBn; obtain ⟨e1, e2, ⟨e3, e4, e5, e6⟩, e7, e8, e9, ⟨e10, e11⟩, ⟨e12, e13⟩, e14⟩ := HCC.out _ HBc.out)
         | (refine ⟨trivial, (fun h => by cases h), ?_⟩; gi_at_call 126; refine (CallsIn.inRound l (callsIn_wide.2 (HST.out _ _ _ _ _ (HG5.out _) (by first | rfl | (symm; assumption)) (by first | rfl | (symm; assumption)) (by first | rfl | (symm; assumption)) (by first | rfl | (symm; assumption))))).mono ?_; rintro e w6 ⟨rfl, hg6, hk6⟩; have HG6 := Lib.hid hg6; have HK6 := Lib.hid hk6; clear hg6 hk6)
         | (refine ⟨trivial, (fun h => by cases h), ?_⟩; refine (CallsIn.inRound l (callsIn_wide.2 (HHW.out _ wA.heap.size (HBc.out.alloc HBc.out.size _) (HWA.out _ HBc.out) (heap_alloc_new _ _)))).mono ?_; rintro e w5 ⟨rfl, hx5, hz5, hk5⟩; have HB5 := Lib.hid (show Below W.heap.size W w5 from (HBc.out.alloc HBc.out.size _).trans (hk5.below (fun k hk => by rw [hk]; exact HBc.out.size) (Nat.le_trans HBc.out.size (by simp)))); clear e1 e2 e3 e4 e5 e6 e7 e8 e9 e10 e11 e12 e13 e14; obtain ⟨e1, e2, ⟨e3, e4, e5, e6⟩, e7, e8, e9, ⟨e10, e11⟩, ⟨e12, e13⟩, e14⟩ := HCC.out _ HB5.out; obtain ⟨s3, s4, s5, s6⟩ := cell4 hx5; clear hx5 hz5 hk5; have HFar : ∀ (v : Value) (k o : Nat) (u : Value), k ≠ w1.heap.size → w5.cell? ⟨k, o, none⟩ = some u → (w5.setCell ⟨w1.heap.size, 0, none⟩ v).cell? ⟨k, o, none⟩ = some u := (fun v k o u hk h => (World.cell?_setCell_far _ _ _ _ (by show w1.heap.size ≠ k; omega)).trans h); have t1 := (fun v => HFar v bb 0 _ (by omega) e1); have t2 := (fun v => HFar v bb 1 _ (by omega) e2); have t3 := (fun v => HFar v wA.heap.size 0 _ (by have := HBc.out.size; omega) s3); have t4 := (fun v => HFar v wA.heap.size 1 _ (by have := HBc.out.size; omega) s4); have t5 := (fun v => HFar v wA.heap.size 2 _ (by have := HBc.out.size; omega) s5); have t6 := (fun v => HFar v wA.heap.size 3 _ (by have := HBc.out.size; omega) s6); have t7 := (fun v => HFar v w.heap.size 0 _ (by omega) e9); clear HFar; have HG5 := Lib.hid (fun v : Value => (HG.out.below HB5.out).setBox (b := w1.heap.size) (fun k hk => by have := HLT.out k hk; omega) v))
         | refine ⟨trivial, ?_⟩)
         exact HEND.out _ HBc.out (.inl (by rw [HWI.out, hr1]; rfl)) _
      case done =>
       rintro E ys W hE ⟨hS, hS2⟩ ⟨hg, ⟨cnt, hc1, hc2⟩, i1, i2, i3, i4, i5, hK⟩ hKK
       have hcnt : W.cell? ⟨w1.heap.size, 0, none⟩ = some (.int .i64 cnt) := cell_row hc2 0
       rw [hS] at hg
       gi_wp2
       refine ⟨by simp, .inl ⟨_, _, rfl, run_takeDeferred hKK, ?_⟩⟩
       have hh := grownBy_putObj' W E (.deferred none)
       refine ⟨.tuple #[.int .i64 cnt, .int .i64 0], by simp [results, Tryz.results137, go_sem], ⟨⟨cnt, rfl⟩, turnK_done (grid_own (n := 0) hg hh (fun r e => ?_)), keeps_own (n := w.heap.size) (Nat.le_refl _) hK hh (fun r e => ?_)⟩⟩
       · cases e
         exact ⟨Nat.zero_le _, _, hKK, rfl⟩
       · cases e
         exact ⟨by simp at hE; omega, _, hKK, rfl⟩
      case stop =>
       rintro E c pre W hE hpre hF
       exact hF.elim
    · gi_wp2_with (refine ⟨trivial, ?_⟩; gi_at_call 152; refine (callsIn_wide.2 (HAH.out _)).mono ?_; rw [hah]; rintro e w1 ⟨rfl, hw1⟩; have HB1 := Lib.hid (show Below (w.heap.size + 1 + 1 + 1 + 1 + 1) _ w1 from by rw [hw1]; exact Below.later HBK.out (Grows.below (((Grows.refl wr).alloc _).alloc _)) (Nat.le_trans (by simp) HBK.out.size)); clear hw1 g0 p0 p1 q0 q1 s0 s1 s2 s3; obtain ⟨y0, y1, y2, y3, y4⟩ := HBX.out _ HB1.out; have g0 : w1.cell? ⟨w.heap.size, 0, none⟩ = some (.pointer (some ⟨gp, 0, none⟩)) := cell_row y0 0)
      refine ⟨.tuple #[.int .i64 0, .int .i64 1], by simp [results, Tryz.results137, go_sem], ⟨0, rfl⟩, H.out.below (HBB.out _ HB1.out), Keeps.of_below (HBB.out _ HB1.out)⟩
end
section
attribute [local go_sem] alloc_drewN setCell_drewN World.cell?_alloc_some frozen_alloc_some size_f0 size_f1
theorem turn_ok (gp : Nat) (F : Nat → Prop) (D : Vz.Gd) (a b : Vz.Ps) (hf : Nat) (caps : Array Value) (φ : Vz.Cl → Vz.Cl) (w : World) (h : Grid w gp F D) (ha : a.inS D.R D.C) (hb : b.inS D.R D.C) (hh : HowC F w hf caps φ) (heg : ∀ (args : Array Value) (W : World), Sem.run Tryz.prog (callFunc hf args) W = .ok (.enter hf args) W) :
 Calls Tryz.prog 137 #[.pointer (some ⟨gp, 0, none⟩), .agg #[.int .i64 a.row, .int .i64 a.col], .agg #[.int .i64 b.row, .int .i64 b.col], .func (.func hf) #[] caps] w fun e w' => (∃ c : Int, e = .returned (.tuple #[.int .i64 c, .int .i64 (if aheadB b.row b.col a.row a.col = true then 1 else 0)])) ∧ Grid w' gp F (if aheadB b.row b.col a.row a.col = true then D else turnD D a b φ) ∧ Keeps F w w' :=
 callsIn_wide.1 (turn_in 3 (Nat.le_refl _) gp F D a b hf caps φ w h ha hb hh heg)
def wipeD (D : Vz.Gd) (a b : Vz.Ps) (c : Vz.Cl) (gd : Bool) : Vz.Gd := if aheadB b.row b.col a.row a.col = true then D else turnD D a b (wipeX gd c)
theorem wipe_ok (gp : Nat) (F : Nat → Prop) (D : Vz.Gd) (a b : Vz.Ps) (c : Vz.Cl) (gd : Bool) (w : World) (h : Grid w gp F D) (ha : a.inS D.R D.C) (hb : b.inS D.R D.C) :
 Calls Tryz.prog 113 #[.pointer (some ⟨gp, 0, none⟩), .agg #[.int .i64 a.row, .int .i64 a.col], .agg #[.int .i64 b.row, .int .i64 b.col], .agg #[.int .i32 c.g, .int .i64 c.a, .bool c.gd, .int .i64 c.m], .bool gd] w fun e w' => (∃ n k : Int, e = .returned (.tuple #[.int .i64 n, .int .i64 k])) ∧ Grid w' gp F (wipeD D a b c gd) ∧ Keeps F w w' := by
 have hlt := h.lt
 have hmf : ∀ (fn : Fn) (first cap : Array Value) (w : World), (Instr.makeFunc fn first cap).run Tryz.prog w = .ok (.func fn first cap) w := fun _ _ _ _ => rfl
 have HB0 : Hid (Below w.heap.size w ((((w.alloc (.cells #[.int .i64 a.row, .int .i64 a.col] 36)).alloc (.cells #[.int .i64 b.row, .int .i64 b.col] 36)).alloc (.cells (cellB c) 56)).alloc (.cells #[.bool gd] 4))) := Grows.below (((((Grows.refl w).alloc _).alloc _).alloc _).alloc _)
 have HT : Hid (Calls Tryz.prog 137 #[.pointer (some ⟨gp, 0, none⟩), .agg #[.int .i64 a.row, .int .i64 a.col], .agg #[.int .i64 b.row, .int .i64 b.col], .func (.func 138) #[] #[.pointer (some ⟨w.heap.size + 1 + 1 + 1, 0, none⟩), .pointer (some ⟨w.heap.size + 1 + 1, 0, none⟩)]] ((((w.alloc (.cells #[.int .i64 a.row, .int .i64 a.col] 36)).alloc (.cells #[.int .i64 b.row, .int .i64 b.col] 36)).alloc (.cells (cellB c) 56)).alloc (.cells #[.bool gd] 4)) fun e w' => (∃ c : Int, e = .returned (.tuple #[.int .i64 c, .int .i64 (if aheadB b.row b.col a.row a.col = true then 1 else 0)])) ∧ Grid w' gp F (wipeD D a b c gd) ∧ Keeps F ((((w.alloc (.cells #[.int .i64 a.row, .int .i64 a.col] 36)).alloc (.cells #[.int .i64 b.row, .int .i64 b.col] 36)).alloc (.cells (cellB c) 56)).alloc (.cells #[.bool gd] 4)) w') := by
  have h1 := (Has.nil w.heap.size 0 w).alloc (Nat.le_refl _) (.cells #[.int .i64 a.row, .int .i64 a.col] 36)
  have h2 := h1.alloc (by simp) (.cells #[.int .i64 b.row, .int .i64 b.col] 36)
  have h3 := h2.alloc (by simp; omega) (.cells (cellB c) 56)
  have h4 := h3.alloc (by simp; omega) (.cells #[.bool gd] 4)
  simp only [World.size_alloc] at h4
  exact turn_ok gp F D a b _ _ (wipeX gd c) _ (h.below HB0.out) ha hb (how_wipe F _ (w.heap.size + 1 + 1 + 1) (w.heap.size + 1 + 1) gd c ⟨fun hf => by have := hlt _ hf; omega, fun hf => by have := hlt _ hf; omega⟩ (h4.nth 0 rfl) (h4.nth 1 rfl)) (enters_of Tryz.func138 (by kernel_rfl) rfl)
 obtain ⟨n0, n1, n2, n3, _⟩ := box4 (Below.refl ((((w.alloc (.cells #[.int .i64 a.row, .int .i64 a.col] 36)).alloc (.cells #[.int .i64 b.row, .int .i64 b.col] 36)).alloc (.cells (cellB c) 56)).alloc (.cells #[.bool gd] 4)).heap.size _)
 obtain ⟨p0, p1, _⟩ := row2 n0
 obtain ⟨q0, q1, _⟩ := row2 n1
 clear n0 n1 n2 n3 h ha hb
 generalize wipeD D a b c gd = D' at *
 generalize (if aheadB b.row b.col a.row a.col = true then (1 : Int) else 0) = k at *
 unfold cellB at *
 go_enter Tryz.func113, Tryz.ntmps113
 go_wp2_with (go_at_call 137; refine HT.out.mono ?_; rintro e w1 ⟨⟨n, rfl⟩, hg, hk⟩)
 refine bodyPost_ret (v := .tuple #[.int .i64 n, .int .i64 k]) (by simp [results, Tryz.results113, go_sem]) rfl ⟨⟨n, k, rfl⟩, hg, (Keeps.of_below HB0.out).trans hk fun k hk => .inl hk⟩
theorem index_ok (R C i j : Nat) (hm : Vz.mayS R C = true) (hi : i < R) (hj : j < C) (w : World) : Calls Tryz.prog 127 #[.agg #[.int .i64 R, .int .i64 C], .agg #[.int .i64 i, .int .i64 j]] w fun e w' => e = .returned (.tuple #[.int .i64 ((i * C + j : Nat) : Int), .int .i64 0]) ∧ Below w.heap.size w w' := by
 have hmm := (Vz.mayS_iff R C).1 hm
 obtain ⟨m1, m2, m3, m4⟩ := hmm
 have HM := Lib.hid (may_ok R C hm)
 have HN := Lib.hid (near_pos R C i j)
 have hid : Vz.nearP R C ⟨i, j⟩ = ⟨i, j⟩ := Vz.nearP_id R C ⟨i, j⟩ hm ⟨Int.natCast_nonneg _, Int.ofNat_lt.2 hi, Int.natCast_nonneg _, Int.ofNat_lt.2 hj⟩
 rw [hid] at HN
 have hmul : i * C ≤ 255 * 255 := Nat.mul_le_mul (by omega) (by omega)
 have hw1 : IntKind.i64.wrap ((i : Int) * (C : Int)) = ((i * C : Nat) : Int) := by rw [← Int.natCast_mul]; exact wrap_in (by omega) (by omega)
 have hw2 : IntKind.i64.wrap (((i * C : Nat) : Int) + (j : Int)) = ((i * C + j : Nat) : Int) := by rw [← Int.natCast_add]; exact wrap_in (by omega) (by omega)
 clear hid hm
 have HX : Hid (∀ W, Below (w.heap.size + 1 + 1) ((w.alloc (.cells #[.int .i64 R, .int .i64 C] 23)).alloc (.cells #[.int .i64 i, .int .i64 j] 36)) W → W.heap[w.heap.size]? = some (.cells #[.int .i64 R, .int .i64 C] 23 (0, 0)) ∧ W.heap[w.heap.size + 1]? = some (.cells #[.int .i64 i, .int .i64 j] 36 (0, 0)) ∧ Below w.heap.size w W) := fun W hb => box2 (hb.mono (by simp))
 have HLE : Hid (∀ W, Below (w.heap.size + 1 + 1) ((w.alloc (.cells #[.int .i64 R, .int .i64 C] 23)).alloc (.cells #[.int .i64 i, .int .i64 j] 36)) W → w.heap.size + 1 + 1 ≤ W.heap.size) := fun W hb => Nat.le_trans (by simp) hb.size
 generalize hk : i * C = k at *
 clear hk hmul
 go_enter Tryz.func127, Tryz.ntmps127
 go_upto_region 4 with (go_at_call 74; refine (HM.out _).mono ?_; rintro e w1 ⟨rfl, hw1⟩; have HB1 := Lib.hid (show Below (w.heap.size + 1 + 1) ((w.alloc (.cells #[.int .i64 R, .int .i64 C] 23)).alloc (.cells #[.int .i64 i, .int .i64 j] 36)) w1 from by rw [← hw1]; exact (Below.refl _ _).alloc (by simp) _); clear hw1)
 have HD1 := Lib.hid HB1.out.drew
 refine wp_region_noPanic ?_
 refine wp_region_k (S := fun W' : World => Below (w.heap.size + 1 + 1) ((w.alloc (.cells #[.int .i64 R, .int .i64 C] 23)).alloc (.cells #[.int .i64 i, .int .i64 j] 36)) W') 4 (by kernel_rfl) (HD1.out) (fun hHeld => ?_)
 refine kTK (v := ?_) 0 [2] hHeld ?y1 ?_
 case y1 => (intro W hSw; obtain ⟨x0, x1, _⟩ := HX.out _ hSw; obtain ⟨p0, p1, _⟩ := row2 x0; obtain ⟨q0, q1, _⟩ := row2 x1; go_simp; try with_reducible rfl)
 refine kTK (v := ?_) 1 [2] hHeld ?y2 ?_
 case y2 => (intro W hSw; obtain ⟨x0, x1, _⟩ := HX.out _ hSw; obtain ⟨p0, p1, _⟩ := row2 x0; obtain ⟨q0, q1, _⟩ := row2 x1; go_simp; try with_reducible rfl)
 refine kTK (v := ?_) 3 [] hHeld ?y3 ?_
 case y3 => (intro W hSw; obtain ⟨x0, x1, _⟩ := HX.out _ hSw; obtain ⟨p0, p1, _⟩ := row2 x0; obtain ⟨q0, q1, _⟩ := row2 x1; go_simp; try with_reducible rfl)
 try refine kNK ?_
 refine kOK 2 fun KQ hKQ => ?_
 go_simp
 go_at_call 91
 refine (HN.out _).mono ?_
 rintro e w2 ⟨rfl, hg⟩
 have HB2 := Lib.hid (hHeld.trans (hg.below.mono (HLE.out _ hHeld)))
 clear hg
 go_wp2_with fail
 refine hKQ.out _ _ (HB2.out) ?_
 clear hHeld hKQ KQ
 intro hHeld
 try refine kNK ?_
 refine kPK 4 fun KQ hKQ => ?_
 go_simp
 refine hKQ.out _ _ ?_
 clear hKQ KQ
 try refine kNK ?_
 refine wpAnyK_done (by kernel_rfl) ?_ _
 refine NoPanic.normal ?_
 obtain ⟨x0, x1, x2⟩ := HX.out _ HB2.out
 obtain ⟨p0, p1, _⟩ := row2 x0
 obtain ⟨q0, q1, _⟩ := row2 x1
 have HE := Lib.hid x2
 clear x0 x1 x2
 go_wp2_with fail
 refine bodyPost_ret (v := .tuple #[.int .i64 ((k + j : Nat) : Int), .int .i64 0]) (by simp [results, Tryz.results127, go_sem]) rfl ⟨rfl, HE.out⟩
theorem of_ok (R C n : Nat) (hm : Vz.mayS R C = true) (hn : n < R * C) (w : World) : Calls Tryz.prog 128 #[.agg #[.int .i64 R, .int .i64 C], .int .i64 n] w fun e w' => e = .returned (.tuple #[.agg #[.int .i64 ((n / C : Nat) : Int), .int .i64 ((n % C : Nat) : Int)], .int .i64 0]) ∧ Below w.heap.size w w' := by
 have hmm := (Vz.mayS_iff R C).1 hm
 obtain ⟨m1, m2, m3, m4⟩ := hmm
 have HM := Lib.hid (may_ok R C hm)
 have hmul : R * C ≤ 255 * 255 := Nat.mul_le_mul (by omega) (by omega)
 have hw1 : IntKind.i64.wrap ((R : Int) * (C : Int)) = ((R * C : Nat) : Int) := by rw [← Int.natCast_mul]; exact wrap_in (by omega) (by omega)
 have hd : Int.tdiv (n : Int) (C : Int) = ((n / C : Nat) : Int) := by rw [Int.tdiv_eq_ediv_of_nonneg (by omega)]; rfl
 have hr : Int.tmod (n : Int) (C : Int) = ((n % C : Nat) : Int) := by rw [Int.tmod_eq_emod_of_nonneg (by omega)]; rfl
 have hdl : n / C ≤ n := Nat.div_le_self _ _
 have hrl : n % C ≤ n := Nat.mod_le _ _
 have hC0 : ¬ C = 0 := by omega
 generalize n / C = nd at *
 generalize n % C = nr at *
 have hw2 : IntKind.i64.wrap (nd : Int) = (nd : Int) := wrap_in (by omega) (by omega)
 have hw3 : IntKind.i64.wrap (nr : Int) = (nr : Int) := wrap_in (by omega) (by omega)
 clear hm
 have HX : Hid (∀ W, Below (w.heap.size + 1 + 1) ((w.alloc (.cells #[.int .i64 R, .int .i64 C] 23)).alloc (.cells #[.int .i64 0, .int .i64 0] 36)) W → W.heap[w.heap.size]? = some (.cells #[.int .i64 R, .int .i64 C] 23 (0, 0)) ∧ W.heap[w.heap.size + 1]? = some (.cells #[.int .i64 0, .int .i64 0] 36 (0, 0)) ∧ Below w.heap.size w W) := fun W hb => box2 (hb.mono (by simp))
 generalize hk : R * C = k at *
 clear hk hmul
 go_enter Tryz.func128, Tryz.ntmps128
 go_upto_region 6 with (go_at_call 74; refine (HM.out _).mono ?_; rintro e w1 ⟨rfl, hw1⟩; have HB1 := Lib.hid (show Below (w.heap.size + 1 + 1) ((w.alloc (.cells #[.int .i64 R, .int .i64 C] 23)).alloc (.cells #[.int .i64 0, .int .i64 0] 36)) w1 from by rw [← hw1]; exact (Below.refl _ _).alloc (by simp) _); clear hw1; obtain ⟨x0, x1, x2⟩ := HX.out _ HB1.out; obtain ⟨p0, p1, _⟩ := row2 x0; obtain ⟨q0, q1, f0, f1⟩ := row2 x1; have HT := Lib.hid x1; have HE := Lib.hid x2; clear x0 x1 x2)
 have HD1 := Lib.hid HB1.out.drew
 have hT := HT.out
 refine wp_region_noPanic ?_
 refine wp_region_k (S := fun W' : World => Below (w.heap.size + 1 + 1) ((w.alloc (.cells #[.int .i64 R, .int .i64 C] 23)).alloc (.cells #[.int .i64 0, .int .i64 0] 36)) W') 9 (by kernel_rfl) (HD1.out) (fun hHeld => ?_)
 refine kSK 0 hHeld ?_
 refine kSK 1 hHeld ?_
 refine kTK (v := ?_) 2 [] hHeld ?y3 ?_
 case y3 => (intro W hSw; obtain ⟨x0, x1, _⟩ := HX.out _ hSw; obtain ⟨p0, p1, _⟩ := row2 x0; obtain ⟨q0, q1, _⟩ := row2 x1; go_simp; try with_reducible rfl)
 refine kSK 3 hHeld ?_
 refine kSK 4 hHeld ?_
 try refine kNK ?_
 refine kSK 5 hHeld ?_
 refine kTK (v := ?_) 6 [] hHeld ?y7 ?_
 case y7 => (intro W hSw; obtain ⟨x0, x1, _⟩ := HX.out _ hSw; obtain ⟨p0, p1, _⟩ := row2 x0; obtain ⟨q0, q1, _⟩ := row2 x1; go_simp; try with_reducible rfl)
 refine kSK 7 hHeld ?_
 refine kSK 8 hHeld ?_
 try refine kNK ?_
 refine kPK 9 fun KQ hKQ => ?_
 go_simp
 refine hKQ.out _ _ ?_
 clear hKQ KQ
 try refine kNK ?_
 refine kBK 10 ?_
 try refine kNK ?_
 refine wpAnyK_done (by kernel_rfl) ?_ _
 refine NoPanic.normal ?_
 go_wp2_with fail
 obtain ⟨r0, r1, _⟩ := row2 (set_two HT.out (.int .i64 (nd : Int)) (.int .i64 (nr : Int)))
 refine bodyPost_ret (v := .tuple #[.agg #[.int .i64 (nd : Int), .int .i64 (nr : Int)], .int .i64 0]) (by simp [results, Tryz.results128, go_sem, r0, r1, q0, q1]) rfl ⟨rfl, ?_⟩
 exact ((HE.out.setCell (p := ⟨w.heap.size + 1, 0, none⟩) (by show w.heap.size ≤ w.heap.size + 1; omega) _).setCell (p := ⟨w.heap.size + 1, 1, none⟩) (by show w.heap.size ≤ w.heap.size + 1; omega) _).drew
end
end Go.Proofs.YtncgigapgklhcaaGreatDoor
