/- Walks: Apply of vizardref13. -/
import Derived.Test.YtjfnmjgfbkcaaaaDoorSgrRefC
import Derived.Deep.RegionWith
namespace Go.Proofs.YtjfnmjgfbkcaaaaDoor
open Go.RowKit

theorem rof_any (a : Int) (w : World) :
    Calls Tryd.prog 11 #[.int .i64 a] w fun e w' => e = .returned (.tuple #[(lkOf (startN a)).v, .bool (Vz.mayI a)]) ∧ Below w.heap.size w w' := by
  cases hm : Vz.mayI a with
  | false =>
    have e0 : startN a = 0 := by unfold startN; rw [hm]; rfl
    have e1 : lkOf (startN a) = Lk.zero := by rw [e0]; unfold Lk.zero lkOf; simp
    rw [e1]
    exact rof_no a hm w
  | true =>
    obtain ⟨n, rfl⟩ := Int.eq_ofNat_of_zero_le (Vz.mayI_ge hm)
    have hp := (Vz.mayP_iff n).1 hm
    rw [startN_of n hp]
    exact rof_yes n hp w

def Lk.cs (k : Lk) : Array Value := #[.bool k.b0, .bool k.b1, .bool k.b2, .bool k.b3, .bool k.b4, .bool k.b5, .bool k.b6, .int .i64 k.f, .int .i64 k.g]
/-- Block b holds k. -/
def LBox (W : World) (b : Nat) (k : Lk) : Prop := W.heap[b]? = some (.cells k.cs 25 (0, 0))
theorem frozen_row {W : World} {g : Nat} {cs : Array Value} {t : TypeId} (h : W.heap[g]? = some (.cells cs t (0, 0))) (i : Nat) : W.frozen? ⟨g, i, none⟩ = false := by
  simp [World.frozen?, h]
theorem heap_set_same {W : World} {g : Nat} {cs : Array Value} {t : TypeId} (h : W.heap[g]? = some (.cells cs t (0, 0))) (i : Nat) (u : Value) : (W.setCell ⟨g, i, none⟩ u).heap[g]? = some (.cells (cs.setIfInBounds i u) t (0, 0)) := by
  simp [World.setCell, Array.getElem?_modify, h]
theorem LBox.lt {W : World} {b : Nat} {k : Lk} (h : LBox W b k) : b < W.heap.size := (Array.getElem?_eq_some_iff.1 h).1
theorem LBox.below {W W' : World} {b : Nat} {k : Lk} (h : LBox W b k) (hb : Below W.heap.size W W') : LBox W' b k := (hb.block b h.lt).trans h
theorem LBox.cells {W : World} {b : Nat} {k : Lk} (h : LBox W b k) : W.cell? ⟨b, 0, none⟩ = some (.bool k.b0) ∧ W.cell? ⟨b, 1, none⟩ = some (.bool k.b1) ∧ W.cell? ⟨b, 2, none⟩ = some (.bool k.b2) ∧ W.cell? ⟨b, 3, none⟩ = some (.bool k.b3) ∧ W.cell? ⟨b, 4, none⟩ = some (.bool k.b4) ∧ W.cell? ⟨b, 5, none⟩ = some (.bool k.b5) ∧ W.cell? ⟨b, 6, none⟩ = some (.bool k.b6) ∧ W.cell? ⟨b, 7, none⟩ = some (.int .i64 k.f) ∧ W.cell? ⟨b, 8, none⟩ = some (.int .i64 k.g) := by
  refine ⟨?_, ?_, ?_, ?_, ?_, ?_, ?_, ?_, ?_⟩
  all_goals (rw [cell_of_row W b _ _ _ _ h]; rfl)
theorem LBox.set {W : World} {b : Nat} {k : Lk} (h : LBox W b k) (r : Lk) : LBox (((((((((W.setCell ⟨b, 0, none⟩ (.bool r.b0)).setCell ⟨b, 1, none⟩ (.bool r.b1)).setCell ⟨b, 2, none⟩ (.bool r.b2)).setCell ⟨b, 3, none⟩ (.bool r.b3)).setCell ⟨b, 4, none⟩ (.bool r.b4)).setCell ⟨b, 5, none⟩ (.bool r.b5)).setCell ⟨b, 6, none⟩ (.bool r.b6)).setCell ⟨b, 7, none⟩ (.int .i64 r.f)).setCell ⟨b, 8, none⟩ (.int .i64 r.g)) b r := by
  have h1 := heap_set_same (heap_set_same (heap_set_same (heap_set_same (heap_set_same (heap_set_same (heap_set_same (heap_set_same (heap_set_same h 0 (.bool r.b0)) 1 (.bool r.b1)) 2 (.bool r.b2)) 3 (.bool r.b3)) 4 (.bool r.b4)) 5 (.bool r.b5)) 6 (.bool r.b6)) 7 (.int .i64 r.f)) 8 (.int .i64 r.g)
  simp only [Lk.cs, List.setIfInBounds_toArray, List.set_cons_zero, List.set_cons_succ] at h1
  exact h1

set_option maxRecDepth 100000 in
set_option maxHeartbeats 8000000 in
theorem rapply_any (B : Nat) (a : Int) (A : Option Addr) (m c : Nat) (L : List Int) (hm : m ≤ 1000) (w : World) (hI : Ints B w A m L) (hBw : B ≤ w.heap.size) :
    Calls Tryd.prog 14 #[.int .i64 a, .slice A m c] w fun e W' => e = .returned (.int .i64 (applyN a L)) ∧ Below w.heap.size w W' := by
  have HOF := Lib.hid (rof_any a)
  by_cases hz : m = 0
  · subst hz
    have hL : L = [] := List.length_eq_zero_iff.1 hI.1.symm
    subst hL
    have HR : Hid (applyN a [] = 0) := rfl
    clear hI
    go_enter Tryd.func14, Tryd.ntmps14
    go_wp2_with fail
    refine (HOF.out _).mono ?_
    rintro e w1 ⟨rfl, hb1⟩
    unfold Lk.v
    go_wp2_with fail
    go_ret
    exact ⟨ret1 (by rw [HR.out]; rfl), hb1.alloc hb1.size _⟩
  have hz' : ((m : Int) == 0) = false := by simp [hz]
  have HRR : Hid (applyN a L = foldN (startN a) L) := by show _ = _; unfold applyN countL; rw [if_neg]; rintro rfl; exact hz hI.1
  have HI := Lib.hid hI
  have HONE := Lib.hid rone_any
  clear hI
  go_enter Tryd.func14, Tryd.ntmps14
  go_wp2_with fail
  refine (HOF.out _).mono ?_
  rintro e w1 ⟨rfl, hb1⟩
  have hbox : LBox (w1.alloc (.cells (lkOf (startN a)).cs 25)) w1.heap.size (lkOf (startN a)) := row_new w1 _
  have hb2 := hb1.alloc hb1.size (.cells (lkOf (startN a)).cs 25)
  unfold Lk.cs at hbox hb2
  unfold Lk.v
  have HBX := Lib.hid hbox
  clear hbox
  go_wp2_with fail
  go_loopw [7] (fun i wr => ∃ j : Nat, j ≤ m ∧ i = .int .i64 j ∧ LBox wr w1.heap.size (lkOf (foldN (startN a) (L.take j))) ∧ Below w.heap.size w wr) (fun i _ => m - (intOf i).toNat)
  case atStart => exact ⟨0, Nat.zero_le _, rfl, HBX.out, hb2⟩
  case round =>
    obtain ⟨j, hj, rfl, hbx, hB⟩ := hrel
    by_cases hlt : j < m
    · obtain ⟨b, o, rfl, hc⟩ := (HI.out.below hB hBw).at_ hlt
      have hjL : j < L.length := by have := HI.out.1; omega
      have hone := lk_one (foldN (startN a) (L.take j)) (L[j]?.getD 0) (foldN_may _ _ (startN_may a))
      rw [← foldN_snoc, show L.take j ++ [L[j]?.getD 0] = L.take (j + 1) by rw [List.take_add_one, List.getElem?_eq_getElem hjL]; rfl] at hone
      generalize L[j]?.getD 0 = x at hc hone
      generalize lkOf (foldN (startN a) (L.take j)) = k at hbx hone
      have HN := Lib.hid hone
      have HX := Lib.hid hbx
      have H1 := HONE.out k x
      obtain ⟨c0, c1, c2, c3, c4, c5, c6, c7, c8⟩ := hbx.cells
      rw [hone] at H1
      have f0 := frozen_row hbx 0
      generalize hrq : lkOf (foldN (startN a) (L.take (j + 1))) = r at hone H1 HN
      have HQ := Lib.hid hrq
      clear hone hjL hrq
      unfold Lk.v at H1
      have H1' := Lib.hid H1
      clear H1
      generalize k.b0 = b0 at c0 H1'
      generalize k.b1 = b1 at c1 H1'
      generalize k.b2 = b2 at c2 H1'
      generalize k.b3 = b3 at c3 H1'
      generalize k.b4 = b4 at c4 H1'
      generalize k.b5 = b5 at c5 H1'
      generalize k.b6 = b6 at c6 H1'
      generalize k.f = kf at c7 H1'
      generalize k.g = kg at c8 H1'
      clear hbx
      go_wp2_with fail
      go_region_with (go_at_call 25; refine (H1'.out _).mono ?_; rintro e w2 ⟨rfl, hb2'⟩; have hx2 := LBox.below (W := wr.drewN 1) HX.out hb2'; obtain ⟨d0, d1, d2, d3, d4, d5, d6, d7, d8⟩ := hx2.cells; have g0 := frozen_row hx2 0; have g1 := frozen_row hx2 1; have g2 := frozen_row hx2 2; have g3 := frozen_row hx2 3; have g4 := frozen_row hx2 4; have g5 := frozen_row hx2 5; have g6 := frozen_row hx2 6; have g7 := frozen_row hx2 7; have g8 := frozen_row hx2 8)
      all_goals
        go_wp2_with fail
        have hle : w.heap.size ≤ w1.heap.size := hb1.size
        have hb9 := below_join (below_drewN hB 1) hb2'
        exact ⟨⟨j + 1, by omega, by go_num, (by rw [HQ.out]; exact hx2.set r), ((((((((hb9.setCell (p := ⟨w1.heap.size, 0, none⟩) hle _).setCell (p := ⟨w1.heap.size, 1, none⟩) hle _).setCell (p := ⟨w1.heap.size, 2, none⟩) hle _).setCell (p := ⟨w1.heap.size, 3, none⟩) hle _).setCell (p := ⟨w1.heap.size, 4, none⟩) hle _).setCell (p := ⟨w1.heap.size, 5, none⟩) hle _).setCell (p := ⟨w1.heap.size, 6, none⟩) hle _).setCell (p := ⟨w1.heap.size, 7, none⟩) hle _).setCell (p := ⟨w1.heap.size, 8, none⟩) hle _⟩, by simp [intOf]; omega⟩
    · obtain rfl : j = m := by omega
      rw [List.take_of_length_le (by have := HI.out.1; omega)] at hbx
      have hmay := foldN_may L _ (startN_may a)
      have HNUM := Lib.hid (number_any (lkOf (foldN (startN a) L)) (by show 0 ≤ ((foldN (startN a) L : Nat) : Int) / 256 % 8; omega) (by show ((foldN (startN a) L : Nat) : Int) / 256 % 8 ≤ 7; omega) (by show 0 ≤ ((foldN (startN a) L : Nat) : Int) / 2048; omega) (by show ((foldN (startN a) L : Nat) : Int) / 2048 ≤ 7; have := hmay.1; omega))
      rw [num_lkOf _ hmay] at HNUM
      generalize foldN (startN a) L = r at hbx HNUM HRR
      obtain ⟨c0, c1, c2, c3, c4, c5, c6, c7, c8⟩ := hbx.cells
      unfold Lk.v at HNUM
      generalize lkOf r = k at hbx HNUM c0 c1 c2 c3 c4 c5 c6 c7 c8
      generalize k.b0 = b0 at c0 HNUM
      generalize k.b1 = b1 at c1 HNUM
      generalize k.b2 = b2 at c2 HNUM
      generalize k.b3 = b3 at c3 HNUM
      generalize k.b4 = b4 at c4 HNUM
      generalize k.b5 = b5 at c5 HNUM
      generalize k.b6 = b6 at c6 HNUM
      generalize k.f = kf at c7 HNUM
      generalize k.g = kg at c8 HNUM
      clear hbx hmay
      go_wp2_with fail
      refine (HNUM.out _).mono ?_
      rintro e w3 ⟨rfl, hb3⟩
      go_wp2_with fail
      go_ret
      exact ⟨ret1 (by rw [HRR.out]; rfl), below_join hB hb3⟩
end Go.Proofs.YtjfnmjgfbkcaaaaDoor
