import Derived.Test.YtncgigapgklhcaaGreatDoorHJ
import Derived.Test.YtncgigapgklhcaaGreatDoorHG

set_option maxRecDepth 100000
set_option maxHeartbeats 16000000
namespace Go.Proofs.YtncgigapgklhcaaGreatDoor
open Go.RowKit
set_option linter.unusedSimpArgs false
set_option linter.unusedVariables false
/- Walks: wipe.Part. -/
section
attribute [local go_sem] alloc_drewN setCell_drewN World.cell?_alloc_some frozen_alloc_some size_f0 size_f1
def partF (k : Int) (p : Vz.Ps) : Vz.Ps := if k = 1 ∨ k = 3 then ⟨0, 0⟩ else if k = 4 ∨ k = 6 then ⟨p.row, 0⟩ else p
def partT (r c k : Int) (p : Vz.Ps) : Vz.Ps := if k = 1 ∨ k = 2 then ⟨r - 1, c - 1⟩ else if k = 4 ∨ k = 5 then ⟨p.row, c - 1⟩ else p
theorem set_two_other (W : World) (g : Nat) (u0 u1 : Value) {k : Nat} (h : k ≠ g) : ((W.setCell ⟨g, 0, none⟩ u0).setCell ⟨g, 1, none⟩ u1).heap[k]? = W.heap[k]? := (heap_setCell_other _ _ _ _ h).trans (heap_setCell_other _ _ _ _ h)
theorem part_ok (r c k : Int) (p : Vz.Ps) (w : World) (hm : Vz.mayS r c = true) (hp : p.inS r c) (hk : 1 ≤ k ∧ k ≤ 6) :
 Calls Tryz.prog 88 #[.agg #[.int .i64 r, .int .i64 c], .agg #[.int .i64 p.row, .int .i64 p.col], .int .i64 k] w fun e w' => e = .returned (.tuple #[.agg #[.int .i64 (partF k p).row, .int .i64 (partF k p).col], .agg #[.int .i64 (partT r c k p).row, .int .i64 (partT r c k p).col], .int .i64 0]) ∧ Below w.heap.size w w' := by
 have hmm := (Vz.mayS_iff r c).1 hm
 obtain ⟨m1, m2, m3, m4⟩ := hmm
 obtain ⟨p1, p2, p3, p4⟩ := hp
 obtain ⟨pr, pc⟩ := p
 simp only at p1 p2 p3 p4
 have HM := Lib.hid (may_ok r c hm)
 have hw1 : IntKind.i64.wrap (r - 1) = r - 1 := wrap_in (by omega) (by omega)
 have hw2 : IntKind.i64.wrap (c - 1) = c - 1 := wrap_in (by omega) (by omega)
 clear hm
 have hB : Hid (∀ W, Below (w.heap.size + 1 + 1 + 1 + 1) ((((w.alloc (.cells #[.int .i64 r, .int .i64 c] 23)).alloc (.cells #[.int .i64 pr, .int .i64 pc] 36)).alloc (.cells #[.int .i64 0, .int .i64 0] 36)).alloc (.cells #[.int .i64 0, .int .i64 0] 36)) W → W.heap[w.heap.size]? = some (.cells #[.int .i64 r, .int .i64 c] 23 (0, 0)) ∧ W.heap[w.heap.size + 1]? = some (.cells #[.int .i64 pr, .int .i64 pc] 36 (0, 0)) ∧ W.heap[w.heap.size + 1 + 1]? = some (.cells #[.int .i64 0, .int .i64 0] 36 (0, 0)) ∧ W.heap[w.heap.size + 1 + 1 + 1]? = some (.cells #[.int .i64 0, .int .i64 0] 36 (0, 0)) ∧ Below w.heap.size w W) := fun W hb => by
  obtain ⟨x0, x1, x2, x3, h⟩ := box4 (hb.mono (by simp))
  exact ⟨x0, x1, x2, x3, h⟩
 have hks : k = 1 ∨ k = 2 ∨ k = 3 ∨ k = 4 ∨ k = 5 ∨ k = 6 := by omega
 have HKS := Lib.hid hks
 clear hks
 go_enter Tryz.func88, Tryz.ntmps88
 go_upto_region 6 with (go_at_call 74; refine (HM.out _).mono ?_; rintro e w1 ⟨rfl, hw1⟩; have HB1 := Lib.hid (show Below (w.heap.size + 1 + 1 + 1 + 1) ((((w.alloc (.cells #[.int .i64 r, .int .i64 c] 23)).alloc (.cells #[.int .i64 pr, .int .i64 pc] 36)).alloc (.cells #[.int .i64 0, .int .i64 0] 36)).alloc (.cells #[.int .i64 0, .int .i64 0] 36)) w1 from by rw [← hw1]; exact (Below.refl _ _).alloc (by simp) _); clear hw1; obtain ⟨x0, x1, x2, x3, _⟩ := hB.out _ HB1.out; obtain ⟨a0, a1, _⟩ := row2 x0; obtain ⟨b0, b1, _⟩ := row2 x1)
 have hz1 : w.heap.size + 1 + 1 + 1 + 1 ≤ w1.heap.size := Nat.le_trans (by simp) HB1.out.size
 have HD1 := Lib.hid HB1.out.drew
 refine wp_region_noPanic ?_
 refine wp_region_k (S := fun W' : World => Below (w.heap.size + 1 + 1 + 1 + 1) ((((w.alloc (.cells #[.int .i64 r, .int .i64 c] 23)).alloc (.cells #[.int .i64 pr, .int .i64 pc] 36)).alloc (.cells #[.int .i64 0, .int .i64 0] 36)).alloc (.cells #[.int .i64 0, .int .i64 0] 36)) W') 999 (by kernel_rfl) (HD1.out) (fun hHeld => ?_)
 refine kSK 0 hHeld ?_
 refine kSK 1 hHeld ?_
 refine kHK (v := ?_) 2 hHeld ?y3 ?_
 case y3 => (intro W hSw; obtain ⟨y0, y1, y2, y3, _⟩ := hB.out _ hSw; obtain ⟨a0, a1, _⟩ := row2 y0; obtain ⟨b0, b1, _⟩ := row2 y1; go_simp; try with_reducible rfl)
 refine kSK 3 hHeld ?_
 refine kSK 4 hHeld ?_
 try refine kNK ?_
 refine kHK (v := ?_) 5 hHeld ?y6 ?_
 case y6 => (intro W hSw; obtain ⟨y0, y1, y2, y3, _⟩ := hB.out _ hSw; obtain ⟨a0, a1, _⟩ := row2 y0; obtain ⟨b0, b1, _⟩ := row2 y1; go_simp; try with_reducible rfl)
 refine kSK 6 hHeld ?_
 refine kSK 7 hHeld ?_
 try refine kNK ?_
 refine wpAnyK_ready (rs := [8, 9]) (by kernel_rfl) (by simp) ?_
 refine AllReadyK.cons rfl (fun KQ hKQ => ?_) (AllReadyK.cons rfl (fun KQ hKQ => ?_) AllReadyK.nil)
 focus
  go_simp
  refine hKQ.out _ _ ((by repeat first | exact HD1.out | refine Below.drew ?_ | exact HB1.out | refine Below.alloc ?_ (by first | omega | (simp; omega)) _)) ?_
  clear hHeld hKQ KQ
  intro hHeld
  try refine kNK ?_
  refine kOK 9 fun KQ hKQ => ?_
  go_simp
  refine hKQ.out _ _ ((by repeat first | exact HD1.out | refine Below.drew ?_ | exact HB1.out | refine Below.alloc ?_ (by first | omega | (simp; omega)) _)) ?_
  clear hHeld hKQ KQ
  intro hHeld
  try refine kNK ?_
  refine kOK 10 fun KQ hKQ => ?_
  go_simp
  refine hKQ.out _ _ ((by repeat first | exact HD1.out | refine Below.drew ?_ | exact HB1.out | refine Below.alloc ?_ (by first | omega | (simp; omega)) _)) ?_
  clear hHeld hKQ KQ
  intro hHeld
  try refine kNK ?_
  refine kOK 11 fun KQ hKQ => ?_
  go_simp
  refine hKQ.out _ _ ((by repeat first | exact HD1.out | refine Below.drew ?_ | exact HB1.out | refine Below.alloc ?_ (by first | omega | (simp; omega)) _)) ?_
  clear hHeld hKQ KQ
  intro hHeld
  try refine kNK ?_
  refine wpAnyK_done (by kernel_rfl) ?_ _
  refine NoPanic.normal ?_
 rotate_left 1
 focus
  go_simp
  refine hKQ.out _ _ ((by repeat first | exact HD1.out | refine Below.drew ?_ | exact HB1.out | refine Below.alloc ?_ (by first | omega | (simp; omega)) _)) ?_
  clear hHeld hKQ KQ
  intro hHeld
  try refine kNK ?_
  refine kOK 8 fun KQ hKQ => ?_
  go_simp
  refine hKQ.out _ _ ((by repeat first | exact HD1.out | refine Below.drew ?_ | exact HB1.out | refine Below.alloc ?_ (by first | omega | (simp; omega)) _)) ?_
  clear hHeld hKQ KQ
  intro hHeld
  try refine kNK ?_
  refine kOK 10 fun KQ hKQ => ?_
  go_simp
  refine hKQ.out _ _ ((by repeat first | exact HD1.out | refine Below.drew ?_ | exact HB1.out | refine Below.alloc ?_ (by first | omega | (simp; omega)) _)) ?_
  clear hHeld hKQ KQ
  intro hHeld
  try refine kNK ?_
  refine kOK 11 fun KQ hKQ => ?_
  go_simp
  refine hKQ.out _ _ ((by repeat first | exact HD1.out | refine Below.drew ?_ | exact HB1.out | refine Below.alloc ?_ (by first | omega | (simp; omega)) _)) ?_
  clear hHeld hKQ KQ
  intro hHeld
  try refine kNK ?_
  refine wpAnyK_done (by kernel_rfl) ?_ _
  refine NoPanic.normal ?_
 rotate_left 1
 all_goals (
  clear HD1 x0 x1 x2 x3 a0 a1 b0 b1 hHeld
  first
   | (have hbx := box2 (Below.refl ((w1.alloc (.cells #[.int .i64 0, .int .i64 0] 36)).alloc (.cells #[.int .i64 (r - 1), .int .i64 (c - 1)] 36)).heap.size ((w1.alloc (.cells #[.int .i64 0, .int .i64 0] 36)).alloc (.cells #[.int .i64 (r - 1), .int .i64 (c - 1)] 36)))
      have HBW : Hid (Below (w.heap.size + 1 + 1 + 1 + 1) ((((w.alloc (.cells #[.int .i64 r, .int .i64 c] 23)).alloc (.cells #[.int .i64 pr, .int .i64 pc] 36)).alloc (.cells #[.int .i64 0, .int .i64 0] 36)).alloc (.cells #[.int .i64 0, .int .i64 0] 36)) ((w1.alloc (.cells #[.int .i64 0, .int .i64 0] 36)).alloc (.cells #[.int .i64 (r - 1), .int .i64 (c - 1)] 36)).drew) := (by repeat first | exact HB1.out | refine Below.drew ?_ | refine Below.alloc ?_ (by first | omega | (simp; omega)) _)
      have HF := Lib.hid (show ((w1.alloc (.cells #[.int .i64 0, .int .i64 0] 36)).alloc (.cells #[.int .i64 (r - 1), .int .i64 (c - 1)] 36)).drew.heap[w1.heap.size]? = _ from hbx.1)
      have HL := Lib.hid (show ((w1.alloc (.cells #[.int .i64 0, .int .i64 0] 36)).alloc (.cells #[.int .i64 (r - 1), .int .i64 (c - 1)] 36)).drew.heap[w1.heap.size + 1]? = _ from hbx.2.1)
      have hfl : w.heap.size + 1 + 1 + 1 + 1 ≤ w1.heap.size ∧ w.heap.size + 1 + 1 + 1 + 1 ≤ w1.heap.size + 1 ∧ w1.heap.size ≠ w1.heap.size + 1 := ⟨by omega, by omega, by omega⟩
      clear hbx HB1 hz1
      obtain ⟨WB, hWB⟩ : ∃ WB, ((w1.alloc (.cells #[.int .i64 0, .int .i64 0] 36)).alloc (.cells #[.int .i64 (r - 1), .int .i64 (c - 1)] 36)).drew = WB := ⟨_, rfl⟩
      rw [hWB] at HBW HF HL ⊢
      clear hWB
      generalize w1.heap.size + 1 = l at *
      generalize w1.heap.size = f at *)
   | (have hbx := box2 (Below.refl ((w1.alloc (.cells #[.int .i64 (r - 1), .int .i64 (c - 1)] 36)).alloc (.cells #[.int .i64 0, .int .i64 0] 36)).heap.size ((w1.alloc (.cells #[.int .i64 (r - 1), .int .i64 (c - 1)] 36)).alloc (.cells #[.int .i64 0, .int .i64 0] 36)))
      have HBW : Hid (Below (w.heap.size + 1 + 1 + 1 + 1) ((((w.alloc (.cells #[.int .i64 r, .int .i64 c] 23)).alloc (.cells #[.int .i64 pr, .int .i64 pc] 36)).alloc (.cells #[.int .i64 0, .int .i64 0] 36)).alloc (.cells #[.int .i64 0, .int .i64 0] 36)) ((w1.alloc (.cells #[.int .i64 (r - 1), .int .i64 (c - 1)] 36)).alloc (.cells #[.int .i64 0, .int .i64 0] 36)).drew) := (by repeat first | exact HB1.out | refine Below.drew ?_ | refine Below.alloc ?_ (by first | omega | (simp; omega)) _)
      have HF := Lib.hid (show ((w1.alloc (.cells #[.int .i64 (r - 1), .int .i64 (c - 1)] 36)).alloc (.cells #[.int .i64 0, .int .i64 0] 36)).drew.heap[w1.heap.size + 1]? = _ from hbx.2.1)
      have HL := Lib.hid (show ((w1.alloc (.cells #[.int .i64 (r - 1), .int .i64 (c - 1)] 36)).alloc (.cells #[.int .i64 0, .int .i64 0] 36)).drew.heap[w1.heap.size]? = _ from hbx.1)
      have hfl : w.heap.size + 1 + 1 + 1 + 1 ≤ w1.heap.size + 1 ∧ w.heap.size + 1 + 1 + 1 + 1 ≤ w1.heap.size ∧ w1.heap.size + 1 ≠ w1.heap.size := ⟨by omega, by omega, by omega⟩
      clear hbx HB1 hz1
      obtain ⟨WB, hWB⟩ : ∃ WB, ((w1.alloc (.cells #[.int .i64 (r - 1), .int .i64 (c - 1)] 36)).alloc (.cells #[.int .i64 0, .int .i64 0] 36)).drew = WB := ⟨_, rfl⟩
      rw [hWB] at HBW HF HL ⊢
      clear hWB
      generalize w1.heap.size + 1 = f at *
      generalize w1.heap.size = l at *)
  obtain ⟨z1, z2, z3⟩ := hfl
  rcases HKS.out with rfl | rfl | rfl | rfl | rfl | rfl
  · go_upto_region 12 with fail
    obtain ⟨y0, y1, y2, y3, hbw⟩ := hB.out _ HBW.out
    have Y2 := Lib.hid (show WB.drew.heap[w.heap.size + 1 + 1]? = _ from y2)
    have Y3 := Lib.hid (show WB.drew.heap[w.heap.size + 1 + 1 + 1]? = _ from y3)
    have HY := Lib.hid hbw.drew
    obtain ⟨d0, d1, g0, g1⟩ := row2 (show WB.drew.heap[w.heap.size + 1 + 1]? = _ from y2)
    have HS0 := Lib.hid (show WB.heap[f]? = _ ∧ WB.heap[l]? = _ ∧ WB.heap[w.heap.size + 1]? = _ ∧ WB.heap[w.heap.size + 1 + 1 + 1]? = _ from ⟨HF.out, HL.out, y1, y3⟩)
    clear y0 y1 y2 y3 hbw
    refine wp_region_noPanic ?_
    refine wp_region_k (S := fun W' : World => W'.heap[f]? = some (.cells #[.int .i64 0, .int .i64 0] 36 (0, 0)) ∧ W'.heap[l]? = some (.cells #[.int .i64 (r - 1), .int .i64 (c - 1)] 36 (0, 0)) ∧ W'.heap[w.heap.size + 1]? = some (.cells #[.int .i64 pr, .int .i64 pc] 36 (0, 0)) ∧ W'.heap[w.heap.size + 1 + 1 + 1]? = some (.cells #[.int .i64 0, .int .i64 0] 36 (0, 0))) 3 (by kernel_rfl) (HS0.out) (fun hHeld => ?_)
    refine kTK (v := ?_) 0 [] hHeld ?y1 ?_
    case y1 => (intro W hSw; obtain ⟨a0, a1, _⟩ := row2 hSw.1; obtain ⟨b0, b1, _⟩ := row2 hSw.2.1; obtain ⟨c0, c1, _⟩ := row2 hSw.2.2.1; go_simp; try with_reducible rfl)
    refine kTK (v := ?_) 1 [] hHeld ?y2 ?_
    case y2 => (intro W hSw; obtain ⟨a0, a1, _⟩ := row2 hSw.1; obtain ⟨b0, b1, _⟩ := row2 hSw.2.1; obtain ⟨c0, c1, _⟩ := row2 hSw.2.2.1; go_simp; try with_reducible rfl)
    try refine kNK ?_
    refine kOK 2 fun KQ hKQ => ?_
    generalize WB.drew = WE at *
    go_simp
    refine hKQ.out _ _ ((by refine ⟨(set_two_other _ _ _ _ ?_).trans hHeld.1, (set_two_other _ _ _ _ ?_).trans hHeld.2.1, (set_two_other _ _ _ _ ?_).trans hHeld.2.2.1, (set_two_other _ _ _ _ ?_).trans hHeld.2.2.2⟩ <;> omega)) ?_
    clear hHeld hKQ KQ
    intro hHeld
    try refine kNK ?_
    obtain ⟨e0, e1, h0, h1⟩ := row2 hHeld.2.2.2
    refine kPK 3 fun KQ hKQ => ?_
    go_simp
    refine hKQ.out _ _ ?_
    clear hKQ KQ
    try refine kNK ?_
    refine kBK 4 ?_
    try refine kNK ?_
    refine wpAnyK_done (by kernel_rfl) ?_ _
    refine NoPanic.normal ?_
    go_wp2_with fail
    obtain ⟨k0, k1, _⟩ := row2 Y3.out
    obtain ⟨r0, r1, _⟩ := row2 ((set_two_other _ _ (.int .i64 (r - 1)) (.int .i64 (c - 1)) (show w.heap.size + 1 + 1 ≠ w.heap.size + 1 + 1 + 1 by omega)).trans (set_two Y2.out (.int .i64 0) (.int .i64 0)))
    obtain ⟨r2, r3, _⟩ := row2 (set_two ((set_two_other _ _ (.int .i64 0) (.int .i64 0) (show w.heap.size + 1 + 1 + 1 ≠ w.heap.size + 1 + 1 by omega)).trans Y3.out) (.int .i64 (r - 1)) (.int .i64 (c - 1)))
    refine bodyPost_ret (v := .tuple #[.agg #[.int .i64 0, .int .i64 0], .agg #[.int .i64 (r - 1), .int .i64 (c - 1)], .int .i64 0]) (by simp [results, Tryz.results88, go_sem, r0, r1, r2, r3, d0, d1, k0, k1]) rfl ⟨rfl, ?_⟩
    exact (((HY.out.setCell (p := ⟨w.heap.size + 1 + 1, 0, none⟩) (by show w.heap.size ≤ w.heap.size + 1 + 1; omega) _).setCell (p := ⟨w.heap.size + 1 + 1, 1, none⟩) (by show w.heap.size ≤ w.heap.size + 1 + 1; omega) _).setCell (p := ⟨w.heap.size + 1 + 1 + 1, 0, none⟩) (by show w.heap.size ≤ w.heap.size + 1 + 1 + 1; omega) _).setCell (p := ⟨w.heap.size + 1 + 1 + 1, 1, none⟩) (by show w.heap.size ≤ w.heap.size + 1 + 1 + 1; omega) _
  · go_upto_region 15 with fail
    obtain ⟨y0, y1, y2, y3, hbw⟩ := hB.out _ HBW.out
    have Y2 := Lib.hid (show WB.drew.heap[w.heap.size + 1 + 1]? = _ from y2)
    have Y3 := Lib.hid (show WB.drew.heap[w.heap.size + 1 + 1 + 1]? = _ from y3)
    have HY := Lib.hid hbw.drew
    obtain ⟨d0, d1, g0, g1⟩ := row2 (show WB.drew.heap[w.heap.size + 1 + 1]? = _ from y2)
    have HS0 := Lib.hid (show WB.heap[f]? = _ ∧ WB.heap[l]? = _ ∧ WB.heap[w.heap.size + 1]? = _ ∧ WB.heap[w.heap.size + 1 + 1 + 1]? = _ from ⟨HF.out, HL.out, y1, y3⟩)
    clear y0 y1 y2 y3 hbw
    refine wp_region_noPanic ?_
    refine wp_region_k (S := fun W' : World => W'.heap[f]? = some (.cells #[.int .i64 0, .int .i64 0] 36 (0, 0)) ∧ W'.heap[l]? = some (.cells #[.int .i64 (r - 1), .int .i64 (c - 1)] 36 (0, 0)) ∧ W'.heap[w.heap.size + 1]? = some (.cells #[.int .i64 pr, .int .i64 pc] 36 (0, 0)) ∧ W'.heap[w.heap.size + 1 + 1 + 1]? = some (.cells #[.int .i64 0, .int .i64 0] 36 (0, 0))) 3 (by kernel_rfl) (HS0.out) (fun hHeld => ?_)
    refine kTK (v := ?_) 0 [] hHeld ?y1 ?_
    case y1 => (intro W hSw; obtain ⟨a0, a1, _⟩ := row2 hSw.1; obtain ⟨b0, b1, _⟩ := row2 hSw.2.1; obtain ⟨c0, c1, _⟩ := row2 hSw.2.2.1; go_simp; try with_reducible rfl)
    refine kTK (v := ?_) 1 [] hHeld ?y2 ?_
    case y2 => (intro W hSw; obtain ⟨a0, a1, _⟩ := row2 hSw.1; obtain ⟨b0, b1, _⟩ := row2 hSw.2.1; obtain ⟨c0, c1, _⟩ := row2 hSw.2.2.1; go_simp; try with_reducible rfl)
    try refine kNK ?_
    refine kOK 2 fun KQ hKQ => ?_
    generalize WB.drew = WE at *
    go_simp
    refine hKQ.out _ _ ((by refine ⟨(set_two_other _ _ _ _ ?_).trans hHeld.1, (set_two_other _ _ _ _ ?_).trans hHeld.2.1, (set_two_other _ _ _ _ ?_).trans hHeld.2.2.1, (set_two_other _ _ _ _ ?_).trans hHeld.2.2.2⟩ <;> omega)) ?_
    clear hHeld hKQ KQ
    intro hHeld
    try refine kNK ?_
    obtain ⟨e0, e1, h0, h1⟩ := row2 hHeld.2.2.2
    refine kPK 3 fun KQ hKQ => ?_
    go_simp
    refine hKQ.out _ _ ?_
    clear hKQ KQ
    try refine kNK ?_
    refine kBK 4 ?_
    try refine kNK ?_
    refine wpAnyK_done (by kernel_rfl) ?_ _
    refine NoPanic.normal ?_
    go_wp2_with fail
    obtain ⟨k0, k1, _⟩ := row2 Y3.out
    obtain ⟨r0, r1, _⟩ := row2 ((set_two_other _ _ (.int .i64 (r - 1)) (.int .i64 (c - 1)) (show w.heap.size + 1 + 1 ≠ w.heap.size + 1 + 1 + 1 by omega)).trans (set_two Y2.out (.int .i64 pr) (.int .i64 pc)))
    obtain ⟨r2, r3, _⟩ := row2 (set_two ((set_two_other _ _ (.int .i64 pr) (.int .i64 pc) (show w.heap.size + 1 + 1 + 1 ≠ w.heap.size + 1 + 1 by omega)).trans Y3.out) (.int .i64 (r - 1)) (.int .i64 (c - 1)))
    refine bodyPost_ret (v := .tuple #[.agg #[.int .i64 pr, .int .i64 pc], .agg #[.int .i64 (r - 1), .int .i64 (c - 1)], .int .i64 0]) (by simp [results, Tryz.results88, go_sem, r0, r1, r2, r3, d0, d1, k0, k1]) rfl ⟨rfl, ?_⟩
    exact (((HY.out.setCell (p := ⟨w.heap.size + 1 + 1, 0, none⟩) (by show w.heap.size ≤ w.heap.size + 1 + 1; omega) _).setCell (p := ⟨w.heap.size + 1 + 1, 1, none⟩) (by show w.heap.size ≤ w.heap.size + 1 + 1; omega) _).setCell (p := ⟨w.heap.size + 1 + 1 + 1, 0, none⟩) (by show w.heap.size ≤ w.heap.size + 1 + 1 + 1; omega) _).setCell (p := ⟨w.heap.size + 1 + 1 + 1, 1, none⟩) (by show w.heap.size ≤ w.heap.size + 1 + 1 + 1; omega) _
  · go_upto_region 18 with fail
    obtain ⟨y0, y1, y2, y3, hbw⟩ := hB.out _ HBW.out
    have Y2 := Lib.hid (show WB.drew.heap[w.heap.size + 1 + 1]? = _ from y2)
    have Y3 := Lib.hid (show WB.drew.heap[w.heap.size + 1 + 1 + 1]? = _ from y3)
    have HY := Lib.hid hbw.drew
    obtain ⟨d0, d1, g0, g1⟩ := row2 (show WB.drew.heap[w.heap.size + 1 + 1]? = _ from y2)
    have HS0 := Lib.hid (show WB.heap[f]? = _ ∧ WB.heap[l]? = _ ∧ WB.heap[w.heap.size + 1]? = _ ∧ WB.heap[w.heap.size + 1 + 1 + 1]? = _ from ⟨HF.out, HL.out, y1, y3⟩)
    clear y0 y1 y2 y3 hbw
    refine wp_region_noPanic ?_
    refine wp_region_k (S := fun W' : World => W'.heap[f]? = some (.cells #[.int .i64 0, .int .i64 0] 36 (0, 0)) ∧ W'.heap[l]? = some (.cells #[.int .i64 (r - 1), .int .i64 (c - 1)] 36 (0, 0)) ∧ W'.heap[w.heap.size + 1]? = some (.cells #[.int .i64 pr, .int .i64 pc] 36 (0, 0)) ∧ W'.heap[w.heap.size + 1 + 1 + 1]? = some (.cells #[.int .i64 0, .int .i64 0] 36 (0, 0))) 3 (by kernel_rfl) (HS0.out) (fun hHeld => ?_)
    refine kTK (v := ?_) 0 [] hHeld ?y1 ?_
    case y1 => (intro W hSw; obtain ⟨a0, a1, _⟩ := row2 hSw.1; obtain ⟨b0, b1, _⟩ := row2 hSw.2.1; obtain ⟨c0, c1, _⟩ := row2 hSw.2.2.1; go_simp; try with_reducible rfl)
    refine kTK (v := ?_) 1 [] hHeld ?y2 ?_
    case y2 => (intro W hSw; obtain ⟨a0, a1, _⟩ := row2 hSw.1; obtain ⟨b0, b1, _⟩ := row2 hSw.2.1; obtain ⟨c0, c1, _⟩ := row2 hSw.2.2.1; go_simp; try with_reducible rfl)
    try refine kNK ?_
    refine kOK 2 fun KQ hKQ => ?_
    generalize WB.drew = WE at *
    go_simp
    refine hKQ.out _ _ ((by refine ⟨(set_two_other _ _ _ _ ?_).trans hHeld.1, (set_two_other _ _ _ _ ?_).trans hHeld.2.1, (set_two_other _ _ _ _ ?_).trans hHeld.2.2.1, (set_two_other _ _ _ _ ?_).trans hHeld.2.2.2⟩ <;> omega)) ?_
    clear hHeld hKQ KQ
    intro hHeld
    try refine kNK ?_
    obtain ⟨e0, e1, h0, h1⟩ := row2 hHeld.2.2.2
    refine kPK 3 fun KQ hKQ => ?_
    go_simp
    refine hKQ.out _ _ ?_
    clear hKQ KQ
    try refine kNK ?_
    refine kBK 4 ?_
    try refine kNK ?_
    refine wpAnyK_done (by kernel_rfl) ?_ _
    refine NoPanic.normal ?_
    go_wp2_with fail
    obtain ⟨k0, k1, _⟩ := row2 Y3.out
    obtain ⟨r0, r1, _⟩ := row2 ((set_two_other _ _ (.int .i64 pr) (.int .i64 pc) (show w.heap.size + 1 + 1 ≠ w.heap.size + 1 + 1 + 1 by omega)).trans (set_two Y2.out (.int .i64 0) (.int .i64 0)))
    obtain ⟨r2, r3, _⟩ := row2 (set_two ((set_two_other _ _ (.int .i64 0) (.int .i64 0) (show w.heap.size + 1 + 1 + 1 ≠ w.heap.size + 1 + 1 by omega)).trans Y3.out) (.int .i64 pr) (.int .i64 pc))
    refine bodyPost_ret (v := .tuple #[.agg #[.int .i64 0, .int .i64 0], .agg #[.int .i64 pr, .int .i64 pc], .int .i64 0]) (by simp [results, Tryz.results88, go_sem, r0, r1, r2, r3, d0, d1, k0, k1]) rfl ⟨rfl, ?_⟩
    exact (((HY.out.setCell (p := ⟨w.heap.size + 1 + 1, 0, none⟩) (by show w.heap.size ≤ w.heap.size + 1 + 1; omega) _).setCell (p := ⟨w.heap.size + 1 + 1, 1, none⟩) (by show w.heap.size ≤ w.heap.size + 1 + 1; omega) _).setCell (p := ⟨w.heap.size + 1 + 1 + 1, 0, none⟩) (by show w.heap.size ≤ w.heap.size + 1 + 1 + 1; omega) _).setCell (p := ⟨w.heap.size + 1 + 1 + 1, 1, none⟩) (by show w.heap.size ≤ w.heap.size + 1 + 1 + 1; omega) _
  · go_upto_region 8 with fail
    obtain ⟨d0, d1, g0, g1⟩ := row2 (show WB.drew.heap[f]? = _ from HF.out)
    refine wp_region_noPanic ?_
    refine wp_region_k (S := fun W' : World => W'.heap[w.heap.size + 1]? = some (.cells #[.int .i64 pr, .int .i64 pc] 36 (0, 0)) ∧ W'.heap[l]? = some (.cells #[.int .i64 (r - 1), .int .i64 (c - 1)] 36 (0, 0))) 7 (by kernel_rfl) (⟨(hB.out _ HBW.out).2.1, HL.out⟩) (fun hHeld => ?_)
    refine kSK 0 hHeld ?_
    refine kTK (v := ?_) 1 [] hHeld ?y2 ?_
    case y2 => (intro W hSw; obtain ⟨b0, b1, _⟩ := row2 hSw.1; go_simp; try with_reducible rfl)
    refine kSK 2 hHeld ?_
    refine kTK (v := ?_) 3 [] hHeld ?y4 ?_
    case y4 => (intro W hSw; obtain ⟨b0, b1, _⟩ := row2 hSw.1; go_simp; try with_reducible rfl)
    refine kSK 4 hHeld ?_
    try refine kNK ?_
    refine kOK 5 fun KQ hKQ => ?_
    have hWC : ∀ u v : Value, Below (w.heap.size + 1 + 1 + 1 + 1) ((((w.alloc (.cells #[.int .i64 r, .int .i64 c] 23)).alloc (.cells #[.int .i64 pr, .int .i64 pc] 36)).alloc (.cells #[.int .i64 0, .int .i64 0] 36)).alloc (.cells #[.int .i64 0, .int .i64 0] 36)) ((WB.drew.setCell ⟨f, 0, none⟩ u).setCell ⟨l, 0, none⟩ v) := fun u v => ((HBW.out.drew.setCell (p := ⟨f, 0, none⟩) z1 u).setCell (p := ⟨l, 0, none⟩) z2 v)
    have HBC := Lib.hid (hWC (.int .i64 pr) (.int .i64 pr))
    have HF2 := Lib.hid (show ((WB.drew.setCell ⟨f, 0, none⟩ (.int .i64 pr)).setCell ⟨l, 0, none⟩ (.int .i64 pr)).heap[f]? = some (.cells #[.int .i64 pr, .int .i64 0] 36 (0, 0)) from (heap_setCell_other _ _ _ _ z3).trans (heap_set_same HF.out 0 _))
    have HL2 := Lib.hid (show ((WB.drew.setCell ⟨f, 0, none⟩ (.int .i64 pr)).setCell ⟨l, 0, none⟩ (.int .i64 pr)).heap[l]? = some (.cells #[.int .i64 pr, .int .i64 (c - 1)] 36 (0, 0)) from heap_set_same ((heap_setCell_other _ _ _ _ (Ne.symm z3)).trans HL.out) 0 _)
    clear HF HL HBW hWC
    generalize WB.drew = WD at *
    go_simp
    refine hKQ.out _ _ ((by refine ⟨(heap_setCell_other _ _ _ _ ?_).trans hHeld.1, (heap_setCell_other _ _ _ _ ?_).trans hHeld.2⟩; exact (show w.heap.size + 1 ≠ f by omega); exact (show l ≠ f by omega))) ?_
    clear hHeld hKQ KQ
    intro hHeld
    try refine kNK ?_
    obtain ⟨e0, e1, h0, h1⟩ := row2 hHeld.2
    refine kSK 6 hHeld ?_
    try refine kNK ?_
    refine kPK 7 fun KQ hKQ => ?_
    go_simp
    refine hKQ.out _ _ ?_
    clear hKQ KQ
    try refine kNK ?_
    refine wpAnyK_done (by kernel_rfl) ?_ _
    refine NoPanic.normal ?_
    have HF := HF2
    have HL := HL2
    have HBW := HBC
    clear HF2 HL2 HBC
    clear d0 d1 g0 g1 e0 e1 h0 h1
    generalize ((WD.setCell ⟨f, 0, none⟩ (.int .i64 pr)).setCell ⟨l, 0, none⟩ (.int .i64 pr)) = WC at *
    go_upto_region 12 with fail
    obtain ⟨y0, y1, y2, y3, hbw⟩ := hB.out _ HBW.out
    have Y2 := Lib.hid (show WC.drew.heap[w.heap.size + 1 + 1]? = _ from y2)
    have Y3 := Lib.hid (show WC.drew.heap[w.heap.size + 1 + 1 + 1]? = _ from y3)
    have HY := Lib.hid hbw.drew
    obtain ⟨d0, d1, g0, g1⟩ := row2 (show WC.drew.heap[w.heap.size + 1 + 1]? = _ from y2)
    have HS0 := Lib.hid (show WC.heap[f]? = _ ∧ WC.heap[l]? = _ ∧ WC.heap[w.heap.size + 1]? = _ ∧ WC.heap[w.heap.size + 1 + 1 + 1]? = _ from ⟨HF.out, HL.out, y1, y3⟩)
    clear y0 y1 y2 y3 hbw
    refine wp_region_noPanic ?_
    refine wp_region_k (S := fun W' : World => W'.heap[f]? = some (.cells #[.int .i64 pr, .int .i64 0] 36 (0, 0)) ∧ W'.heap[l]? = some (.cells #[.int .i64 pr, .int .i64 (c - 1)] 36 (0, 0)) ∧ W'.heap[w.heap.size + 1]? = some (.cells #[.int .i64 pr, .int .i64 pc] 36 (0, 0)) ∧ W'.heap[w.heap.size + 1 + 1 + 1]? = some (.cells #[.int .i64 0, .int .i64 0] 36 (0, 0))) 3 (by kernel_rfl) (HS0.out) (fun hHeld => ?_)
    refine kTK (v := ?_) 0 [] hHeld ?y1 ?_
    case y1 => (intro W hSw; obtain ⟨a0, a1, _⟩ := row2 hSw.1; obtain ⟨b0, b1, _⟩ := row2 hSw.2.1; obtain ⟨c0, c1, _⟩ := row2 hSw.2.2.1; go_simp; try with_reducible rfl)
    refine kTK (v := ?_) 1 [] hHeld ?y2 ?_
    case y2 => (intro W hSw; obtain ⟨a0, a1, _⟩ := row2 hSw.1; obtain ⟨b0, b1, _⟩ := row2 hSw.2.1; obtain ⟨c0, c1, _⟩ := row2 hSw.2.2.1; go_simp; try with_reducible rfl)
    try refine kNK ?_
    refine kOK 2 fun KQ hKQ => ?_
    generalize WC.drew = WE at *
    go_simp
    refine hKQ.out _ _ ((by refine ⟨(set_two_other _ _ _ _ ?_).trans hHeld.1, (set_two_other _ _ _ _ ?_).trans hHeld.2.1, (set_two_other _ _ _ _ ?_).trans hHeld.2.2.1, (set_two_other _ _ _ _ ?_).trans hHeld.2.2.2⟩ <;> omega)) ?_
    clear hHeld hKQ KQ
    intro hHeld
    try refine kNK ?_
    obtain ⟨e0, e1, h0, h1⟩ := row2 hHeld.2.2.2
    refine kPK 3 fun KQ hKQ => ?_
    go_simp
    refine hKQ.out _ _ ?_
    clear hKQ KQ
    try refine kNK ?_
    refine kBK 4 ?_
    try refine kNK ?_
    refine wpAnyK_done (by kernel_rfl) ?_ _
    refine NoPanic.normal ?_
    go_wp2_with fail
    obtain ⟨k0, k1, _⟩ := row2 Y3.out
    obtain ⟨r0, r1, _⟩ := row2 ((set_two_other _ _ (.int .i64 pr) (.int .i64 (c - 1)) (show w.heap.size + 1 + 1 ≠ w.heap.size + 1 + 1 + 1 by omega)).trans (set_two Y2.out (.int .i64 pr) (.int .i64 0)))
    obtain ⟨r2, r3, _⟩ := row2 (set_two ((set_two_other _ _ (.int .i64 pr) (.int .i64 0) (show w.heap.size + 1 + 1 + 1 ≠ w.heap.size + 1 + 1 by omega)).trans Y3.out) (.int .i64 pr) (.int .i64 (c - 1)))
    refine bodyPost_ret (v := .tuple #[.agg #[.int .i64 pr, .int .i64 0], .agg #[.int .i64 pr, .int .i64 (c - 1)], .int .i64 0]) (by simp [results, Tryz.results88, go_sem, r0, r1, r2, r3, d0, d1, k0, k1]) rfl ⟨rfl, ?_⟩
    exact (((HY.out.setCell (p := ⟨w.heap.size + 1 + 1, 0, none⟩) (by show w.heap.size ≤ w.heap.size + 1 + 1; omega) _).setCell (p := ⟨w.heap.size + 1 + 1, 1, none⟩) (by show w.heap.size ≤ w.heap.size + 1 + 1; omega) _).setCell (p := ⟨w.heap.size + 1 + 1 + 1, 0, none⟩) (by show w.heap.size ≤ w.heap.size + 1 + 1 + 1; omega) _).setCell (p := ⟨w.heap.size + 1 + 1 + 1, 1, none⟩) (by show w.heap.size ≤ w.heap.size + 1 + 1 + 1; omega) _
  · go_upto_region 8 with fail
    obtain ⟨d0, d1, g0, g1⟩ := row2 (show WB.drew.heap[f]? = _ from HF.out)
    refine wp_region_noPanic ?_
    refine wp_region_k (S := fun W' : World => W'.heap[w.heap.size + 1]? = some (.cells #[.int .i64 pr, .int .i64 pc] 36 (0, 0)) ∧ W'.heap[l]? = some (.cells #[.int .i64 (r - 1), .int .i64 (c - 1)] 36 (0, 0))) 7 (by kernel_rfl) (⟨(hB.out _ HBW.out).2.1, HL.out⟩) (fun hHeld => ?_)
    refine kSK 0 hHeld ?_
    refine kTK (v := ?_) 1 [] hHeld ?y2 ?_
    case y2 => (intro W hSw; obtain ⟨b0, b1, _⟩ := row2 hSw.1; go_simp; try with_reducible rfl)
    refine kSK 2 hHeld ?_
    refine kTK (v := ?_) 3 [] hHeld ?y4 ?_
    case y4 => (intro W hSw; obtain ⟨b0, b1, _⟩ := row2 hSw.1; go_simp; try with_reducible rfl)
    refine kSK 4 hHeld ?_
    try refine kNK ?_
    refine kOK 5 fun KQ hKQ => ?_
    have hWC : ∀ u v : Value, Below (w.heap.size + 1 + 1 + 1 + 1) ((((w.alloc (.cells #[.int .i64 r, .int .i64 c] 23)).alloc (.cells #[.int .i64 pr, .int .i64 pc] 36)).alloc (.cells #[.int .i64 0, .int .i64 0] 36)).alloc (.cells #[.int .i64 0, .int .i64 0] 36)) ((WB.drew.setCell ⟨f, 0, none⟩ u).setCell ⟨l, 0, none⟩ v) := fun u v => ((HBW.out.drew.setCell (p := ⟨f, 0, none⟩) z1 u).setCell (p := ⟨l, 0, none⟩) z2 v)
    have HBC := Lib.hid (hWC (.int .i64 pr) (.int .i64 pr))
    have HF2 := Lib.hid (show ((WB.drew.setCell ⟨f, 0, none⟩ (.int .i64 pr)).setCell ⟨l, 0, none⟩ (.int .i64 pr)).heap[f]? = some (.cells #[.int .i64 pr, .int .i64 0] 36 (0, 0)) from (heap_setCell_other _ _ _ _ z3).trans (heap_set_same HF.out 0 _))
    have HL2 := Lib.hid (show ((WB.drew.setCell ⟨f, 0, none⟩ (.int .i64 pr)).setCell ⟨l, 0, none⟩ (.int .i64 pr)).heap[l]? = some (.cells #[.int .i64 pr, .int .i64 (c - 1)] 36 (0, 0)) from heap_set_same ((heap_setCell_other _ _ _ _ (Ne.symm z3)).trans HL.out) 0 _)
    clear HF HL HBW hWC
    generalize WB.drew = WD at *
    go_simp
    refine hKQ.out _ _ ((by refine ⟨(heap_setCell_other _ _ _ _ ?_).trans hHeld.1, (heap_setCell_other _ _ _ _ ?_).trans hHeld.2⟩; exact (show w.heap.size + 1 ≠ f by omega); exact (show l ≠ f by omega))) ?_
    clear hHeld hKQ KQ
    intro hHeld
    try refine kNK ?_
    obtain ⟨e0, e1, h0, h1⟩ := row2 hHeld.2
    refine kSK 6 hHeld ?_
    try refine kNK ?_
    refine kPK 7 fun KQ hKQ => ?_
    go_simp
    refine hKQ.out _ _ ?_
    clear hKQ KQ
    try refine kNK ?_
    refine wpAnyK_done (by kernel_rfl) ?_ _
    refine NoPanic.normal ?_
    have HF := HF2
    have HL := HL2
    have HBW := HBC
    clear HF2 HL2 HBC
    clear d0 d1 g0 g1 e0 e1 h0 h1
    generalize ((WD.setCell ⟨f, 0, none⟩ (.int .i64 pr)).setCell ⟨l, 0, none⟩ (.int .i64 pr)) = WC at *
    go_upto_region 15 with fail
    obtain ⟨y0, y1, y2, y3, hbw⟩ := hB.out _ HBW.out
    have Y2 := Lib.hid (show WC.drew.heap[w.heap.size + 1 + 1]? = _ from y2)
    have Y3 := Lib.hid (show WC.drew.heap[w.heap.size + 1 + 1 + 1]? = _ from y3)
    have HY := Lib.hid hbw.drew
    obtain ⟨d0, d1, g0, g1⟩ := row2 (show WC.drew.heap[w.heap.size + 1 + 1]? = _ from y2)
    have HS0 := Lib.hid (show WC.heap[f]? = _ ∧ WC.heap[l]? = _ ∧ WC.heap[w.heap.size + 1]? = _ ∧ WC.heap[w.heap.size + 1 + 1 + 1]? = _ from ⟨HF.out, HL.out, y1, y3⟩)
    clear y0 y1 y2 y3 hbw
    refine wp_region_noPanic ?_
    refine wp_region_k (S := fun W' : World => W'.heap[f]? = some (.cells #[.int .i64 pr, .int .i64 0] 36 (0, 0)) ∧ W'.heap[l]? = some (.cells #[.int .i64 pr, .int .i64 (c - 1)] 36 (0, 0)) ∧ W'.heap[w.heap.size + 1]? = some (.cells #[.int .i64 pr, .int .i64 pc] 36 (0, 0)) ∧ W'.heap[w.heap.size + 1 + 1 + 1]? = some (.cells #[.int .i64 0, .int .i64 0] 36 (0, 0))) 3 (by kernel_rfl) (HS0.out) (fun hHeld => ?_)
    refine kTK (v := ?_) 0 [] hHeld ?y1 ?_
    case y1 => (intro W hSw; obtain ⟨a0, a1, _⟩ := row2 hSw.1; obtain ⟨b0, b1, _⟩ := row2 hSw.2.1; obtain ⟨c0, c1, _⟩ := row2 hSw.2.2.1; go_simp; try with_reducible rfl)
    refine kTK (v := ?_) 1 [] hHeld ?y2 ?_
    case y2 => (intro W hSw; obtain ⟨a0, a1, _⟩ := row2 hSw.1; obtain ⟨b0, b1, _⟩ := row2 hSw.2.1; obtain ⟨c0, c1, _⟩ := row2 hSw.2.2.1; go_simp; try with_reducible rfl)
    try refine kNK ?_
    refine kOK 2 fun KQ hKQ => ?_
    generalize WC.drew = WE at *
    go_simp
    refine hKQ.out _ _ ((by refine ⟨(set_two_other _ _ _ _ ?_).trans hHeld.1, (set_two_other _ _ _ _ ?_).trans hHeld.2.1, (set_two_other _ _ _ _ ?_).trans hHeld.2.2.1, (set_two_other _ _ _ _ ?_).trans hHeld.2.2.2⟩ <;> omega)) ?_
    clear hHeld hKQ KQ
    intro hHeld
    try refine kNK ?_
    obtain ⟨e0, e1, h0, h1⟩ := row2 hHeld.2.2.2
    refine kPK 3 fun KQ hKQ => ?_
    go_simp
    refine hKQ.out _ _ ?_
    clear hKQ KQ
    try refine kNK ?_
    refine kBK 4 ?_
    try refine kNK ?_
    refine wpAnyK_done (by kernel_rfl) ?_ _
    refine NoPanic.normal ?_
    go_wp2_with fail
    obtain ⟨k0, k1, _⟩ := row2 Y3.out
    obtain ⟨r0, r1, _⟩ := row2 ((set_two_other _ _ (.int .i64 pr) (.int .i64 (c - 1)) (show w.heap.size + 1 + 1 ≠ w.heap.size + 1 + 1 + 1 by omega)).trans (set_two Y2.out (.int .i64 pr) (.int .i64 pc)))
    obtain ⟨r2, r3, _⟩ := row2 (set_two ((set_two_other _ _ (.int .i64 pr) (.int .i64 pc) (show w.heap.size + 1 + 1 + 1 ≠ w.heap.size + 1 + 1 by omega)).trans Y3.out) (.int .i64 pr) (.int .i64 (c - 1)))
    refine bodyPost_ret (v := .tuple #[.agg #[.int .i64 pr, .int .i64 pc], .agg #[.int .i64 pr, .int .i64 (c - 1)], .int .i64 0]) (by simp [results, Tryz.results88, go_sem, r0, r1, r2, r3, d0, d1, k0, k1]) rfl ⟨rfl, ?_⟩
    exact (((HY.out.setCell (p := ⟨w.heap.size + 1 + 1, 0, none⟩) (by show w.heap.size ≤ w.heap.size + 1 + 1; omega) _).setCell (p := ⟨w.heap.size + 1 + 1, 1, none⟩) (by show w.heap.size ≤ w.heap.size + 1 + 1; omega) _).setCell (p := ⟨w.heap.size + 1 + 1 + 1, 0, none⟩) (by show w.heap.size ≤ w.heap.size + 1 + 1 + 1; omega) _).setCell (p := ⟨w.heap.size + 1 + 1 + 1, 1, none⟩) (by show w.heap.size ≤ w.heap.size + 1 + 1 + 1; omega) _
  · go_upto_region 8 with fail
    obtain ⟨d0, d1, g0, g1⟩ := row2 (show WB.drew.heap[f]? = _ from HF.out)
    refine wp_region_noPanic ?_
    refine wp_region_k (S := fun W' : World => W'.heap[w.heap.size + 1]? = some (.cells #[.int .i64 pr, .int .i64 pc] 36 (0, 0)) ∧ W'.heap[l]? = some (.cells #[.int .i64 (r - 1), .int .i64 (c - 1)] 36 (0, 0))) 7 (by kernel_rfl) (⟨(hB.out _ HBW.out).2.1, HL.out⟩) (fun hHeld => ?_)
    refine kSK 0 hHeld ?_
    refine kTK (v := ?_) 1 [] hHeld ?y2 ?_
    case y2 => (intro W hSw; obtain ⟨b0, b1, _⟩ := row2 hSw.1; go_simp; try with_reducible rfl)
    refine kSK 2 hHeld ?_
    refine kTK (v := ?_) 3 [] hHeld ?y4 ?_
    case y4 => (intro W hSw; obtain ⟨b0, b1, _⟩ := row2 hSw.1; go_simp; try with_reducible rfl)
    refine kSK 4 hHeld ?_
    try refine kNK ?_
    refine kOK 5 fun KQ hKQ => ?_
    have hWC : ∀ u v : Value, Below (w.heap.size + 1 + 1 + 1 + 1) ((((w.alloc (.cells #[.int .i64 r, .int .i64 c] 23)).alloc (.cells #[.int .i64 pr, .int .i64 pc] 36)).alloc (.cells #[.int .i64 0, .int .i64 0] 36)).alloc (.cells #[.int .i64 0, .int .i64 0] 36)) ((WB.drew.setCell ⟨f, 0, none⟩ u).setCell ⟨l, 0, none⟩ v) := fun u v => ((HBW.out.drew.setCell (p := ⟨f, 0, none⟩) z1 u).setCell (p := ⟨l, 0, none⟩) z2 v)
    have HBC := Lib.hid (hWC (.int .i64 pr) (.int .i64 pr))
    have HF2 := Lib.hid (show ((WB.drew.setCell ⟨f, 0, none⟩ (.int .i64 pr)).setCell ⟨l, 0, none⟩ (.int .i64 pr)).heap[f]? = some (.cells #[.int .i64 pr, .int .i64 0] 36 (0, 0)) from (heap_setCell_other _ _ _ _ z3).trans (heap_set_same HF.out 0 _))
    have HL2 := Lib.hid (show ((WB.drew.setCell ⟨f, 0, none⟩ (.int .i64 pr)).setCell ⟨l, 0, none⟩ (.int .i64 pr)).heap[l]? = some (.cells #[.int .i64 pr, .int .i64 (c - 1)] 36 (0, 0)) from heap_set_same ((heap_setCell_other _ _ _ _ (Ne.symm z3)).trans HL.out) 0 _)
    clear HF HL HBW hWC
    generalize WB.drew = WD at *
    go_simp
    refine hKQ.out _ _ ((by refine ⟨(heap_setCell_other _ _ _ _ ?_).trans hHeld.1, (heap_setCell_other _ _ _ _ ?_).trans hHeld.2⟩; exact (show w.heap.size + 1 ≠ f by omega); exact (show l ≠ f by omega))) ?_
    clear hHeld hKQ KQ
    intro hHeld
    try refine kNK ?_
    obtain ⟨e0, e1, h0, h1⟩ := row2 hHeld.2
    refine kSK 6 hHeld ?_
    try refine kNK ?_
    refine kPK 7 fun KQ hKQ => ?_
    go_simp
    refine hKQ.out _ _ ?_
    clear hKQ KQ
    try refine kNK ?_
    refine wpAnyK_done (by kernel_rfl) ?_ _
    refine NoPanic.normal ?_
    have HF := HF2
    have HL := HL2
    have HBW := HBC
    clear HF2 HL2 HBC
    clear d0 d1 g0 g1 e0 e1 h0 h1
    generalize ((WD.setCell ⟨f, 0, none⟩ (.int .i64 pr)).setCell ⟨l, 0, none⟩ (.int .i64 pr)) = WC at *
    go_upto_region 18 with fail
    obtain ⟨y0, y1, y2, y3, hbw⟩ := hB.out _ HBW.out
    have Y2 := Lib.hid (show WC.drew.heap[w.heap.size + 1 + 1]? = _ from y2)
    have Y3 := Lib.hid (show WC.drew.heap[w.heap.size + 1 + 1 + 1]? = _ from y3)
    have HY := Lib.hid hbw.drew
    obtain ⟨d0, d1, g0, g1⟩ := row2 (show WC.drew.heap[w.heap.size + 1 + 1]? = _ from y2)
    have HS0 := Lib.hid (show WC.heap[f]? = _ ∧ WC.heap[l]? = _ ∧ WC.heap[w.heap.size + 1]? = _ ∧ WC.heap[w.heap.size + 1 + 1 + 1]? = _ from ⟨HF.out, HL.out, y1, y3⟩)
    clear y0 y1 y2 y3 hbw
    refine wp_region_noPanic ?_
    refine wp_region_k (S := fun W' : World => W'.heap[f]? = some (.cells #[.int .i64 pr, .int .i64 0] 36 (0, 0)) ∧ W'.heap[l]? = some (.cells #[.int .i64 pr, .int .i64 (c - 1)] 36 (0, 0)) ∧ W'.heap[w.heap.size + 1]? = some (.cells #[.int .i64 pr, .int .i64 pc] 36 (0, 0)) ∧ W'.heap[w.heap.size + 1 + 1 + 1]? = some (.cells #[.int .i64 0, .int .i64 0] 36 (0, 0))) 3 (by kernel_rfl) (HS0.out) (fun hHeld => ?_)
    refine kTK (v := ?_) 0 [] hHeld ?y1 ?_
    case y1 => (intro W hSw; obtain ⟨a0, a1, _⟩ := row2 hSw.1; obtain ⟨b0, b1, _⟩ := row2 hSw.2.1; obtain ⟨c0, c1, _⟩ := row2 hSw.2.2.1; go_simp; try with_reducible rfl)
    refine kTK (v := ?_) 1 [] hHeld ?y2 ?_
    case y2 => (intro W hSw; obtain ⟨a0, a1, _⟩ := row2 hSw.1; obtain ⟨b0, b1, _⟩ := row2 hSw.2.1; obtain ⟨c0, c1, _⟩ := row2 hSw.2.2.1; go_simp; try with_reducible rfl)
    try refine kNK ?_
    refine kOK 2 fun KQ hKQ => ?_
    generalize WC.drew = WE at *
    go_simp
    refine hKQ.out _ _ ((by refine ⟨(set_two_other _ _ _ _ ?_).trans hHeld.1, (set_two_other _ _ _ _ ?_).trans hHeld.2.1, (set_two_other _ _ _ _ ?_).trans hHeld.2.2.1, (set_two_other _ _ _ _ ?_).trans hHeld.2.2.2⟩ <;> omega)) ?_
    clear hHeld hKQ KQ
    intro hHeld
    try refine kNK ?_
    obtain ⟨e0, e1, h0, h1⟩ := row2 hHeld.2.2.2
    refine kPK 3 fun KQ hKQ => ?_
    go_simp
    refine hKQ.out _ _ ?_
    clear hKQ KQ
    try refine kNK ?_
    refine kBK 4 ?_
    try refine kNK ?_
    refine wpAnyK_done (by kernel_rfl) ?_ _
    refine NoPanic.normal ?_
    go_wp2_with fail
    obtain ⟨k0, k1, _⟩ := row2 Y3.out
    obtain ⟨r0, r1, _⟩ := row2 ((set_two_other _ _ (.int .i64 pr) (.int .i64 pc) (show w.heap.size + 1 + 1 ≠ w.heap.size + 1 + 1 + 1 by omega)).trans (set_two Y2.out (.int .i64 pr) (.int .i64 0)))
    obtain ⟨r2, r3, _⟩ := row2 (set_two ((set_two_other _ _ (.int .i64 pr) (.int .i64 0) (show w.heap.size + 1 + 1 + 1 ≠ w.heap.size + 1 + 1 by omega)).trans Y3.out) (.int .i64 pr) (.int .i64 pc))
    refine bodyPost_ret (v := .tuple #[.agg #[.int .i64 pr, .int .i64 0], .agg #[.int .i64 pr, .int .i64 pc], .int .i64 0]) (by simp [results, Tryz.results88, go_sem, r0, r1, r2, r3, d0, d1, k0, k1]) rfl ⟨rfl, ?_⟩
    exact (((HY.out.setCell (p := ⟨w.heap.size + 1 + 1, 0, none⟩) (by show w.heap.size ≤ w.heap.size + 1 + 1; omega) _).setCell (p := ⟨w.heap.size + 1 + 1, 1, none⟩) (by show w.heap.size ≤ w.heap.size + 1 + 1; omega) _).setCell (p := ⟨w.heap.size + 1 + 1 + 1, 0, none⟩) (by show w.heap.size ≤ w.heap.size + 1 + 1 + 1; omega) _).setCell (p := ⟨w.heap.size + 1 + 1 + 1, 1, none⟩) (by show w.heap.size ≤ w.heap.size + 1 + 1 + 1; omega) _)
theorem part_no (r c k : Int) (p : Vz.Ps) (w : World) (hm : Vz.mayS r c = true) (hp : p.inS r c) (hk : k < 1 ∨ 6 < k) :
 Calls Tryz.prog 88 #[.agg #[.int .i64 r, .int .i64 c], .agg #[.int .i64 p.row, .int .i64 p.col], .int .i64 k] w fun e w' => e = .returned (.tuple #[.agg #[.int .i64 0, .int .i64 0], .agg #[.int .i64 0, .int .i64 0], .int .i64 12]) ∧ Below w.heap.size w w' := by
 have hmm := (Vz.mayS_iff r c).1 hm
 obtain ⟨m1, m2, m3, m4⟩ := hmm
 obtain ⟨p1, p2, p3, p4⟩ := hp
 obtain ⟨pr, pc⟩ := p
 simp only at p1 p2 p3 p4
 have HM := Lib.hid (may_ok r c hm)
 have hw1 : IntKind.i64.wrap (r - 1) = r - 1 := wrap_in (by omega) (by omega)
 have hw2 : IntKind.i64.wrap (c - 1) = c - 1 := wrap_in (by omega) (by omega)
 clear hm
 have hB : Hid (∀ W, Below (w.heap.size + 1 + 1 + 1 + 1) ((((w.alloc (.cells #[.int .i64 r, .int .i64 c] 23)).alloc (.cells #[.int .i64 pr, .int .i64 pc] 36)).alloc (.cells #[.int .i64 0, .int .i64 0] 36)).alloc (.cells #[.int .i64 0, .int .i64 0] 36)) W → W.heap[w.heap.size]? = some (.cells #[.int .i64 r, .int .i64 c] 23 (0, 0)) ∧ W.heap[w.heap.size + 1]? = some (.cells #[.int .i64 pr, .int .i64 pc] 36 (0, 0)) ∧ W.heap[w.heap.size + 1 + 1]? = some (.cells #[.int .i64 0, .int .i64 0] 36 (0, 0)) ∧ W.heap[w.heap.size + 1 + 1 + 1]? = some (.cells #[.int .i64 0, .int .i64 0] 36 (0, 0)) ∧ Below w.heap.size w W) := fun W hb => by
  obtain ⟨x0, x1, x2, x3, h⟩ := box4 (hb.mono (by simp))
  exact ⟨x0, x1, x2, x3, h⟩
 rcases hk with hk | hk
 · go_enter Tryz.func88, Tryz.ntmps88
   go_upto_region 6 with (go_at_call 74; refine (HM.out _).mono ?_; rintro e w1 ⟨rfl, hw1⟩; have HB1 := Lib.hid (show Below (w.heap.size + 1 + 1 + 1 + 1) ((((w.alloc (.cells #[.int .i64 r, .int .i64 c] 23)).alloc (.cells #[.int .i64 pr, .int .i64 pc] 36)).alloc (.cells #[.int .i64 0, .int .i64 0] 36)).alloc (.cells #[.int .i64 0, .int .i64 0] 36)) w1 from by rw [← hw1]; exact (Below.refl _ _).alloc (by simp) _); clear hw1; obtain ⟨x0, x1, x2, x3, _⟩ := hB.out _ HB1.out; obtain ⟨a0, a1, _⟩ := row2 x0; obtain ⟨b0, b1, _⟩ := row2 x1)
   have hz1 : w.heap.size + 1 + 1 + 1 + 1 ≤ w1.heap.size := Nat.le_trans (by simp) HB1.out.size
   have HD1 := Lib.hid HB1.out.drew
   refine wp_region_noPanic ?_
   refine wp_region_k (S := fun W' : World => Below (w.heap.size + 1 + 1 + 1 + 1) ((((w.alloc (.cells #[.int .i64 r, .int .i64 c] 23)).alloc (.cells #[.int .i64 pr, .int .i64 pc] 36)).alloc (.cells #[.int .i64 0, .int .i64 0] 36)).alloc (.cells #[.int .i64 0, .int .i64 0] 36)) W') 999 (by kernel_rfl) (HD1.out) (fun hHeld => ?_)
   refine kSK 0 hHeld ?_
   refine kSK 1 hHeld ?_
   refine kHK (v := ?_) 2 hHeld ?y3 ?_
   case y3 => (intro W hSw; obtain ⟨y0, y1, y2, y3, _⟩ := hB.out _ hSw; obtain ⟨a0, a1, _⟩ := row2 y0; obtain ⟨b0, b1, _⟩ := row2 y1; go_simp; try with_reducible rfl)
   refine kSK 3 hHeld ?_
   refine kSK 4 hHeld ?_
   try refine kNK ?_
   refine kHK (v := ?_) 5 hHeld ?y6 ?_
   case y6 => (intro W hSw; obtain ⟨y0, y1, y2, y3, _⟩ := hB.out _ hSw; obtain ⟨a0, a1, _⟩ := row2 y0; obtain ⟨b0, b1, _⟩ := row2 y1; go_simp; try with_reducible rfl)
   refine kSK 6 hHeld ?_
   refine kSK 7 hHeld ?_
   try refine kNK ?_
   refine wpAnyK_ready (rs := [8, 9]) (by kernel_rfl) (by simp) ?_
   refine AllReadyK.cons rfl (fun KQ hKQ => ?_) (AllReadyK.cons rfl (fun KQ hKQ => ?_) AllReadyK.nil)
   focus
    go_simp
    refine hKQ.out _ _ ((by repeat first | exact HD1.out | refine Below.drew ?_ | exact HB1.out | refine Below.alloc ?_ (by first | omega | (simp; omega)) _)) ?_
    clear hHeld hKQ KQ
    intro hHeld
    try refine kNK ?_
    refine kOK 9 fun KQ hKQ => ?_
    go_simp
    refine hKQ.out _ _ ((by repeat first | exact HD1.out | refine Below.drew ?_ | exact HB1.out | refine Below.alloc ?_ (by first | omega | (simp; omega)) _)) ?_
    clear hHeld hKQ KQ
    intro hHeld
    try refine kNK ?_
    refine kOK 10 fun KQ hKQ => ?_
    go_simp
    refine hKQ.out _ _ ((by repeat first | exact HD1.out | refine Below.drew ?_ | exact HB1.out | refine Below.alloc ?_ (by first | omega | (simp; omega)) _)) ?_
    clear hHeld hKQ KQ
    intro hHeld
    try refine kNK ?_
    refine kOK 11 fun KQ hKQ => ?_
    go_simp
    refine hKQ.out _ _ ((by repeat first | exact HD1.out | refine Below.drew ?_ | exact HB1.out | refine Below.alloc ?_ (by first | omega | (simp; omega)) _)) ?_
    clear hHeld hKQ KQ
    intro hHeld
    try refine kNK ?_
    refine wpAnyK_done (by kernel_rfl) ?_ _
    refine NoPanic.normal ?_
   rotate_left 1
   focus
    go_simp
    refine hKQ.out _ _ ((by repeat first | exact HD1.out | refine Below.drew ?_ | exact HB1.out | refine Below.alloc ?_ (by first | omega | (simp; omega)) _)) ?_
    clear hHeld hKQ KQ
    intro hHeld
    try refine kNK ?_
    refine kOK 8 fun KQ hKQ => ?_
    go_simp
    refine hKQ.out _ _ ((by repeat first | exact HD1.out | refine Below.drew ?_ | exact HB1.out | refine Below.alloc ?_ (by first | omega | (simp; omega)) _)) ?_
    clear hHeld hKQ KQ
    intro hHeld
    try refine kNK ?_
    refine kOK 10 fun KQ hKQ => ?_
    go_simp
    refine hKQ.out _ _ ((by repeat first | exact HD1.out | refine Below.drew ?_ | exact HB1.out | refine Below.alloc ?_ (by first | omega | (simp; omega)) _)) ?_
    clear hHeld hKQ KQ
    intro hHeld
    try refine kNK ?_
    refine kOK 11 fun KQ hKQ => ?_
    go_simp
    refine hKQ.out _ _ ((by repeat first | exact HD1.out | refine Below.drew ?_ | exact HB1.out | refine Below.alloc ?_ (by first | omega | (simp; omega)) _)) ?_
    clear hHeld hKQ KQ
    intro hHeld
    try refine kNK ?_
    refine wpAnyK_done (by kernel_rfl) ?_ _
    refine NoPanic.normal ?_
   rotate_left 1
   all_goals (
    clear HD1 x0 x1 x2 x3 a0 a1 b0 b1 hHeld
    first
     | (have hbx := box2 (Below.refl ((w1.alloc (.cells #[.int .i64 0, .int .i64 0] 36)).alloc (.cells #[.int .i64 (r - 1), .int .i64 (c - 1)] 36)).heap.size ((w1.alloc (.cells #[.int .i64 0, .int .i64 0] 36)).alloc (.cells #[.int .i64 (r - 1), .int .i64 (c - 1)] 36)))
        have HBW : Hid (Below (w.heap.size + 1 + 1 + 1 + 1) ((((w.alloc (.cells #[.int .i64 r, .int .i64 c] 23)).alloc (.cells #[.int .i64 pr, .int .i64 pc] 36)).alloc (.cells #[.int .i64 0, .int .i64 0] 36)).alloc (.cells #[.int .i64 0, .int .i64 0] 36)) ((w1.alloc (.cells #[.int .i64 0, .int .i64 0] 36)).alloc (.cells #[.int .i64 (r - 1), .int .i64 (c - 1)] 36)).drew) := (by repeat first | exact HB1.out | refine Below.drew ?_ | refine Below.alloc ?_ (by first | omega | (simp; omega)) _)
        have HF := Lib.hid (show ((w1.alloc (.cells #[.int .i64 0, .int .i64 0] 36)).alloc (.cells #[.int .i64 (r - 1), .int .i64 (c - 1)] 36)).drew.heap[w1.heap.size]? = _ from hbx.1)
        have HL := Lib.hid (show ((w1.alloc (.cells #[.int .i64 0, .int .i64 0] 36)).alloc (.cells #[.int .i64 (r - 1), .int .i64 (c - 1)] 36)).drew.heap[w1.heap.size + 1]? = _ from hbx.2.1)
        have hfl : w.heap.size + 1 + 1 + 1 + 1 ≤ w1.heap.size ∧ w.heap.size + 1 + 1 + 1 + 1 ≤ w1.heap.size + 1 ∧ w1.heap.size ≠ w1.heap.size + 1 := ⟨by omega, by omega, by omega⟩
        clear hbx HB1 hz1
        obtain ⟨WB, hWB⟩ : ∃ WB, ((w1.alloc (.cells #[.int .i64 0, .int .i64 0] 36)).alloc (.cells #[.int .i64 (r - 1), .int .i64 (c - 1)] 36)).drew = WB := ⟨_, rfl⟩
        rw [hWB] at HBW HF HL ⊢
        clear hWB
        generalize w1.heap.size + 1 = l at *
        generalize w1.heap.size = f at *)
     | (have hbx := box2 (Below.refl ((w1.alloc (.cells #[.int .i64 (r - 1), .int .i64 (c - 1)] 36)).alloc (.cells #[.int .i64 0, .int .i64 0] 36)).heap.size ((w1.alloc (.cells #[.int .i64 (r - 1), .int .i64 (c - 1)] 36)).alloc (.cells #[.int .i64 0, .int .i64 0] 36)))
        have HBW : Hid (Below (w.heap.size + 1 + 1 + 1 + 1) ((((w.alloc (.cells #[.int .i64 r, .int .i64 c] 23)).alloc (.cells #[.int .i64 pr, .int .i64 pc] 36)).alloc (.cells #[.int .i64 0, .int .i64 0] 36)).alloc (.cells #[.int .i64 0, .int .i64 0] 36)) ((w1.alloc (.cells #[.int .i64 (r - 1), .int .i64 (c - 1)] 36)).alloc (.cells #[.int .i64 0, .int .i64 0] 36)).drew) := (by repeat first | exact HB1.out | refine Below.drew ?_ | refine Below.alloc ?_ (by first | omega | (simp; omega)) _)
        have HF := Lib.hid (show ((w1.alloc (.cells #[.int .i64 (r - 1), .int .i64 (c - 1)] 36)).alloc (.cells #[.int .i64 0, .int .i64 0] 36)).drew.heap[w1.heap.size + 1]? = _ from hbx.2.1)
        have HL := Lib.hid (show ((w1.alloc (.cells #[.int .i64 (r - 1), .int .i64 (c - 1)] 36)).alloc (.cells #[.int .i64 0, .int .i64 0] 36)).drew.heap[w1.heap.size]? = _ from hbx.1)
        have hfl : w.heap.size + 1 + 1 + 1 + 1 ≤ w1.heap.size + 1 ∧ w.heap.size + 1 + 1 + 1 + 1 ≤ w1.heap.size ∧ w1.heap.size + 1 ≠ w1.heap.size := ⟨by omega, by omega, by omega⟩
        clear hbx HB1 hz1
        obtain ⟨WB, hWB⟩ : ∃ WB, ((w1.alloc (.cells #[.int .i64 (r - 1), .int .i64 (c - 1)] 36)).alloc (.cells #[.int .i64 0, .int .i64 0] 36)).drew = WB := ⟨_, rfl⟩
        rw [hWB] at HBW HF HL ⊢
        clear hWB
        generalize w1.heap.size + 1 = f at *
        generalize w1.heap.size = l at *)
    obtain ⟨z1, z2, z3⟩ := hfl
    obtain ⟨y0, y1, y2, y3, hbw⟩ := hB.out _ HBW.out
    obtain ⟨d0, d1, g0, g1⟩ := row2 y2
    obtain ⟨k0, k1, n0, n1⟩ := row2 y3
    have Y2 := Lib.hid y2
    have Y3 := Lib.hid y3
    have HY := Lib.hid hbw
    clear y0 y1 y2 y3 hbw
    go_wp2_with fail
    obtain ⟨r0, r1, _⟩ := row2 ((set_two_other _ _ (.int .i64 0) (.int .i64 0) (show w.heap.size + 1 + 1 ≠ w.heap.size + 1 + 1 + 1 by omega)).trans (set_two Y2.out (.int .i64 0) (.int .i64 0)))
    obtain ⟨r2, r3, _⟩ := row2 (set_two ((set_two_other _ _ (.int .i64 0) (.int .i64 0) (show w.heap.size + 1 + 1 + 1 ≠ w.heap.size + 1 + 1 by omega)).trans Y3.out) (.int .i64 0) (.int .i64 0))
    refine bodyPost_ret (v := .tuple #[.agg #[.int .i64 0, .int .i64 0], .agg #[.int .i64 0, .int .i64 0], .int .i64 12]) (by simp [results, Tryz.results88, go_sem, r0, r1, r2, r3, d0, d1, k0, k1]) rfl ⟨rfl, ?_⟩
    exact (((HY.out.setCell (p := ⟨w.heap.size + 1 + 1, 0, none⟩) (by show w.heap.size ≤ w.heap.size + 1 + 1; omega) _).setCell (p := ⟨w.heap.size + 1 + 1, 1, none⟩) (by show w.heap.size ≤ w.heap.size + 1 + 1; omega) _).setCell (p := ⟨w.heap.size + 1 + 1 + 1, 0, none⟩) (by show w.heap.size ≤ w.heap.size + 1 + 1 + 1; omega) _).setCell (p := ⟨w.heap.size + 1 + 1 + 1, 1, none⟩) (by show w.heap.size ≤ w.heap.size + 1 + 1 + 1; omega) _
   )
 · go_enter Tryz.func88, Tryz.ntmps88
   go_upto_region 6 with (go_at_call 74; refine (HM.out _).mono ?_; rintro e w1 ⟨rfl, hw1⟩; have HB1 := Lib.hid (show Below (w.heap.size + 1 + 1 + 1 + 1) ((((w.alloc (.cells #[.int .i64 r, .int .i64 c] 23)).alloc (.cells #[.int .i64 pr, .int .i64 pc] 36)).alloc (.cells #[.int .i64 0, .int .i64 0] 36)).alloc (.cells #[.int .i64 0, .int .i64 0] 36)) w1 from by rw [← hw1]; exact (Below.refl _ _).alloc (by simp) _); clear hw1; obtain ⟨x0, x1, x2, x3, _⟩ := hB.out _ HB1.out; obtain ⟨a0, a1, _⟩ := row2 x0; obtain ⟨b0, b1, _⟩ := row2 x1)
   have hz1 : w.heap.size + 1 + 1 + 1 + 1 ≤ w1.heap.size := Nat.le_trans (by simp) HB1.out.size
   have HD1 := Lib.hid HB1.out.drew
   refine wp_region_noPanic ?_
   refine wp_region_k (S := fun W' : World => Below (w.heap.size + 1 + 1 + 1 + 1) ((((w.alloc (.cells #[.int .i64 r, .int .i64 c] 23)).alloc (.cells #[.int .i64 pr, .int .i64 pc] 36)).alloc (.cells #[.int .i64 0, .int .i64 0] 36)).alloc (.cells #[.int .i64 0, .int .i64 0] 36)) W') 999 (by kernel_rfl) (HD1.out) (fun hHeld => ?_)
   refine kSK 0 hHeld ?_
   refine kSK 1 hHeld ?_
   refine kHK (v := ?_) 2 hHeld ?y3 ?_
   case y3 => (intro W hSw; obtain ⟨y0, y1, y2, y3, _⟩ := hB.out _ hSw; obtain ⟨a0, a1, _⟩ := row2 y0; obtain ⟨b0, b1, _⟩ := row2 y1; go_simp; try with_reducible rfl)
   refine kSK 3 hHeld ?_
   refine kSK 4 hHeld ?_
   try refine kNK ?_
   refine kHK (v := ?_) 5 hHeld ?y6 ?_
   case y6 => (intro W hSw; obtain ⟨y0, y1, y2, y3, _⟩ := hB.out _ hSw; obtain ⟨a0, a1, _⟩ := row2 y0; obtain ⟨b0, b1, _⟩ := row2 y1; go_simp; try with_reducible rfl)
   refine kSK 6 hHeld ?_
   refine kSK 7 hHeld ?_
   try refine kNK ?_
   refine wpAnyK_ready (rs := [8, 9]) (by kernel_rfl) (by simp) ?_
   refine AllReadyK.cons rfl (fun KQ hKQ => ?_) (AllReadyK.cons rfl (fun KQ hKQ => ?_) AllReadyK.nil)
   focus
    go_simp
    refine hKQ.out _ _ ((by repeat first | exact HD1.out | refine Below.drew ?_ | exact HB1.out | refine Below.alloc ?_ (by first | omega | (simp; omega)) _)) ?_
    clear hHeld hKQ KQ
    intro hHeld
    try refine kNK ?_
    refine kOK 9 fun KQ hKQ => ?_
    go_simp
    refine hKQ.out _ _ ((by repeat first | exact HD1.out | refine Below.drew ?_ | exact HB1.out | refine Below.alloc ?_ (by first | omega | (simp; omega)) _)) ?_
    clear hHeld hKQ KQ
    intro hHeld
    try refine kNK ?_
    refine kOK 10 fun KQ hKQ => ?_
    go_simp
    refine hKQ.out _ _ ((by repeat first | exact HD1.out | refine Below.drew ?_ | exact HB1.out | refine Below.alloc ?_ (by first | omega | (simp; omega)) _)) ?_
    clear hHeld hKQ KQ
    intro hHeld
    try refine kNK ?_
    refine kOK 11 fun KQ hKQ => ?_
    go_simp
    refine hKQ.out _ _ ((by repeat first | exact HD1.out | refine Below.drew ?_ | exact HB1.out | refine Below.alloc ?_ (by first | omega | (simp; omega)) _)) ?_
    clear hHeld hKQ KQ
    intro hHeld
    try refine kNK ?_
    refine wpAnyK_done (by kernel_rfl) ?_ _
    refine NoPanic.normal ?_
   rotate_left 1
   focus
    go_simp
    refine hKQ.out _ _ ((by repeat first | exact HD1.out | refine Below.drew ?_ | exact HB1.out | refine Below.alloc ?_ (by first | omega | (simp; omega)) _)) ?_
    clear hHeld hKQ KQ
    intro hHeld
    try refine kNK ?_
    refine kOK 8 fun KQ hKQ => ?_
    go_simp
    refine hKQ.out _ _ ((by repeat first | exact HD1.out | refine Below.drew ?_ | exact HB1.out | refine Below.alloc ?_ (by first | omega | (simp; omega)) _)) ?_
    clear hHeld hKQ KQ
    intro hHeld
    try refine kNK ?_
    refine kOK 10 fun KQ hKQ => ?_
    go_simp
    refine hKQ.out _ _ ((by repeat first | exact HD1.out | refine Below.drew ?_ | exact HB1.out | refine Below.alloc ?_ (by first | omega | (simp; omega)) _)) ?_
    clear hHeld hKQ KQ
    intro hHeld
    try refine kNK ?_
    refine kOK 11 fun KQ hKQ => ?_
    go_simp
    refine hKQ.out _ _ ((by repeat first | exact HD1.out | refine Below.drew ?_ | exact HB1.out | refine Below.alloc ?_ (by first | omega | (simp; omega)) _)) ?_
    clear hHeld hKQ KQ
    intro hHeld
    try refine kNK ?_
    refine wpAnyK_done (by kernel_rfl) ?_ _
    refine NoPanic.normal ?_
   rotate_left 1
   all_goals (
    clear HD1 x0 x1 x2 x3 a0 a1 b0 b1 hHeld
    first
     | (have hbx := box2 (Below.refl ((w1.alloc (.cells #[.int .i64 0, .int .i64 0] 36)).alloc (.cells #[.int .i64 (r - 1), .int .i64 (c - 1)] 36)).heap.size ((w1.alloc (.cells #[.int .i64 0, .int .i64 0] 36)).alloc (.cells #[.int .i64 (r - 1), .int .i64 (c - 1)] 36)))
        have HBW : Hid (Below (w.heap.size + 1 + 1 + 1 + 1) ((((w.alloc (.cells #[.int .i64 r, .int .i64 c] 23)).alloc (.cells #[.int .i64 pr, .int .i64 pc] 36)).alloc (.cells #[.int .i64 0, .int .i64 0] 36)).alloc (.cells #[.int .i64 0, .int .i64 0] 36)) ((w1.alloc (.cells #[.int .i64 0, .int .i64 0] 36)).alloc (.cells #[.int .i64 (r - 1), .int .i64 (c - 1)] 36)).drew) := (by repeat first | exact HB1.out | refine Below.drew ?_ | refine Below.alloc ?_ (by first | omega | (simp; omega)) _)
        have HF := Lib.hid (show ((w1.alloc (.cells #[.int .i64 0, .int .i64 0] 36)).alloc (.cells #[.int .i64 (r - 1), .int .i64 (c - 1)] 36)).drew.heap[w1.heap.size]? = _ from hbx.1)
        have HL := Lib.hid (show ((w1.alloc (.cells #[.int .i64 0, .int .i64 0] 36)).alloc (.cells #[.int .i64 (r - 1), .int .i64 (c - 1)] 36)).drew.heap[w1.heap.size + 1]? = _ from hbx.2.1)
        have hfl : w.heap.size + 1 + 1 + 1 + 1 ≤ w1.heap.size ∧ w.heap.size + 1 + 1 + 1 + 1 ≤ w1.heap.size + 1 ∧ w1.heap.size ≠ w1.heap.size + 1 := ⟨by omega, by omega, by omega⟩
        clear hbx HB1 hz1
        obtain ⟨WB, hWB⟩ : ∃ WB, ((w1.alloc (.cells #[.int .i64 0, .int .i64 0] 36)).alloc (.cells #[.int .i64 (r - 1), .int .i64 (c - 1)] 36)).drew = WB := ⟨_, rfl⟩
        rw [hWB] at HBW HF HL ⊢
        clear hWB
        generalize w1.heap.size + 1 = l at *
        generalize w1.heap.size = f at *)
     | (have hbx := box2 (Below.refl ((w1.alloc (.cells #[.int .i64 (r - 1), .int .i64 (c - 1)] 36)).alloc (.cells #[.int .i64 0, .int .i64 0] 36)).heap.size ((w1.alloc (.cells #[.int .i64 (r - 1), .int .i64 (c - 1)] 36)).alloc (.cells #[.int .i64 0, .int .i64 0] 36)))
        have HBW : Hid (Below (w.heap.size + 1 + 1 + 1 + 1) ((((w.alloc (.cells #[.int .i64 r, .int .i64 c] 23)).alloc (.cells #[.int .i64 pr, .int .i64 pc] 36)).alloc (.cells #[.int .i64 0, .int .i64 0] 36)).alloc (.cells #[.int .i64 0, .int .i64 0] 36)) ((w1.alloc (.cells #[.int .i64 (r - 1), .int .i64 (c - 1)] 36)).alloc (.cells #[.int .i64 0, .int .i64 0] 36)).drew) := (by repeat first | exact HB1.out | refine Below.drew ?_ | refine Below.alloc ?_ (by first | omega | (simp; omega)) _)
        have HF := Lib.hid (show ((w1.alloc (.cells #[.int .i64 (r - 1), .int .i64 (c - 1)] 36)).alloc (.cells #[.int .i64 0, .int .i64 0] 36)).drew.heap[w1.heap.size + 1]? = _ from hbx.2.1)
        have HL := Lib.hid (show ((w1.alloc (.cells #[.int .i64 (r - 1), .int .i64 (c - 1)] 36)).alloc (.cells #[.int .i64 0, .int .i64 0] 36)).drew.heap[w1.heap.size]? = _ from hbx.1)
        have hfl : w.heap.size + 1 + 1 + 1 + 1 ≤ w1.heap.size + 1 ∧ w.heap.size + 1 + 1 + 1 + 1 ≤ w1.heap.size ∧ w1.heap.size + 1 ≠ w1.heap.size := ⟨by omega, by omega, by omega⟩
        clear hbx HB1 hz1
        obtain ⟨WB, hWB⟩ : ∃ WB, ((w1.alloc (.cells #[.int .i64 (r - 1), .int .i64 (c - 1)] 36)).alloc (.cells #[.int .i64 0, .int .i64 0] 36)).drew = WB := ⟨_, rfl⟩
        rw [hWB] at HBW HF HL ⊢
        clear hWB
        generalize w1.heap.size + 1 = f at *
        generalize w1.heap.size = l at *)
    obtain ⟨z1, z2, z3⟩ := hfl
    go_upto_region 8 with fail
    obtain ⟨d0, d1, g0, g1⟩ := row2 (show WB.drew.heap[f]? = _ from HF.out)
    refine wp_region_noPanic ?_
    refine wp_region_k (S := fun W' : World => W'.heap[w.heap.size + 1]? = some (.cells #[.int .i64 pr, .int .i64 pc] 36 (0, 0)) ∧ W'.heap[l]? = some (.cells #[.int .i64 (r - 1), .int .i64 (c - 1)] 36 (0, 0))) 7 (by kernel_rfl) (⟨(hB.out _ HBW.out).2.1, HL.out⟩) (fun hHeld => ?_)
    refine kSK 0 hHeld ?_
    refine kTK (v := ?_) 1 [] hHeld ?y2 ?_
    case y2 => (intro W hSw; obtain ⟨b0, b1, _⟩ := row2 hSw.1; go_simp; try with_reducible rfl)
    refine kSK 2 hHeld ?_
    refine kTK (v := ?_) 3 [] hHeld ?y4 ?_
    case y4 => (intro W hSw; obtain ⟨b0, b1, _⟩ := row2 hSw.1; go_simp; try with_reducible rfl)
    refine kSK 4 hHeld ?_
    try refine kNK ?_
    refine kOK 5 fun KQ hKQ => ?_
    have hWC : ∀ u v : Value, Below (w.heap.size + 1 + 1 + 1 + 1) ((((w.alloc (.cells #[.int .i64 r, .int .i64 c] 23)).alloc (.cells #[.int .i64 pr, .int .i64 pc] 36)).alloc (.cells #[.int .i64 0, .int .i64 0] 36)).alloc (.cells #[.int .i64 0, .int .i64 0] 36)) ((WB.drew.setCell ⟨f, 0, none⟩ u).setCell ⟨l, 0, none⟩ v) := fun u v => ((HBW.out.drew.setCell (p := ⟨f, 0, none⟩) z1 u).setCell (p := ⟨l, 0, none⟩) z2 v)
    have HBC := Lib.hid (hWC (.int .i64 pr) (.int .i64 pr))
    have HF2 := Lib.hid (show ((WB.drew.setCell ⟨f, 0, none⟩ (.int .i64 pr)).setCell ⟨l, 0, none⟩ (.int .i64 pr)).heap[f]? = some (.cells #[.int .i64 pr, .int .i64 0] 36 (0, 0)) from (heap_setCell_other _ _ _ _ z3).trans (heap_set_same HF.out 0 _))
    have HL2 := Lib.hid (show ((WB.drew.setCell ⟨f, 0, none⟩ (.int .i64 pr)).setCell ⟨l, 0, none⟩ (.int .i64 pr)).heap[l]? = some (.cells #[.int .i64 pr, .int .i64 (c - 1)] 36 (0, 0)) from heap_set_same ((heap_setCell_other _ _ _ _ (Ne.symm z3)).trans HL.out) 0 _)
    clear HF HL HBW hWC
    generalize WB.drew = WD at *
    go_simp
    refine hKQ.out _ _ ((by refine ⟨(heap_setCell_other _ _ _ _ ?_).trans hHeld.1, (heap_setCell_other _ _ _ _ ?_).trans hHeld.2⟩; exact (show w.heap.size + 1 ≠ f by omega); exact (show l ≠ f by omega))) ?_
    clear hHeld hKQ KQ
    intro hHeld
    try refine kNK ?_
    obtain ⟨e0, e1, h0, h1⟩ := row2 hHeld.2
    refine kSK 6 hHeld ?_
    try refine kNK ?_
    refine kPK 7 fun KQ hKQ => ?_
    go_simp
    refine hKQ.out _ _ ?_
    clear hKQ KQ
    try refine kNK ?_
    refine wpAnyK_done (by kernel_rfl) ?_ _
    refine NoPanic.normal ?_
    have HF := HF2
    have HL := HL2
    have HBW := HBC
    clear HF2 HL2 HBC
    clear d0 d1 g0 g1 e0 e1 h0 h1
    generalize ((WD.setCell ⟨f, 0, none⟩ (.int .i64 pr)).setCell ⟨l, 0, none⟩ (.int .i64 pr)) = WC at *
    obtain ⟨y0, y1, y2, y3, hbw⟩ := hB.out _ HBW.out
    obtain ⟨d0, d1, g0, g1⟩ := row2 y2
    obtain ⟨k0, k1, n0, n1⟩ := row2 y3
    have Y2 := Lib.hid y2
    have Y3 := Lib.hid y3
    have HY := Lib.hid hbw
    clear y0 y1 y2 y3 hbw
    go_wp2_with fail
    obtain ⟨r0, r1, _⟩ := row2 ((set_two_other _ _ (.int .i64 0) (.int .i64 0) (show w.heap.size + 1 + 1 ≠ w.heap.size + 1 + 1 + 1 by omega)).trans (set_two Y2.out (.int .i64 0) (.int .i64 0)))
    obtain ⟨r2, r3, _⟩ := row2 (set_two ((set_two_other _ _ (.int .i64 0) (.int .i64 0) (show w.heap.size + 1 + 1 + 1 ≠ w.heap.size + 1 + 1 by omega)).trans Y3.out) (.int .i64 0) (.int .i64 0))
    refine bodyPost_ret (v := .tuple #[.agg #[.int .i64 0, .int .i64 0], .agg #[.int .i64 0, .int .i64 0], .int .i64 12]) (by simp [results, Tryz.results88, go_sem, r0, r1, r2, r3, d0, d1, k0, k1]) rfl ⟨rfl, ?_⟩
    exact (((HY.out.setCell (p := ⟨w.heap.size + 1 + 1, 0, none⟩) (by show w.heap.size ≤ w.heap.size + 1 + 1; omega) _).setCell (p := ⟨w.heap.size + 1 + 1, 1, none⟩) (by show w.heap.size ≤ w.heap.size + 1 + 1; omega) _).setCell (p := ⟨w.heap.size + 1 + 1 + 1, 0, none⟩) (by show w.heap.size ≤ w.heap.size + 1 + 1 + 1; omega) _).setCell (p := ⟨w.heap.size + 1 + 1 + 1, 1, none⟩) (by show w.heap.size ≤ w.heap.size + 1 + 1 + 1; omega) _
   )
end
end Go.Proofs.YtncgigapgklhcaaGreatDoor
