import Derived.Test.YtmgeghoalmonoaaGreatDoorRP
import Derived.Test.YtmgeghoalmonoaaGreatDoorProg
import Derived.Test.YtmgeghoalmonoaaGreatDoorRR
import Derived.WalkKit
import Derived.Lib.Hide
import Derived.Test.YtmgeghoalmonoaaGreatDoorRA
import Derived.Deep.MidRow
import Derived.RangeFuncBox
import Derived.RangeFuncNested
import Derived.RangeFuncBound
import Derived.RangeFuncCalls
import Derived.RangeFuncLeaves
import Derived.Shelf.Abstract
import Derived.Shelf.RegionOpen
import Derived.OwnWalkIn
import Derived.TacticsInMore
import Derived.LoopNIn
import Derived.LoopIn

set_option maxRecDepth 100000
set_option maxHeartbeats 16000000
namespace Go.Proofs.YtmgeghoalmonoaaGreatDoor
open Go.RowKit
set_option linter.unusedSimpArgs false
set_option linter.unusedVariables false
/- Walks: sgr.May, right, coloured, colour. -/
section
theorem ret1s {a b : Value} (h : a = b) : Ending.returned a = .returned b := by rw [h]
theorem t64_eq (n : Nat) (hn : n < 16384) : (bits .and .i64 (n : Int) 64 == 0) = decide (n / 64 % 2 = 0) := by
 have h := (Vz.land_bits n hn).2.2.2.1
 have t64 : (bits .and .i64 (n : Int) 64 == 0) = _ := Vz.and_test0 n 64 (by omega) (by decide)
 rw [t64]
 rcases Nat.mod_two_eq_zero_or_one (n / 64) with e | e <;> rw [e] at h ⊢ <;> simp [bne] at h ⊢ <;> exact h
theorem smay_yes (n : Nat) (h : Vz.MayP n) (w : World) :
 Calls Tryz.prog 132 #[.int .i64 n] w fun e w' => e = .returned (.int .i64 0) ∧ w = w' := by
 have hn := h.1
 have h7 := h.2.1
 have b1 : (bits .and .i64 (n : Int) 128 != 0) = false := by
  rw [show (128 : Int) = ((128 : Nat) : Int) from rfl, Vz.and_test n 128 (by omega) (by decide), (Vz.land_more n hn).1]
  simp [h7]
 by_cases h3 : n / 64 % 2 = 0
 · have b2 : (bits .and .i64 (n : Int) 64 == 0) = true := by rw [t64_eq n hn]; simp [h3]
   have b3 : (bits .and .i64 (n : Int) 16128 != 0) = false := by
    rw [show (16128 : Int) = ((16128 : Nat) : Int) from rfl, Vz.and_test n 16128 (by omega) (by decide), (Vz.land_more n hn).2]
    have : n < 64 := Vz.mayP_small n h h3
    rw [Nat.div_eq_of_lt (by omega)]; rfl
   clear h h3 h7
   go_enter Tryz.func132, Tryz.ntmps132
   go_wp2
   go_ret
   exact ⟨rfl, rfl⟩
 · have b2 : (bits .and .i64 (n : Int) 64 == 0) = false := by rw [t64_eq n hn]; simp [h3]
   clear h h3 h7
   go_enter Tryz.func132, Tryz.ntmps132
   go_wp2
   go_ret
   exact ⟨rfl, rfl⟩
theorem smay_no (a : Int) (h : Vz.mayI a = false) (w : World) :
 Calls Tryz.prog 132 #[.int .i64 a] w fun e w' => e = .returned (.int .i64 1) ∧ w = w' := by
 by_cases h0 : a < 0
 · clear h
   go_enter Tryz.func132, Tryz.ntmps132
   go_wp2
   go_ret
   exact ⟨rfl, rfl⟩
 by_cases h1 : 16383 < a
 · clear h
   go_enter Tryz.func132, Tryz.ntmps132
   go_wp2
   go_ret
   exact ⟨rfl, rfl⟩
 obtain ⟨n, rfl⟩ := Int.eq_ofNat_of_zero_le (by omega : 0 ≤ a)
 have hn : n < 16384 := by omega
 have hb : ¬ Vz.MayP n := fun e => by rw [(Vz.mayP_iff n).2 e] at h; cases h
 clear h0 h1 h
 by_cases h7 : n / 128 % 2 = 0
 · have b1 : (bits .and .i64 (n : Int) 128 != 0) = false := by
    rw [show (128 : Int) = ((128 : Nat) : Int) from rfl, Vz.and_test n 128 (by omega) (by decide), (Vz.land_more n hn).1]
    simp [h7]
   unfold Vz.MayP at hb
   have b2 : (bits .and .i64 (n : Int) 64 == 0) = true := by rw [t64_eq n hn]; simp; omega
   have b3 : (bits .and .i64 (n : Int) 16128 != 0) = true := by
    rw [show (16128 : Int) = ((16128 : Nat) : Int) from rfl, Vz.and_test n 16128 (by omega) (by decide), (Vz.land_more n hn).2]
    have : n / 256 ≠ 0 := by omega
    simp [bne]; omega
   clear h7 hb
   go_enter Tryz.func132, Tryz.ntmps132
   go_wp2
   go_ret
   exact ⟨rfl, rfl⟩
 · have b1 : (bits .and .i64 (n : Int) 128 != 0) = true := by
    rw [show (128 : Int) = ((128 : Nat) : Int) from rfl, Vz.and_test n 128 (by omega) (by decide), (Vz.land_more n hn).1]
    simp; omega
   clear h7 hb
   go_enter Tryz.func132, Tryz.ntmps132
   go_wp2
   go_ret
   exact ⟨rfl, rfl⟩
def startN (a : Int) : Nat := if Vz.mayI a = true then a.toNat else 0
theorem startN_may (a : Int) : Vz.MayP (startN a) := by
 unfold startN
 split
 · rename_i h
   have := Vz.mayI_ge h
   obtain ⟨n, rfl⟩ := Int.eq_ofNat_of_zero_le this
   exact (Vz.mayP_iff n).1 h
 · exact Vz.mayP_zero
theorem startN_of (n : Nat) (h : Vz.MayP n) : startN n = n := by unfold startN; rw [if_pos ((Vz.mayP_iff n).2 h)]; rfl
theorem right_any (a : Int) (w : World) :
 Calls Tryz.prog 107 #[.int .i64 a] w fun e w' => e = .returned (.int .i64 (startN a)) ∧ w = w' := by
 cases hm : Vz.mayI a with
 | false =>
   have HM := Lib.hid (smay_no a hm w)
   have HS : Hid (startN a = 0) := by show _ = _; unfold startN; rw [hm]; rfl
   clear hm
   go_enter Tryz.func107, Tryz.ntmps107
   go_wp2_with (go_at_call 132; refine HM.out.mono ?_; rintro e w1 ⟨rfl, rfl⟩)
   go_ret
   exact ⟨ret1s (by rw [HS.out]; rfl), rfl⟩
 | true =>
   obtain ⟨n, rfl⟩ := Int.eq_ofNat_of_zero_le (Vz.mayI_ge hm)
   have hp := (Vz.mayP_iff n).1 hm
   have HM := Lib.hid (smay_yes n hp w)
   have HS := Lib.hid (startN_of n hp)
   clear hm hp
   go_enter Tryz.func107, Tryz.ntmps107
   go_wp2_with (go_at_call 132; refine HM.out.mono ?_; rintro e w1 ⟨rfl, rfl⟩)
   go_ret
   exact ⟨ret1s (by rw [HS.out]; rfl), rfl⟩
theorem coloured_any (n : Nat) (h : Vz.MayP n) (w : World) :
 Calls Tryz.prog 145 #[.int .i64 n] w fun e w' => e = .returned (.int .i64 (Vz.colN n)) ∧ w = w' := by
 have hn := h.1
 by_cases h6 : n / 64 % 2 = 0
 · have b2 : (bits .and .i64 (n : Int) 64 == 0) = true := by rw [t64_eq n hn]; simp [h6]
   have hl := Vz.mayP_small n h h6
   have e2 : bits .or .i64 (n : Int) 1856 = ((n + 1856 : Nat) : Int) := by
    rw [show (1856 : Int) = ((1856 : Nat) : Int) from rfl, Vz.or64 n 1856 (by omega) (by decide), Vz.col_or n hl]
   have HC : Hid (Vz.colN n = n + 1856) := by show _ = _; unfold Vz.colN; rw [if_neg (by omega)]
   have HE := Lib.hid e2
   clear h h6 hl e2
   go_enter Tryz.func145, Tryz.ntmps145
   go_wp2
   go_ret
   exact ⟨ret1s (by rw [HC.out, ← HE.out]; rfl), rfl⟩
 · have b2 : (bits .and .i64 (n : Int) 64 == 0) = false := by rw [t64_eq n hn]; simp [h6]
   have HC : Hid (Vz.colN n = n) := by show _ = _; unfold Vz.colN; rw [if_pos (by omega)]
   clear h h6
   go_enter Tryz.func145, Tryz.ntmps145
   go_wp2
   go_ret
   exact ⟨ret1s (by rw [HC.out]; rfl), rfl⟩
theorem fore_bits (n : Nat) (k : Nat) (h : Vz.MayP n) (hk : k < 8) : bits .or .i64 (bits .andNot .i64 (Vz.colN n : Int) 1792) ((k : Int) * 256) = ((Vz.colN n - Vz.colN n / 256 % 8 * 256 + k * 256 : Nat) : Int) := by
 obtain ⟨hc, -, -⟩ := Vz.mayP_colN n h
 have hc := hc.1
 generalize Vz.colN n = c at hc
 rw [show (1792 : Int) = ((1792 : Nat) : Int) from rfl, Vz.andNot64 c 1792 (by omega) (by decide), (Vz.col_bits c hc).2.1, show ((k : Int) * 256) = ((k * 256 : Nat) : Int) by simp,
  Vz.or64 _ _ (by omega) (by omega), Vz.fore_or _ k (by omega) (by omega) hk]
theorem back_bits (n : Nat) (k : Nat) (h : Vz.MayP n) (hk : k < 8) : bits .or .i64 (bits .andNot .i64 (Vz.colN n : Int) 14336) ((k : Int) * 2048) = ((Vz.colN n % 2048 + k * 2048 : Nat) : Int) := by
 obtain ⟨hc, -, -⟩ := Vz.mayP_colN n h
 have hc := hc.1
 generalize Vz.colN n = c at hc
 rw [show (14336 : Int) = ((14336 : Nat) : Int) from rfl, Vz.andNot64 c 14336 (by omega) (by decide), (Vz.col_bits c hc).2.2.1, show ((k : Int) * 2048) = ((k * 2048 : Nat) : Int) by simp,
  Vz.or64 _ _ (by omega) (by omega), Vz.back_or _ k (by omega) hk]
theorem colour_any (n : Nat) (x : Int) (h : Vz.MayP n) (w : World) :
 Calls Tryz.prog 137 #[.int .i64 n, .int .i64 x] w fun e w' => e = .returned (.int .i64 (Vz.colourN n x)) ∧ w = w' := by
 have hn := h.1
 have HC := Lib.hid (coloured_any n h w)
 by_cases f : 30 ≤ x ∧ x < 38
 · obtain ⟨f1, f2⟩ := f
   have hb := fore_bits n (x - 30).toNat h (by omega)
   rw [show (((x - 30).toNat : Nat) : Int) = x - 30 by omega] at hb
   have HR : Hid (Vz.colourN n x = Vz.colN n - Vz.colN n / 256 % 8 * 256 + (x - 30).toNat * 256) := by show _ = _; unfold Vz.colourN; rw [if_pos ⟨f1, f2⟩]
   have HB := Lib.hid hb
   clear h hb
   go_enter Tryz.func137, Tryz.ntmps137
   go_wp2_with (go_at_call 145; refine HC.out.mono ?_; rintro e w1 ⟨rfl, rfl⟩)
   go_ret
   exact ⟨ret1s (by rw [HR.out, ← HB.out]; rfl), rfl⟩
 by_cases g : 40 ≤ x ∧ x < 48
 · obtain ⟨f1, f2⟩ := g
   have hb := back_bits n (x - 40).toNat h (by omega)
   rw [show (((x - 40).toNat : Nat) : Int) = x - 40 by omega] at hb
   have HR : Hid (Vz.colourN n x = Vz.colN n % 2048 + (x - 40).toNat * 2048) := by show _ = _; unfold Vz.colourN; rw [if_neg f, if_pos ⟨f1, f2⟩]
   have HB := Lib.hid hb
   clear h hb f
   go_enter Tryz.func137, Tryz.ntmps137
   go_wp2_with (go_at_call 145; refine HC.out.mono ?_; rintro e w1 ⟨rfl, rfl⟩)
   go_ret
   exact ⟨ret1s (by rw [HR.out, ← HB.out]; rfl), rfl⟩
 have c1 : (decide (30 ≤ x) && decide (x < 38)) = false := by simp; omega
 have c2 : (decide (40 ≤ x) && decide (x < 48)) = false := by simp; omega
 by_cases h6 : n / 64 % 2 = 0
 · have b2 : (bits .and .i64 (n : Int) 64 == 0) = true := by rw [t64_eq n hn]; simp [h6]
   have HR : Hid (Vz.colourN n x = n) := by show _ = _; unfold Vz.colourN; rw [if_neg f, if_neg g, if_pos h6]
   clear h h6
   rcases (by omega : x < 30 ∨ (38 ≤ x ∧ x < 40) ∨ 48 ≤ x) with i | ⟨i, j⟩ | i
   all_goals
    clear f g c1 c2
    go_enter Tryz.func137, Tryz.ntmps137
    go_wp2
    go_ret
    exact ⟨ret1s (by rw [HR.out]; rfl), rfl⟩
 · have b2 : (bits .and .i64 (n : Int) 64 == 0) = false := by rw [t64_eq n hn]; simp [h6]
   by_cases x1 : x = 39
   · subst x1
     have e1 : bits .or .i64 (n : Int) 1792 = ((n - n / 256 % 8 * 256 + 1792 : Nat) : Int) := by
      rw [show (1792 : Int) = ((1792 : Nat) : Int) from rfl, Vz.or64 n 1792 (by omega) (by decide), (Vz.col_bits n hn).1]
     have HR : Hid (Vz.colourN n 39 = n - n / 256 % 8 * 256 + 1792) := by show _ = _; unfold Vz.colourN; rw [if_neg f, if_neg g, if_neg h6, if_pos rfl]
     have HE := Lib.hid e1
     clear h h6 f g c1 c2 e1
     go_enter Tryz.func137, Tryz.ntmps137
     go_wp2
     go_ret
     exact ⟨ret1s (by rw [HR.out, ← HE.out]; rfl), rfl⟩
   by_cases x2 : x = 49
   · subst x2
     have e1 : bits .andNot .i64 (n : Int) 14336 = ((n % 2048 : Nat) : Int) := by
      rw [show (14336 : Int) = ((14336 : Nat) : Int) from rfl, Vz.andNot64 n 14336 (by omega) (by decide), (Vz.col_bits n hn).2.2.1]
     have HR : Hid (Vz.colourN n 49 = n % 2048) := by show _ = _; unfold Vz.colourN; rw [if_neg f, if_neg g, if_neg h6, if_neg x1, if_pos rfl]
     have HE := Lib.hid e1
     clear h h6 f g c1 c2 e1 x1
     go_enter Tryz.func137, Tryz.ntmps137
     go_wp2
     go_ret
     exact ⟨ret1s (by rw [HR.out, ← HE.out]; rfl), rfl⟩
   have HR : Hid (Vz.colourN n x = n) := by show _ = _; unfold Vz.colourN; rw [if_neg f, if_neg g, if_neg h6, if_neg x1, if_neg x2]
   have d1 : (x == 39) = false := by simp [x1]
   have d2 : (x == 49) = false := by simp [x2]
   clear h h6
   rcases (by omega : x < 30 ∨ (38 ≤ x ∧ x < 40) ∨ 48 ≤ x) with i | ⟨i, j⟩ | i
   all_goals
    clear f g c1 c2
    go_enter Tryz.func137, Tryz.ntmps137
    go_wp2
    go_ret
    exact ⟨ret1s (by rw [HR.out]; rfl), rfl⟩
end
section
def Pairs (W : World) (b : Nat) (l : List (Int × Int)) : Prop :=
 ∀ i, i < l.length → W.cell? ⟨b, i * 2, none⟩ = some (.int .i64 (l[i]?.getD (0, 0)).1) ∧ W.cell? ⟨b, i * 2 + 1, none⟩ = some (.int .i64 (l[i]?.getD (0, 0)).2)
theorem Pairs.below {W W' : World} {b B : Nat} {l : List (Int × Int)} (h : Pairs W b l) (hb : Below B W W') (hB : b < B) : Pairs W' b l :=
 fun i hi => ⟨(hb.cell hB).trans (h i hi).1, (hb.cell hB).trans (h i hi).2⟩
def onsL : List (Int × Int) := [(1, 1), (2, 2), (4, 4), (5, 8), (7, 16), (8, 32)]
def offsL : List (Int × Int) := [(22, 3), (24, 4), (25, 8), (27, 16), (28, 32)]
def cellsT (l : List (Int × Int)) : Array Value := (l.flatMap fun p => [Value.int .i64 p.1, Value.int .i64 p.2]).toArray
theorem row_new (W : World) (o : Obj) : (W.alloc o).heap[W.heap.size]? = some o := by
 show (W.heap.push _)[W.heap.size]? = _
 simp
theorem pairs_ons (W : World) (t : TypeId) : Pairs (W.alloc (.cells (cellsT onsL) t)) W.heap.size onsL := by
 intro i hi
 have hg := row_new W (.cells (cellsT onsL) t)
 rw [cell_of_row _ _ _ _ _ _ hg, cell_of_row _ _ _ _ _ _ hg]
 obtain rfl | rfl | rfl | rfl | rfl | rfl : i = 0 ∨ i = 1 ∨ i = 2 ∨ i = 3 ∨ i = 4 ∨ i = 5 := by simp [onsL] at hi; omega
 all_goals exact ⟨rfl, rfl⟩
theorem pairs_offs (W : World) (t : TypeId) : Pairs (W.alloc (.cells (cellsT offsL) t)) W.heap.size offsL := by
 intro i hi
 have hg := row_new W (.cells (cellsT offsL) t)
 rw [cell_of_row _ _ _ _ _ _ hg, cell_of_row _ _ _ _ _ _ hg]
 obtain rfl | rfl | rfl | rfl | rfl : i = 0 ∨ i = 1 ∨ i = 2 ∨ i = 3 ∨ i = 4 := by simp [offsL] at hi; omega
 all_goals exact ⟨rfl, rfl⟩
theorem ons_row (w : World) :
 Calls Tryz.prog 134 #[] w fun e w' => e = .returned (.slice (some ⟨w.heap.size, 0, none⟩) 6 6) ∧ w' = w.alloc (.cells (cellsT onsL) 238) := by
 go_enter Tryz.func134, Tryz.ntmps134
 go_wp2
 go_ret
 exact ⟨rfl, rfl⟩
theorem ons_any (w : World) :
 Calls Tryz.prog 134 #[] w fun e w' => e = .returned (.slice (some ⟨w.heap.size, 0, none⟩) 6 6) ∧ Pairs w' w.heap.size onsL ∧ w'.heap.size = w.heap.size + 1 ∧ Below w.heap.size w w' := by
 go_enter Tryz.func134, Tryz.ntmps134
 go_wp2
 go_ret
 exact ⟨rfl, pairs_ons w _, World.size_alloc _ _, (Below.refl _ _).alloc (Nat.le_refl _) _⟩
theorem offs_any (w : World) :
 Calls Tryz.prog 136 #[] w fun e w' => e = .returned (.slice (some ⟨w.heap.size, 0, none⟩) 5 5) ∧ Pairs w' w.heap.size offsL ∧ w'.heap.size = w.heap.size + 1 ∧ Below w.heap.size w w' := by
 go_enter Tryz.func136, Tryz.ntmps136
 go_wp2
 go_ret
 exact ⟨rfl, pairs_offs w _, World.size_alloc _ _, (Below.refl _ _).alloc (Nat.le_refl _) _⟩
def findL (l : List (Int × Int)) (k : Int) : Int × Bool :=
 match l with
 | [] => (0, false)
 | p :: r => if p.1 = k then (p.2, true) else findL r k
theorem findL_at (l : List (Int × Int)) (k : Int) (i : Nat) (hi : i < l.length) (h : ∀ j, j < i → (l[j]?.getD (0, 0)).1 ≠ k) (he : (l[i]?.getD (0, 0)).1 = k) : findL l k = ((l[i]?.getD (0, 0)).2, true) := by
 induction l generalizing i with
 | nil => cases hi
 | cons p r ih =>
   cases i with
   | zero => simp at he; unfold findL; rw [if_pos he]; rfl
   | succ i =>
     have h0 := h 0 (by omega)
     simp at h0
     unfold findL
     rw [if_neg h0, ih i (by simpa using hi) (fun j hj => by have := h (j + 1) (by omega); simpa using this) (by simpa using he)]
     simp
theorem findL_none (l : List (Int × Int)) (k : Int) (h : ∀ j, j < l.length → (l[j]?.getD (0, 0)).1 ≠ k) : findL l k = (0, false) := by
 induction l with
 | nil => rfl
 | cons p r ih =>
   have h0 := h 0 (by simp)
   simp at h0
   unfold findL
   rw [if_neg h0, ih (fun j hj => by have := h (j + 1) (by simpa using hj); simpa using this)]
theorem find_any (b : Nat) (l : List (Int × Int)) (c : Nat) (k : Int) (w : World) (h : Pairs w b l) (hb : b < w.heap.size) (hl : l.length ≤ 1000) :
 Calls Tryz.prog 135 #[.slice (some ⟨b, 0, none⟩) l.length c, .int .i64 k] w fun e w' => e = .returned (.tuple #[.int .i64 (findL l k).1, .bool (findL l k).2]) ∧ Below w.heap.size w w' := by
 go_enter Tryz.func135, Tryz.ntmps135
 go_wp2
 go_loopw [11] (fun i wr => ∃ j : Nat, j ≤ l.length ∧ i = .int .i64 j ∧ (∀ m, m < j → (l[m]?.getD (0, 0)).1 ≠ k) ∧ Below w.heap.size w wr) (fun i _ => l.length - (intOf i).toNat)
 case atStart => exact ⟨0, Nat.zero_le _, rfl, fun m hm => absurd hm (by omega), Below.refl _ _⟩
 case round =>
  obtain ⟨j, hj, rfl, hne, hB⟩ := hrel
  have HN := Lib.hid hne
  have HP := Lib.hid h
  clear hne h
  by_cases hlt : j < l.length
  · obtain ⟨c1, c2⟩ := HP.out j hlt
    have c1' := (hB.cell (p := ⟨b, j * 2, none⟩) hb).trans c1
    have c2' := (hB.cell (p := ⟨b, j * 2 + 1, none⟩) hb).trans c2
    clear c1 c2
    have HF := Lib.hid (findL_at l k j hlt (fun m hm => HN.out m hm))
    generalize hg : (l[j]?.getD (0, 0)) = p at c1' c2' HF
    obtain ⟨p1, p2⟩ := p
    have HG := Lib.hid hg
    clear hg
    simp only at c1' c2' HF
    by_cases he : p1 = k
    · have HE := Lib.hid (HF.out he)
      have hb1 : (p1 == k) = true := by simp [he]
      clear he
      go_wp2
      go_ret2
      exact ⟨ret_tup2 (by rw [HE.out]; rfl) (by rw [HE.out]; rfl), hB.alloc hB.size _⟩
    · have HE := Lib.hid he
      have hb1 : (p1 == k) = false := by simp [he]
      clear he
      go_wp2
      exact ⟨⟨j + 1, by omega, by go_num, fun m hm => by
       rcases Nat.lt_succ_iff_lt_or_eq.1 hm with e | e
       · exact HN.out m e
       · rw [e, HG.out]; exact HE.out, hB.alloc hB.size _⟩, by simp [intOf]; omega⟩
  · obtain rfl : j = l.length := by omega
    have HF := Lib.hid (findL_none l k HN.out)
    go_wp2
    go_ret2
    exact ⟨ret_tup2 (by rw [HF.out]; rfl) (by rw [HF.out]; rfl), hB⟩
theorem one_tab (n : Nat) (x : Int) (h : Vz.MayP n) : x ≠ 0 →
 (((findL onsL x).2 = true ∧ (bits .or .i64 (n : Int) (findL onsL x).1 = (Vz.oneN n x : Int))) ∨
  ((findL onsL x).2 = false ∧ (findL offsL x).2 = true ∧ bits .andNot .i64 (n : Int) (findL offsL x).1 = (Vz.oneN n x : Int)) ∨
  ((findL onsL x).2 = false ∧ (findL offsL x).2 = false ∧ Vz.oneN n x = Vz.colourN n x)) := by
 intro h0
 have hn := h.1
 obtain ⟨⟨o1, o2, o4, o8⟩, o16, o32⟩ := Vz.lor_bits n hn
 obtain ⟨⟨d3, d4, d8⟩, d16, d32⟩ := Vz.clr_bits n hn
 have ho : ∀ b : Nat, b < 64 → bits .or .i64 (n : Int) (b : Int) = ((n ||| b : Nat) : Int) := fun b hb => Vz.or64 n b (by omega) (by omega)
 have hd : ∀ b : Nat, b < 64 → bits .andNot .i64 (n : Int) (b : Int) = ((n ^^^ (n &&& b) : Nat) : Int) := fun b hb => Vz.andNot64 n b (by omega) (by omega)
 by_cases x1 : x = 1
 · subst x1; exact .inl ⟨rfl, (ho 1 (by decide)).trans (by rw [o1]; rfl)⟩
 by_cases x2 : x = 2
 · subst x2; exact .inl ⟨rfl, (ho 2 (by decide)).trans (by rw [o2]; rfl)⟩
 by_cases x4 : x = 4
 · subst x4; exact .inl ⟨rfl, (ho 4 (by decide)).trans (by rw [o4]; rfl)⟩
 by_cases x5 : x = 5
 · subst x5; exact .inl ⟨rfl, (ho 8 (by decide)).trans (by rw [o8]; rfl)⟩
 by_cases x7 : x = 7
 · subst x7; exact .inl ⟨rfl, (ho 16 (by decide)).trans (by rw [o16]; rfl)⟩
 by_cases x8 : x = 8
 · subst x8; exact .inl ⟨rfl, (ho 32 (by decide)).trans (by rw [o32]; rfl)⟩
 by_cases y22 : x = 22
 · subst y22; exact .inr (.inl ⟨rfl, rfl, (hd 3 (by decide)).trans (by rw [d3]; rfl)⟩)
 by_cases y24 : x = 24
 · subst y24; exact .inr (.inl ⟨rfl, rfl, (hd 4 (by decide)).trans (by rw [d4]; rfl)⟩)
 by_cases y25 : x = 25
 · subst y25; exact .inr (.inl ⟨rfl, rfl, (hd 8 (by decide)).trans (by rw [d8]; rfl)⟩)
 by_cases y27 : x = 27
 · subst y27; exact .inr (.inl ⟨rfl, rfl, (hd 16 (by decide)).trans (by rw [d16]; rfl)⟩)
 by_cases y28 : x = 28
 · subst y28; exact .inr (.inl ⟨rfl, rfl, (hd 32 (by decide)).trans (by rw [d32]; rfl)⟩)
 refine .inr (.inr ⟨?_, ?_, ?_⟩)
 · simp only [onsL, findL, Ne.symm x1, Ne.symm x2, Ne.symm x4, Ne.symm x5, Ne.symm x7, Ne.symm x8, if_false]
 · simp only [offsL, findL, Ne.symm y22, Ne.symm y24, Ne.symm y25, Ne.symm y27, Ne.symm y28, if_false]
 · unfold Vz.oneN
   simp only [h0, x1, x2, x4, x5, x7, x8, y22, y24, y25, y27, y28, if_false]
theorem one_any (n : Nat) (x : Int) (h : Vz.MayP n) (w : World) :
 Calls Tryz.prog 109 #[.int .i64 n, .int .i64 x] w fun e w' => e = .returned (.int .i64 (Vz.oneN n x)) ∧ Below w.heap.size w w' := by
 by_cases h0 : x = 0
 · subst h0
   have HR : Hid (Vz.oneN n 0 = 0) := rfl
   clear h
   go_enter Tryz.func109, Tryz.ntmps109
   go_wp2
   go_ret
   exact ⟨ret1s (by rw [HR.out]; rfl), Below.refl _ _⟩
 have HF := Lib.hid (fun b l c w hp hb hl => find_any b l c x w hp hb hl)
 have HON := Lib.hid ons_any
 have HOF := Lib.hid offs_any
 have hx : (x == 0) = false := by simp [h0]
 rcases one_tab n x h h0 with ⟨a1, a2⟩ | ⟨a1, a2, a3⟩ | ⟨a1, a2, a3⟩
 · have A2 := Lib.hid a2
   have A1 := Lib.hid a1
   clear a1 a2 h h0
   go_enter Tryz.func109, Tryz.ntmps109
   go_wp2_with fail
   refine (HON.out _).mono ?_
   rintro e w1 ⟨rfl, hp, hs, hb1⟩
   go_wp2_with fail
   refine (HF.out _ onsL _ _ hp (by omega) (by decide)).mono ?_
   rintro e w2 ⟨rfl, hb2⟩
   rw [A1.out]
   go_wp2_with fail
   go_ret
   exact ⟨ret1s (by rw [← A2.out]; rfl), below_join hb1 hb2⟩
 · have A3 := Lib.hid a3
   have A2 := Lib.hid a2
   have A1 := Lib.hid a1
   clear a1 a2 a3 h h0
   go_enter Tryz.func109, Tryz.ntmps109
   go_wp2_with fail
   refine (HON.out _).mono ?_
   rintro e w1 ⟨rfl, hp, hs, hb1⟩
   go_wp2_with fail
   refine (HF.out _ onsL _ _ hp (by omega) (by decide)).mono ?_
   rintro e w2 ⟨rfl, hb2⟩
   rw [A1.out]
   go_wp2_with fail
   refine (HOF.out _).mono ?_
   rintro e w3 ⟨rfl, hp3, hs3, hb3⟩
   go_wp2_with fail
   refine (HF.out _ offsL _ _ hp3 (by omega) (by decide)).mono ?_
   rintro e w4 ⟨rfl, hb4⟩
   rw [A2.out]
   go_wp2_with fail
   go_ret
   exact ⟨ret1s (by rw [← A3.out]; rfl), below_join (below_join hb1 hb2) (below_join hb3 hb4)⟩
 · have A3 := Lib.hid a3
   have A2 := Lib.hid a2
   have A1 := Lib.hid a1
   have HC := Lib.hid (fun w => colour_any n x h w)
   clear a1 a2 a3 h h0
   go_enter Tryz.func109, Tryz.ntmps109
   go_wp2_with fail
   refine (HON.out _).mono ?_
   rintro e w1 ⟨rfl, hp, hs, hb1⟩
   go_wp2_with fail
   refine (HF.out _ onsL _ _ hp (by omega) (by decide)).mono ?_
   rintro e w2 ⟨rfl, hb2⟩
   rw [A1.out]
   go_wp2_with fail
   refine (HOF.out _).mono ?_
   rintro e w3 ⟨rfl, hp3, hs3, hb3⟩
   go_wp2_with fail
   refine (HF.out _ offsL _ _ hp3 (by omega) (by decide)).mono ?_
   rintro e w4 ⟨rfl, hb4⟩
   rw [A2.out]
   go_wp2_with fail
   refine (HC.out _).mono ?_
   rintro e w5 ⟨rfl, rfl⟩
   go_wp2_with fail
   go_ret
   exact ⟨ret1s (by rw [A3.out]; rfl), below_join (below_join hb1 hb2) (below_join hb3 hb4)⟩
end
section
open Go.RowKit Go.Shelf
attribute [local go_sem] Oper.semAt_some
def countL (l : List Int) : List Int := if l = [] then [0] else l
def foldN (n : Nat) (l : List Int) : Nat := l.foldl Vz.oneN n
theorem foldN_may (l : List Int) : ∀ n, Vz.MayP n → Vz.MayP (foldN n l) := by
 induction l with
 | nil => exact fun n h => h
 | cons x r ih => exact fun n h => ih _ (Vz.mayP_one n x h)
theorem foldN_snoc (n : Nat) (l : List Int) (x : Int) : foldN n (l ++ [x]) = Vz.oneN (foldN n l) x := by unfold foldN; rw [List.foldl_append]; rfl
theorem foldN_append (n : Nat) (l r : List Int) : foldN n (l ++ r) = foldN (foldN n l) r := by unfold foldN; rw [List.foldl_append]
def applyN (a : Int) (l : List Int) : Nat := foldN (startN a) (countL l)
theorem applyN_may (a : Int) (l : List Int) : Vz.MayP (applyN a l) := foldN_may _ _ (startN_may a)
def KeptC (Bc B : Nat) (W W' : World) : Prop := W'.heap[Bc]? = W.heap[Bc]? ∧ ∀ b, b < B → W'.heap[b]? = W.heap[b]?
theorem KeptC.trans {Bc B : Nat} {a b c : World} (h : KeptC Bc B a b) (k : KeptC Bc B b c) : KeptC Bc B a c := ⟨k.1.trans h.1, fun i hi => (k.2 i hi).trans (h.2 i hi)⟩
theorem Ints.keptC {Bc B : Nat} {W W' : World} {A : Option Addr} {n : Nat} {l : List Int} (h : Ints B W A n l) (k : KeptC Bc B W W') : Ints B W' A n l :=
 h.keep fun p hp => World.cell?_of_block (k.2 p.block hp)
theorem boxed_below {W W' : World} {b : Nat} {t : TypeId} {v : Value} (h : Boxed W b t v) (hb : Below W.heap.size W W') : Boxed W' b t v := (hb.block b h.lt).trans h
theorem keepsOthers_below {W W' : World} (h : Below W.heap.size W W') : KeepsOthers W W' :=
 ⟨h.size, fun k o hk _ => by rw [h.block k (Array.getElem?_eq_some_iff.1 hk).1]; exact hk⟩
theorem counted_in (n : Nat) (A : Option Addr) (m c : Nat) (w : World) :
 CallsIn Fence.wide n Tryz.prog 108 #[.slice A m c] w fun e w' => e = .returned (.func (.func 133) #[] #[.pointer (some ⟨w.heap.size, 0, none⟩)]) ∧ w' = w.alloc (.cells #[.slice A m c] 137) := by
 refine callsIn_of_wp Tryz.func108 rfl trivial ?_ rfl
 simp only [Tryz.ntmps108, List.size_toArray, List.length_cons, List.length_nil, Nat.reduceAdd, Nat.reduceSub, Array.replicate_succ, Array.replicate_zero, List.push_toArray, List.append_toArray, List.nil_append, List.cons_append]
 gi_wp2
 go_ret
 exact ⟨rfl, rfl⟩
theorem counted1_in (n : Nat) (hn : 1 ≤ n) (l Bc B : Nat) (A : Option Addr) (m c : Nat) (L : List Int) (hm : m ≤ 1000) (J Jx : List Int → World → Prop)
 (hY : ∀ pre x W, J pre W → (pre ++ [x]) <+: countL L → YieldAt Fence.wide (n - 1) Tryz.prog l #[.int .i64 x] W fun e W' =>
   (e = .returned (.bool true) ∧ J (pre ++ [x]) W' ∧ KeptC Bc B W W') ∨ (e = .returned (.bool false) ∧ Jx (pre ++ [x]) W'))
 (W : World) (hB : Boxed W Bc 137 (.slice A m c)) (hI : Ints B W A m L) (h0 : J [] W) :
 CallsIn Fence.wide n Tryz.prog 133 #[.func (.yield l) #[] #[], .pointer (some ⟨Bc, 0, none⟩)] W fun e W' => (∃ v, e = .returned v) ∧
  ((∃ ys, ys = countL L ∧ J ys W') ∨ (∃ pre, pre <+: countL L ∧ Jx pre W')) := by
 have hc0 := hB.cell
 have hf0 := hB.frozen
 refine callsIn_of_wp Tryz.func133 rfl trivial ?_ rfl
 simp only [Tryz.ntmps133, List.size_toArray, List.length_cons, List.length_nil, Nat.reduceAdd, Nat.reduceSub, Array.replicate_succ, Array.replicate_zero, List.push_toArray, List.append_toArray, List.nil_append, List.cons_append]
 by_cases hz : m = 0
 · subst hz
   have hL : L = [] := List.length_eq_zero_iff.1 hI.1.symm
   subst hL
   obtain ⟨fn, tmps, assign, body, hy, hR⟩ := hY [] 0 W h0 (List.prefix_refl _)
   clear hY hI
   gi_wp2
   refine hR.mono ?_
   rintro e W3 (⟨rfl, hJ3, -⟩ | ⟨rfl, hJx3⟩)
   · gi_wp2
     refine bodyPost_ret (results_none rfl _ _ _) rfl ?_
     exact ⟨⟨_, rfl⟩, .inl ⟨_, rfl, hJ3⟩⟩
   · gi_wp2
     refine bodyPost_ret (results_none rfl _ _ _) rfl ?_
     exact ⟨⟨_, rfl⟩, .inr ⟨_, List.prefix_refl _, hJx3⟩⟩
 · have hLn : countL L = L := by unfold countL; rw [if_neg]; rintro rfl; exact hz hI.1
   rw [hLn] at hY ⊢
   have hz' : ((m : Int) == 0) = false := by simp [hz]
   gi_wp2
   gi_loopw [12] (fun i wr => ∃ k : Nat, k ≤ m ∧ i = .int .i64 k ∧ J (L.take k) wr ∧ Ints B wr A m L) (fun i _ => m - (intOf i).toNat)
   case atStart => exact ⟨0, Nat.zero_le _, rfl, h0, hI⟩
   case round =>
    obtain ⟨k, hk, rfl, hj, hIr⟩ := hrel
    by_cases hlt : k < m
    · obtain ⟨b, o, rfl, hc⟩ := hIr.at_ hlt
      have hkL : k < L.length := by have := hIr.1; omega
      have htk : L.take k ++ [L[k]?.getD 0] = L.take (k + 1) := by rw [List.take_add_one, List.getElem?_eq_getElem hkL]; rfl
      have hpf : L.take k ++ [L[k]?.getD 0] <+: L := by rw [htk]; exact List.take_prefix _ _
      have HPF := Lib.hid (List.take_prefix (k + 1) L)
      rw [← htk] at HPF
      generalize hx : L[k]?.getD 0 = x at hc htk hpf HPF
      have HX := Lib.hid hx
      obtain ⟨fn, tmps, assign, body, hy, hR⟩ := hY (L.take k) x wr hj hpf
      rw [htk] at hR
      clear hx hpf hkL
      have HR := Lib.hid hR
      have HI := Lib.hid hIr
      clear hY htk hR hIr hI
      gi_wp2
      refine HR.out.mono ?_
      rintro e W3 (⟨rfl, hJ3, hk3⟩ | ⟨rfl, hJx3⟩)
      · have HK := Lib.hid hk3
        clear hk3
        gi_wp2
        go_roundw
        case rel => exact ⟨k + 1, by omega, by go_num, hJ3, HI.out.keptC HK.out⟩
        case measure => simp [intOf]; omega
      · gi_wp2
        refine bodyPost_ret (results_none rfl _ _ _) rfl ?_
        exact ⟨⟨_, rfl⟩, .inr ⟨_, List.take_prefix _ _, hJx3⟩⟩
    · obtain rfl : k = m := by omega
      have HI := Lib.hid hIr
      clear hY hIr hI
      gi_wp2
      go_end0
      exact ⟨⟨_, rfl⟩, .inl ⟨_, rfl, by have := HI.out.1; rwa [List.take_of_length_le (by omega)] at hj⟩⟩
theorem counted_stops (n : Nat) (hn : 1 ≤ n) (Bc B : Nat) (A : Option Addr) (m c : Nat) (L : List Int) (hm : m ≤ 1000) (w : World) (hB : Boxed w Bc 137 (.slice A m c)) (hI : Ints B w A m L) (hBw : B ≤ w.heap.size) :
 SeqStopsC Fence.wide n Tryz.prog 133 #[.pointer (some ⟨Bc, 0, none⟩)] (fun x : Int => #[Value.int .i64 x]) Bc (KeptC Bc B) (fun ys => ys = countL L) (fun pre => pre <+: countL L) (fun pre x => (pre ++ [x]) <+: countL L) w :=
 fun l J Jx W hW _ _ _ _ hY h0 => counted1_in n hn l Bc B A m c L hm J Jx hY W ((hW.block Bc hB.lt).trans hB) (hI.below hW hBw) h0
theorem apply_in (n : Nat) (hn : 3 ≤ n) (B : Nat) (a : Int) (A : Option Addr) (m c : Nat) (L : List Int) (hm : m ≤ 1000) (w : World) (hI : Ints B w A m L) (hBw : B ≤ w.heap.size) :
 CallsIn Fence.wide n Tryz.prog 90 #[.int .i64 a, .slice A m c] w fun e W' => e = .returned (.int .i64 (applyN a L)) ∧ Below w.heap.size w W' := by
 have h1 : 1 ≤ n := by omega
 have HA := Lib.hid (right_any a w)
 refine callsIn_of_wp_marks Tryz.func90 rfl trivial ?_ rfl
 simp only [Tryz.ntmps90, List.size_toArray, List.length_cons, List.length_nil, Nat.reduceAdd, Nat.reduceSub, Array.replicate_succ, Array.replicate_zero, List.push_toArray, List.append_toArray, List.nil_append, List.cons_append]
 have hI0 := Lib.hid hI
 clear hI
 gi_wp2_with (first | (refine ⟨trivial, ?_⟩; gi_at_call 107; refine (callsIn_wide.2 HA.out).mono ?_; rintro e w' ⟨rfl, rfl⟩) | (refine ⟨trivial, ?_⟩; gi_at_call 108; refine (counted_in (n - 1) A m c _).mono ?_; rintro e w' ⟨rfl, rfl⟩))
 have bO := Boxed.new w 3 (.int .i64 (startN a))
 have bC := Boxed.new (w.alloc (.cells #[.int .i64 (startN a)] 3)) 137 (.slice A m c)
 rw [World.size_alloc] at bC
 have hB0 : Below w.heap.size w ((w.alloc (.cells #[.int .i64 (startN a)] 3)).alloc (.cells #[.slice A m c] 137)) :=
  ((Below.refl _ w).alloc (Nat.le_refl _) _).alloc (by simp) _
 refine wpIn_rangeFunc_ownC rfl h1 (gf := 133) (lb := #[.pointer (some ⟨w.heap.size + 1, 0, none⟩)]) rfl trivial (enters_of Tryz.func133 (by kernel_rfl) rfl)
  (Bc := w.heap.size + 1) (counted_stops (n - 1) (by omega) (w.heap.size + 1) B A m c L hm _ bC (hI0.out.below hB0 hBw) (by have := hB0.size; omega)) (by simp) (fun h k => h.trans k) (fun W l o o' hl _ _ _ => ⟨World.putObj_heap_other (by simp at hl; omega), fun b hb => World.putObj_heap_other (by simp at hl; omega)⟩) (Below.refl _ _) (fun _ => rfl)
  (fun pre W => Boxed W w.heap.size 3 (.int .i64 (foldN (startN a) pre)) ∧ (∃ u, Boxed W (w.heap.size + 1) 137 u) ∧ Below w.heap.size w W)
  (fun _ _ _ => False)
  ?hI ?hIx ?hIc ?hIxc ?h0
  (fun x => { tmps := #[.int .i64 a, .slice A m c, undef, undef, .int .i64 0, .pointer (some ⟨w.heap.size, 0, none⟩), .int .i64 x, .int .i64 a, .int .i64 (startN a), .slice A m c, .func (.func 133) #[] #[.pointer (some ⟨w.heap.size + 1, 0, none⟩)], .int .i64 x, undef, undef, undef, undef], defers := [] }) ?assign ?body ?done ?stop
 case hI =>
  rintro pre X Y row ⟨hv, ⟨u, bu⟩, hB⟩ hg hrow
  exact ⟨boxed_keptC hv hg hrow, ⟨u, boxed_keptC bu hg hrow⟩, hB.grown hg hB.size (fun k e => by have := (hrow k e).1; simp at this; omega)⟩
 case hIx => exact fun _ _ _ _ _ h _ _ => h
 case hIc =>
  rintro pre X x ⟨hv, ⟨u, bu⟩, hB⟩
  exact ⟨boxed_set hv (by omega) _, ⟨x, bu.set x⟩, hB.setCell (p := ⟨w.heap.size + 1, 0, none⟩) (by show _ ≤ w.heap.size + 1; omega) _⟩
 case hIxc => exact fun _ _ _ _ h => h
 case h0 => exact ⟨bO.alloc _, ⟨_, bC⟩, hB0⟩
 case assign =>
  intro l x W K hK
  gi_wp2
  exact hK
 case body =>
  rintro l pre x W ⟨hv, ⟨u, bu⟩, hB⟩ -
  have hc := hv.cell
  have hf := hv.frozen
  have hm1 := foldN_may pre _ (startN_may a)
  have HO := Lib.hid (one_any _ x hm1 W)
  have HS := Lib.hid (foldN_snoc (startN a) pre x)
  rw [← HS.out] at HO
  clear hm1
  generalize hr : foldN (startN a) (pre ++ [x]) = r at HO
  have HRR := Lib.hid hr
  clear hr HS
  have HV := Lib.hid hv
  have HB := Lib.hid hB
  have HU := Lib.hid bu
  clear hv hB bu
  gi_wp2_with (refine ⟨trivial, (fun h => by cases h), ?_⟩; gi_at_call 109; refine (CallsIn.inRound l (callsIn_wide.2 HO.out)).mono ?_; rintro e w' ⟨rfl, hb1⟩; have hv1 := boxed_below HV.out hb1; have hc1 := hv1.cell; have hf1 := hv1.frozen)
  have hbB := HB.out
  exact ⟨((keepsOthers_below hb1).trans (KeepsOthers.setCell _ _ _)).from _, ⟨(Below.heap_setCell _ _ _ _ (by show w.heap.size + 1 ≠ w.heap.size; omega)).trans (hb1.block _ HU.out.lt), fun b hb => (Below.heap_setCell _ _ _ _ (by show b ≠ w.heap.size; omega)).trans (hb1.block b (by have := HB.out.size; omega))⟩, (by rw [HRR.out]; exact hv1.set _), ⟨u, boxed_set (boxed_below HU.out hb1) (by omega) _⟩, (below_join HB.out hb1).setCell (p := ⟨w.heap.size, 0, none⟩) (Nat.le_refl _) _⟩
 case done =>
  rintro D ys W hD rfl ⟨hv, ⟨u, bu⟩, hB⟩ hK
  have hc := hv.cell
  have hf := hv.frozen
  gi_wp2
  refine ⟨by simp, .inl ⟨_, _, rfl, run_takeDeferred hK, ?_⟩⟩
  have hh := grownBy_putObj' W D (.deferred none)
  refine ⟨.int .i64 (applyN a L), by simp [results, Tryz.results90, go_sem, applyN], rfl, hB.grown hh hB.size (fun k e => by cases e; simp at hD; omega)⟩
 case stop =>
  rintro D c pre W hD hpre hF
  exact hF.elim
theorem apply_any (B : Nat) (a : Int) (A : Option Addr) (m c : Nat) (L : List Int) (hm : m ≤ 1000) (w : World) (hI : Ints B w A m L) (hBw : B ≤ w.heap.size) :
 Calls Tryz.prog 90 #[.int .i64 a, .slice A m c] w fun e W' => e = .returned (.int .i64 (applyN a L)) ∧ Below w.heap.size w W' :=
 callsIn_wide.1 (apply_in 3 (Nat.le_refl _) B a A m c L hm w hI hBw)
end
end Go.Proofs.YtmgeghoalmonoaaGreatDoor
