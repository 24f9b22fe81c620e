import Derived.Test.YteoeooijpjehpaaGreatDoorHQ
import Derived.Test.YteoeooijpjehpaaGreatDoorHD
import Derived.Test.YteoeooijpjehpaaGreatDoorIA
import Derived.Test.YteoeooijpjehpaaGreatDoorHC
import Derived.Test.YteoeooijpjehpaaGreatDoorHH
import Derived.RangeFuncCalls
import Derived.TacticsInMore
import Derived.LoopNIn
import Derived.LoopIn
import Derived.OwnWalkIn

set_option maxRecDepth 100000
set_option maxHeartbeats 16000000
namespace Go.Proofs.YteoeooijpjehpaaGreatDoor
open Go.RowKit
set_option linter.unusedSimpArgs false
set_option linter.unusedVariables false
/- Walks: package field: Check, there, number. -/
section
attribute [local go_sem] alloc_drewN setCell_drewN World.cell?_alloc_some frozen_alloc_some size_f0 size_f1
theorem RowsAt.gcell {B : Nat} {W : World} {OB : Nat} {D : Vz.Gd} {G K : Nat → Nat} (h : RowsAt B W OB D G K) {i : Nat} (hi : i < D.R) : W.cell? ⟨OB, i, none⟩ = some (.slice (some ⟨G i, 0, none⟩) D.C (K i)) := h.outer.cell hi
theorem RowsAt.xcell {B : Nat} {W : World} {OB : Nat} {D : Vz.Gd} {G K : Nat → Nat} (h : RowsAt B W OB D G K) {i j : Nat} (hi : i < D.R) (hj : j < D.C) : W.cell? ⟨G i, j * 4, none⟩ = some (.int .i32 (D.X i j).g) ∧ W.cell? ⟨G i, j * 4 + 2, none⟩ = some (.bool (D.X i j).gd) := by
 have hr := h.row i hi
 refine ⟨?_, ?_⟩
 · rw [hr.cell (show j * 4 < D.C * 4 by omega), Nat.mul_comm j 4, Vz.flatC_0]
 · rw [hr.cell (show j * 4 + 2 < D.C * 4 by omega), Nat.mul_comm j 4, Vz.flatC_2]
section
variable {B : Nat} {w : World} {OB : Nat} {D : Vz.Gd} {G K : Nat → Nat}
theorem fcheck (h : RowsAt B w OB D G K) (hm : D.may) : Calls Tryz.prog 153 #[.slice (some ⟨OB, 0, none⟩) D.R D.R] w fun e w' => e = .returned (.int .i64 0) ∧ w' = w := by
 obtain ⟨m1, m2, m3, m4⟩ := hm
 have HR := Lib.hid h
 have z1 : ¬ (D.R : Int) < 1 := by omega
 have z2 : ¬ (255 : Int) < (D.R : Int) := by omega
 have z3 : ¬ (D.C : Int) < 1 := by omega
 have z4 : ¬ (255 : Int) < (D.C : Int) := by omega
 have g0 := h.gcell (i := 0) (by omega)
 have z0 : (0 : Int) < (D.R : Int) := by omega
 have zn : 0 < D.R := by omega
 clear h
 go_enter Tryz.func153, Tryz.ntmps153
 go_wp2_with fail
 go_loopw [15] (fun i wr => ∃ k : Nat, k ≤ D.R ∧ i = .int .i64 (k : Int) ∧ wr = w) (fun i _ => D.R - (intOf i).toNat)
 case atStart => exact ⟨0, Nat.zero_le _, rfl, rfl⟩
 case round =>
  obtain ⟨k, hk, rfl, rfl⟩ := hrel
  by_cases hlt : k < D.R
  · have hkz : (k : Int) < (D.R : Int) := by omega
    have hwk : IntKind.i64.wrap ((k : Int) + 1) = ((k + 1 : Nat) : Int) := by rw [wrap_in (by omega) (by omega)]; rfl
    have gk := HR.out.gcell hlt
    go_wp2_with fail
    exact ⟨⟨k + 1, by omega, rfl, trivial⟩, by simp [intOf]; omega⟩
  · obtain rfl : k = D.R := by omega
    go_wp2_with fail
    go_ret
    exact ⟨rfl, rfl⟩
theorem fthere (h : RowsAt B w OB D G K) (hm : D.may) (i j : Nat) (hi : i < D.R) (hj : j < D.C) : Calls Tryz.prog 192 #[.slice (some ⟨OB, 0, none⟩) D.R D.R, .agg #[.int .i64 (i : Int), .int .i64 (j : Int)]] w fun e w' => e = .returned (.bool true) ∧ Below w.heap.size w w' := by
 obtain ⟨m1, m2, m3, m4⟩ := hm
 have HR := Lib.hid (fun W (hb : Below w.heap.size w W) => (h.below hb).gcell (i := 0) (by omega))
 have z1 : (i : Int) < (D.R : Int) := by omega
 have z2 : (j : Int) < (D.C : Int) := by omega
 have z3 : (0 : Int) ≤ (i : Int) := by omega
 have z4 : (0 : Int) ≤ (j : Int) := by omega
 have z0 : (0 : Int) < (D.R : Int) := by omega
 have zn : 0 < D.R := by omega
 have HB : Hid (Below w.heap.size w (w.alloc (.cells #[.int .i64 (i : Int), .int .i64 (j : Int)] 49)).drew) := (below1 w _).drew
 have HX : Hid ((w.alloc (.cells #[.int .i64 (i : Int), .int .i64 (j : Int)] 49)).drew.heap[w.heap.size]? = some (.cells #[.int .i64 (i : Int), .int .i64 (j : Int)] 49 (0, 0))) := heap_alloc_new w _
 clear h
 go_enter Tryz.func192, Tryz.ntmps192
 go_upto_region 1 with fail
 refine wp_region_noPanic ?_
 refine wp_region_k (S := fun W : World => Below w.heap.size w W ∧ W.heap[w.heap.size]? = some (.cells #[.int .i64 (i : Int), .int .i64 (j : Int)] 49 (0, 0))) 999 (by kernel_rfl) (⟨HB.out, HX.out⟩) (fun hHeld => ?_)
 refine kSK 0 hHeld ?_
 refine kHK (v := ?_) 1 hHeld ?y2 ?_
 case y2 => (intro W hSw; obtain ⟨p0, p1, _⟩ := row2 hSw.2; have g0 := HR.out _ hSw.1; go_simp; try with_reducible rfl)
 refine kSK 2 hHeld ?_
 refine kSK 3 hHeld ?_
 refine kSK 4 hHeld ?_
 try refine kNK ?_
 refine kHK (v := ?_) 5 hHeld ?y6 ?_
 case y6 => (intro W hSw; obtain ⟨p0, p1, _⟩ := row2 hSw.2; have g0 := HR.out _ hSw.1; go_simp; try with_reducible rfl)
 refine kSK 6 hHeld ?_
 refine kSK 7 hHeld ?_
 refine kSK 8 hHeld ?_
 refine kSK 9 hHeld ?_
 try refine kNK ?_
 refine kSK 10 hHeld ?_
 refine kSK 11 hHeld ?_
 refine kHK (v := ?_) 12 hHeld ?y13 ?_
 case y13 => (intro W hSw; obtain ⟨p0, p1, _⟩ := row2 hSw.2; have g0 := HR.out _ hSw.1; go_simp; try with_reducible rfl)
 refine kSK 13 hHeld ?_
 refine kSK 14 hHeld ?_
 try refine kNK ?_
 refine kSK 15 hHeld ?_
 refine kSK 16 hHeld ?_
 refine kHK (v := ?_) 17 hHeld ?y18 ?_
 case y18 => (intro W hSw; obtain ⟨p0, p1, _⟩ := row2 hSw.2; have g0 := HR.out _ hSw.1; go_simp; try with_reducible rfl)
 refine kSK 18 hHeld ?_
 refine kSK 19 hHeld ?_
 try refine kNK ?_
 refine kHK (v := ?_) 20 hHeld ?y21 ?_
 case y21 => (intro W hSw; obtain ⟨p0, p1, _⟩ := row2 hSw.2; have g0 := HR.out _ hSw.1; go_simp; try with_reducible rfl)
 refine kSK 21 hHeld ?_
 refine kSK 22 hHeld ?_
 refine kSK 23 hHeld ?_
 refine kSK 24 hHeld ?_
 try refine kNK ?_
 refine wpAnyK_done (by kernel_rfl) ?_ _
 refine NoPanic.normal ?_
 go_wp2_with fail
 go_ret
 exact ⟨rfl, HB.out⟩
theorem fnumber (h : RowsAt B w OB D G K) (hm : D.may) (i j : Nat) (hi : i < D.R) (hj : j < D.C) (o : Int) : Calls Tryz.prog 154 #[.slice (some ⟨OB, 0, none⟩) D.R D.R, .agg #[.int .i64 (i : Int), .int .i64 (j : Int)], .int .i64 o] w fun e w' => e = .returned (.int .i64 ((i * D.C + j : Nat) : Int)) ∧ Below w.heap.size w w' := by
 have HT := Lib.hid (fun W (hb : Below w.heap.size w W) => fthere (h.below hb) hm i j hi hj)
 obtain ⟨m1, m2, m3, m4⟩ := hm
 have HR := Lib.hid (fun W (hb : Below w.heap.size w W) => (h.below hb).gcell (i := 0) (by omega))
 have hlt : i * D.C ≤ 255 * 255 := Nat.mul_le_mul (by omega) (by omega)
 obtain ⟨m, hmm⟩ : ∃ m : Nat, m = i * D.C := ⟨_, rfl⟩
 have hw1 : IntKind.i64.wrap ((i : Int) * (D.C : Int)) = (m : Int) := by rw [← Int.natCast_mul, ← hmm]; exact wrap_in (by omega) (by omega)
 have hw2 : IntKind.i64.wrap ((m : Int) + (j : Int)) = (m : Int) + (j : Int) := wrap_in (by omega) (by omega)
 have HM := Lib.hid hmm
 have z0 : (0 : Int) < (D.R : Int) := by omega
 have zn : 0 < D.R := by omega
 have hb0 := below1 w (.cells #[.int .i64 (i : Int), .int .i64 (j : Int)] 49)
 have hx0 := heap_alloc_new w (.cells #[.int .i64 (i : Int), .int .i64 (j : Int)] 49)
 obtain ⟨x0, x1, _⟩ := row2 hx0
 have HB0 := Lib.hid hb0
 have HX0 := Lib.hid hx0
 clear h hlt hmm hb0 hx0
 go_enter Tryz.func154, Tryz.ntmps154
 go_upto_region 3 with (go_at_call 192; refine (HT.out _ HB0.out).mono ?_; rintro e w1 ⟨rfl, hb1⟩; have HB1 := Lib.hid (Below.later HB0.out hb1 HB0.out.size); have HX1 := Lib.hid ((hb1.block _ (block_lt HX0.out)).trans HX0.out); clear hb1)
 clear x0 x1
 have HB2 : Hid (Below w.heap.size w w1.drew) := HB1.out.drew
 have HX2 : Hid (w1.drew.heap[w.heap.size]? = some (.cells #[.int .i64 (i : Int), .int .i64 (j : Int)] 49 (0, 0))) := HX1.out
 refine wp_region_noPanic ?_
 refine wp_region_k (S := fun W : World => Below w.heap.size w W ∧ W.heap[w.heap.size]? = some (.cells #[.int .i64 (i : Int), .int .i64 (j : Int)] 49 (0, 0))) 999 (by kernel_rfl) (⟨HB2.out, HX2.out⟩) (fun hHeld => ?_)
 refine kSK 0 hHeld ?_
 refine kHK (v := ?_) 1 hHeld ?y2 ?_
 case y2 => (intro W hSw; obtain ⟨p0, p1, _⟩ := row2 hSw.2; have g0 := HR.out _ hSw.1; go_simp; try with_reducible rfl)
 refine kSK 2 hHeld ?_
 refine kSK 3 hHeld ?_
 refine kHK (v := ?_) 4 hHeld ?y5 ?_
 case y5 => (intro W hSw; obtain ⟨p0, p1, _⟩ := row2 hSw.2; have g0 := HR.out _ hSw.1; go_simp; try with_reducible rfl)
 try refine kNK ?_
 refine kSK 5 hHeld ?_
 refine kSK 6 hHeld ?_
 refine kSK 7 hHeld ?_
 refine kHK (v := ?_) 8 hHeld ?y9 ?_
 case y9 => (intro W hSw; obtain ⟨p0, p1, _⟩ := row2 hSw.2; have g0 := HR.out _ hSw.1; go_simp; try with_reducible rfl)
 refine kSK 9 hHeld ?_
 try refine kNK ?_
 refine kSK 10 hHeld ?_
 try refine kNK ?_
 refine wpAnyK_done (by kernel_rfl) ?_ _
 refine NoPanic.normal ?_
 go_wp2_with fail
 go_ret
 exact ⟨by rw [← HM.out]; rfl, HB2.out⟩
end
end
section
attribute [local go_sem] alloc_drewN setCell_drewN World.cell?_alloc_some frozen_alloc_some size_f0 size_f1
abbrev FT := Nat × Nat × Nat
def fldV (x : FT) : Array Value := #[.agg #[.int .i64 (x.1 : Int), .int .i64 (x.2.1 : Int), .int .i64 (x.2.2 : Int)]]
def mapR (r : Nat) (l : List (Nat × Nat)) : List FT := l.map fun p => (r, p.1, p.2)
def rowF (D : Vz.Gd) (r : Nat) : List FT := mapR r (runsF (fun c => (D.X r c).gd) 0 0 D.C)
theorem fieldsF_succ (D : Vz.Gd) (r n : Nat) : fieldsF D r (n + 1) = rowF D r ++ fieldsF D (r + 1) n := rfl
theorem yield_wide {m m' : Nat} {P : Program} {l : Nat} {args : Array Value} {W : World} {R : Ending → World → Prop} (h : YieldAt Fence.wide m P l args W R) : YieldAt Fence.wide m' P l args W R := by
 obtain ⟨fn, tmps, assign, body, h1, h2, h3⟩ := h
 exact ⟨fn, tmps, assign, body, h1, h2, fun c cs _ => h3 c cs (room_wide _)⟩
theorem fields_in (n : Nat) (hn : 1 ≤ n) (l B OB : Nat) (D : Vz.Gd) (G K : Nat → Nat) (hm : D.may) (r : Nat) (hr : r < D.R) (pre0 rest : List FT) (hall : pre0 ++ (rowF D r ++ rest) = allF D)
 (J Jx : List FT → World → Prop) (hJ : ∀ s A, J s A → RowsAt B A OB D G K)
 (hY : ∀ pre x W, J pre W → pre ++ [x] <+: allF D → YieldAt Fence.wide (n - 1) Tryz.prog l (fldV x) W fun e W' => (e = .returned (.bool true) ∧ J (pre ++ [x]) W') ∨ (e = .returned (.bool false) ∧ Jx (pre ++ [x]) W'))
 (W : World) (h0 : J pre0 W) : CallsIn Fence.wide n Tryz.prog 194 #[.slice (some ⟨G r, 0, none⟩) D.C (K r), .int .i64 (r : Int), .func (.yield l) #[] #[]] W fun e W' => (e = .returned (.bool true) ∧ J (pre0 ++ rowF D r) W') ∨ (e = .returned (.bool false) ∧ ∃ pre, pre <+: allF D ∧ Jx pre W') := by
 obtain ⟨m1, m2, m3, m4⟩ := hm
 have HJ := Lib.hid hJ
 have HY := Lib.hid hY
 have H0 := Lib.hid h0
 have HALL := Lib.hid hall
 obtain ⟨g, hg⟩ : ∃ g : Nat → Bool, g = fun c => (D.X r c).gd := ⟨_, rfl⟩
 have hrow : rowF D r = mapR r (runsF g 0 0 D.C) := by rw [hg]; rfl
 have HROW := Lib.hid hrow
 have HG := Lib.hid hg
 clear hJ hY h0 hall hrow hg
 refine callsIn_of_wp Tryz.func194 rfl trivial ?_ rfl
 simp only [Tryz.ntmps194, List.size_toArray, List.length_cons, List.length_nil, Nat.reduceAdd, Nat.reduceSub, Array.replicate_succ, Array.replicate_zero, List.push_toArray, List.append_toArray, List.nil_append, List.cons_append]
 gi_wp2
 gi_loopw [7, 8] (fun a c wr => ∃ (q : List FT) (fr col : Nat), a = .int .i64 (fr : Int) ∧ c = .int .i64 (col : Int) ∧ fr ≤ col ∧ ((col ≤ D.C ∧ q ++ mapR r (runsF g fr col (D.C - col)) = rowF D r) ∨ (col = D.C + 1 ∧ q = rowF D r)) ∧ J (pre0 ++ q) wr) (fun _ c _ => D.C + 2 - (intOf c).toNat)
 case atStart => exact ⟨[], 0, 0, rfl, rfl, Nat.le_refl _, .inl ⟨Nat.zero_le _, by rw [HROW.out]; rfl⟩, by rw [List.append_nil]; exact H0.out⟩
 case round =>
  obtain ⟨q, fr, col, rfl, rfl, hfc, hcase, hj⟩ := hrel
  rcases hcase with ⟨hle, heq⟩ | ⟨rfl, rfl⟩
  · have hlez : (col : Int) ≤ (D.C : Int) := by omega
    have hwc : IntKind.i64.wrap ((col : Int) + 1) = ((col + 1 : Nat) : Int) := by rw [wrap_in (by omega) (by omega)]; rfl
    have HJJ := Lib.hid hj
    have hstep : ∀ q', (∀ y, q' = q ++ y → False) ∨ True := fun _ => .inr trivial
    clear hstep
    by_cases hlt : col < D.C
    · have hltz : (col : Int) < (D.C : Int) := by omega
      obtain ⟨_, xg⟩ := (HJ.out _ _ hj).xcell (i := r) (j := col) hr hlt
      obtain ⟨n', hn'⟩ : ∃ n', D.C - col = n' + 1 := ⟨D.C - col - 1, by omega⟩
      have hn2 : D.C - (col + 1) = n' := by omega
      rw [hn'] at heq
      have hgc : (D.X r col).gd = g col := by rw [HG.out]
      rw [hgc] at xg
      clear hj hgc
      cases hgg : g col
      · rw [hgg] at xg
        have heq2 : q ++ mapR r (runsF g fr (col + 1) n') = rowF D r := by
         rw [← heq]
         show _ = q ++ mapR r (if g col = false then runsF g fr (col + 1) n' else _)
         rw [if_pos hgg]
        have HEQ := Lib.hid heq2
        clear heq heq2 hn'
        gi_wp2
        exact ⟨⟨q, fr, col + 1, rfl, rfl, by omega, .inl ⟨by omega, by rw [hn2]; exact HEQ.out⟩, HJJ.out⟩, by simp [intOf]; omega⟩
      · rw [hgg] at xg
        have he : runsF g fr col (n' + 1) = (if fr < col then [(fr, col - 1)] else []) ++ runsF g (col + 1) (col + 1) n' := by
         show (if g col = false then _ else _) = _
         exact if_neg (by rw [hgg]; decide)
        have heq2 : q ++ (mapR r (if fr < col then [(fr, col - 1)] else []) ++ mapR r (runsF g (col + 1) (col + 1) n')) = rowF D r := by
         rw [← heq, he]
         unfold mapR
         rw [List.map_append]
        clear he
        clear heq hn'
        by_cases hf : fr < col
        · rw [if_pos hf] at heq2
          have hfz : (fr : Int) < (col : Int) := by omega
          have hws : IntKind.i64.wrap ((col : Int) - 1) = ((col - 1 : Nat) : Int) := by rw [wrap_in (by omega) (by omega)]; omega
          have hpre : (pre0 ++ q) ++ [(r, fr, col - 1)] <+: allF D := by
           rw [← HALL.out, ← heq2]
           refine ⟨mapR r (runsF g (col + 1) (col + 1) n') ++ rest, ?_⟩
           unfold mapR
           simp
          have hYY := yield_wide (m' := n - 1) (HY.out _ _ _ HJJ.out hpre)
          have HEQ := Lib.hid (show (q ++ [(r, fr, col - 1)]) ++ mapR r (runsF g (col + 1) (col + 1) n') = rowF D r by rw [← heq2]; unfold mapR; simp)
          have HPRE := Lib.hid hpre
          unfold fldV at hYY
          simp only at hYY
          obtain ⟨fn, tmps, assign, body, hy, hR⟩ := hYY
          have HR := Lib.hid hR
          clear hR heq2 hpre
          generalize hcm : col - 1 = cm at *
          gi_wp2
          refine HR.out.mono ?_
          rintro e W6 (⟨rfl, hJ6⟩ | ⟨rfl, hX6⟩)
          · have HJ6 := Lib.hid hJ6
            clear hJ6
            gi_wp2
            exact ⟨⟨q ++ [(r, fr, cm)], col + 1, col + 1, rfl, rfl, Nat.le_refl _, .inl ⟨by omega, by rw [hn2]; exact HEQ.out⟩, by rw [← List.append_assoc]; exact HJ6.out⟩, by simp [intOf]; omega⟩
          · have HX6 := Lib.hid hX6
            clear hX6
            gi_wp2
            go_ret
            exact .inr ⟨rfl, _, HPRE.out, HX6.out⟩
        · rw [if_neg hf] at heq2
          have hfz : ¬ (fr : Int) < (col : Int) := by omega
          have HEQ := Lib.hid (show q ++ mapR r (runsF g (col + 1) (col + 1) n') = rowF D r by rw [← heq2]; unfold mapR; simp)
          clear heq2
          gi_wp2
          refine ⟨fun f h => (by cases h), ?_⟩
          gi_wp2
          exact ⟨⟨q, col + 1, col + 1, rfl, rfl, Nat.le_refl _, .inl ⟨by omega, by rw [hn2]; exact HEQ.out⟩, HJJ.out⟩, by simp [intOf]; omega⟩
    · obtain rfl : col = D.C := by omega
      rw [Nat.sub_self] at heq
      have heq2 : q ++ mapR r (if fr < D.C then [(fr, D.C - 1)] else []) = rowF D r := heq
      clear heq hj
      by_cases hf : fr < D.C
      · rw [if_pos hf] at heq2
        have hfz : (fr : Int) < (D.C : Int) := by omega
        have hws : IntKind.i64.wrap ((D.C : Int) - 1) = ((D.C - 1 : Nat) : Int) := by rw [wrap_in (by omega) (by omega)]; omega
        have heq3 : q ++ [(r, fr, D.C - 1)] = rowF D r := heq2
        have hpre : (pre0 ++ q) ++ [(r, fr, D.C - 1)] <+: allF D := by
         rw [← HALL.out, ← heq3]
         exact ⟨rest, by simp⟩
        have hYY := yield_wide (m' := n - 1) (HY.out _ _ _ HJJ.out hpre)
        have HEQ := Lib.hid heq3
        have HPRE := Lib.hid hpre
        unfold fldV at hYY
        simp only at hYY
        obtain ⟨fn, tmps, assign, body, hy, hR⟩ := hYY
        have HR := Lib.hid hR
        clear hR heq2 heq3 hpre
        generalize hcm : D.C - 1 = cm at *
        gi_wp2
        refine HR.out.mono ?_
        rintro e W6 (⟨rfl, hJ6⟩ | ⟨rfl, hX6⟩)
        · have HJ6 := Lib.hid hJ6
          clear hJ6
          gi_wp2
          exact ⟨⟨q ++ [(r, fr, cm)], D.C + 1, D.C + 1, rfl, rfl, Nat.le_refl _, .inr ⟨rfl, HEQ.out⟩, by rw [← List.append_assoc]; exact HJ6.out⟩, by simp [intOf]⟩
        · have HX6 := Lib.hid hX6
          clear hX6
          gi_wp2
          go_ret
          exact .inr ⟨rfl, _, HPRE.out, HX6.out⟩
      · rw [if_neg hf] at heq2
        have hfz : ¬ (fr : Int) < (D.C : Int) := by omega
        have HEQ := Lib.hid (show q = rowF D r by rw [← heq2]; unfold mapR; simp)
        clear heq2
        gi_wp2
        refine ⟨fun f h => (by cases h), ?_⟩
        gi_wp2
        exact ⟨⟨q, D.C + 1, D.C + 1, rfl, rfl, Nat.le_refl _, .inr ⟨rfl, HEQ.out⟩, HJJ.out⟩, by simp [intOf]⟩
  · have hz : ¬ ((D.C + 1 : Nat) : Int) ≤ (D.C : Int) := by omega
    have HJJ := Lib.hid hj
    clear hj
    gi_wp2
    go_ret
    exact .inl ⟨rfl, HJJ.out⟩
def FldG (rb B OB : Nat) (D : Vz.Gd) (G K : Nat → Nat) (W : World) : Prop := W.heap[rb]? = some (.cells #[.slice (some ⟨OB, 0, none⟩) D.R D.R] 64 (0, 0)) ∧ RowsAt B W OB D G K
theorem fall_in (n : Nat) (hn : 1 ≤ n) (l rb B OB : Nat) (D : Vz.Gd) (G K : Nat → Nat) (hm : D.may) (J Jx : List FT → World → Prop) (hJ : ∀ s A, J s A → FldG rb B OB D G K A)
 (hY : ∀ pre x W, J pre W → pre ++ [x] <+: allF D → YieldAt Fence.wide (n - 1) Tryz.prog l (fldV x) W fun e W' => (e = .returned (.bool true) ∧ J (pre ++ [x]) W') ∨ (e = .returned (.bool false) ∧ Jx (pre ++ [x]) W'))
 (W : World) (h0 : J [] W) : CallsIn Fence.wide n Tryz.prog 193 #[.func (.yield l) #[] #[], .pointer (some ⟨rb, 0, none⟩)] W fun e W' => (∃ v, e = .returned v) ∧ ((∃ ys, ys = allF D ∧ J ys W') ∨ (∃ pre, pre <+: allF D ∧ Jx pre W')) := by
 have HCH := Lib.hid (fcheck (hJ _ _ h0).2 hm)
 have hmm := hm
 obtain ⟨m1, m2, m3, m4⟩ := hmm
 have HFI := Lib.hid (fun (r : Nat) (hr : r < D.R) (pre0 rest : List FT) (hall : pre0 ++ (rowF D r ++ rest) = allF D) (W : World) (h : J pre0 W) => callsIn_wide.1 (fields_in 1 (Nat.le_refl _) l B OB D G K hm r hr pre0 rest hall J Jx (fun s A h => (hJ s A h).2) (fun pre x W h hp => yield_wide (hY pre x W h hp)) W h))
 have HJ := Lib.hid hJ
 have H0 := Lib.hid h0
 have r0 : W.cell? ⟨rb, 0, none⟩ = some (.slice (some ⟨OB, 0, none⟩) D.R D.R) := cell_row (hJ _ _ h0).1 0
 clear hJ hY h0 hm
 refine callsIn_of_wp Tryz.func193 rfl trivial ?_ rfl
 simp only [Tryz.ntmps193, List.size_toArray, List.length_cons, List.length_nil, Nat.reduceAdd, Nat.reduceSub, Array.replicate_succ, Array.replicate_zero, List.push_toArray, List.append_toArray, List.nil_append, List.cons_append]
 gi_wp2_with (refine ⟨trivial, ?_⟩; gi_at_call 153; refine (callsIn_wide.2 HCH.out).mono ?_; rintro e w1 ⟨rfl, rfl⟩)
 gi_loopw [10] (fun i wr => ∃ (k : Nat) (pre : List FT), k ≤ D.R ∧ i = .int .i64 (k : Int) ∧ pre ++ fieldsF D k (D.R - k) = allF D ∧ J pre wr) (fun i _ => D.R - (intOf i).toNat)
 case atStart => exact ⟨0, [], Nat.zero_le _, rfl, rfl, H0.out⟩
 case round =>
  obtain ⟨k, pre, hk, rfl, heq, hj⟩ := hrel
  by_cases hlt : k < D.R
  · have hkz : (k : Int) < (D.R : Int) := by omega
    have hwk : IntKind.i64.wrap ((k : Int) + 1) = ((k + 1 : Nat) : Int) := by rw [wrap_in (by omega) (by omega)]; rfl
    have gk := (HJ.out _ _ hj).2.gcell hlt
    obtain ⟨m, hm⟩ : ∃ m, D.R - k = m + 1 := ⟨D.R - k - 1, by omega⟩
    have hm2 : D.R - (k + 1) = m := by omega
    rw [hm, fieldsF_succ] at heq
    have HF := Lib.hid (HFI.out k hlt pre _ heq wr hj)
    have HEQ := Lib.hid (show (pre ++ rowF D k) ++ fieldsF D (k + 1) (D.R - (k + 1)) = allF D by rw [hm2, List.append_assoc]; exact heq)
    clear hj heq hm hm2 r0
    gi_wp2_with (refine ⟨trivial, ?_⟩; gi_at_call 194; refine (callsIn_wide.2 HF.out).mono ?_; rintro e w2 (⟨rfl, h2⟩ | ⟨rfl, pre2, h2, h3⟩))
    · exact ⟨⟨k + 1, _, by omega, rfl, HEQ.out, h2⟩, by simp [intOf]; omega⟩
    · exact bodyPost_ret (results_none rfl _ _ _) rfl ⟨⟨_, rfl⟩, .inr ⟨pre2, h2, h3⟩⟩
  · obtain rfl : k = D.R := by omega
    rw [Nat.sub_self] at heq
    have heq2 : pre = allF D := by
     have : pre ++ [] = allF D := heq
     rwa [List.append_nil] at this
    have HJJ := Lib.hid hj
    have HEQ := Lib.hid heq2
    clear hj heq heq2
    gi_wp2
    go_end0
    exact ⟨⟨_, rfl⟩, .inl ⟨pre, HEQ.out, HJJ.out⟩⟩
theorem fall_stops (n : Nat) (hn : 1 ≤ n) (rb B OB : Nat) (D : Vz.Gd) (G K : Nat → Nat) (hm : D.may) (Kp : World → World → Prop) (w : World) :
 SeqStopsT Fence.wide n Tryz.prog 193 #[.pointer (some ⟨rb, 0, none⟩)] fldV Kp (fun ys => ys = allF D) (fun pre => pre <+: allF D) (fun pre x _ => pre ++ [x] <+: allF D) (FldG rb B OB D G K) w :=
 fun l J Jx W _ _ _ hJ hY h0 => fall_in n hn l rb B OB D G K hm J Jx hJ (fun pre x W h hp => (hY pre x W h hp).mono fun e W' h => h.imp (fun h => ⟨h.1, h.2.1⟩) id) W h0
theorem fall_any (OB R : Nat) (w : World) : Calls Tryz.prog 157 #[.slice (some ⟨OB, 0, none⟩) R R] w fun e w' => e = .returned (.func (.func 193) #[] #[.pointer (some ⟨w.heap.size, 0, none⟩)]) ∧ w' = w.alloc (.cells #[.slice (some ⟨OB, 0, none⟩) R R] 64) := by
 have hmf : ∀ (fn : Fn) (first cap : Array Value) (w : World), (Instr.makeFunc fn first cap).run Tryz.prog w = .ok (.func fn first cap) w := fun _ _ _ _ => rfl
 go_enter Tryz.func157, Tryz.ntmps157
 go_wp2_with fail
 go_ret
 exact ⟨rfl, rfl⟩
end
end Go.Proofs.YteoeooijpjehpaaGreatDoor
