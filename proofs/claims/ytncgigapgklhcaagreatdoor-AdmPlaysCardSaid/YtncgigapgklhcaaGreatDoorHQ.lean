import Derived.Test.YtncgigapgklhcaaGreatDoorHH
import Derived.Test.YtncgigapgklhcaaGreatDoorHE
import Derived.RangeFuncLeaves
import Derived.RangeFuncBound
import Derived.Test.YtncgigapgklhcaaGreatDoorHG
import Derived.Test.YtncgigapgklhcaaGreatDoorHF
import Derived.Test.YtncgigapgklhcaaGreatDoorHZ
import Derived.Shelf.SlMaps.Clone
import Derived.Test.YtncgigapgklhcaaGreatDoorShelfG

set_option maxRecDepth 100000
set_option maxHeartbeats 16000000
namespace Go.Proofs.YtncgigapgklhcaaGreatDoor
open Go.RowKit
set_option linter.unusedSimpArgs false
set_option linter.unusedVariables false
/- Plain: rows of cells that grow cell by cell, in a row of rows. -/
section
def growV (G K : Nat → Nat) (C n i : Nat) : Value := if n ≤ i * C then .slice none 0 0 else .slice (some ⟨G i, 0, none⟩) (min C (n - i * C)) (K i)
structure RowsP (W : World) (OB R C : Nat) (X : Nat → Nat → Vz.Cl) (G K : Nat → Nat) (n : Nat) : Prop where
 outer : RowC W OB 54 R R (growV G K C n)
 row : ∀ i, i < R → i * C < n → W.ownsRow (G i) 56 4 (.slice (some ⟨G i, 0, none⟩) (min C (n - i * C)) (K i)) (min C (n - i * C)) (cellsL (X i) (min C (n - i * C)))
 low : ∀ i, i < R → i * C < n → OB < G i
 mono : ∀ i j, i < j → j < R → j * C < n → G i < G j
theorem own_lt {W : World} {base : Nat} {e : TypeId} {size g n cap : Nat} {xs : List Value} (h : W.ownsRow base e size (.slice (some ⟨g, 0, none⟩) n cap) n xs) : g < W.heap.size := (h.lt g rfl).2
theorem own_base {W : World} {base : Nat} {e : TypeId} {size g n cap : Nat} {xs : List Value} (h : W.ownsRow base e size (.slice (some ⟨g, 0, none⟩) n cap) n xs) : W.ownsRow g e size (.slice (some ⟨g, 0, none⟩) n cap) n xs := by
 obtain ⟨hl, h⟩ := h
 refine ⟨hl, ?_⟩
 rcases h with h | ⟨g', cap', cur, hv, hb, rest⟩
 · exact .inl h
 · cases hv
   exact .inr ⟨g, cap, cur, rfl, Nat.le_refl _, rest⟩
theorem own_block {W W' : World} {base : Nat} {e : TypeId} {size g n cap : Nat} {xs : List Value} (h : W.ownsRow base e size (.slice (some ⟨g, 0, none⟩) n cap) n xs) (hb : W'.heap[g]? = W.heap[g]?) : W'.ownsRow base e size (.slice (some ⟨g, 0, none⟩) n cap) n xs := by
 obtain ⟨hl, h⟩ := h
 refine ⟨hl, ?_⟩
 rcases h with h | ⟨g', cap', cur, hv, hbb, hg, rest⟩
 · exact .inl h
 · cases hv
   exact .inr ⟨g, cap, cur, rfl, hbb, hb.trans hg, rest⟩
theorem RowsP.of_blocks {W W' : World} {OB R C : Nat} {X : Nat → Nat → Vz.Cl} {G K : Nat → Nat} {n : Nat} (h : RowsP W OB R C X G K n) (ho : W'.heap[OB]? = W.heap[OB]?) (hg : ∀ i, i < R → i * C < n → W'.heap[G i]? = W.heap[G i]?) : RowsP W' OB R C X G K n :=
 ⟨h.outer.of_block ho, fun i hi hn => own_block (h.row i hi hn) (hg i hi hn), h.low, h.mono⟩
theorem RowsP.lt {W : World} {OB R C : Nat} {X : Nat → Nat → Vz.Cl} {G K : Nat → Nat} {n : Nat} (h : RowsP W OB R C X G K n) {i : Nat} (hi : i < R) (hn : i * C < n) : G i < W.heap.size := own_lt (h.row i hi hn)
theorem RowsP.below {W W' : World} {OB R C : Nat} {X : Nat → Nat → Vz.Cl} {G K : Nat → Nat} {n : Nat} (h : RowsP W OB R C X G K n) (hb : Below W.heap.size W W') : RowsP W' OB R C X G K n :=
 h.of_blocks (hb.block _ h.outer.lt) fun i hi hn => hb.block _ (h.lt hi hn)
theorem RowsP.zero (w : World) (R C : Nat) (X : Nat → Nat → Vz.Cl) : RowsP (w.alloc (.cells (madeCells #[.slice none 0 0] R) 54)) w.heap.size R C X (fun _ => 0) (fun _ => 0) 0 := by
 refine ⟨⟨_, heap_alloc_new w _, size_madeCells _ _, Nat.le_refl _, fun i hi => ?_⟩, fun i _ h => absurd h (Nat.not_lt_zero _), fun i _ h => absurd h (Nat.not_lt_zero _), fun i j _ _ h => absurd h (Nat.not_lt_zero _)⟩
 rw [← Array.getElem?_toList, toList_madeCells_one]
 unfold growV
 rw [if_pos (Nat.zero_le _)]
 simp [hi]
theorem RowsP.step {W W3 W4 : World} {OB R C : Nat} {X : Nat → Nat → Vz.Cl} {G K : Nat → Nat} {r c g' cap' : Nat} (h : RowsP W OB R C X G K (r * C + c)) (hr : r < R) (hc : c < C) (h3 : Below W.heap.size W W3)
 (hgr : W3.grownBy W4 (growV G K C (r * C + c) r).ownBlock) (hown : W4.ownsRow (if c = 0 then W3.heap.size else G r) 56 4 (.slice (some ⟨g', 0, none⟩) (c + 1) cap') (c + 1) (cellsL (X r) c ++ cellL (X r c))) :
 RowsP (W4.setCell ⟨OB, r, none⟩ (.slice (some ⟨g', 0, none⟩) (c + 1) cap')) OB R C X (fun i => if i = r then g' else G i) (fun i => if i = r then cap' else K i) (r * C + c + 1) := by
 have hC : 0 < C := by omega
 have hle : ∀ i, i < r → i * C + C ≤ r * C := fun i hi => by rw [← Nat.succ_mul]; exact Nat.mul_le_mul_right C hi
 have hge : ∀ i, r < i → r * C + C ≤ i * C := fun i hi => by rw [← Nat.succ_mul]; exact Nat.mul_le_mul_right C hi
 have h3' := h.below h3
 have hob : OB < W3.heap.size := h3'.outer.lt
 have hbase : OB < (if c = 0 then W3.heap.size else G r) := by
  split
  · exact hob
  · exact h.low r hr (by omega)
 have hg' : (if c = 0 then W3.heap.size else G r) ≤ g' := (hown.lt g' rfl).1
 have hblk : ∀ k, (growV G K C (r * C + c) r).ownBlock = some k → 0 < c ∧ k = G r := fun k hk => by
  unfold growV at hk
  by_cases h0 : r * C + c ≤ r * C
  · rw [if_pos h0] at hk; cases hk
  · rw [if_neg h0] at hk
    injection hk with hk
    exact ⟨by omega, hk.symm⟩
 have hobn : some OB ≠ (growV G K C (r * C + c) r).ownBlock := fun e => by
  obtain ⟨h0, h1⟩ := hblk OB e.symm
  have := h.low r hr (by omega)
  omega
 have hrow : ∀ i, i < r → some (G i) ≠ (growV G K C (r * C + c) r).ownBlock := fun i hi e => by
  obtain ⟨h0, h1⟩ := hblk _ e.symm
  have := h.mono i r hi hr (by omega)
  omega
 refine ⟨?_, fun i hi hn => ?_, fun i hi hn => ?_, fun i j hij hj hn => ?_⟩
 · refine ((h3'.outer.of_block (hgr.block OB hob hobn)).set r _).congr fun i hi => ?_
   unfold growV
   by_cases he : i = r
   · subst he
     rw [if_pos rfl, if_neg (by omega)]
     simp only [if_true]
     rw [show min C (i * C + c + 1 - i * C) = c + 1 by omega]
   · rw [if_neg he]
     simp only [if_neg he]
     rcases Nat.lt_or_ge i r with hl | hl
     · have := hle i hl
       rw [if_neg (by omega), if_neg (by omega), show min C (r * C + c - i * C) = min C (r * C + c + 1 - i * C) by omega]
     · have := hge i (by omega)
       rw [if_pos (by omega), if_pos (by omega)]
 · have hir : i ≤ r := by
    rcases Nat.lt_or_ge r i with hl | hl
    · have := hge i hl; omega
    · exact hl
   have hset : ∀ k, k ≠ OB → (W4.setCell ⟨OB, r, none⟩ (.slice (some ⟨g', 0, none⟩) (c + 1) cap')).heap[k]? = W4.heap[k]? := fun k hk => heap_setCell_other _ _ _ _ hk
   by_cases he : i = r
   · subst he
     simp only [if_true]
     rw [show min C (i * C + c + 1 - i * C) = c + 1 by omega, cellsL_succ]
     exact own_block (own_base hown) (hset _ (by omega))
   · simp only [if_neg he]
     have hil : i < r := by omega
     have := hle i hil
     rw [show min C (r * C + c + 1 - i * C) = min C (r * C + c - i * C) by omega]
     have hlo := h.low i hi (by omega)
     exact own_block (h3'.row i hi (by omega)) ((hset _ (by omega)).trans (hgr.block _ (h3'.lt hi (by omega)) (hrow i hil)))
 · show OB < if i = r then g' else G i
   split
   · omega
   · rename_i he
     have hir : i < r := by
      rcases Nat.lt_or_ge i r with hl | hl
      · exact hl
      · have := hge i (by omega); omega
     exact h.low i hi (by have := hle i hir; omega)
 · have hjr : j ≤ r := by
    rcases Nat.lt_or_ge r j with hl | hl
    · have := hge j hl; omega
    · exact hl
   show (if i = r then g' else G i) < if j = r then g' else G j
   rw [if_neg (by omega)]
   have h1 := hle i (by omega)
   split
   · rename_i he
     subst he
     have hlt := h3'.lt (i := i) (by omega) (by omega)
     by_cases h0 : c = 0
     · rw [if_pos h0] at hg'
       omega
     · have := h.mono i j hij hj (by omega)
       rw [if_neg h0] at hg'
       omega
   · have h2 := hle j (by omega)
     exact h.mono i j hij hj (by omega)
structure RowsAt (B : Nat) (W : World) (OB : Nat) (D : Vz.Gd) (G K : Nat → Nat) : Prop where
 outer : RowC W OB 54 D.R D.R (rowV G K D.C)
 row : ∀ i, i < D.R → RowC W (G i) 56 (K i * 4) (D.C * 4) (Vz.flatC (D.X i))
 low : ∀ i, i < D.R → OB < G i
 inj : ∀ i j, i < D.R → j < D.R → G i = G j → i = j
 ge : B ≤ OB
theorem RowsP.done {W : World} {B OB : Nat} {D : Vz.Gd} {G K : Nat → Nat} (h : RowsP W OB D.R D.C D.X G K (D.R * D.C)) (hC : 0 < D.C) (hB : B ≤ OB) : RowsAt B W OB D G K := by
 have hle : ∀ i, i < D.R → i * D.C + D.C ≤ D.R * D.C := fun i hi => by rw [← Nat.succ_mul]; exact Nat.mul_le_mul_right D.C hi
 refine ⟨h.outer.congr fun i hi => ?_, fun i hi => ?_, fun i hi => h.low i hi (by have := hle i hi; omega), fun i j hi hj e => ?_, hB⟩
 · have := hle i hi
   unfold growV rowV
   rw [if_neg (by omega), show min D.C (D.R * D.C - i * D.C) = D.C by omega]
 · have := hle i hi
   have hr := h.row i hi (by omega)
   rw [show min D.C (D.R * D.C - i * D.C) = D.C by omega] at hr
   exact (RowC.of_own4 hr).congr fun q hq => cellsL_getD _ _ _ hq
 · rcases Nat.lt_trichotomy i j with hl | hl | hl
   · have := h.mono i j hl hj (by have := hle j hj; omega); omega
   · exact hl
   · have := h.mono j i hl hi (by have := hle i hi; omega); omega
theorem RowsAt.of_blocks {B : Nat} {W W' : World} {OB : Nat} {D : Vz.Gd} {G K : Nat → Nat} (h : RowsAt B W OB D G K) (e : ∀ k, B ≤ k → k < W.heap.size → W'.heap[k]? = W.heap[k]?) : RowsAt B W' OB D G K :=
 ⟨h.outer.of_block (e _ h.ge h.outer.lt), fun i hi => (h.row i hi).of_block (e _ (by have := h.low i hi; have := h.ge; omega) (h.row i hi).lt), h.low, h.inj, h.ge⟩
theorem RowsAt.below {B : Nat} {W W' : World} {OB : Nat} {D : Vz.Gd} {G K : Nat → Nat} (h : RowsAt B W OB D G K) (hb : Below W.heap.size W W') : RowsAt B W' OB D G K :=
 h.of_blocks fun k _ hk => hb.block k hk
theorem RowsAt.kept {B : Nat} {W W' : World} {OB : Nat} {D : Vz.Gd} {G K : Nat → Nat} {row : Option Nat} (h : RowsAt B W OB D G K) (hg : W.grownBy W' row) (hr : ∀ r, row = some r → 0 ≤ r ∧ ∃ o : Obj, W.heap[r]? = some o ∧ o.isCells = false) : RowsAt B W' OB D G K :=
 ⟨by
  obtain ⟨c, hc, _⟩ := h.outer
  exact h.outer.of_block ((cells_kept hg hr hc).trans hc.symm), fun i hi => by
  obtain ⟨c, hc, _⟩ := h.row i hi
  exact (h.row i hi).of_block ((cells_kept hg hr hc).trans hc.symm), h.low, h.inj, h.ge⟩
theorem RowsAt.grid {B : Nat} {W : World} {OB : Nat} {D : Vz.Gd} {G K : Nat → Nat} (h : RowsAt B W OB D G K) (hm : D.may) : GridAt (W.alloc (.cells #[.slice (some ⟨OB, 0, none⟩) D.R D.R] 115)) W.heap.size OB D.R G K D :=
 have hb := below1 W (.cells #[.slice (some ⟨OB, 0, none⟩) D.R D.R] 115)
 have h' := h.below hb
 ⟨hm, heap_alloc_new _ _, h'.outer, h'.row, h.inj⟩
end
section
attribute [local go_sem] alloc_drewN setCell_drewN World.cell?_alloc_some frozen_alloc_some size_f0 size_f1 Oper.semAt_some
theorem make_outer (m : Nat) (h2 : m ≤ 255) : ∀ W : World, Sem.run Tryz.prog (Instr.makeSlice 52 (.int .i64 (m : Int)) (.int .i64 (m : Int))) W = .ok (.slice (some ⟨W.heap.size, 0, none⟩) m m) (W.alloc (.cells (madeCells #[.slice none 0 0] m) 54)) := by
 obtain ⟨i, hi, hz, hs, hb⟩ := info_three infoRow
 intro W
 have := run_make (P := Tryz.prog) W 52 54 i _ Tryz.underlying52 hi hz .i64 .i64 m m (by omega) (by omega) (by rw [hb]; omega) (by omega)
 rw [hs] at this
 simpa [Value.cells] using this
theorem grows_in (n : Nat) (hn : 3 ≤ n) (gp : Nat) (F : Nat → Prop) (D : Vz.Gd) (w : World) (h : Grid w gp F D) :
 CallsIn Fence.wide n Tryz.prog 36 #[.pointer (some ⟨gp, 0, none⟩)] w fun e w' => ∃ OB G K, e = .returned (.slice (some ⟨OB, 0, none⟩) D.R D.R) ∧ RowsAt w.heap.size w' OB D G K ∧ Below w.heap.size w w' := by
 have h1 : 1 ≤ n := by omega
 obtain ⟨m1, m2, m3, m4⟩ := h.may
 have HSZ := Lib.hid (gsize_ok gp F D w h)
 have hmk := make_outer D.R m2
 have H := Lib.hid h
 clear h
 refine callsIn_of_wp_marks Tryz.func36 rfl trivial ?_ rfl
 simp only [Tryz.ntmps36, List.size_toArray, List.length_cons, List.length_nil, Nat.reduceAdd, Nat.reduceSub, Array.replicate_succ, Array.replicate_zero, List.push_toArray, List.append_toArray, List.nil_append, List.cons_append]
 gi_wp2_with (first
  | (refine ⟨trivial, ?_⟩; gi_at_call 60; refine (callsIn_wide.2 HSZ.out).mono ?_; rintro e w1 ⟨rfl, hb1⟩; have HB1 := Lib.hid hb1; clear hb1; obtain ⟨s0, s1, _⟩ := row2 (heap_alloc_new w1 (.cells #[.int .i64 D.R, .int .i64 D.C] 23)))
  | (refine ⟨trivial, ?_⟩; gi_at_call 61; refine (all_in (n - 1) gp _).mono ?_; rintro e w2 ⟨rfl, rfl⟩))
 have HB3 : Hid (Below w.heap.size w ((((w1.alloc (.cells #[.int .i64 D.R, .int .i64 D.C] 23)).alloc (.cells (madeCells #[.slice none 0 0] D.R) 54)).alloc (.cells #[.slice (some ⟨w1.heap.size + 1, 0, none⟩) D.R D.R] 52)).alloc (.cells #[.pointer (some ⟨gp, 0, none⟩)] 77))) := Below.later HB1.out (Grows.below (((((Grows.refl _).alloc _).alloc _).alloc _).alloc _)) HB1.out.size
 have hs1 : w.heap.size ≤ w1.heap.size := HB1.out.size
 have HZ : Hid (RowsP ((((w1.alloc (.cells #[.int .i64 D.R, .int .i64 D.C] 23)).alloc (.cells (madeCells #[.slice none 0 0] D.R) 54)).alloc (.cells #[.slice (some ⟨w1.heap.size + 1, 0, none⟩) D.R D.R] 52)).alloc (.cells #[.pointer (some ⟨gp, 0, none⟩)] 77)) (w1.heap.size + 1) D.R D.C D.X (fun _ => 0) (fun _ => 0) 0) := by
  have h0 := RowsP.zero (w1.alloc (.cells #[.int .i64 D.R, .int .i64 D.C] 23)) D.R D.C D.X
  rw [World.size_alloc] at h0
  exact h0.below (Grows.below (((Grows.refl _).alloc _).alloc _))
 have HN2 : Hid (((((w1.alloc (.cells #[.int .i64 D.R, .int .i64 D.C] 23)).alloc (.cells (madeCells #[.slice none 0 0] D.R) 54)).alloc (.cells #[.slice (some ⟨w1.heap.size + 1, 0, none⟩) D.R D.R] 52)).alloc (.cells #[.pointer (some ⟨gp, 0, none⟩)] 77)).heap[w1.heap.size + 1 + 1]? = some (.cells #[.slice (some ⟨w1.heap.size + 1, 0, none⟩) D.R D.R] 52 (0, 0))) := by
  have := (box2 (Below.refl ((((w1.alloc (.cells #[.int .i64 D.R, .int .i64 D.C] 23)).alloc (.cells (madeCells #[.slice none 0 0] D.R) 54)).alloc (.cells #[.slice (some ⟨w1.heap.size + 1, 0, none⟩) D.R D.R] 52)).alloc (.cells #[.pointer (some ⟨gp, 0, none⟩)] 77)).heap.size _)).1
  rwa [World.size_alloc, World.size_alloc] at this
 have HN3 : Hid (((((w1.alloc (.cells #[.int .i64 D.R, .int .i64 D.C] 23)).alloc (.cells (madeCells #[.slice none 0 0] D.R) 54)).alloc (.cells #[.slice (some ⟨w1.heap.size + 1, 0, none⟩) D.R D.R] 52)).alloc (.cells #[.pointer (some ⟨gp, 0, none⟩)] 77)).heap[w1.heap.size + 1 + 1 + 1]? = some (.cells #[.pointer (some ⟨gp, 0, none⟩)] 77 (0, 0))) := by
  have := heap_alloc_new (((w1.alloc (.cells #[.int .i64 D.R, .int .i64 D.C] 23)).alloc (.cells (madeCells #[.slice none 0 0] D.R) 54)).alloc (.cells #[.slice (some ⟨w1.heap.size + 1, 0, none⟩) D.R D.R] 52)) (.cells #[.pointer (some ⟨gp, 0, none⟩)] 77)
  rwa [World.size_alloc, World.size_alloc, World.size_alloc] at this
 have hR : 1 ≤ D.R ∧ D.R ≤ 255 := ⟨m1, m2⟩
 have hC : 1 ≤ D.C ∧ D.C ≤ 255 := ⟨m3, m4⟩
 clear s0 s1 hmk
 refine wpIn_rangeFunc_T rfl h1 (gf := 92) (lb := #[.pointer (some ⟨w1.heap.size + 1 + 1 + 1, 0, none⟩)]) rfl trivial (enters_of Tryz.func92 (by kernel_rfl) rfl)
  (all_stopsK (n - 1) (by omega) (w1.heap.size + 1 + 1 + 1) gp D.R D.C (w1.heap.size + 1 + 1 + 1 + 1) hR hC (KpS (w1.heap.size + 1 + 1 + 1 + 1)) (fun A A' k c h hB hk => h k c hB hk) _ (by simp)) (fun h k => h.trans k) (fun W l o o' _ hl ho _ => (KpC.putObj W l o o' hl ho).s) (Below.refl _ _) (fun _ => rfl)
  (fun pre W => W.heap[w1.heap.size + 1 + 1]? = some (.cells #[.slice (some ⟨w1.heap.size + 1, 0, none⟩) D.R D.R] 52 (0, 0)) ∧ W.heap[w1.heap.size + 1 + 1 + 1]? = some (.cells #[.pointer (some ⟨gp, 0, none⟩)] 77 (0, 0)) ∧ (∃ G K, (∀ i, i < D.R → i * D.C < pre.length → w1.heap.size + 1 + 1 + 1 + 1 ≤ G i) ∧ RowsP W (w1.heap.size + 1) D.R D.C D.X G K pre.length) ∧ Below w.heap.size w W)
  (fun _ _ _ => False)
  ?hI ?hIx ?hT ?hGd ?h0
  (fun x b => { tmps := #[.pointer (some ⟨gp, 0, none⟩), undef, .slice none 0 0, .pointer (some ⟨w1.heap.size, 0, none⟩), .pointer (some ⟨w1.heap.size + 1 + 1, 0, none⟩), .pointer (some ⟨b, 0, none⟩), .pointer (some ⟨b + 1, 0, none⟩), .pointer (some ⟨gp, 0, none⟩), .agg #[.int .i64 D.R, .int .i64 D.C], .pointer (some ⟨w1.heap.size, 0, none⟩), .int .i64 D.R, .slice (some ⟨w1.heap.size + 1, 0, none⟩) D.R D.R, .pointer (some ⟨gp, 0, none⟩), .func (.func 92) #[] #[.pointer (some ⟨w1.heap.size + 1 + 1 + 1, 0, none⟩)], .agg #[.int .i64 ((x.1 / D.C : Nat) : Int), .int .i64 ((x.1 % D.C : Nat) : Int)], .agg #[.int .i32 x.2.g, .int .i64 x.2.a, .bool x.2.gd, .int .i64 x.2.m], undef, undef, undef, undef, undef, undef, undef, undef, undef, undef, undef, undef, undef], defers := [] })
  (mkPC D.C) (bxPC D.C) (fun x W => grown_of_below (mkPC_below D.C x W)) (fun x W => (KpC.of_below (mkPC_below D.C x W)).s) (mkPC_bx D.C) (bxPC_own D.C _) ?assign ?body ?done ?stop
 case hI =>
  rintro pre X Y rw ⟨i1, i3, ⟨G, K, hge, hP⟩, hB⟩ hgr hrow
  refine ⟨cells_kept hgr hrow i1, cells_kept hgr hrow i3, ⟨G, K, hge, hP.of_blocks ?_ fun i hi hn => ?_⟩, below_own (by simp; omega) hB hgr hrow⟩
  · obtain ⟨c, hc, _⟩ := hP.outer
    exact (cells_kept hgr hrow hc).trans hc.symm
  · obtain ⟨c, hc, _⟩ := RowC.of_own4 (hP.row i hi hn)
    exact (cells_kept hgr hrow hc).trans hc.symm
 case hIx => exact fun _ _ _ _ _ h _ _ => h
 case hT => exact allT_own gp D.R D.C _
 case hGd =>
  rintro s A ⟨i1, i3, _, hB⟩
  exact ⟨⟨F, D, H.out.below hB, rfl, rfl⟩, cell_row i3 0⟩
 case h0 => exact ⟨HN2.out, HN3.out, ⟨_, _, fun i _ h => absurd h (Nat.not_lt_zero _), HZ.out⟩, HB3.out⟩
 case assign =>
  intro l x W K hK
  unfold mkPC cellB at hK
  unfold allV
  generalize x.1 / D.C = pr at *
  generalize x.1 % D.C = pc at *
  gi_wp2
  exact hK
 case body =>
  rintro l pre x b W hb ⟨i1, i3, ⟨G, K, hge, hP⟩, hB⟩ hT ⟨bx0, bx1⟩
  have hx := hT.cell ((H.out.below hB)) hC.1 rfl rfl
  have hpl : pre.length < D.R * D.C := hT.2.1
  clear hT
  subst hx
  have hdm : pre.length = pre.length / D.C * D.C + pre.length % D.C := (Nat.div_add_mod' _ _).symm
  obtain ⟨hrR, hcC⟩ := place_of pre.length D.R D.C hC.1 hpl
  have hprw : W.cell? ⟨b, 0, none⟩ = some (.int .i64 ((pre.length / D.C : Nat) : Int)) := cell_row bx0 0
  generalize hpr : pre.length / D.C = r at *
  generalize hpc : pre.length % D.C = c at *
  have hlen : (pre ++ [(pre.length, D.X r c)]).length = r * D.C + c + 1 := by rw [List.length_append, ← hdm]; rfl
  have hri : (r : Int) < (D.R : Int) := by omega
  rw [hdm] at hP hge
  obtain ⟨i0, hi, hz0, hz1, hz2⟩ := info_three infoCell
  have hsz : w1.heap.size + 1 + 1 + 1 + 1 ≤ W.heap.size := by have := block_lt bx1; simp at hb; omega
  have hcell : W.cell? ⟨w1.heap.size + 1, r, none⟩ = some (growV G K D.C (r * D.C + c) r) := hP.outer.cell hrR
  have HOWN : Hid ((W.drew.alloc (.cells #[.int .i32 (D.X r c).g, .int .i64 (D.X r c).a, .bool (D.X r c).gd, .int .i64 (D.X r c).m] 56)).ownsRow (if c = 0 then (W.drew.alloc (.cells #[.int .i32 (D.X r c).g, .int .i64 (D.X r c).a, .bool (D.X r c).gd, .int .i64 (D.X r c).m] 56)).heap.size else G r) 56 4 (growV G K D.C (r * D.C + c) r) c (cellsL (D.X r) c)) := by
   unfold growV
   by_cases h0 : c = 0
   · rw [if_pos h0, if_pos (by omega)]
     subst h0
     exact World.ownsRow_nil _ _ _ _
   · rw [if_neg h0, if_neg (by omega)]
     have := hP.row r hrR (by omega)
     rw [show min D.C (r * D.C + c - r * D.C) = c by omega] at this ⊢
     exact (own_below this (Below.refl _ _).drew).alloc _
  have HBS : Hid ((if c = 0 then (W.drew.alloc (.cells #[.int .i32 (D.X r c).g, .int .i64 (D.X r c).a, .bool (D.X r c).gd, .int .i64 (D.X r c).m] 56)).heap.size else G r) ≤ (W.drew.alloc (.cells #[.int .i32 (D.X r c).g, .int .i64 (D.X r c).a, .bool (D.X r c).gd, .int .i64 (D.X r c).m] 56)).heap.size) := by
   by_cases h0 : c = 0
   · rw [if_pos h0]; exact Nat.le_refl _
   · rw [if_neg h0]
     have := hP.lt hrR (show r * D.C < r * D.C + c by omega)
     rw [World.size_alloc]
     exact Nat.le_of_lt (Nat.lt_succ_of_lt this)
  have HVB : Hid (∀ k, (growV G K D.C (r * D.C + c) r).ownBlock = some k → w1.heap.size + 1 + 1 + 1 + 1 ≤ k ∧ ∃ cc, W.heap[k]? = some (.cells cc 56 (0, 0))) := by
   intro k hk
   unfold growV at hk
   by_cases h0 : r * D.C + c ≤ r * D.C
   · rw [if_pos h0] at hk; cases hk
   · rw [if_neg h0] at hk
     injection hk with hk
     subst hk
     refine ⟨hge r hrR (by omega), ?_⟩
     obtain ⟨cc, hcc, _⟩ := RowC.of_own4 (hP.row r hrR (by omega))
     exact ⟨cc, hcc⟩
  have HP := Lib.hid hP
  have HGE := Lib.hid hge
  have HB := Lib.hid hB
  have HBX0 := Lib.hid bx0
  have HBX1 := Lib.hid bx1
  have HI1 := Lib.hid i1
  have HI3 := Lib.hid i3
  have HS0 : Hid (W.drew.heap[w1.heap.size + 1 + 1]? = some (.cells #[.slice (some ⟨w1.heap.size + 1, 0, none⟩) D.R D.R] 52 (0, 0)) ∧ W.drew.heap[b]? = some (.cells #[.int .i64 (r : Int), .int .i64 (c : Int)] 36 (0, 0)) ∧ W.drew.cell? ⟨w1.heap.size + 1, r, none⟩ = some (growV G K D.C (r * D.C + c) r)) := ⟨i1, bx0, hcell⟩
  generalize hv : growV G K D.C (r * D.C + c) r = v at *
  clear hP hge hB bx0 bx1 i1 i3 hcell hprw
  have HVN : Hid (∀ k, k < w1.heap.size + 1 + 1 + 1 + 1 ∨ k = b → some k ≠ v.ownBlock) := by
   intro k hk e
   obtain ⟨h1, cc, h2⟩ := HVB.out k e.symm
   rcases hk with hk | rfl
   · omega
   · rw [HBX0.out] at h2; cases h2
  have HFZ : Hid ((W.drew.alloc (.cells #[.int .i32 (D.X r c).g, .int .i64 (D.X r c).a, .bool (D.X r c).gd, .int .i64 (D.X r c).m] 56)).frozen? ⟨w1.heap.size + 1, r, none⟩ = false) := ((HP.out.below (Below.refl _ _).drew).below (below1 _ _)).outer.frozen r
  have HS1 : Hid ((W.drew.alloc (.cells #[.int .i32 (D.X r c).g, .int .i64 (D.X r c).a, .bool (D.X r c).gd, .int .i64 (D.X r c).m] 56)).heap[w1.heap.size + 1 + 1]? = some (.cells #[.slice (some ⟨w1.heap.size + 1, 0, none⟩) D.R D.R] 52 (0, 0)) ∧ (W.drew.alloc (.cells #[.int .i32 (D.X r c).g, .int .i64 (D.X r c).a, .bool (D.X r c).gd, .int .i64 (D.X r c).m] 56)).heap[b]? = some (.cells #[.int .i64 (r : Int), .int .i64 (c : Int)] 36 (0, 0)) ∧ (W.drew.alloc (.cells #[.int .i32 (D.X r c).g, .int .i64 (D.X r c).a, .bool (D.X r c).gd, .int .i64 (D.X r c).m] 56)).cell? ⟨w1.heap.size + 1, r, none⟩ = some v) := by
   obtain ⟨a1, a2, a4⟩ := HS0.out
   have hbb := below1 W.drew (.cells #[.int .i32 (D.X r c).g, .int .i64 (D.X r c).a, .bool (D.X r c).gd, .int .i64 (D.X r c).m] 56)
   exact ⟨(hbb.block _ (block_lt a1)).trans a1, (hbb.block _ (block_lt a2)).trans a2, (hbb.cell (World.block_lt_of_cell? _ _ a4)).trans a4⟩
  have HS2 : Hid (∀ w5, (W.drew.alloc (.cells #[.int .i32 (D.X r c).g, .int .i64 (D.X r c).a, .bool (D.X r c).gd, .int .i64 (D.X r c).m] 56)).grownBy w5 v.ownBlock → w5.heap[w1.heap.size + 1 + 1]? = some (.cells #[.slice (some ⟨w1.heap.size + 1, 0, none⟩) D.R D.R] 52 (0, 0)) ∧ w5.heap[b]? = some (.cells #[.int .i64 (r : Int), .int .i64 (c : Int)] 36 (0, 0)) ∧ w5.cell? ⟨w1.heap.size + 1, r, none⟩ = some v ∧ w5.frozen? ⟨w1.heap.size + 1, r, none⟩ = false) := by
   intro w5 hg
   obtain ⟨a1, a2, a4⟩ := HS1.out
   exact ⟨(hg.block _ (block_lt a1) (HVN.out _ (.inl (by omega)))).trans a1, (hg.block _ (block_lt a2) (HVN.out _ (.inr rfl))).trans a2, (World.cell?_of_block (hg.block _ (World.block_lt_of_cell? _ _ a4) (HVN.out _ (.inl (by show w1.heap.size + 1 < _; omega))))).trans a4, (World.frozen?_of_block (hg.block _ (World.block_lt_of_cell? _ _ a4) (HVN.out _ (.inl (by show w1.heap.size + 1 < _; omega))))).trans HFZ.out⟩
  obtain ⟨q0, q1, q2, q3⟩ := cell4 (show W.drew.heap[b + 1]? = _ from HBX1.out)
  gi_wp2
  refine wpIn_region_r (S := fun W : World => W.heap[w1.heap.size + 1 + 1]? = some (.cells #[.slice (some ⟨w1.heap.size + 1, 0, none⟩) D.R D.R] 52 (0, 0)) ∧ W.heap[b]? = some (.cells #[.int .i64 (r : Int), .int .i64 (c : Int)] 36 (0, 0)) ∧ W.cell? ⟨w1.heap.size + 1, r, none⟩ = some v) 12 (by kernel_rfl) (by kernel_rfl) (HS0.out) (fun hHeld => ?_)
  refine kTR (v := ?_) 0 [] hHeld ?y1 ?_
  case y1 => (intro W hSw; obtain ⟨k1, k2, k4⟩ := hSw; have y0 := cell_row k1 0; obtain ⟨p0, p1, _⟩ := row2 k2; go_simp; try with_reducible rfl)
  refine kSR 1 hHeld ?_
  refine kTR (v := ?_) 2 [] hHeld ?y3 ?_
  case y3 => (intro W hSw; obtain ⟨k1, k2, k4⟩ := hSw; have y0 := cell_row k1 0; obtain ⟨p0, p1, _⟩ := row2 k2; go_simp; try with_reducible rfl)
  refine kTR (v := ?_) 3 [] hHeld ?y4 ?_
  case y4 => (intro W hSw; obtain ⟨k1, k2, k4⟩ := hSw; have y0 := cell_row k1 0; obtain ⟨p0, p1, _⟩ := row2 k2; go_simp; try with_reducible rfl)
  refine kSR 4 hHeld ?_
  try refine kNR ?_
  refine kTR (v := ?_) 5 [] hHeld ?y6 ?_
  case y6 => (intro W hSw; obtain ⟨k1, k2, k4⟩ := hSw; have y0 := cell_row k1 0; obtain ⟨p0, p1, _⟩ := row2 k2; go_simp; try with_reducible rfl)
  refine kSR 6 hHeld ?_
  refine kTR (v := ?_) 7 [] hHeld ?y8 ?_
  case y8 => (intro W hSw; obtain ⟨k1, k2, k4⟩ := hSw; have y0 := cell_row k1 0; obtain ⟨p0, p1, _⟩ := row2 k2; go_simp; try with_reducible rfl)
  try refine kNR ?_
  refine kOR 8 fun KQ hKQ => ?_
  go_simp
  skip
  refine hKQ.out _ _ (hHeld) ?_
  clear hHeld hKQ KQ
  intro hHeld
  try refine kNR ?_
  refine kOR 9 fun KQ hKQ => ?_
  go_simp
  refine hKQ.out _ _ (HS1.out) ?_
  clear hHeld hKQ KQ
  intro hHeld
  try refine kNR ?_
  refine kOR 10 fun KQ hKQ => ?_
  rw [if_pos (by rfl)]
  refine wp_append_own _ (.tmp 23) (.tmp 25) 54 rfl (if c = 0 then (W.drew.alloc (.cells #[.int .i32 (D.X r c).g, .int .i64 (D.X r c).a, .bool (D.X r c).gd, .int .i64 (D.X r c).m] 56)).heap.size else G r) 56 i0 (.agg #[.int .i32 0, .int .i64 0, .bool false, .int .i64 0]) 4 32 Tryz.underlying54 hi hz0 hz1 hz2 rfl (by decide) v c (cellsL (D.X r) c) rfl HOWN.out ⟨W.heap.size, 0, none⟩ 1 1 (cellL (D.X r c)) rfl rfl (cell_four_new W.drew _) (cellL_one _) (by unfold maxLen; omega) (by omega) HBS.out ?_
  intro v' w5 hown5 hgrow5 _
  obtain ⟨g', cap', rfl⟩ := own_succ hown5
  have HOWN5 := Lib.hid hown5
  have HG5 := Lib.hid hgrow5
  obtain ⟨s51, s52, s53, s54⟩ := HS2.out w5 hgrow5
  clear hown5 hgrow5
  refine hKQ.out _ _ (⟨s51, s52, s53⟩) ?_
  clear hHeld hKQ KQ
  intro hHeld
  try refine kNR ?_
  refine kSR 11 hHeld ?_
  try refine kNR ?_
  refine kPR 12 fun KQ hKQ => ?_
  go_simp
  refine hKQ.out _ _ ?_
  clear hKQ KQ
  try refine kNR ?_
  refine wpAnyR_done (by kernel_rfl) ?_ _
  refine NoPanic.normal ?_
  gi_wp2
  have hle : ∀ (k : Nat) (o : Obj), W.heap[k]? = some o → (∀ cc t fr, o = Obj.cells cc t fr → t ≠ 56 ∧ t ≠ 54) → (w5.setCell ⟨w1.heap.size + 1, r, none⟩ (.slice (some ⟨g', 0, none⟩) (c + 1) cap')).heap[k]? = some o := by
   intro k o hk ho
   have hka : (W.drew.alloc (.cells #[.int .i32 (D.X r c).g, .int .i64 (D.X r c).a, .bool (D.X r c).gd, .int .i64 (D.X r c).m] 56)).heap[k]? = some o := (Below.heap_alloc W.drew _ k (block_lt hk)).trans hk
   have hn1 : some k ≠ v.ownBlock := fun e => by
    obtain ⟨_, cc, h2⟩ := HVB.out k e.symm
    rw [hk] at h2
    injection h2 with h2
    exact (ho _ _ _ h2).1 rfl
   have hn2 : k ≠ w1.heap.size + 1 := fun e => by
    obtain ⟨cc, h2, _⟩ := HP.out.outer
    rw [← e, hk] at h2
    injection h2 with h2
    exact (ho _ _ _ h2).2 rfl
   exact (heap_setCell_other _ _ _ _ hn2).trans ((HG5.out.block k (block_lt hka) hn1).trans hka)
  have hsw : W.heap.size ≤ (W.drew.alloc (.cells #[.int .i32 (D.X r c).g, .int .i64 (D.X r c).a, .bool (D.X r c).gd, .int .i64 (D.X r c).m] 56)).heap.size := by rw [World.size_alloc]; exact Nat.le_succ _
  have hs5 : (W.drew.alloc (.cells #[.int .i32 (D.X r c).g, .int .i64 (D.X r c).a, .bool (D.X r c).gd, .int .i64 (D.X r c).m] 56)).heap.size ≤ w5.heap.size := HG5.out.size
  have hg' : (if c = 0 then (W.drew.alloc (.cells #[.int .i32 (D.X r c).g, .int .i64 (D.X r c).a, .bool (D.X r c).gd, .int .i64 (D.X r c).m] 56)).heap.size else G r) ≤ g' := (HOWN5.out.lt g' rfl).1
  have hstep : RowsP (w5.setCell ⟨w1.heap.size + 1, r, none⟩ (.slice (some ⟨g', 0, none⟩) (c + 1) cap')) (w1.heap.size + 1) D.R D.C D.X (fun i => if i = r then g' else G i) (fun i => if i = r then cap' else K i) (r * D.C + c + 1) := HP.out.step hrR hcC ((Below.refl W.heap.size W).drew.alloc (Nat.le_refl _) _) (by rw [hv]; exact HG5.out) HOWN5.out
  refine ⟨⟨?_, fun k o hB hk ho => hle k o hk fun cc t fr e => by subst e; cases ho⟩, fun k cc hB hk => hle k _ hk fun c2 t fr e => by injection e with e1 e2 e3; subst e2; decide, hle _ _ HI1.out fun c2 t fr e => by injection e with e1 e2 e3; subst e2; decide, hle _ _ HI3.out fun c2 t fr e => by injection e with e1 e2 e3; subst e2; decide, ⟨_, _, fun i hi hn => ?_, by rw [hlen]; exact hstep⟩, ?_⟩
  · rw [World.size_setCell]; omega
  · show w1.heap.size + 1 + 1 + 1 + 1 ≤ if i = r then g' else G i
    rw [hlen] at hn
    have h0 : ∀ i, i < r → i * D.C + D.C ≤ r * D.C := fun i hi => by rw [← Nat.succ_mul]; exact Nat.mul_le_mul_right D.C hi
    by_cases he : i = r
    · rw [if_pos he]
      by_cases hc0 : c = 0
      · rw [if_pos hc0] at hg'
        omega
      · rw [if_neg hc0] at hg'
        have := HGE.out r hrR (by omega)
        omega
    · rw [if_neg he]
      have hir : i < r := by
       rcases Nat.lt_or_ge r i with h | h
       · have := Nat.mul_le_mul_right D.C (show r + 1 ≤ i from h)
         rw [Nat.succ_mul] at this
         omega
       · omega
      have := h0 i hir
      exact HGE.out i hi (by omega)
  · have hbA : Below w.heap.size w (W.drew.alloc (.cells #[.int .i32 (D.X r c).g, .int .i64 (D.X r c).a, .bool (D.X r c).gd, .int .i64 (D.X r c).m] 56)) := HB.out.drew.alloc HB.out.size _
    exact ((hbA.grown HG5.out hbA.size fun k e => by have := (HVB.out k e).1; omega)).setCell (p := ⟨w1.heap.size + 1, r, none⟩) (by show w.heap.size ≤ w1.heap.size + 1; omega) _
 case done =>
  rintro E ys W hE ⟨hS, hS2⟩ ⟨i1, i3, ⟨G, K, hge, hP⟩, hB⟩ hK
  have ho := cell_row i1 0
  rw [hS] at hP
  have HA := Lib.hid (hP.done (B := w.heap.size) (by omega) (by omega))
  gi_wp2
  refine ⟨by simp, .inl ⟨_, _, rfl, run_takeDeferred hK, ?_⟩⟩
  have hh := grownBy_putObj' W E (.deferred none)
  exact ⟨.slice (some ⟨w1.heap.size + 1, 0, none⟩) D.R D.R, by simp [results, Tryz.results36, go_sem], _, rfl, ⟨_, _, HA.out.kept hh (fun r e => by cases e; exact ⟨Nat.zero_le _, _, hK, rfl⟩)⟩, hB.grown hh hB.size (fun k e => by cases e; simp at hE; omega)⟩
 case stop =>
  rintro E c pre W hE hpre hF
  exact hF.elim
theorem grows_ok (gp : Nat) (F : Nat → Prop) (D : Vz.Gd) (w : World) (h : Grid w gp F D) :
 Calls Tryz.prog 36 #[.pointer (some ⟨gp, 0, none⟩)] w fun e w' => ∃ OB G K, e = .returned (.slice (some ⟨OB, 0, none⟩) D.R D.R) ∧ RowsAt w.heap.size w' OB D G K ∧ Below w.heap.size w w' :=
 callsIn_wide.1 (grows_in 3 (Nat.le_refl _) gp F D w h)
end
section
attribute [local go_sem] alloc_drewN setCell_drewN World.cell?_alloc_some frozen_alloc_some size_f0 size_f1
theorem scr_rows (sp : Nat) (F : Nat → Prop) (S : Vz.Sr) (w : World) (h : Scr w sp F S) : Calls Tryz.prog 23 #[.pointer (some ⟨sp, 0, none⟩)] w fun e w' => ∃ OB G K, e = .returned (.slice (some ⟨OB, 0, none⟩) S.D.R S.D.R) ∧ RowsAt w.heap.size w' OB S.D G K ∧ Below w.heap.size w w' := by
 obtain ⟨gp, tp, mb, FG, hA, hF, ⟨c0, c1, c2, c3, c4, _⟩, hlt⟩ := h.cells
 have HG := Lib.hid (grows_ok gp FG S.D w hA.grid)
 clear h hA hF
 go_enter Tryz.func23, Tryz.ntmps23
 go_wp2_with (go_at_call 36; refine HG.out.mono ?_; rintro e w1 ⟨OB, G, K, rfl, hA, hb1⟩; have HA := Lib.hid hA; have HB := Lib.hid hb1; clear hA hb1)
 go_ret
 exact ⟨_, _, _, rfl, HA.out, HB.out⟩
end
section
theorem Scr.keeps {W W' : World} {sp : Nat} {F K : Nat → Prop} {S : Vz.Sr} (h : Scr W sp F S) (hk : Keeps K W W') (hd : ∀ k, F k → ¬ K k) (hb : ¬ K 0) : Scr W' sp F S := by
 have hlt := h.lt
 obtain ⟨gp, tp, mb, FG, hA, hF⟩ := h
 exact ⟨gp, tp, mb, FG, hA.of_blocks (fun k hf => hk.block k (hA.lt hf) (hd k ((hF k).2 hf))) (hk.block _ hA.blk.lt hb), hF⟩
end
end Go.Proofs.YtncgigapgklhcaaGreatDoor
