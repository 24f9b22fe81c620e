/- Walks: grid.New at cells. -/
import Derived.Test.YtbnkfiaggehmgaaGreatDoorGrdAt
import Derived.Deep.RegionHeld3
namespace Go.Proofs.YtbnkfiaggehmgaaGreatDoor
open Go.RowKit
set_option linter.unusedSimpArgs false
set_option linter.unusedVariables false
attribute [local go_sem] alloc_drewN setCell_drewN

theorem own_below {W W' : World} {base : Nat} {e : TypeId} {size : Nat} {v : Value} {n : Nat} {xs : List Value} (h : W.ownsRow base e size v n xs) (hb : Below W.heap.size W W') : W'.ownsRow base e size v n xs :=
  h.kept (row := none) ⟨hb.os, hb.tape, hb.output, hb.size, fun k hk _ => hb.block k hk⟩ (by cases h : v.ownBlock <;> simp)
theorem own_not {W : World} {base : Nat} {e t : TypeId} {size : Nat} {v : Value} {n k : Nat} {xs : List Value} {c : Array Value} (h : W.ownsRow base e size v n xs) (hk : W.heap[k]? = some (.cells c t (0, 0))) (ht : t ≠ e) : v.ownBlock ≠ some k := by
  rcases h.2 with ⟨rfl, _⟩ | ⟨g', cap, cur, rfl, _, hg, _⟩
  · simp [Value.ownBlock]
  · intro e'
    obtain rfl : g' = k := by simpa [Value.ownBlock] using e'
    rw [hk] at hg
    injection hg with hg
    injection hg with _ h2
    exact ht h2
theorem cell_row {W : World} {g : Nat} {cs : Array Value} {t : TypeId} (h : W.heap[g]? = some (.cells cs t (0, 0))) (i : Nat) : W.cell? ⟨g, i, none⟩ = cs[i]? := by
  simp [World.cell?, h]
theorem frozen_row {W : World} {g : Nat} {cs : Array Value} {t : TypeId} (h : W.heap[g]? = some (.cells cs t (0, 0))) (i : Nat) : W.frozen? ⟨g, i, none⟩ = false := by
  simp [World.frozen?, h]
theorem heap_set_same {W : World} {g : Nat} {cs : Array Value} {t : TypeId} (h : W.heap[g]? = some (.cells cs t (0, 0))) (i : Nat) (u : Value) : (W.setCell ⟨g, i, none⟩ u).heap[g]? = some (.cells (cs.setIfInBounds i u) t (0, 0)) := by
  simp [World.setCell, Array.getElem?_modify, h]
theorem RowC.of_cells {W : World} {g : Nat} {cs : Array Value} {t : TypeId} (h : W.heap[g]? = some (.cells cs t (0, 0))) {cap : Nat} (hc : cs.size = cap) (f : Nat → Value) (n : Nat) (hn : n ≤ cap) (hf : ∀ i, i < n → cs[i]? = some (f i)) : RowC W g t cap n f := ⟨cs, h, hc, hn, hf⟩
theorem RowC.below {W W' : World} {b : Nat} {t : TypeId} {cap n : Nat} {f : Nat → Value} (h : RowC W b t cap n f) (hb : Below W.heap.size W W') : RowC W' b t cap n f := h.of_block (hb.block b h.lt)
theorem RowC.ne_of {W : World} {b b' : Nat} {t t' : TypeId} {cap n : Nat} {f : Nat → Value} {c : Array Value} (h : RowC W b t cap n f) (hk : W.heap[b']? = some (.cells c t' (0, 0))) (ht : t ≠ t') : b ≠ b' := by
  rintro rfl
  obtain ⟨c', h, _⟩ := h
  rw [hk] at h
  injection h with h
  injection h with _ h
  exact ht h.symm
/-- What a cell's box holds. -/
def cellB (x : Vz.Cl) : Array Value := #[.int .i32 x.g, .int .i64 x.a, .bool x.gd, .int .i64 x.m]
theorem cellB_row {W : World} {g : Nat} {x : Vz.Cl} (h : W.heap[g]? = some (.cells (cellB x) 24 (0, 0))) : RowC W g 24 4 4 (Vz.flatC fun _ => x) := by
  refine RowC.of_cells h rfl _ 4 (Nat.le_refl _) fun i hi => ?_
  obtain rfl | rfl | rfl | rfl : i = 0 ∨ i = 1 ∨ i = 2 ∨ i = 3 := by omega
  all_goals rfl
theorem cell4 {W : World} {g : Nat} {x : Vz.Cl} (h : W.heap[g]? = some (.cells (cellB x) 24 (0, 0))) : W.cell? ⟨g, 0, none⟩ = some (.int .i32 x.g) ∧ W.cell? ⟨g, 1, none⟩ = some (.int .i64 x.a) ∧ W.cell? ⟨g, 2, none⟩ = some (.bool x.gd) ∧ W.cell? ⟨g, 3, none⟩ = some (.int .i64 x.m) :=
  ⟨cell_row h 0, cell_row h 1, cell_row h 2, cell_row h 3⟩

def Bx (n R C : Nat) (x : Vz.Cl) (W : World) : Prop := W.heap[n]? = some (.cells #[.int .i64 R, .int .i64 C] 39 (0, 0)) ∧ W.heap[n + 1]? = some (.cells (cellB x) 24 (0, 0))
theorem Bx.below {n R C : Nat} {x : Vz.Cl} {W W' : World} (h : Bx n R C x W) (hb : Below W.heap.size W W') : Bx n R C x W' := ⟨(hb.block _ (block_lt h.1)).trans h.1, (hb.block _ (block_lt h.2)).trans h.2⟩
theorem own_succ {W : World} {base : Nat} {e : TypeId} {size : Nat} {v : Value} {n : Nat} {xs : List Value} (h : W.ownsRow base e size v (n + 1) xs) : ∃ g cap, v = .slice (some ⟨g, 0, none⟩) (n + 1) cap := by
  rcases h.2 with ⟨_, h⟩ | ⟨g, cap, _, rfl, _⟩
  · omega
  · exact ⟨g, cap, rfl⟩
/-- What holds at the head of New's rounds: k rows are there. -/
structure NewInv (w : World) (n R C : Nat) (x : Vz.Cl) (k : Nat) (v : Value) (G : Nat → Nat) (W : World) : Prop where
  b0 : W.heap[n]? = some (.cells #[.int .i64 R, .int .i64 C] 39 (0, 0))
  b1 : W.heap[n + 1]? = some (.cells (cellB x) 24 (0, 0))
  box : W.heap[n + 1 + 1 + 1]? = some (.cells #[v] 115 (0, 0))
  own : W.ownsRow n 88 1 v k ((List.range k).map (rowV G (fun _ => C) C))
  row : ∀ i, i < k → RowC W (G i) 24 (C * 4) (C * 4) (Vz.flatC fun _ => x)
  inj : ∀ i j, i < k → j < k → G i = G j → i = j
  ge : ∀ i, i < k → n + 1 + 1 ≤ G i
  le : Below n w W
theorem NewInv.step {w : World} {n R C : Nat} {x : Vz.Cl} {k : Nat} {v v' : Value} {G : Nat → Nat} {W w3 w5 : World} {g : Nat} {o1 o2 : Obj} {m : Nat} (h : NewInv w n R C x k v G W) (hn : n = w.heap.size)
    (hb : Below ((W.drewN m).alloc o1).heap.size ((W.drewN m).alloc o1) w3) (hg : ((W.drewN m).alloc o1).heap.size ≤ g) (hr : RowC w3 g 24 (C * 4) (C * 4) (Vz.flatC fun _ => x))
    (hgr : (w3.alloc o2).grownBy w5 v.ownBlock) (hown : w5.ownsRow n 88 1 v' (k + 1) ((List.range k).map (rowV G (fun _ => C) C) ++ [.slice (some ⟨g, 0, none⟩) C C])) :
    Bx n R C x w5 ∧ w5.heap[n + 1 + 1 + 1]? = some (.cells #[v] 115 (0, 0)) ∧ NewInv w n R C x (k + 1) v' (fun i => if i = k then g else G i) (w5.setCell ⟨n + 1 + 1 + 1, 0, none⟩ v') := by
  have e1 : ((W.drewN m).alloc o1).heap.size = W.heap.size + 1 := by simp
  have hW3 : ∀ b, b < W.heap.size → w3.heap[b]? = W.heap[b]? := fun b hlt => (hb.block b (by omega)).trans (Below.heap_alloc (W.drewN m) o1 b hlt)
  have hs3 : W.heap.size + 1 ≤ w3.heap.size := by have := hb.size; omega
  have hW4 : ∀ b, b < W.heap.size → (w3.alloc o2).heap[b]? = W.heap[b]? := fun b hlt => (Below.heap_alloc w3 o2 b (by omega)).trans (hW3 b hlt)
  have hB4 : Below W.heap.size W (w3.alloc o2) := ⟨hb.os, hb.tape, hb.output, by rw [World.size_alloc]; omega, hW4⟩
  have own4 := own_below h.own hB4
  have hs4 : (w3.alloc o2).heap.size = w3.heap.size + 1 := by simp
  have hW5 : ∀ (b : Nat) (c : Array Value) (t : TypeId), W.heap[b]? = some (.cells c t (0, 0)) → t ≠ 88 → w5.heap[b]? = some (.cells c t (0, 0)) := fun b c t hc ht => by
    have hlt := block_lt hc
    exact (hgr.block b (by omega) (fun e => own_not h.own hc ht e.symm)).trans ((hW4 b hlt).trans hc)
  have hR3 : ∀ b (f : Nat → Value) (cp m : Nat), RowC w3 b 24 cp m f → RowC w5 b 24 cp m f := fun b f cp m hr => by
    have hr4 : RowC (w3.alloc o2) b 24 cp m f := hr.of_block (Below.heap_alloc w3 o2 b hr.lt)
    have hc := hr4.choose_spec.1
    exact hr4.of_block (hgr.block b hr4.lt (fun e => own_not own4 hc (show 24 ≠ 88 by decide) e.symm))
  have hbox5 := hW5 _ _ _ h.box (by decide)
  have hset : ∀ b, b ≠ n + 1 + 1 + 1 → (w5.setCell ⟨n + 1 + 1 + 1, 0, none⟩ v').heap[b]? = w5.heap[b]? := fun b hne => Below.heap_setCell _ _ _ _ hne
  have hrow5 : ∀ i, i < k + 1 → RowC w5 (if i = k then g else G i) 24 (C * 4) (C * 4) (Vz.flatC fun _ => x) := fun i hi => by
    by_cases e : i = k
    · rw [if_pos e]
      exact hR3 _ _ _ _ hr
    · rw [if_neg e]
      have hi' := h.row i (by omega)
      exact hR3 _ _ _ _ (hi'.of_block (hW3 _ hi'.lt))
  have hnW : n ≤ W.heap.size := by have := h.le.size; omega
  refine ⟨⟨hW5 _ _ _ h.b0 (by decide), hW5 _ _ _ h.b1 (by decide)⟩, hbox5, ?_⟩
  refine ⟨(hset _ (by omega)).trans (hW5 _ _ _ h.b0 (by decide)), (hset _ (by omega)).trans (hW5 _ _ _ h.b1 (by decide)), heap_set_same hbox5 0 v', ?_, ?_, ?_, ?_, ?_⟩
  · have hne := own_not hown hbox5 (by decide)
    have hk := hown.kept (w' := w5.setCell ⟨n + 1 + 1 + 1, 0, none⟩ v') (row := some (n + 1 + 1 + 1)) ⟨rfl, rfl, rfl, by simp [World.setCell], fun b _ hb => hset b (fun e => hb (by rw [e]))⟩ (.inr hne)
    have e : (List.range (k + 1)).map (rowV (fun i => if i = k then g else G i) (fun _ => C) C) = (List.range k).map (rowV G (fun _ => C) C) ++ [.slice (some ⟨g, 0, none⟩) C C] := by
      rw [List.range_succ, List.map_append]
      congr 1
      · apply List.map_congr_left
        intro i hi
        have := List.mem_range.1 hi
        simp [rowV, show i ≠ k by omega]
      · simp [rowV]
    rw [e]
    exact hk
  · intro i hi
    have := hrow5 i hi
    exact this.of_block (hset _ (this.ne_of hbox5 (by decide)))
  · intro i j hi hj e
    have hG : ∀ i, i < k → G i < W.heap.size := fun i hi => (h.row i hi).lt
    split at e <;> split at e
    · omega
    · have := hG j (by omega); omega
    · have := hG i (by omega); omega
    · exact h.inj i j (by omega) (by omega) e
  · intro i hi
    split
    · have := (block_lt h.box); omega
    · exact h.ge i (by omega)
  · refine (h.le.trans (hB4.mono hnW)).trans ?_
    refine (Below.grown (Below.refl _ _) hgr (by rw [hs4]; omega) (fun b e => ?_)).setCell (by show n ≤ n + 1 + 1 + 1; omega) v'
    exact (own4.lt b e).1
theorem NewInv.done {w : World} {n R C : Nat} {x : Vz.Cl} {v : Value} {G : Nat → Nat} {W : World} (h : NewInv w n R C x R v G W) (hm : (Vz.Gd.new R C x).may) : ∃ F, Grid W (n + 1 + 1 + 1) F (Vz.Gd.new R C x) ∧ ∀ k, F k → n ≤ k := by
  obtain ⟨r, rfl⟩ : ∃ r, R = r + 1 := ⟨R - 1, by have : 1 ≤ R := hm.1; omega⟩
  obtain ⟨B, cap, rfl⟩ := own_succ h.own
  have hB := (h.own.lt B rfl).1
  refine ⟨footG (n + 1 + 1 + 1) B G (r + 1), ⟨B, cap, G, fun _ => C, ⟨hm, h.box, (RowC.of_own h.own).congr fun i hi => ?_, fun i hi => h.row i hi, fun i j hi hj e => h.inj i j hi hj e⟩, fun k => Iff.rfl⟩, ?_⟩
  · have hi' : i < r + 1 := hi
    simp [List.getD, hi', Vz.Gd.new]
  · intro k hk
    rcases hk with rfl | rfl | ⟨i, hi, rfl⟩
    · omega
    · exact hB
    · have := h.ge i hi
      omega

set_option maxRecDepth 10000 in
set_option maxHeartbeats 2000000 in
theorem gnew_no (r c : Int) (x : Vz.Cl) (h : Vz.mayS r c = false) (w : World) : Calls Tryz.prog 44 #[.agg #[.int .i64 r, .int .i64 c], .agg #[.int .i32 x.g, .int .i64 x.a, .bool x.gd, .int .i64 x.m]] w fun e w' => e = .returned (.tuple #[.pointer none, .int .i64 10]) ∧ Below w.heap.size w w' := by
  have H := Lib.hid h
  clear h
  go_enter Tryz.func44, Tryz.ntmps44
  go_wp2_with (first
    | (go_at_call 86; refine (may_no _ _ H.out _).mono ?_; rintro e wm ⟨rfl, rfl⟩))
  go_ret2
  refine ⟨rfl, Grows.below ?_⟩
  repeat (first | exact Grows.refl _ | refine Grows.drewN ?_ _ | refine Grows.alloc ?_ _)
theorem infoRow : (Tryz.prog.info? 88).map (fun i => (i.zero, i.size, i.bytes)) = some (some (.slice none 0 0), 1, 24) := by kernel_rfl
theorem new_start (w : World) (a b c d : Obj) : ((((w.alloc a).alloc b).alloc c).alloc d).heap[w.heap.size]? = some a ∧ ((((w.alloc a).alloc b).alloc c).alloc d).heap[w.heap.size + 1]? = some b ∧ ((((w.alloc a).alloc b).alloc c).alloc d).heap[w.heap.size + 1 + 1 + 1]? = some d := by
  have z1 : (w.alloc a).heap.size = w.heap.size + 1 := by simp
  have z2 : ((w.alloc a).alloc b).heap.size = w.heap.size + 1 + 1 := by simp
  have z3 : (((w.alloc a).alloc b).alloc c).heap.size = w.heap.size + 1 + 1 + 1 := by simp
  refine ⟨?_, ?_, ?_⟩
  · exact (Below.heap_alloc _ d _ (by omega)).trans ((Below.heap_alloc _ c _ (by omega)).trans ((Below.heap_alloc _ b _ (by omega)).trans (heap_alloc_new w a)))
  · have := heap_alloc_new (w.alloc a) b
    rw [z1] at this
    exact (Below.heap_alloc _ d _ (by omega)).trans ((Below.heap_alloc _ c _ (by omega)).trans this)
  · have := heap_alloc_new (((w.alloc a).alloc b).alloc c) d
    rwa [z3] at this

set_option maxRecDepth 10000 in
set_option maxHeartbeats 4000000 in
theorem gnew_ok (R C : Nat) (x : Vz.Cl) (h : Vz.mayS R C = true) (w : World) : Calls Tryz.prog 44 #[.agg #[.int .i64 R, .int .i64 C], .agg #[.int .i32 x.g, .int .i64 x.a, .bool x.gd, .int .i64 x.m]] w fun e w' => ∃ gp F, e = .returned (.tuple #[.pointer (some ⟨gp, 0, none⟩), .int .i64 0]) ∧ Grid w' gp F (Vz.Gd.new R C x) ∧ (∀ k, F k → w.heap.size ≤ k) ∧ Below w.heap.size w w' := by
  have H := Lib.hid h
  have hm := (Vz.mayS_iff R C).1 h
  have hm1 : 1 ≤ R := by omega
  have hm2 : R ≤ 255 := by omega
  have hm3 : 1 ≤ C := by omega
  have hm4 : C ≤ 255 := by omega
  clear h hm
  go_enter Tryz.func44, Tryz.ntmps44
  go_wp2_with (first
    | (go_at_call 86; refine (may_ok _ _ H.out _).mono ?_; rintro e wm ⟨rfl, rfl⟩))
  obtain ⟨st0, st1, st2⟩ := new_start w (.cells #[.int .i64 R, .int .i64 C] 39) (.cells (cellB x) 24) (.cells #[.int .i64 R, .int .i64 C] 39) (.cells #[.slice none 0 0] 115)
  have HST : Hid (NewInv w w.heap.size R C x 0 (.slice none 0 0) (fun _ => 0) ((((w.alloc (.cells #[.int .i64 R, .int .i64 C] 39)).alloc (.cells (cellB x) 24)).alloc (.cells #[.int .i64 R, .int .i64 C] 39)).alloc (.cells #[.slice none 0 0] 115))) :=
    ⟨st0, st1, st2, World.ownsRow_nil _ _ _ _, fun i hi => absurd hi (Nat.not_lt_zero _), fun i j hi => absurd hi (Nat.not_lt_zero _), fun i hi => absurd hi (Nat.not_lt_zero _), Grows.below ((((Grows.refl _).alloc _).alloc _).alloc _ |>.alloc _)⟩
  clear st0 st1 st2
  go_loopw [17] (fun i wr => ∃ (k : Nat) (v : Value) (G : Nat → Nat), k ≤ R ∧ i = .int .i64 k ∧ NewInv w w.heap.size R C x k v G wr) (fun i _ => R - (intOf i).toNat)
  case atStart => exact ⟨0, _, _, Nat.zero_le _, rfl, HST.out⟩
  case round =>
    obtain ⟨k, v, G, hk, rfl, hI⟩ := hrel
    have HI := Lib.hid hI
    have c0 : wr.cell? ⟨w.heap.size + 1 + 1 + 1, 0, none⟩ = some v := cell_row hI.box 0
    obtain ⟨i0, hi, hz0, hz1, hz2⟩ := info_three infoRow
    by_cases hlt : k < R
    · have hkw : IntKind.i64.wrap ((k : Int) + 1) = ((k + 1 : Nat) : Int) := by rw [IntKind.wrap_i64]; omega
      have HBX : Hid (Bx w.heap.size R C x wr.drew) := ⟨hI.b0, hI.b1⟩
      have hgp := block_lt hI.box
      have hnz : w.heap.size ≤ wr.heap.size := by omega
      have c1 : (wr.alloc (.cells #[.int .i32 x.g, .int .i64 x.a, .bool x.gd, .int .i64 x.m] 24)).cell? ⟨w.heap.size + 1 + 1 + 1, 0, none⟩ = some v := cell_row ((Below.heap_alloc wr _ _ hgp).trans hI.box) 0
      have HC3 : Hid (∀ w3, Below (wr.alloc (.cells (cellB x) 24)).drew.heap.size (wr.alloc (.cells (cellB x) 24)).drew w3 → w3.cell? ⟨w.heap.size + 1 + 1 + 1, 0, none⟩ = some v) := fun w3 hb => cell_row ((hb.block _ (by show _ < (wr.alloc _).heap.size; rw [World.size_alloc]; omega)).trans ((Below.heap_alloc wr _ _ hgp).trans hI.box)) 0
      have HC4 : Hid (∀ w3 u, Below (wr.alloc (.cells (cellB x) 24)).drew.heap.size (wr.alloc (.cells (cellB x) 24)).drew w3 → (w3.alloc (.cells #[u] 88)).cell? ⟨w.heap.size + 1 + 1 + 1, 0, none⟩ = some v) := fun w3 u hb => cell_row ((Below.heap_alloc w3 _ _ (by have := hb.size; have h2 : (wr.alloc (Obj.cells (cellB x) 24)).drew.heap.size = wr.heap.size + 1 := World.size_alloc _ _; omega)).trans ((hb.block _ (by show _ < (wr.alloc _).heap.size; rw [World.size_alloc]; omega)).trans ((Below.heap_alloc wr _ _ hgp).trans hI.box))) 0
      have HOWN : Hid (∀ w3 o, Below (wr.alloc (.cells (cellB x) 24)).drew.heap.size (wr.alloc (.cells (cellB x) 24)).drew w3 → (w3.alloc o).ownsRow w.heap.size 88 1 v k ((List.range k).map (rowV G (fun _ => C) C))) := fun w3 o hb => ((own_below (hI.own.alloc (.cells (cellB x) 24)) (W' := w3) ⟨hb.os, hb.tape, hb.output, hb.size, hb.block⟩)).alloc o
      have HSZ : Hid (∀ w3 o, Below (wr.alloc (.cells (cellB x) 24)).drew.heap.size (wr.alloc (.cells (cellB x) 24)).drew w3 → w.heap.size ≤ (w3.alloc o).heap.size) := fun w3 o hb => by have := hb.size; have h2 : (wr.alloc (Obj.cells (cellB x) 24)).drew.heap.size = wr.heap.size + 1 := World.size_alloc _ _; rw [World.size_alloc]; omega
      have HRN : Hid (RowC (wr.alloc (.cells (cellB x) 24)).drew wr.heap.size 24 4 4 (Vz.flatC fun _ => x)) := cellB_row (heap_alloc_new wr (.cells (cellB x) 24))
      clear hI
      go_upto_region 7 with fail
      refine wp_region_noPanic ?_
      refine wp_region_held_drew (S := Bx w.heap.size R C x) (by kernel_rfl) (HBX.out) (fun hHeld => ?_)
      refine wpAnyH_take (i := 0) (v := ?_) rfl (by kernel_rfl) (by kernel_rfl) (by kernel_rfl) (fun _ _ _ h => h) (Or.inl ⟨by rfl, ?hy1⟩) hHeld ?_
      case hy1 => (intro w hSw; (try dsimp only at hSw); go_simp; try with_reducible rfl)
      try simp only [Act.put, List.getElem_toArray, List.getElem_cons_zero, List.getElem_cons_succ, List.setIfInBounds_toArray, List.set_cons_zero, List.set_cons_succ]
      refine wpAnyH_take (i := 1) (v := ?_) rfl (by kernel_rfl) (by kernel_rfl) (by kernel_rfl) (fun _ _ _ h => h) (Or.inl ⟨by rfl, ?hy2⟩) hHeld ?_
      case hy2 => (intro w hSw; (try dsimp only at hSw); go_simp; try with_reducible rfl)
      try simp only [Act.put, List.getElem_toArray, List.getElem_cons_zero, List.getElem_cons_succ, List.setIfInBounds_toArray, List.set_cons_zero, List.set_cons_succ]
      refine wpAnyH_take (i := 2) (v := ?_) rfl (by kernel_rfl) (by kernel_rfl) (by kernel_rfl) (fun _ _ _ h => h) (Or.inl ⟨by rfl, ?hy3⟩) hHeld ?_
      case hy3 => (intro w hSw; (try dsimp only at hSw); go_simp; try with_reducible rfl)
      try simp only [Act.put, List.getElem_toArray, List.getElem_cons_zero, List.getElem_cons_succ, List.setIfInBounds_toArray, List.set_cons_zero, List.set_cons_succ]
      refine wpAnyH_take (i := 3) (v := ?_) rfl (by kernel_rfl) (by kernel_rfl) (by kernel_rfl) (fun _ _ _ h => h) (Or.inl ⟨by rfl, ?hy4⟩) hHeld ?_
      case hy4 => (intro w hSw; (try dsimp only at hSw); go_simp; try with_reducible rfl)
      try simp only [Act.put, List.getElem_toArray, List.getElem_cons_zero, List.getElem_cons_succ, List.setIfInBounds_toArray, List.set_cons_zero, List.set_cons_succ]
      refine wpAnyH_take (i := 5) (v := ?_) rfl (by kernel_rfl) (by kernel_rfl) (by kernel_rfl) (fun _ _ _ h => h) (Or.inl ⟨by rfl, ?hy5⟩) hHeld ?_
      case hy5 => (intro W hSw; obtain ⟨q0, q1, q2, q3⟩ := cell4 hSw.2; go_simp; try with_reducible rfl)
      try simp only [Act.put, List.getElem_toArray, List.getElem_cons_zero, List.getElem_cons_succ, List.setIfInBounds_toArray, List.set_cons_zero, List.set_cons_succ]
      refine wpAnyH_take (i := 7) (v := ?_) rfl (by kernel_rfl) (by kernel_rfl) (by kernel_rfl) (fun _ _ _ h => h) (Or.inl ⟨by rfl, ?hy6⟩) hHeld ?_
      case hy6 => (intro w hSw; (try dsimp only at hSw); go_simp; try with_reducible rfl)
      try simp only [Act.put, List.getElem_toArray, List.getElem_cons_zero, List.getElem_cons_succ, List.setIfInBounds_toArray, List.set_cons_zero, List.set_cons_succ]
      refine wpAnyH_take (i := 8) (v := ?_) rfl (by kernel_rfl) (by kernel_rfl) (by kernel_rfl) (fun _ _ _ h => h) (Or.inl ⟨by rfl, ?hy7⟩) hHeld ?_
      case hy7 => (intro W hSw; have q1 : W.cell? ⟨w.heap.size, 1, none⟩ = some (.int .i64 C) := cell_row hSw.1 1; go_simp; try with_reducible rfl)
      try simp only [Act.put, List.getElem_toArray, List.getElem_cons_zero, List.getElem_cons_succ, List.setIfInBounds_toArray, List.set_cons_zero, List.set_cons_succ]
      refine wpAnyH_ready (rs := [4, 6]) (by kernel_rfl) (by simp) ?_
      refine (AllReadyH.cons rfl (fun K hK => ?_) (AllReadyH.cons rfl (fun K hK => ?_) AllReadyH.nil))
      · go_simp
        refine hK.out _ _ (hHeld) (fun hHeld2 => ?_)
        clear hHeld hK K
        have hHeld := hHeld2
        clear hHeld2
        try simp only [Act.put, List.getElem_toArray, List.getElem_cons_zero, List.getElem_cons_succ, List.setIfInBounds_toArray, List.set_cons_zero, List.set_cons_succ]
        refine wpAnyH_ready (rs := [6]) (by kernel_rfl) (by simp) ?_
        refine AllReadyH.cons rfl (fun K hK => ?_) AllReadyH.nil
        go_simp
        refine hK.out _ _ (hHeld.below (below1 _ _)) (fun hHeld2 => ?_)
        clear hHeld hK K
        have hHeld := hHeld2
        clear hHeld2
        try simp only [Act.put, List.getElem_toArray, List.getElem_cons_zero, List.getElem_cons_succ, List.setIfInBounds_toArray, List.set_cons_zero, List.set_cons_succ]
        refine wpAnyH_ready (rs := [9]) (by kernel_rfl) (by simp) ?_
        refine AllReadyH.cons rfl (fun K hK => ?_) AllReadyH.nil
        go_simp
        go_at_call 87
        refine (repeat_any _ 4 x C hm3 hm4 _ HRN.out).mono ?_
        rintro e w3 ⟨g, rfl, hg3, hr3, hb3⟩
        have HB3 := Lib.hid hb3
        have HG3 := Lib.hid hg3
        have HR3 := Lib.hid hr3
        have c3 := HC3.out w3 hb3
        have c4 := HC4.out w3 (.slice (some ⟨g, 0, none⟩) C C) hb3
        clear hb3 hg3 hr3
        go_wp2_with fail
        refine hK.out _ _ (hHeld.below HB3.out) (fun hHeld2 => ?_)
        clear hHeld hK K
        have hHeld := hHeld2
        clear hHeld2
        try simp only [Act.put, List.getElem_toArray, List.getElem_cons_zero, List.getElem_cons_succ, List.setIfInBounds_toArray, List.set_cons_zero, List.set_cons_succ]
        refine wpAnyH_ready (rs := [10]) (by kernel_rfl) (by simp) ?_
        refine AllReadyH.cons rfl (fun K hK => ?_) AllReadyH.nil
        go_simp
        refine hK.out _ _ (hHeld.below (below1 _ _)) (fun hHeld2 => ?_)
        clear hHeld hK K
        have hHeld := hHeld2
        clear hHeld2
        try simp only [Act.put, List.getElem_toArray, List.getElem_cons_zero, List.getElem_cons_succ, List.setIfInBounds_toArray, List.set_cons_zero, List.set_cons_succ]
        refine wpAnyH_ready (rs := [11]) (by kernel_rfl) (by simp) ?_
        refine AllReadyH.cons rfl (fun K hK => ?_) AllReadyH.nil
        rw [if_pos (by rfl)]
        refine wp_append_own _ (.tmp 23) (.tmp 29) 60 rfl w.heap.size 88 i0 (.slice none 0 0) 1 24 Tryz.underlying60 hi hz0 hz1 hz2 rfl (by decide) _ _ _ rfl (HOWN.out _ _ HB3.out) ⟨w3.heap.size, 0, none⟩ 1 1 [.slice (some ⟨g, 0, none⟩) C C] rfl rfl (cell_one_new _ _ _) (by intro u hu; obtain rfl := List.mem_singleton.1 hu; rfl) (by unfold maxLen; omega) (by omega) (HSZ.out _ _ HB3.out) ?_
        intro v' w5 hown' hgrow _
        obtain ⟨g', cap', rfl⟩ := own_succ hown'
        obtain ⟨hbx5, hbox5, hN⟩ := HI.out.step (m := 1) rfl HB3.out HG3.out HR3.out hgrow hown'
        have HN5 := Lib.hid hN
        have f5 : w5.frozen? ⟨w.heap.size + 1 + 1 + 1, 0, none⟩ = false := frozen_row hbox5 0
        have c5 : w5.cell? ⟨w.heap.size + 1 + 1 + 1, 0, none⟩ = some v := cell_row hbox5 0
        clear hN hown' hgrow
        refine hK.out _ _ (hbx5) (fun hHeld2 => ?_)
        clear hHeld hK K
        have hHeld := hHeld2
        clear hHeld2
        try simp only [Act.put, List.getElem_toArray, List.getElem_cons_zero, List.getElem_cons_succ, List.setIfInBounds_toArray, List.set_cons_zero, List.set_cons_succ]
        refine wpAnyH_take (i := 12) (v := ?_) rfl (by kernel_rfl) (by kernel_rfl) (by kernel_rfl) (fun _ _ _ h => h) (Or.inl ⟨by rfl, ?hy8⟩) hHeld ?_
        case hy8 => (intro w hSw; (try dsimp only at hSw); go_simp; try with_reducible rfl)
        try simp only [Act.put, List.getElem_toArray, List.getElem_cons_zero, List.getElem_cons_succ, List.setIfInBounds_toArray, List.set_cons_zero, List.set_cons_succ]
        refine wpAnyH_take (i := 13) (v := ?_) rfl (by kernel_rfl) (by kernel_rfl) (by kernel_rfl) (fun _ _ _ h => h) (Or.inl ⟨by rfl, ?hy9⟩) hHeld ?_
        case hy9 => (intro w hSw; (try dsimp only at hSw); go_simp; try with_reducible rfl)
        try simp only [Act.put, List.getElem_toArray, List.getElem_cons_zero, List.getElem_cons_succ, List.setIfInBounds_toArray, List.set_cons_zero, List.set_cons_succ]
        refine wpAnyH_ready (rs := [14]) (by kernel_rfl) (by simp) ?_
        refine AllReadyH.cons rfl (fun K hK => ?_) AllReadyH.nil
        go_simp
        refine hK.out _ _ (⟨HN5.out.b0, HN5.out.b1⟩) (fun hHeld2 => ?_)
        clear hHeld hK K
        have hHeld := hHeld2
        clear hHeld2
        try simp only [Act.put, List.getElem_toArray, List.getElem_cons_zero, List.getElem_cons_succ, List.setIfInBounds_toArray, List.set_cons_zero, List.set_cons_succ]
        refine wpAnyH_done (by kernel_rfl) ?_ _
        refine NoPanic.normal ?_
        go_wp2_with fail
        exact ⟨⟨k + 1, _, _, by omega, by go_num, HN5.out⟩, by simp [intOf]; omega⟩
      · go_simp
        refine hK.out _ _ (hHeld.below (below1 _ _)) (fun hHeld2 => ?_)
        clear hHeld hK K
        have hHeld := hHeld2
        clear hHeld2
        try simp only [Act.put, List.getElem_toArray, List.getElem_cons_zero, List.getElem_cons_succ, List.setIfInBounds_toArray, List.set_cons_zero, List.set_cons_succ]
        refine wpAnyH_ready (rs := [4, 9]) (by kernel_rfl) (by simp) ?_
        refine (AllReadyH.cons rfl (fun K hK => ?_) (AllReadyH.cons rfl (fun K hK => ?_) AllReadyH.nil))
        · go_simp
          refine hK.out _ _ (hHeld) (fun hHeld2 => ?_)
          clear hHeld hK K
          have hHeld := hHeld2
          clear hHeld2
          try simp only [Act.put, List.getElem_toArray, List.getElem_cons_zero, List.getElem_cons_succ, List.setIfInBounds_toArray, List.set_cons_zero, List.set_cons_succ]
          refine wpAnyH_ready (rs := [9]) (by kernel_rfl) (by simp) ?_
          refine AllReadyH.cons rfl (fun K hK => ?_) AllReadyH.nil
          go_simp
          go_at_call 87
          refine (repeat_any _ 4 x C hm3 hm4 _ HRN.out).mono ?_
          rintro e w3 ⟨g, rfl, hg3, hr3, hb3⟩
          have HB3 := Lib.hid hb3
          have HG3 := Lib.hid hg3
          have HR3 := Lib.hid hr3
          have c3 := HC3.out w3 hb3
          have c4 := HC4.out w3 (.slice (some ⟨g, 0, none⟩) C C) hb3
          clear hb3 hg3 hr3
          go_wp2_with fail
          refine hK.out _ _ (hHeld.below HB3.out) (fun hHeld2 => ?_)
          clear hHeld hK K
          have hHeld := hHeld2
          clear hHeld2
          try simp only [Act.put, List.getElem_toArray, List.getElem_cons_zero, List.getElem_cons_succ, List.setIfInBounds_toArray, List.set_cons_zero, List.set_cons_succ]
          refine wpAnyH_ready (rs := [10]) (by kernel_rfl) (by simp) ?_
          refine AllReadyH.cons rfl (fun K hK => ?_) AllReadyH.nil
          go_simp
          refine hK.out _ _ (hHeld.below (below1 _ _)) (fun hHeld2 => ?_)
          clear hHeld hK K
          have hHeld := hHeld2
          clear hHeld2
          try simp only [Act.put, List.getElem_toArray, List.getElem_cons_zero, List.getElem_cons_succ, List.setIfInBounds_toArray, List.set_cons_zero, List.set_cons_succ]
          refine wpAnyH_ready (rs := [11]) (by kernel_rfl) (by simp) ?_
          refine AllReadyH.cons rfl (fun K hK => ?_) AllReadyH.nil
          rw [if_pos (by rfl)]
          refine wp_append_own _ (.tmp 23) (.tmp 29) 60 rfl w.heap.size 88 i0 (.slice none 0 0) 1 24 Tryz.underlying60 hi hz0 hz1 hz2 rfl (by decide) _ _ _ rfl (HOWN.out _ _ HB3.out) ⟨w3.heap.size, 0, none⟩ 1 1 [.slice (some ⟨g, 0, none⟩) C C] rfl rfl (cell_one_new _ _ _) (by intro u hu; obtain rfl := List.mem_singleton.1 hu; rfl) (by unfold maxLen; omega) (by omega) (HSZ.out _ _ HB3.out) ?_
          intro v' w5 hown' hgrow _
          obtain ⟨g', cap', rfl⟩ := own_succ hown'
          obtain ⟨hbx5, hbox5, hN⟩ := HI.out.step (m := 1) rfl HB3.out HG3.out HR3.out hgrow hown'
          have HN5 := Lib.hid hN
          have f5 : w5.frozen? ⟨w.heap.size + 1 + 1 + 1, 0, none⟩ = false := frozen_row hbox5 0
          have c5 : w5.cell? ⟨w.heap.size + 1 + 1 + 1, 0, none⟩ = some v := cell_row hbox5 0
          clear hN hown' hgrow
          refine hK.out _ _ (hbx5) (fun hHeld2 => ?_)
          clear hHeld hK K
          have hHeld := hHeld2
          clear hHeld2
          try simp only [Act.put, List.getElem_toArray, List.getElem_cons_zero, List.getElem_cons_succ, List.setIfInBounds_toArray, List.set_cons_zero, List.set_cons_succ]
          refine wpAnyH_take (i := 12) (v := ?_) rfl (by kernel_rfl) (by kernel_rfl) (by kernel_rfl) (fun _ _ _ h => h) (Or.inl ⟨by rfl, ?hy10⟩) hHeld ?_
          case hy10 => (intro w hSw; (try dsimp only at hSw); go_simp; try with_reducible rfl)
          try simp only [Act.put, List.getElem_toArray, List.getElem_cons_zero, List.getElem_cons_succ, List.setIfInBounds_toArray, List.set_cons_zero, List.set_cons_succ]
          refine wpAnyH_take (i := 13) (v := ?_) rfl (by kernel_rfl) (by kernel_rfl) (by kernel_rfl) (fun _ _ _ h => h) (Or.inl ⟨by rfl, ?hy11⟩) hHeld ?_
          case hy11 => (intro w hSw; (try dsimp only at hSw); go_simp; try with_reducible rfl)
          try simp only [Act.put, List.getElem_toArray, List.getElem_cons_zero, List.getElem_cons_succ, List.setIfInBounds_toArray, List.set_cons_zero, List.set_cons_succ]
          refine wpAnyH_ready (rs := [14]) (by kernel_rfl) (by simp) ?_
          refine AllReadyH.cons rfl (fun K hK => ?_) AllReadyH.nil
          go_simp
          refine hK.out _ _ (⟨HN5.out.b0, HN5.out.b1⟩) (fun hHeld2 => ?_)
          clear hHeld hK K
          have hHeld := hHeld2
          clear hHeld2
          try simp only [Act.put, List.getElem_toArray, List.getElem_cons_zero, List.getElem_cons_succ, List.setIfInBounds_toArray, List.set_cons_zero, List.set_cons_succ]
          refine wpAnyH_done (by kernel_rfl) ?_ _
          refine NoPanic.normal ?_
          go_wp2_with fail
          exact ⟨⟨k + 1, _, _, by omega, by go_num, HN5.out⟩, by simp [intOf]; omega⟩
        · go_simp
          go_at_call 87
          refine (repeat_any _ 4 x C hm3 hm4 _ HRN.out).mono ?_
          rintro e w3 ⟨g, rfl, hg3, hr3, hb3⟩
          have HB3 := Lib.hid hb3
          have HG3 := Lib.hid hg3
          have HR3 := Lib.hid hr3
          have c3 := HC3.out w3 hb3
          have c4 := HC4.out w3 (.slice (some ⟨g, 0, none⟩) C C) hb3
          clear hb3 hg3 hr3
          go_wp2_with fail
          refine hK.out _ _ (hHeld.below HB3.out) (fun hHeld2 => ?_)
          clear hHeld hK K
          have hHeld := hHeld2
          clear hHeld2
          try simp only [Act.put, List.getElem_toArray, List.getElem_cons_zero, List.getElem_cons_succ, List.setIfInBounds_toArray, List.set_cons_zero, List.set_cons_succ]
          refine wpAnyH_ready (rs := [4, 10]) (by kernel_rfl) (by simp) ?_
          refine (AllReadyH.cons rfl (fun K hK => ?_) (AllReadyH.cons rfl (fun K hK => ?_) AllReadyH.nil))
          · go_simp
            refine hK.out _ _ (hHeld) (fun hHeld2 => ?_)
            clear hHeld hK K
            have hHeld := hHeld2
            clear hHeld2
            try simp only [Act.put, List.getElem_toArray, List.getElem_cons_zero, List.getElem_cons_succ, List.setIfInBounds_toArray, List.set_cons_zero, List.set_cons_succ]
            refine wpAnyH_ready (rs := [10]) (by kernel_rfl) (by simp) ?_
            refine AllReadyH.cons rfl (fun K hK => ?_) AllReadyH.nil
            go_simp
            refine hK.out _ _ (hHeld.below (below1 _ _)) (fun hHeld2 => ?_)
            clear hHeld hK K
            have hHeld := hHeld2
            clear hHeld2
            try simp only [Act.put, List.getElem_toArray, List.getElem_cons_zero, List.getElem_cons_succ, List.setIfInBounds_toArray, List.set_cons_zero, List.set_cons_succ]
            refine wpAnyH_ready (rs := [11]) (by kernel_rfl) (by simp) ?_
            refine AllReadyH.cons rfl (fun K hK => ?_) AllReadyH.nil
            rw [if_pos (by rfl)]
            refine wp_append_own _ (.tmp 23) (.tmp 29) 60 rfl w.heap.size 88 i0 (.slice none 0 0) 1 24 Tryz.underlying60 hi hz0 hz1 hz2 rfl (by decide) _ _ _ rfl (HOWN.out _ _ HB3.out) ⟨w3.heap.size, 0, none⟩ 1 1 [.slice (some ⟨g, 0, none⟩) C C] rfl rfl (cell_one_new _ _ _) (by intro u hu; obtain rfl := List.mem_singleton.1 hu; rfl) (by unfold maxLen; omega) (by omega) (HSZ.out _ _ HB3.out) ?_
            intro v' w5 hown' hgrow _
            obtain ⟨g', cap', rfl⟩ := own_succ hown'
            obtain ⟨hbx5, hbox5, hN⟩ := HI.out.step (m := 1) rfl HB3.out HG3.out HR3.out hgrow hown'
            have HN5 := Lib.hid hN
            have f5 : w5.frozen? ⟨w.heap.size + 1 + 1 + 1, 0, none⟩ = false := frozen_row hbox5 0
            have c5 : w5.cell? ⟨w.heap.size + 1 + 1 + 1, 0, none⟩ = some v := cell_row hbox5 0
            clear hN hown' hgrow
            refine hK.out _ _ (hbx5) (fun hHeld2 => ?_)
            clear hHeld hK K
            have hHeld := hHeld2
            clear hHeld2
            try simp only [Act.put, List.getElem_toArray, List.getElem_cons_zero, List.getElem_cons_succ, List.setIfInBounds_toArray, List.set_cons_zero, List.set_cons_succ]
            refine wpAnyH_take (i := 12) (v := ?_) rfl (by kernel_rfl) (by kernel_rfl) (by kernel_rfl) (fun _ _ _ h => h) (Or.inl ⟨by rfl, ?hy12⟩) hHeld ?_
            case hy12 => (intro w hSw; (try dsimp only at hSw); go_simp; try with_reducible rfl)
            try simp only [Act.put, List.getElem_toArray, List.getElem_cons_zero, List.getElem_cons_succ, List.setIfInBounds_toArray, List.set_cons_zero, List.set_cons_succ]
            refine wpAnyH_take (i := 13) (v := ?_) rfl (by kernel_rfl) (by kernel_rfl) (by kernel_rfl) (fun _ _ _ h => h) (Or.inl ⟨by rfl, ?hy13⟩) hHeld ?_
            case hy13 => (intro w hSw; (try dsimp only at hSw); go_simp; try with_reducible rfl)
            try simp only [Act.put, List.getElem_toArray, List.getElem_cons_zero, List.getElem_cons_succ, List.setIfInBounds_toArray, List.set_cons_zero, List.set_cons_succ]
            refine wpAnyH_ready (rs := [14]) (by kernel_rfl) (by simp) ?_
            refine AllReadyH.cons rfl (fun K hK => ?_) AllReadyH.nil
            go_simp
            refine hK.out _ _ (⟨HN5.out.b0, HN5.out.b1⟩) (fun hHeld2 => ?_)
            clear hHeld hK K
            have hHeld := hHeld2
            clear hHeld2
            try simp only [Act.put, List.getElem_toArray, List.getElem_cons_zero, List.getElem_cons_succ, List.setIfInBounds_toArray, List.set_cons_zero, List.set_cons_succ]
            refine wpAnyH_done (by kernel_rfl) ?_ _
            refine NoPanic.normal ?_
            go_wp2_with fail
            exact ⟨⟨k + 1, _, _, by omega, by go_num, HN5.out⟩, by simp [intOf]; omega⟩
          · go_simp
            refine hK.out _ _ (hHeld.below (below1 _ _)) (fun hHeld2 => ?_)
            clear hHeld hK K
            have hHeld := hHeld2
            clear hHeld2
            try simp only [Act.put, List.getElem_toArray, List.getElem_cons_zero, List.getElem_cons_succ, List.setIfInBounds_toArray, List.set_cons_zero, List.set_cons_succ]
            refine wpAnyH_ready (rs := [4]) (by kernel_rfl) (by simp) ?_
            refine AllReadyH.cons rfl (fun K hK => ?_) AllReadyH.nil
            go_simp
            refine hK.out _ _ (hHeld) (fun hHeld2 => ?_)
            clear hHeld hK K
            have hHeld := hHeld2
            clear hHeld2
            try simp only [Act.put, List.getElem_toArray, List.getElem_cons_zero, List.getElem_cons_succ, List.setIfInBounds_toArray, List.set_cons_zero, List.set_cons_succ]
            refine wpAnyH_ready (rs := [11]) (by kernel_rfl) (by simp) ?_
            refine AllReadyH.cons rfl (fun K hK => ?_) AllReadyH.nil
            rw [if_pos (by rfl)]
            refine wp_append_own _ (.tmp 23) (.tmp 29) 60 rfl w.heap.size 88 i0 (.slice none 0 0) 1 24 Tryz.underlying60 hi hz0 hz1 hz2 rfl (by decide) _ _ _ rfl (HOWN.out _ _ HB3.out) ⟨w3.heap.size, 0, none⟩ 1 1 [.slice (some ⟨g, 0, none⟩) C C] rfl rfl (cell_one_new _ _ _) (by intro u hu; obtain rfl := List.mem_singleton.1 hu; rfl) (by unfold maxLen; omega) (by omega) (HSZ.out _ _ HB3.out) ?_
            intro v' w5 hown' hgrow _
            obtain ⟨g', cap', rfl⟩ := own_succ hown'
            obtain ⟨hbx5, hbox5, hN⟩ := HI.out.step (m := 1) rfl HB3.out HG3.out HR3.out hgrow hown'
            have HN5 := Lib.hid hN
            have f5 : w5.frozen? ⟨w.heap.size + 1 + 1 + 1, 0, none⟩ = false := frozen_row hbox5 0
            have c5 : w5.cell? ⟨w.heap.size + 1 + 1 + 1, 0, none⟩ = some v := cell_row hbox5 0
            clear hN hown' hgrow
            refine hK.out _ _ (hbx5) (fun hHeld2 => ?_)
            clear hHeld hK K
            have hHeld := hHeld2
            clear hHeld2
            try simp only [Act.put, List.getElem_toArray, List.getElem_cons_zero, List.getElem_cons_succ, List.setIfInBounds_toArray, List.set_cons_zero, List.set_cons_succ]
            refine wpAnyH_take (i := 12) (v := ?_) rfl (by kernel_rfl) (by kernel_rfl) (by kernel_rfl) (fun _ _ _ h => h) (Or.inl ⟨by rfl, ?hy14⟩) hHeld ?_
            case hy14 => (intro w hSw; (try dsimp only at hSw); go_simp; try with_reducible rfl)
            try simp only [Act.put, List.getElem_toArray, List.getElem_cons_zero, List.getElem_cons_succ, List.setIfInBounds_toArray, List.set_cons_zero, List.set_cons_succ]
            refine wpAnyH_take (i := 13) (v := ?_) rfl (by kernel_rfl) (by kernel_rfl) (by kernel_rfl) (fun _ _ _ h => h) (Or.inl ⟨by rfl, ?hy15⟩) hHeld ?_
            case hy15 => (intro w hSw; (try dsimp only at hSw); go_simp; try with_reducible rfl)
            try simp only [Act.put, List.getElem_toArray, List.getElem_cons_zero, List.getElem_cons_succ, List.setIfInBounds_toArray, List.set_cons_zero, List.set_cons_succ]
            refine wpAnyH_ready (rs := [14]) (by kernel_rfl) (by simp) ?_
            refine AllReadyH.cons rfl (fun K hK => ?_) AllReadyH.nil
            go_simp
            refine hK.out _ _ (⟨HN5.out.b0, HN5.out.b1⟩) (fun hHeld2 => ?_)
            clear hHeld hK K
            have hHeld := hHeld2
            clear hHeld2
            try simp only [Act.put, List.getElem_toArray, List.getElem_cons_zero, List.getElem_cons_succ, List.setIfInBounds_toArray, List.set_cons_zero, List.set_cons_succ]
            refine wpAnyH_done (by kernel_rfl) ?_ _
            refine NoPanic.normal ?_
            go_wp2_with fail
            exact ⟨⟨k + 1, _, _, by omega, by go_num, HN5.out⟩, by simp [intOf]; omega⟩
    · obtain rfl : k = R := by omega
      clear hI
      have HDN := Lib.hid (HI.out.done (x := x) ⟨hm1, hm2, hm3, hm4⟩)
      have HLE := Lib.hid HI.out.le
      go_wp2_with fail
      go_ret2
      obtain ⟨F, hF, hge⟩ := HDN.out
      exact ⟨_, F, rfl, hF, hge, HLE.out⟩
end Go.Proofs.YtbnkfiaggehmgaaGreatDoor
