/- Walks: rows that move (grid.moved at rows), a fresh row. -/
import Derived.Test.YtbnkfiaggehmgaaGreatDoorGrdCell
import Derived.Test.YtbnkfiaggehmgaaGreatDoorRegK
import Derived.Deep.DeepAppendRoom
import Derived.Laws.MakeOwn
namespace Go.Proofs.YtbnkfiaggehmgaaGreatDoor
open Go.RowKit
set_option linter.unusedSimpArgs false
set_option linter.unusedVariables false
attribute [local go_sem] alloc_drewN setCell_drewN World.cell?_alloc_some frozen_alloc_some

/-- A function without arguments that makes a fresh row of C cells x, in whatever world behind w. -/
def FreshRow (w : World) (v : Nat) (caps : Array Value) (x : Vz.Cl) (C : Nat) : Prop :=
  ∀ W, Below w.heap.size w W → Calls Tryz.prog v caps W fun e w' => ∃ r, e = .returned (.slice (some ⟨r, 0, none⟩) C C) ∧ W.heap.size ≤ r ∧ RowC w' r 24 (C * 4) (C * 4) (Vz.flatC fun _ => x) ∧ Below W.heap.size W w'
set_option maxRecDepth 10000 in
set_option maxHeartbeats 2000000 in
theorem fresh_any (bx bg gp : Nat) (x : Vz.Cl) (F : Nat → Prop) (D : Vz.Gd) (w : World) (h : Grid w gp F D) (hx : w.heap[bx]? = some (.cells (cellB x) 24 (0, 0))) (hg : w.cell? ⟨bg, 0, none⟩ = some (.pointer (some ⟨gp, 0, none⟩))) :
    FreshRow w 144 #[.pointer (some ⟨bx, 0, none⟩), .pointer (some ⟨bg, 0, none⟩)] x D.C := by
  intro W hW
  obtain ⟨B, cap, G, K, h, hF⟩ := h
  obtain ⟨m1, m2, m3, m4⟩ := h.may
  have hbg := World.block_lt_of_cell? w _ hg
  have hc1 := h.head
  have hc2 := h.line (i := 0) m1
  have hgp := World.block_lt_of_cell? w _ hc1
  have hBl := World.block_lt_of_cell? w _ hc2
  have HC : Hid (∀ W', Below W.heap.size W W' → (W'.cell? ⟨bx, 0, none⟩ = some (.int .i32 x.g) ∧ W'.cell? ⟨bx, 1, none⟩ = some (.int .i64 x.a) ∧ W'.cell? ⟨bx, 2, none⟩ = some (.bool x.gd) ∧ W'.cell? ⟨bx, 3, none⟩ = some (.int .i64 x.m)) ∧ W'.cell? ⟨bg, 0, none⟩ = some (.pointer (some ⟨gp, 0, none⟩)) ∧ W'.cell? ⟨gp, 0, none⟩ = some (.slice (some ⟨B, 0, none⟩) D.R cap) ∧ W'.cell? ⟨B, 0, none⟩ = some (.slice (some ⟨G 0, 0, none⟩) D.C (K 0))) := fun W' hb => by
    have hb' := Below.later hW hb hW.size
    have hx' := (hb'.block _ (block_lt hx)).trans hx
    exact ⟨cell4 hx', (hb'.cell (p := ⟨bg, 0, none⟩) hbg).trans hg, (hb'.cell (p := ⟨gp, 0, none⟩) hgp).trans hc1, (hb'.cell (p := ⟨B, 0, none⟩) hBl).trans hc2⟩
  have hi1 : 0 < D.R := m1
  have HD : Hid (Below W.heap.size W W.drew) := (Below.refl _ _).drew
  have HR : Hid (∀ W', Below W.heap.size W W' → RowC (W'.alloc (.cells (cellB x) 24)) W'.heap.size 24 4 4 (Vz.flatC fun _ => x)) := fun W' _ => cellB_row (heap_alloc_new W' _)
  clear hW hx hg hc1 hc2 h
  unfold cellB at HR
  go_enter Tryz.func144, Tryz.ntmps144
  go_upto_region 1 with fail
  refine wp_region_noPanic ?_
  refine wp_region_k (S := fun W' : World => Below W.heap.size W W') 9 (by kernel_rfl) (HD.out) (fun hHeld => ?_)
  refine wpAnyK_take (i := 0) (v := ?_) [1] rfl (by kernel_rfl) rfl (by kernel_rfl) (by kernel_rfl) (by kernel_rfl) (by kernel_rfl) (fun _ _ _ h => h) (Or.inl ⟨by rfl, ?hy1⟩) hHeld ?_
  case hy1 => (intro W hSw; refine Or.inl ?_; obtain ⟨⟨q0, q1, q2, q3⟩, q4, q5, q6⟩ := HC.out _ hSw; go_simp; try with_reducible rfl)
  try simp only [Act.put, List.getElem_toArray, List.getElem_cons_zero, List.getElem_cons_succ, List.setIfInBounds_toArray, List.set_cons_zero, List.set_cons_succ]
  refine wpAnyK_take (i := 2) (v := ?_) [8, 7, 6, 5, 4, 3] rfl (by kernel_rfl) rfl (by kernel_rfl) (by kernel_rfl) (by kernel_rfl) (by kernel_rfl) (fun _ _ _ h => h) (Or.inl ⟨by rfl, ?hy2⟩) hHeld ?_
  case hy2 => (intro W hSw; refine Or.inl ?_; obtain ⟨⟨q0, q1, q2, q3⟩, q4, q5, q6⟩ := HC.out _ hSw; go_simp; try with_reducible rfl)
  try simp only [Act.put, List.getElem_toArray, List.getElem_cons_zero, List.getElem_cons_succ, List.setIfInBounds_toArray, List.set_cons_zero, List.set_cons_succ]
  refine wpAnyK_pure (i := 3) (v := ?_) rfl rfl (by kernel_rfl) (by kernel_rfl) (by kernel_rfl) (by kernel_rfl) (fun _ _ _ h => h) (Or.inl ⟨by rfl, ?hy3⟩) (fun _ => hHeld) ?_
  case hy3 => (intro W hSw; refine Or.inl ?_; go_simp; try with_reducible rfl)
  try simp only [Act.put, List.getElem_toArray, List.getElem_cons_zero, List.getElem_cons_succ, List.setIfInBounds_toArray, List.set_cons_zero, List.set_cons_succ]
  refine wpAnyK_pure (i := 4) (v := ?_) rfl rfl (by kernel_rfl) (by kernel_rfl) (by kernel_rfl) (by kernel_rfl) (fun _ _ _ h => h) (Or.inl ⟨by rfl, ?hy4⟩) (fun _ => hHeld) ?_
  case hy4 => (intro W hSw; refine Or.inl ?_; go_simp; try with_reducible rfl)
  try simp only [Act.put, List.getElem_toArray, List.getElem_cons_zero, List.getElem_cons_succ, List.setIfInBounds_toArray, List.set_cons_zero, List.set_cons_succ]
  refine wpAnyK_take (i := 5) (v := ?_) [8, 7, 6] rfl (by kernel_rfl) rfl (by kernel_rfl) (by kernel_rfl) (by kernel_rfl) (by kernel_rfl) (fun _ _ _ h => h) (Or.inl ⟨by rfl, ?hy5⟩) hHeld ?_
  case hy5 => (intro W hSw; refine Or.inl ?_; obtain ⟨⟨q0, q1, q2, q3⟩, q4, q5, q6⟩ := HC.out _ hSw; go_simp; try with_reducible rfl)
  try simp only [Act.put, List.getElem_toArray, List.getElem_cons_zero, List.getElem_cons_succ, List.setIfInBounds_toArray, List.set_cons_zero, List.set_cons_succ]
  refine wpAnyK_pure (i := 6) (v := ?_) rfl rfl (by kernel_rfl) (by kernel_rfl) (by kernel_rfl) (by kernel_rfl) (fun _ _ _ h => h) (Or.inl ⟨by rfl, ?hy6⟩) (fun _ => hHeld) ?_
  case hy6 => (intro W hSw; refine Or.inl ?_; go_simp; try with_reducible rfl)
  try simp only [Act.put, List.getElem_toArray, List.getElem_cons_zero, List.getElem_cons_succ, List.setIfInBounds_toArray, List.set_cons_zero, List.set_cons_succ]
  refine wpAnyK_take (i := 7) (v := ?_) [8] rfl (by kernel_rfl) rfl (by kernel_rfl) (by kernel_rfl) (by kernel_rfl) (by kernel_rfl) (fun _ _ _ h => h) (Or.inl ⟨by rfl, ?hy7⟩) hHeld ?_
  case hy7 => (intro W hSw; refine Or.inl ?_; obtain ⟨⟨q0, q1, q2, q3⟩, q4, q5, q6⟩ := HC.out _ hSw; go_simp; try with_reducible rfl)
  try simp only [Act.put, List.getElem_toArray, List.getElem_cons_zero, List.getElem_cons_succ, List.setIfInBounds_toArray, List.set_cons_zero, List.set_cons_succ]
  refine wpAnyK_pure (i := 8) (v := ?_) rfl rfl (by kernel_rfl) (by kernel_rfl) (by kernel_rfl) (by kernel_rfl) (fun _ _ _ h => h) (Or.inl ⟨by rfl, ?hy8⟩) (fun _ => hHeld) ?_
  case hy8 => (intro W hSw; refine Or.inl ?_; go_simp; try with_reducible rfl)
  try simp only [Act.put, List.getElem_toArray, List.getElem_cons_zero, List.getElem_cons_succ, List.setIfInBounds_toArray, List.set_cons_zero, List.set_cons_succ]
  refine wpAnyK_ready (rs := [1]) (by kernel_rfl) (by simp) ?_
  refine AllReadyK.cons rfl (fun K hK => ?_) AllReadyK.nil
  go_simp
  refine hK.out _ _ (hHeld.alloc hHeld.size _) (fun hHeld2 => ?_)
  clear hHeld hK K
  have hHeld := hHeld2
  clear hHeld2
  try simp only [Act.put, List.getElem_toArray, List.getElem_cons_zero, List.getElem_cons_succ, List.setIfInBounds_toArray, List.set_cons_zero, List.set_cons_succ]
  refine wpAnyK_ready (rs := [9]) (by kernel_rfl) (by simp) ?_
  refine AllReadyK.free rfl (by kernel_rfl) (fun K hK => ?_) AllReadyK.nil
  go_simp
  go_at_call 87
  refine (repeat_any _ 4 x D.C m3 m4 _ (HR.out _ HD.out)).mono ?_
  rintro e w3 ⟨g, rfl, hg3, hr3, hb3⟩
  go_wp2_with fail
  refine hK.out _ _ ?_
  clear hK K
  try simp only [Act.put, List.getElem_toArray, List.getElem_cons_zero, List.getElem_cons_succ, List.setIfInBounds_toArray, List.set_cons_zero, List.set_cons_succ]
  refine wpAnyK_pure (i := 10) (v := ?_) rfl rfl (by kernel_rfl) (by kernel_rfl) (by kernel_rfl) (by kernel_rfl) (fun _ _ _ h => h) (Or.inl ⟨by rfl, ?hy9⟩) (fun e => Bool.noConfusion (show true = false from e)) ?_
  case hy9 => (intro W hSw; refine Or.inl ?_; go_simp; try with_reducible rfl)
  try simp only [Act.put, List.getElem_toArray, List.getElem_cons_zero, List.getElem_cons_succ, List.setIfInBounds_toArray, List.set_cons_zero, List.set_cons_succ]
  refine wpAnyK_done (by kernel_rfl) ?_ _
  refine NoPanic.normal ?_
  go_wp2_with fail
  go_ret
  refine ⟨g, rfl, Nat.le_trans ?_ hg3, hr3, Below.later HD.out (box1 hb3).2 (Nat.le_refl _)⟩
  rw [World.size_alloc]
  exact Nat.le_succ _

theorem make_rows (m : Nat) (h2 : m ≤ 255) : ∃ c0 : Array Value, c0.size = m ∧ ∀ W : World, Sem.run Tryz.prog (Instr.makeSlice 60 (.int .i64 0) (.int .i64 (m : Int))) W = .ok (.slice (some ⟨W.heap.size, 0, none⟩) 0 m) (W.alloc (.cells c0 88)) := by
  obtain ⟨i, hi, hz, hs, hb⟩ := info_three infoRow
  refine ⟨madeCells (Value.slice none 0 0).cells (m * 1), by simpa using size_madeCells _ (m * 1), fun W => ?_⟩
  have := run_make (P := Tryz.prog) W 60 88 i _ Tryz.underlying60 hi hz .i64 .i64 0 m (by omega) (by omega) (by rw [hb]; omega) (by omega)
  rw [hs] at this
  simpa using this
/-- Is row i of m a new one behind a move by n? -/
def newAt (m : Nat) (n : Int) (i : Nat) : Bool := decide ((m : Int) - 1 - i < n) || decide (n < -(i : Int))
/-- Row i of m behind a move by n: a new one's block is G' i. -/
def movedV (m : Nat) (n : Int) (C : Nat) (src : Nat → Value) (G' : Nat → Nat) (i : Nat) : Value := if newAt m n i = true then .slice (some ⟨G' i, 0, none⟩) C C else src ((i : Int) + n).toNat
/-- What holds at the head of a round of moved: i rows are laid. -/
structure MovInv (w : World) (m : Nat) (n : Int) (C : Nat) (x : Vz.Cl) (src : Nat → Value) (i : Nat) (G' : Nat → Nat) (W : World) : Prop where
  own : W.ownsRow w.heap.size 88 1 (.slice (some ⟨w.heap.size, 0, none⟩) i m) i ((List.range i).map (movedV m n C src G'))
  row : ∀ j, j < i → newAt m n j = true → RowC W (G' j) 24 (C * 4) (C * 4) (Vz.flatC fun _ => x)
  ge : ∀ j, j < i → newAt m n j = true → w.heap.size < G' j
  inj : ∀ j k, j < i → k < i → newAt m n j = true → newAt m n k = true → G' j = G' k → j = k
  le : Below w.heap.size w W
theorem MovInv.zero (w : World) (m : Nat) (n : Int) (C : Nat) (x : Vz.Cl) (src : Nat → Value) (c0 : Array Value) (hm : m ≤ 255) (hc : c0.size = m) : MovInv w m n C x src 0 (fun _ => 0) (w.alloc (.cells c0 88)) :=
  ⟨World.ownsRow_made w c0 m (Nat.le_refl _) (by unfold maxLen; omega) (by omega), fun j hj => absurd hj (Nat.not_lt_zero _), fun j hj => absurd hj (Nat.not_lt_zero _), fun j k hj => absurd hj (Nat.not_lt_zero _), below1 _ _⟩
theorem range_succ_map {α : Type} (f f' : Nat → α) (i : Nat) (h : ∀ j, j < i → f' j = f j) : (List.range (i + 1)).map f' = (List.range i).map f ++ [f' i] := by
  rw [List.range_succ, List.map_append]
  congr 1
  exact List.map_congr_left fun j hj => h j (List.mem_range.1 hj)
/-- Blocks of other types than the row's own stay behind an append to it. -/
theorem grown_row {W W' : World} {base g n cap : Nat} {e t : TypeId} {size : Nat} {xs : List Value} {b cp m : Nat} {f : Nat → Value} (ho : W.ownsRow base e size (.slice (some ⟨g, 0, none⟩) n cap) n xs) (hg : W.grownBy W' (some g)) (hr : RowC W b t cp m f) (ht : t ≠ e) : RowC W' b t cp m f := by
  obtain ⟨c, hb, rest⟩ := hr
  refine ⟨c, (hg.block b (block_lt hb) (fun e' => ?_)).trans hb, rest⟩
  exact own_not ho hb ht (by simpa [Value.ownBlock] using e'.symm)
/-- A round that lays an old row. -/
theorem MovInv.old {w : World} {m : Nat} {n : Int} {C : Nat} {x : Vz.Cl} {src : Nat → Value} {i : Nat} {G' : Nat → Nat} {W W' : World} {o : Obj} (h : MovInv w m n C x src i G' W) (hn : newAt m n i = false)
    (hown : W'.ownsRow w.heap.size 88 1 (.slice (some ⟨w.heap.size, 0, none⟩) (i + 1) m) (i + 1) ((List.range i).map (movedV m n C src G') ++ [src ((i : Int) + n).toNat])) (hg : (W.alloc o).grownBy W' (some w.heap.size)) : MovInv w m n C x src (i + 1) G' W' := by
  have own1 := h.own.alloc o
  refine ⟨?_, fun j hj hnj => ?_, fun j hj hnj => ?_, fun j k hj hk hnj hnk => ?_, ?_⟩
  · rw [range_succ_map _ (movedV m n C src G') i (fun _ _ => rfl)]
    have : movedV m n C src G' i = src ((i : Int) + n).toNat := by unfold movedV; simp [hn]
    rw [this]
    exact hown
  · have : j < i := by
      rcases Nat.lt_or_ge j i with h | h
      · exact h
      · obtain rfl : j = i := by omega
        rw [hn] at hnj
        cases hnj
    exact grown_row own1 hg ((h.row j this hnj).below (below1 _ _)) (by decide)
  · have : j < i := by
      rcases Nat.lt_or_ge j i with h | h
      · exact h
      · obtain rfl : j = i := by omega
        rw [hn] at hnj
        cases hnj
    exact h.ge j this hnj
  · have hj' : j < i := by
      rcases Nat.lt_or_ge j i with h | h
      · exact h
      · obtain rfl : j = i := by omega
        rw [hn] at hnj
        cases hnj
    have hk' : k < i := by
      rcases Nat.lt_or_ge k i with h | h
      · exact h
      · obtain rfl : k = i := by omega
        rw [hn] at hnk
        cases hnk
    exact h.inj j k hj' hk' hnj hnk
  · have hs : w.heap.size ≤ W.heap.size := h.le.size
    exact (h.le.alloc hs o).grown hg (by rw [World.size_alloc]; omega) (fun k e => by injection e with e; omega)
/-- A round that lays a new row. -/
theorem MovInv.new {w : World} {m : Nat} {n : Int} {C : Nat} {x : Vz.Cl} {src : Nat → Value} {i : Nat} {G' : Nat → Nat} {W w3 W' : World} {o : Obj} {r : Nat} (h : MovInv w m n C x src i G' W) (hn : newAt m n i = true)
    (hb : Below W.heap.size W w3) (hr : W.heap.size ≤ r) (hrow : RowC w3 r 24 (C * 4) (C * 4) (Vz.flatC fun _ => x))
    (hown : W'.ownsRow w.heap.size 88 1 (.slice (some ⟨w.heap.size, 0, none⟩) (i + 1) m) (i + 1) ((List.range i).map (movedV m n C src G') ++ [.slice (some ⟨r, 0, none⟩) C C])) (hg : (w3.alloc o).grownBy W' (some w.heap.size)) :
    MovInv w m n C x src (i + 1) (fun j => if j = i then r else G' j) W' := by
  have own3 : w3.ownsRow w.heap.size 88 1 (.slice (some ⟨w.heap.size, 0, none⟩) i m) i ((List.range i).map (movedV m n C src G')) := own_below h.own hb
  have own4 := own3.alloc o
  have hlt : w.heap.size < W.heap.size := (h.own.lt w.heap.size rfl).2
  refine ⟨?_, fun j hj hnj => ?_, fun j hj hnj => ?_, fun j k hj hk hnj hnk => ?_, ?_⟩
  · rw [range_succ_map (movedV m n C src G') _ i (fun j hj => by unfold movedV; simp [show j ≠ i by omega])]
    have : movedV m n C src (fun j => if j = i then r else G' j) i = .slice (some ⟨r, 0, none⟩) C C := by unfold movedV; simp [hn]
    rw [this]
    exact hown
  · split
    · exact grown_row own4 hg (hrow.below (below1 _ _)) (by decide)
    · exact grown_row own4 hg (((h.row j (by omega) hnj).below hb).below (below1 _ _)) (by decide)
  · split
    · omega
    · exact h.ge j (by omega) hnj
  · have hG : ∀ j, j < i → newAt m n j = true → G' j < W.heap.size := fun j hj hnj => (h.row j hj hnj).lt
    split <;> split
    · intro _; omega
    · intro e; have := hG k (by omega) hnk; omega
    · intro e; have := hG j (by omega) hnj; omega
    · exact h.inj j k (by omega) (by omega) hnj hnk
  · have hs : w.heap.size ≤ W.heap.size := h.le.size
    have hs3 : W.heap.size ≤ w3.heap.size := hb.size
    exact ((Below.later h.le hb hs).alloc (by omega) o).grown hg (by rw [World.size_alloc]; omega) (fun k e => by injection e with e; omega)
theorem newAt_old {m : Nat} {n : Int} {i : Nat} (h : newAt m n i = false) (hi : i < m) : ∃ j : Nat, (i : Int) + n = j ∧ j < m ∧ decide ((m : Int) - 1 - i < n) = false ∧ decide (n < -(i : Int)) = false := by
  unfold newAt at h
  rw [Bool.or_eq_false_iff] at h
  have h1 : ¬ ((m : Int) - 1 - i < n) := by simpa using h.1
  have h2 : ¬ (n < -(i : Int)) := by simpa using h.2
  exact ⟨((i : Int) + n).toNat, by omega, by omega, h.1, h.2⟩
theorem newAt_new {m : Nat} {n : Int} {i : Nat} (h : newAt m n i = true) : decide ((m : Int) - 1 - i < n) = true ∨ (decide ((m : Int) - 1 - i < n) = false ∧ decide (n < -(i : Int)) = true) := by
  unfold newAt at h
  cases h1 : decide ((m : Int) - 1 - i < n)
  · rw [h1, Bool.false_or] at h
    exact .inr ⟨rfl, h⟩
  · exact .inl rfl

set_option maxRecDepth 10000 in
set_option maxHeartbeats 4000000 in
theorem moved_rows (B o m mc bx bg : Nat) (n : Int) (x : Vz.Cl) (C : Nat) (Gs Ks : Nat → Nat) (w : World) (hm : m ≤ 255) (hn : -100000 ≤ n ∧ n ≤ 100000) (hs : ∀ j, j < m → w.cell? ⟨B, o + j, none⟩ = some (rowV Gs Ks C j))
    (hfr : FreshRow w 144 #[.pointer (some ⟨bx, 0, none⟩), .pointer (some ⟨bg, 0, none⟩)] x C) :
    Calls Tryz.prog 145 #[.slice (some ⟨B, o, none⟩) m mc, .int .i64 n, .func (.func 144) #[] #[.pointer (some ⟨bx, 0, none⟩), .pointer (some ⟨bg, 0, none⟩)]] w fun e w' => ∃ G', e = .returned (.slice (some ⟨w.heap.size, 0, none⟩) m m) ∧ MovInv w m n C x (rowV Gs Ks C) m G' w' := by
  obtain ⟨c0, hc0, hmk⟩ := make_rows m hm
  obtain ⟨i0, hi, hz0, hz1, hz2⟩ := info_three infoRow
  have H0 := Lib.hid (MovInv.zero w m n C x (rowV Gs Ks C) c0 hm hc0)
  have HFR := Lib.hid hfr
  have HS : Hid (∀ W j, Below w.heap.size w W → j < m → W.cell? ⟨B, o + j, none⟩ = some (.slice (some ⟨Gs j, 0, none⟩) C (Ks j))) := fun W j hb hj => (hb.cell (p := ⟨B, o + j, none⟩) (World.block_lt_of_cell? w _ (hs j hj))).trans (hs j hj)
  have hn1 := hn.1
  have hn2 := hn.2
  clear hfr hs hc0 hn
  go_enter Tryz.func145, Tryz.ntmps145
  go_wp2_with fail
  go_loopw [7, 14] (fun out i wr => ∃ (k : Nat) (G' : Nat → Nat), k ≤ m ∧ i = .int .i64 k ∧ out = .slice (some ⟨w.heap.size, 0, none⟩) k m ∧ MovInv w m n C x (rowV Gs Ks C) k G' wr) (fun _ i _ => m - (intOf i).toNat)
  case atStart => exact ⟨0, _, Nat.zero_le _, rfl, rfl, H0.out⟩
  case round =>
    obtain ⟨k, G', hk, rfl, rfl, hI⟩ := hrel
    have HI := Lib.hid hI
    clear hI
    by_cases hlt : k < m
    · have hkw : IntKind.i64.wrap ((k : Int) + 1) = ((k + 1 : Nat) : Int) := by rw [IntKind.wrap_i64]; omega
      have hw1 : IntKind.i64.wrap ((m : Int) - 1) = (m : Int) - 1 := wrap_in (by omega) (by omega)
      have hw2 : IntKind.i64.wrap ((m : Int) - 1 - (k : Int)) = (m : Int) - 1 - k := wrap_in (by omega) (by omega)
      have hw3 : IntKind.i64.wrap (-(k : Int)) = -(k : Int) := wrap_in (by omega) (by omega)
      cases hnew : newAt m n k
      · obtain ⟨j, hj, hjm, d1, d2⟩ := newAt_old hnew hlt
        have hw4 : IntKind.i64.wrap ((k : Int) + n) = (j : Int) := by rw [hj]; exact wrap_in (by omega) (by omega)
        have hjm' : (j : Int) < (m : Int) := by omega
        have hc := HS.out _ j HI.out.le hjm
        have HN := Lib.hid hnew
        have HJ : Hid (((k : Int) + n).toNat = j) := by rw [hj]; rfl
        clear hnew hj
        go_wp2_with (at_builtin; refine wpList_append_own_spare _ rfl _ _ 60 rfl w.heap.size 88 i0 1 Tryz.underlying60 hi hz1 w.heap.size k m _ rfl (HI.out.own.alloc _) ⟨wr.heap.size, 0, none⟩ 1 1 [.slice (some ⟨Gs j, 0, none⟩) C (Ks j)] rfl rfl (cell_one_new _ _ _) (by intro u hu; obtain rfl := List.mem_singleton.1 hu; rfl) (by omega) ?_; intro w5 hown5 hgrow5)
        exact ⟨⟨k + 1, G', by omega, by go_num, rfl, HI.out.old HN.out (by rw [HJ.out]; exact hown5) hgrow5⟩, by simp [intOf]; omega⟩
      · have HN := Lib.hid hnew
        have hway := newAt_new hnew
        clear hnew
        rcases hway with d1 | ⟨d1, d2⟩
        all_goals
          go_wp2_with (first
            | (go_at_call 144; refine (HFR.out _ HI.out.le).mono ?_; rintro e w3 ⟨r, rfl, hr0, hr3, hb3⟩; have own4 := Lib.hid ((own_below HI.out.own hb3).alloc (.cells #[.slice (some ⟨r, 0, none⟩) C C] 88)))
            | (at_builtin; refine wpList_append_own_spare _ rfl _ _ 60 rfl w.heap.size 88 i0 1 Tryz.underlying60 hi hz1 w.heap.size k m _ rfl own4.out ⟨w3.heap.size, 0, none⟩ 1 1 [.slice (some ⟨r, 0, none⟩) C C] rfl rfl (cell_one_new _ _ _) (by intro u hu; obtain rfl := List.mem_singleton.1 hu; rfl) (by omega) ?_; intro w5 hown5 hgrow5))
          exact ⟨⟨k + 1, _, by omega, by go_num, rfl, HI.out.new HN.out hb3 hr0 hr3 hown5 hgrow5⟩, by simp [intOf]; omega⟩
    · obtain rfl : k = m := by omega
      go_wp2_with fail
      go_ret
      exact ⟨G', rfl, HI.out⟩
end Go.Proofs.YtbnkfiaggehmgaaGreatDoor
