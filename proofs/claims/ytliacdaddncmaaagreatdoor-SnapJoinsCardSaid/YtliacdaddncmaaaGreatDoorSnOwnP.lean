import Derived.Test.YtliacdaddncmaaaGreatDoorSnText
import Derived.Test.YtliacdaddncmaaaGreatDoorSnMade
import Derived.Test.YtliacdaddncmaaaGreatDoorLawNNil

/- What holds while a screen is drawn on behind its shots. -/
namespace Go.Proofs.YtliacdaddncmaaaGreatDoor
open Go.RowKit
set_option linter.unusedSimpArgs false
set_option linter.unusedVariables false
attribute [local go_sem] alloc_drewN setCell_drewN World.cell?_alloc_some frozen_alloc_some size_f0 size_f1

/-- Blocks from N0 to W5's end lie as they lay, and the answer's box holds false. -/
structure FixP (w W5 : World) (N0 : Nat) (W : World) : Prop where
  kept : ∀ k, N0 ≤ k → k < W5.heap.size → W.heap[k]? = W5.heap[k]?
  size : W5.heap.size ≤ W.heap.size
  bel : Below w.heap.size w W
  box : W.heap[w.heap.size]? = some (.cells #[.bool false] 4 (0, 0))
theorem FixP.below {w W5 W W' : World} {N0 : Nat} (h : FixP w W5 N0 W) (hb : Below W.heap.size W W') : FixP w W5 N0 W' :=
  ⟨fun k h1 h2 => (hb.block k (Nat.lt_of_lt_of_le h2 h.size)).trans (h.kept k h1 h2), Nat.le_trans h.size hb.size, Below.later h.bel hb h.bel.size, (hb.block _ (block_lt h.box)).trans h.box⟩
theorem FixP.shp {w W5 W : World} {N0 : Nat} (h : FixP w W5 N0 W) {B : Nat} (hB : N0 ≤ B) {x : Sh} {OB g cap : Nat} {sv : Value} {G K G' : Nat → Nat} (hs : ShP B W5 x OB g cap sv G K G') : ShP B W x OB g cap sv G K G' :=
  hs.of_blocks (fun k h1 h2 => h.kept k (Nat.le_trans hB h1) h2) h.size
theorem FixP.at_ {w W5 W : World} {N0 : Nat} (h : FixP w W5 N0 W) {b : Nat} (hB : N0 ≤ b) {o : Obj} (ho : W5.heap[b]? = some o) : W.heap[b]? = some o := (h.kept b hB (block_lt ho)).trans ho
/-- A screen's blocks lie between the answer's box and N0, or behind W5. -/
def Foot (w W5 : World) (N0 : Nat) (F : Nat → Prop) : Prop := ∀ k, F k → (w.heap.size < k ∧ k < N0) ∨ W5.heap.size ≤ k
def OwnW (w W5 : World) (N0 sp : Nat) (W : World) : Prop := FixP w W5 N0 W ∧ ∃ F S, Scr W sp F S ∧ Foot w W5 N0 F
theorem OwnW.below {w W5 W W' : World} {N0 sp : Nat} (h : OwnW w W5 N0 sp W) (hb : Below W.heap.size W W') : OwnW w W5 N0 sp W' := by
  obtain ⟨h1, F, S, h2, h3⟩ := h
  exact ⟨h1.below hb, F, S, h2.below hb, h3⟩
theorem OwnW.turn {w W5 W W' : World} {N0 sp : Nat} {F : Nat → Prop} {S' : Vz.Sr} (h : FixP w W5 N0 W) (hF : Foot w W5 N0 F) (h0 : w.heap.size < W5.heap.size) (h' : ScrTo W W' sp F S') : OwnW w W5 N0 sp W' := by
  obtain ⟨⟨F', hs, hf⟩, hk⟩ := h'
  have hlt : ∀ k, k < W5.heap.size → k < W.heap.size := fun k hk => Nat.lt_of_lt_of_le hk h.size
  refine ⟨⟨fun k h1 h2 => (hk.block k (hlt k h2) (fun hfk => ?_)).trans (h.kept k h1 h2), Nat.le_trans h.size hk.size, ?_, (hk.block _ (block_lt h.box) (fun hfk => ?_)).trans h.box⟩, F', S', hs, fun k hk' => ?_⟩
  · have := hF k hfk
    omega
  · refine h.bel.trans (hk.below (fun k hfk => ?_) h.bel.size)
    have := hF k hfk
    omega
  · have := hF _ hfk
    omega
  · rcases hf k hk' with h1 | h1
    · exact hF k h1
    · have := h.size
      exact .inr (by omega)
theorem own_set {w W5 W : World} {N0 sp : Nat} (h : OwnW w W5 N0 sp W) (h0 : w.heap.size < W5.heap.size) (p0 p1 : Int) (cg ca cm : Int) (cd : Bool) :
    Calls Tryz.prog 15 #[.pointer (some ⟨sp, 0, none⟩), .agg #[.int .i64 p0, .int .i64 p1], .agg #[.int .i32 cg, .int .i64 ca, .bool cd, .int .i64 cm]] W fun e w2 => (∃ k : Int, e = .returned (.int .i64 k)) ∧ OwnW w W5 N0 sp w2 := by
  obtain ⟨h1, F, S, h2, h3⟩ := h
  by_cases hp : Vz.Ps.inS ⟨p0, p1⟩ S.D.R S.D.C
  · exact (scr_set sp F S ⟨p0, p1⟩ ⟨cg, ca, cd, cm⟩ W h2 hp).mono fun e w2 h' => ⟨⟨_, h'.1⟩, OwnW.turn h1 h3 h0 h'.2⟩
  · exact (scr_set_no sp F S ⟨p0, p1⟩ ⟨cg, ca, cd, cm⟩ W h2 hp).mono fun e w2 h' => ⟨⟨_, h'.1⟩, OwnW.below ⟨h1, F, S, h2, h3⟩ h'.2⟩
theorem own_move {w W5 W : World} {N0 sp : Nat} (h : OwnW w W5 N0 sp W) (h0 : w.heap.size < W5.heap.size) (p0 p1 : Int) :
    Calls Tryz.prog 16 #[.pointer (some ⟨sp, 0, none⟩), .agg #[.int .i64 p0, .int .i64 p1]] W fun e w2 => e = .returned (.tuple #[]) ∧ OwnW w W5 N0 sp w2 := by
  obtain ⟨h1, F, S, h2, h3⟩ := h
  exact (scr_move sp F S ⟨p0, p1⟩ W h2).mono fun e w2 h' => ⟨h'.1, OwnW.turn h1 h3 h0 h'.2⟩
theorem own_stop {w W5 W : World} {N0 sp : Nat} (h : OwnW w W5 N0 sp W) (h0 : w.heap.size < W5.heap.size) (n : Int) (on : Bool) :
    Calls Tryz.prog 17 #[.pointer (some ⟨sp, 0, none⟩), .int .i64 n, .bool on] W fun e w2 => e = .returned (.tuple #[]) ∧ OwnW w W5 N0 sp w2 := by
  obtain ⟨h1, F, S, h2, h3⟩ := h
  exact (scr_stop sp F S n on W h2).mono fun e w2 h' => ⟨h'.1, OwnW.turn h1 h3 h0 h'.2⟩
theorem box_one {W : World} {g : Nat} {v : Value} {t : TypeId} (h : W.heap[g]? = some (.cells #[v] t (0, 0))) : W.cell? ⟨g, 0, none⟩ = some v ∧ W.frozen? ⟨g, 0, none⟩ = false := ⟨cell_row h 0, frozen_row h 0⟩
theorem p_name {p : Int} (h1 : ¬ p < 1) (h2 : ¬ 4 < p) : nameB p ≠ [] := by
  rcases (by omega : p = 1 ∨ p = 2 ∨ p = 3 ∨ p = 4) with rfl | rfl | rfl | rfl <;> decide
/-- A shot of a screen that made has made: what the law's walk wants of it. -/
structure ShK (x : Sh) : Prop where
  may : x.S.D.may
  r : x.S.D.R ≤ 20
  c : x.S.D.C ≤ 20
  in_ : x.S.pl.at_.inS x.S.D.R x.S.D.C
  ok : ∀ i j, CellOk (x.S.D.X i j)
/-- Four boxes behind w14 and the box of the runs. -/
structure RunI (w14 : World) (V : Array Value) (s : StN) (W : World) : Prop where
  bel : Below w14.heap.size w14 W
  row : W.heap[w14.heap.size]? = some (.cells #[.int .i64 (s.row : Int)] 3 (0, 0))
  col : W.heap[w14.heap.size + 1]? = some (.cells #[.int .i64 (s.col : Int)] 3 (0, 0))
  look : W.heap[w14.heap.size + 1 + 1]? = some (.cells #[.int .i64 s.look] 3 (0, 0))
  gd : W.heap[w14.heap.size + 1 + 1 + 1]? = some (.cells #[.bool s.gd] 4 (0, 0))
  box : W.heap[w14.heap.size + 1 + 1 + 1 + 1]? = some (.cells V 30 (0, 0))
section
variable {w14 W W' : World} {V : Array Value} {s : StN}
theorem RunI.fresh (w14 : World) (V : Array Value) : RunI w14 V StN.nil (((((w14.alloc (.cells #[.int .i64 0] 3)).alloc (.cells #[.int .i64 0] 3)).alloc (.cells #[.int .i64 0] 3)).alloc (.cells #[.bool false] 4)).alloc (.cells V 30)) := by
  obtain ⟨h5, b5⟩ := box1 (Below.refl (((((w14.alloc (.cells #[.int .i64 0] 3)).alloc (.cells #[.int .i64 0] 3)).alloc (.cells #[.int .i64 0] 3)).alloc (.cells #[.bool false] 4)).alloc (.cells V 30)).heap.size (((((w14.alloc (.cells #[.int .i64 0] 3)).alloc (.cells #[.int .i64 0] 3)).alloc (.cells #[.int .i64 0] 3)).alloc (.cells #[.bool false] 4)).alloc (.cells V 30)))
  obtain ⟨h4, b4⟩ := box1 b5
  obtain ⟨h3, b3⟩ := box1 b4
  obtain ⟨h2, b2⟩ := box1 b3
  obtain ⟨h1, b1⟩ := box1 b2
  rw [World.size_alloc] at h2
  rw [World.size_alloc, World.size_alloc] at h3
  rw [World.size_alloc, World.size_alloc, World.size_alloc] at h4
  rw [World.size_alloc, World.size_alloc, World.size_alloc, World.size_alloc] at h5
  exact ⟨b1, h1, h2, h3, h4, h5⟩
theorem RunI.own (h : RunI w14 V s W) {row : Option Nat} {n : Nat} (hn : w14.heap.size ≤ n) (hg : W.grownBy W' row) (hr : ∀ r, row = some r → n ≤ r ∧ ∃ o : Obj, W.heap[r]? = some o ∧ o.isCells = false) : RunI w14 V s W' :=
  ⟨below_own hn h.bel hg hr, cells_kept hg hr h.row, cells_kept hg hr h.col, cells_kept hg hr h.look, cells_kept hg hr h.gd, cells_kept hg hr h.box⟩
theorem RunI.below (h : RunI w14 V s W) (hb : Below W.heap.size W W') : RunI w14 V s W' :=
  ⟨Below.later h.bel hb h.bel.size, (hb.block _ (block_lt h.row)).trans h.row, (hb.block _ (block_lt h.col)).trans h.col, (hb.block _ (block_lt h.look)).trans h.look, (hb.block _ (block_lt h.gd)).trans h.gd, (hb.block _ (block_lt h.box)).trans h.box⟩
theorem RunI.setRow (h : RunI w14 V s W) (r : Nat) : RunI w14 V { s with row := r } (W.setCell ⟨w14.heap.size, 0, none⟩ (.int .i64 (r : Int))) := by
  have e : ∀ k, k ≠ w14.heap.size → (W.setCell ⟨w14.heap.size, 0, none⟩ (.int .i64 (r : Int))).heap[k]? = W.heap[k]? := fun k hk => heap_setCell_other _ _ _ _ hk
  exact ⟨h.bel.setCell (p := ⟨w14.heap.size, 0, none⟩) (Nat.le_refl _) _, heap_set_same h.row 0 _, (e _ (by omega)).trans h.col, (e _ (by omega)).trans h.look, (e _ (by omega)).trans h.gd, (e _ (by omega)).trans h.box⟩
theorem RunI.setCol (h : RunI w14 V s W) (r : Nat) : RunI w14 V { s with col := r } (W.setCell ⟨w14.heap.size + 1, 0, none⟩ (.int .i64 (r : Int))) := by
  have e : ∀ k, k ≠ w14.heap.size + 1 → (W.setCell ⟨w14.heap.size + 1, 0, none⟩ (.int .i64 (r : Int))).heap[k]? = W.heap[k]? := fun k hk => heap_setCell_other _ _ _ _ hk
  exact ⟨h.bel.setCell (p := ⟨w14.heap.size + 1, 0, none⟩) (Nat.le_succ _) _, (e _ (by omega)).trans h.row, heap_set_same h.col 0 _, (e _ (by omega)).trans h.look, (e _ (by omega)).trans h.gd, (e _ (by omega)).trans h.box⟩
theorem RunI.setLook (h : RunI w14 V s W) (r : Int) : RunI w14 V { s with look := r } (W.setCell ⟨w14.heap.size + 1 + 1, 0, none⟩ (.int .i64 r)) := by
  have e : ∀ k, k ≠ w14.heap.size + 1 + 1 → (W.setCell ⟨w14.heap.size + 1 + 1, 0, none⟩ (.int .i64 r)).heap[k]? = W.heap[k]? := fun k hk => heap_setCell_other _ _ _ _ hk
  exact ⟨h.bel.setCell (p := ⟨w14.heap.size + 1 + 1, 0, none⟩) (by show _ ≤ w14.heap.size + 1 + 1; omega) _, (e _ (by omega)).trans h.row, (e _ (by omega)).trans h.col, heap_set_same h.look 0 _, (e _ (by omega)).trans h.gd, (e _ (by omega)).trans h.box⟩
theorem RunI.setGd (h : RunI w14 V s W) (r : Bool) : RunI w14 V { s with gd := r } (W.setCell ⟨w14.heap.size + 1 + 1 + 1, 0, none⟩ (.bool r)) := by
  have e : ∀ k, k ≠ w14.heap.size + 1 + 1 + 1 → (W.setCell ⟨w14.heap.size + 1 + 1 + 1, 0, none⟩ (.bool r)).heap[k]? = W.heap[k]? := fun k hk => heap_setCell_other _ _ _ _ hk
  exact ⟨h.bel.setCell (p := ⟨w14.heap.size + 1 + 1 + 1, 0, none⟩) (by show _ ≤ w14.heap.size + 1 + 1 + 1; omega) _, (e _ (by omega)).trans h.row, (e _ (by omega)).trans h.col, (e _ (by omega)).trans h.look, heap_set_same h.gd 0 _, (e _ (by omega)).trans h.box⟩
end
theorem keeps_set {B : Nat} {W W' : World} (h : KeepsFrom B W W') {p : Addr} (hp : p.block < B) (v : Value) : KeepsFrom B W (W'.setCell p v) :=
  ⟨by rw [World.size_setCell]; exact h.size, fun k o hB hk ho => (heap_setCell_other _ _ _ _ (by omega)).trans (h.same k o hB hk ho)⟩
/-- Where a run stands. -/
theorem run_cases {C : Nat} {s : StN} {r : Rn} (h : okR C s r) : 1 ≤ r.len ∧ ((s.col = C ∧ r.row = s.row + 1 ∧ r.col = 0) ∨ (¬ s.col = C ∧ r.row = s.row ∧ r.col = s.col ∧ (s.col = 0 ∨ (0 < s.col ∧ ¬ r.look = s.look) ∨ (0 < s.col ∧ r.look = s.look ∧ ¬ r.gd = s.gd)))) := by
  obtain ⟨h1, h2⟩ := h
  refine ⟨h1, ?_⟩
  by_cases hc : s.col = C
  · rw [if_pos hc] at h2
    exact .inl ⟨hc, h2⟩
  · rw [if_neg hc] at h2
    refine .inr ⟨hc, h2.1, h2.2.1, ?_⟩
    by_cases h0 : s.col = 0
    · exact .inl h0
    · have := h2.2.2 (by omega)
      by_cases hl : r.look = s.look
      · exact .inr (.inr ⟨by omega, hl, fun hg => this ⟨hl, hg⟩⟩)
      · exact .inr (.inl ⟨by omega, hl⟩)
end Go.Proofs.YtliacdaddncmaaaGreatDoor
