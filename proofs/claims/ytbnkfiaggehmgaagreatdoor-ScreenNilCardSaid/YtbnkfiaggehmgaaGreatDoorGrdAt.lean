/- Grids of cells in memory: what a pointer to one means, and what stays. -/
import Derived.Test.YtbnkfiaggehmgaaGreatDoorGrd
namespace Go.Proofs.YtbnkfiaggehmgaaGreatDoor
open Go.RowKit
set_option linter.unusedSimpArgs false
set_option linter.unusedVariables false

/-- The world goes on, and of what was there the blocks in F alone may have turned. -/
structure Keeps (F : Nat → Prop) (W W' : World) : Prop where
  os : W'.os = W.os
  tape : W'.tape = W.tape
  output : W'.output = W.output
  size : W.heap.size ≤ W'.heap.size
  block : ∀ k, k < W.heap.size → ¬ F k → W'.heap[k]? = W.heap[k]?
theorem Keeps.of_below {F : Nat → Prop} {W W' : World} (h : Below W.heap.size W W') : Keeps F W W' := ⟨h.os, h.tape, h.output, h.size, fun k hk _ => h.block k hk⟩
theorem Keeps.below {F : Nat → Prop} {W W' : World} {B : Nat} (h : Keeps F W W') (hF : ∀ k, F k → B ≤ k) (hB : B ≤ W.heap.size) : Below B W W' :=
  ⟨h.os, h.tape, h.output, h.size, fun k hk => h.block k (by omega) (fun hf => by have := hF k hf; omega)⟩
theorem Keeps.trans {F F' : Nat → Prop} {a b c : World} (h : Keeps F a b) (k : Keeps F' b c) (hF : ∀ k, F' k → F k ∨ a.heap.size ≤ k) : Keeps F a c :=
  ⟨k.os.trans h.os, k.tape.trans h.tape, k.output.trans h.output, Nat.le_trans h.size k.size, fun i hi hn => (k.block i (Nat.lt_of_lt_of_le hi h.size) (fun hf => by rcases hF i hf with h1 | h1; exact hn h1; omega)).trans (h.block i hi hn)⟩
theorem Keeps.mono {F F' : Nat → Prop} {a b : World} (h : Keeps F a b) (hF : ∀ k, F k → F' k) : Keeps F' a b := ⟨h.os, h.tape, h.output, h.size, fun k hk hn => h.block k hk fun hf => hn (hF k hf)⟩
theorem Keeps.refl (F : Nat → Prop) (W : World) : Keeps F W W := ⟨rfl, rfl, rfl, Nat.le_refl _, fun _ _ _ => rfl⟩
theorem Keeps.setCell (F : Nat → Prop) (W : World) {p : Addr} (hp : F p.block) (v : Value) : Keeps F W (W.setCell p v) :=
  ⟨rfl, rfl, rfl, by simp [World.setCell], fun k hk hn => Below.heap_setCell _ _ _ _ (fun e => hn (e ▸ hp))⟩

theorem Keeps.draws {F : Nat → Prop} {a b : World} (h : Keeps F a b) (q : Nat) : Keeps F a (b.drewN q) := ⟨h.os, h.tape, h.output, h.size, h.block⟩
theorem Keeps.alloc {F : Nat → Prop} {a b : World} (h : Keeps F a b) (o : Obj) : Keeps F a (b.alloc o) :=
  ⟨h.os, h.tape, h.output, Nat.le_trans h.size (by simp), fun k hk hn => (Below.heap_alloc _ o k (Nat.lt_of_lt_of_le hk h.size)).trans (h.block k hk hn)⟩

def rowV (G K : Nat → Nat) (C i : Nat) : Value := .slice (some ⟨G i, 0, none⟩) C (K i)
/-- Block gp is a grid whose rows lie in block B, row i's cells in block G i. -/
structure GridAt (W : World) (gp B cap : Nat) (G K : Nat → Nat) (D : Vz.Gd) : Prop where
  may : D.may
  box : W.heap[gp]? = some (.cells #[.slice (some ⟨B, 0, none⟩) D.R cap] 115 (0, 0))
  outer : RowC W B 88 cap D.R (rowV G K D.C)
  row : ∀ i, i < D.R → RowC W (G i) 24 (K i * 4) (D.C * 4) (Vz.flatC (D.X i))
  inj : ∀ i j, i < D.R → j < D.R → G i = G j → i = j
/-- The blocks of a grid. -/
def footG (gp B : Nat) (G : Nat → Nat) (R : Nat) (k : Nat) : Prop := k = gp ∨ k = B ∨ ∃ i, i < R ∧ k = G i
/-- Block gp is a grid that shows D; its blocks are F. -/
def Grid (W : World) (gp : Nat) (F : Nat → Prop) (D : Vz.Gd) : Prop := ∃ B cap G K, GridAt W gp B cap G K D ∧ ∀ k, F k ↔ footG gp B G D.R k
theorem block_lt {W : World} {k : Nat} {o : Obj} (h : W.heap[k]? = some o) : k < W.heap.size := (Array.getElem?_eq_some_iff.1 h).1
theorem Grid.lt {W : World} {gp : Nat} {F : Nat → Prop} {D : Vz.Gd} (h : Grid W gp F D) : ∀ k, F k → k < W.heap.size := by
  obtain ⟨B, cap, G, K, h, hF⟩ := h
  intro k hk
  rcases (hF k).1 hk with rfl | rfl | ⟨i, hi, rfl⟩
  · exact block_lt h.box
  · exact h.outer.lt
  · exact (h.row i hi).lt
theorem Grid.may {W : World} {gp : Nat} {F : Nat → Prop} {D : Vz.Gd} (h : Grid W gp F D) : D.may := by
  obtain ⟨B, cap, G, K, h, hF⟩ := h
  exact h.may
theorem GridAt.of_blocks {W W' : World} {gp B cap : Nat} {G K : Nat → Nat} {D : Vz.Gd} (h : GridAt W gp B cap G K D) (hk : ∀ k, footG gp B G D.R k → W'.heap[k]? = W.heap[k]?) : GridAt W' gp B cap G K D :=
  ⟨h.may, (hk _ (.inl rfl)).trans h.box, h.outer.of_block (hk _ (.inr (.inl rfl))), fun i hi => (h.row i hi).of_block (hk _ (.inr (.inr ⟨i, hi, rfl⟩))), h.inj⟩
theorem Grid.of_blocks {W W' : World} {gp : Nat} {F : Nat → Prop} {D : Vz.Gd} (h : Grid W gp F D) (hk : ∀ k, F k → W'.heap[k]? = W.heap[k]?) : Grid W' gp F D := by
  obtain ⟨B, cap, G, K, h, hF⟩ := h
  exact ⟨B, cap, G, K, h.of_blocks fun k hf => hk k ((hF k).2 hf), hF⟩
theorem Grid.keeps {W W' : World} {gp : Nat} {F F' : Nat → Prop} {D : Vz.Gd} (h : Grid W gp F D) (hk : Keeps F' W W') (hd : ∀ k, F k → ¬ F' k) : Grid W' gp F D :=
  h.of_blocks fun k hf => hk.block k (h.lt k hf) (hd k hf)
theorem Grid.below {W W' : World} {gp : Nat} {F : Nat → Prop} {D : Vz.Gd} (h : Grid W gp F D) (hk : Below W.heap.size W W') : Grid W' gp F D :=
  h.of_blocks fun k hf => hk.block k (h.lt k hf)
theorem RowC.of_own {W : World} {base : Nat} {e : TypeId} {g n cap : Nat} {xs : List Value} (h : W.ownsRow base e 1 (.slice (some ⟨g, 0, none⟩) n cap) n xs) : RowC W g e cap n (fun i => xs.getD i undef) := by
  obtain ⟨hl, h⟩ := h
  rcases h with ⟨h, _⟩ | ⟨g', cap', cur, hv, _, hg, hn, _, hc, ht⟩
  · cases h
  · cases hv
    refine ⟨cur, hg, by omega, hn, fun i hi => ?_⟩
    have : (cur.toList.take (n * 1))[i]? = xs[i]? := by rw [ht]
    rw [List.getElem?_take_of_lt (by omega)] at this
    rw [← Array.getElem?_toList, this]
    simp [List.getD, List.getElem?_eq_getElem (show i < xs.length by omega)]
end Go.Proofs.YtbnkfiaggehmgaaGreatDoor
