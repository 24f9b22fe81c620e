/- Screens in memory: what a pointer to one means, and what stays. -/
import Derived.Test.YtbnkfiaggehmgaaGreatDoorInk
import Derived.Maps.OwnSet
namespace Vz
/-- A screen: its cells, where the cursor is, which columns are stops. -/
structure Sr where
  D : Gd
  pl : Pl
  T : Nat → Bool
/-- The stops of a number of columns, rising. -/
def stopsL (C : Nat) (T : Nat → Bool) : List Nat := (List.range C).filter T
end Vz
namespace Go.Proofs.YtbnkfiaggehmgaaGreatDoor
open Go.RowKit
set_option linter.unusedSimpArgs false
set_option linter.unusedVariables false

def stopsD (C : Nat) (T : Nat → Bool) : DataW Unit := .map ((Vz.stopsL C T).map fun c : Nat => (.int .i64 (c : Int), .agg []))
/-- Block tp is the stops T of C columns; its map lies in block mb. -/
def TabsAt (W : World) (tp mb : Nat) (C : Nat) (T : Nat → Bool) : Prop :=
  W.heap[tp]? = some (.cells #[.int .i64 C, .map (some mb)] 128 (0, 0)) ∧ W.ownsMap Tryz.prog 3 unitElem mb C (stopsD C T) ∧ ∀ c, T c = true → c < C
theorem TabsAt.of_blocks {W W' : World} {tp mb C : Nat} {T : Nat → Bool} (h : TabsAt W tp mb C T) (h1 : W'.heap[tp]? = W.heap[tp]?) (h2 : W'.heap[mb]? = W.heap[mb]?) : TabsAt W' tp mb C T := by
  obtain ⟨a, ⟨es, clock, b, r⟩, c⟩ := h
  exact ⟨h1.trans a, ⟨es, clock, h2.trans b, r⟩, c⟩
theorem TabsAt.lt {W : World} {tp mb C : Nat} {T : Nat → Bool} (h : TabsAt W tp mb C T) : tp < W.heap.size ∧ mb < W.heap.size := by
  obtain ⟨a, ⟨es, clock, b, r⟩, c⟩ := h
  exact ⟨block_lt a, block_lt b⟩
/-- The package variable screen.Blank holds its cell. -/
def Blanked (W : World) : Prop := ∃ t fr, W.heap[0]? = some (.cells (cellB Vz.Cl.blank) t fr)
theorem Blanked.cells {W : World} (h : Blanked W) : W.cell? ⟨0, 0, none⟩ = some (.int .i32 32) ∧ W.cell? ⟨0, 1, none⟩ = some (.int .i64 0) ∧ W.cell? ⟨0, 2, none⟩ = some (.bool false) ∧ W.cell? ⟨0, 3, none⟩ = some (.int .i64 0) := by
  obtain ⟨t, fr, h⟩ := h
  exact ⟨by simp [World.cell?, h, cellB, Vz.Cl.blank], by simp [World.cell?, h, cellB, Vz.Cl.blank], by simp [World.cell?, h, cellB, Vz.Cl.blank], by simp [World.cell?, h, cellB, Vz.Cl.blank]⟩
theorem Blanked.lt {W : World} (h : Blanked W) : 0 < W.heap.size := by
  obtain ⟨t, fr, h⟩ := h
  exact block_lt h
theorem Blanked.of_block {W W' : World} (h : Blanked W) (e : W'.heap[0]? = W.heap[0]?) : Blanked W' := by
  obtain ⟨t, fr, h⟩ := h
  exact ⟨t, fr, e.trans h⟩
theorem Blanked.below {W W' : World} (h : Blanked W) (hb : Below W.heap.size W W') : Blanked W' := h.of_block (hb.block _ h.lt)
def scrB (pl : Vz.Pl) (gp tp : Nat) : Array Value := #[.int .i64 pl.at_.row, .int .i64 pl.at_.col, .bool pl.pend, .pointer (some ⟨gp, 0, none⟩), .pointer (some ⟨tp, 0, none⟩)]
structure ScrAt (W : World) (sp gp tp mb : Nat) (FG : Nat → Prop) (S : Vz.Sr) : Prop where
  box : W.heap[sp]? = some (.cells (scrB S.pl gp tp) 79 (0, 0))
  grid : Grid W gp FG S.D
  tabs : TabsAt W tp mb S.D.C S.T
  here : S.pl.at_.inS S.D.R S.D.C
  nsp : ¬ FG sp
  ntp : ¬ FG tp
  nmb : ¬ FG mb
  spt : sp ≠ tp
  spm : sp ≠ mb
  tpm : tp ≠ mb
  blk : Blanked W
  nbl : ∀ k, k = sp ∨ k = tp ∨ k = mb ∨ FG k → k ≠ 0
def footS (sp tp mb : Nat) (FG : Nat → Prop) (k : Nat) : Prop := k = sp ∨ k = tp ∨ k = mb ∨ FG k
/-- Block sp is a screen that shows S; its blocks are F. -/
def Scr (W : World) (sp : Nat) (F : Nat → Prop) (S : Vz.Sr) : Prop := ∃ gp tp mb FG, ScrAt W sp gp tp mb FG S ∧ ∀ k, F k ↔ footS sp tp mb FG k
theorem ScrAt.of_blocks {W W' : World} {sp gp tp mb : Nat} {FG : Nat → Prop} {S : Vz.Sr} (h : ScrAt W sp gp tp mb FG S) (e : ∀ k, footS sp tp mb FG k → W'.heap[k]? = W.heap[k]?) (hb : W'.heap[0]? = W.heap[0]?) : ScrAt W' sp gp tp mb FG S :=
  ⟨(e _ (.inl rfl)).trans h.box, h.grid.of_blocks fun k hk => e k (.inr (.inr (.inr hk))), h.tabs.of_blocks (e _ (.inr (.inl rfl))) (e _ (.inr (.inr (.inl rfl)))), h.here, h.nsp, h.ntp, h.nmb, h.spt, h.spm, h.tpm, h.blk.of_block hb, h.nbl⟩
theorem ScrAt.lt {W : World} {sp gp tp mb : Nat} {FG : Nat → Prop} {S : Vz.Sr} (h : ScrAt W sp gp tp mb FG S) {k : Nat} (hk : footS sp tp mb FG k) : k < W.heap.size := by
  rcases hk with rfl | rfl | rfl | hk
  · exact block_lt h.box
  · exact h.tabs.lt.1
  · exact h.tabs.lt.2
  · exact h.grid.lt k hk
theorem ScrAt.below {W W' : World} {sp gp tp mb : Nat} {FG : Nat → Prop} {S : Vz.Sr} (h : ScrAt W sp gp tp mb FG S) (hb : Below W.heap.size W W') : ScrAt W' sp gp tp mb FG S :=
  h.of_blocks (fun k hk => hb.block k (h.lt hk)) (hb.block _ h.blk.lt)
theorem Scr.below {W W' : World} {sp : Nat} {F : Nat → Prop} {S : Vz.Sr} (h : Scr W sp F S) (hb : Below W.heap.size W W') : Scr W' sp F S := by
  obtain ⟨gp, tp, mb, FG, h, hF⟩ := h
  exact ⟨gp, tp, mb, FG, h.below hb, hF⟩
theorem Scr.lt {W : World} {sp : Nat} {F : Nat → Prop} {S : Vz.Sr} (h : Scr W sp F S) : ∀ k, F k → k < W.heap.size := by
  obtain ⟨gp, tp, mb, FG, h, hF⟩ := h
  exact fun k hk => h.lt ((hF k).1 hk)
theorem Scr.blk {W : World} {sp : Nat} {F : Nat → Prop} {S : Vz.Sr} (h : Scr W sp F S) : Blanked W ∧ ∀ k, F k → k ≠ 0 := by
  obtain ⟨gp, tp, mb, FG, h, hF⟩ := h
  exact ⟨h.blk, fun k hk => h.nbl k ((hF k).1 hk)⟩
theorem Scr.here {W : World} {sp : Nat} {F : Nat → Prop} {S : Vz.Sr} (h : Scr W sp F S) : S.pl.at_.inS S.D.R S.D.C ∧ S.D.may := by
  obtain ⟨gp, tp, mb, FG, h, hF⟩ := h
  exact ⟨h.here, h.grid.may⟩
/-- A screen behind a call: what it shows, its blocks are old ones of its own or new ones, and nothing else has turned. -/
def ScrTo (w w' : World) (sp : Nat) (F : Nat → Prop) (S' : Vz.Sr) : Prop := (∃ F', Scr w' sp F' S' ∧ ∀ k, F' k → F k ∨ w.heap.size ≤ k) ∧ Keeps F w w'
theorem ScrTo.refl {w : World} {sp : Nat} {F : Nat → Prop} {S : Vz.Sr} (h : Scr w sp F S) : ScrTo w w sp F S := ⟨⟨F, h, fun k hk => .inl hk⟩, Keeps.refl F w⟩
theorem ScrTo.after {w w1 w2 : World} {sp : Nat} {F : Nat → Prop} {S' : Vz.Sr} (hb : Below w.heap.size w w1) (h : ScrTo w1 w2 sp F S') : ScrTo w w2 sp F S' := by
  obtain ⟨⟨F', h1, h2⟩, h3⟩ := h
  exact ⟨⟨F', h1, fun k hk => (h2 k hk).imp id fun hk => Nat.le_trans hb.size hk⟩, (Keeps.of_below hb).trans h3 fun k hk => .inl hk⟩
theorem ScrTo.later {w w1 w2 : World} {sp : Nat} {F : Nat → Prop} {S' : Vz.Sr} (h : ScrTo w w1 sp F S') (hb : Below w1.heap.size w1 w2) : ScrTo w w2 sp F S' := by
  obtain ⟨⟨F', h1, h2⟩, h3⟩ := h
  exact ⟨⟨F', h1.below hb, h2⟩, h3.trans (Keeps.of_below hb : Keeps F w1 w2) fun k hk => .inl hk⟩
theorem ScrTo.trans {w w1 w2 : World} {sp : Nat} {F : Nat → Prop} {S1 S2 : Vz.Sr} (h : ScrTo w w1 sp F S1) (h' : ∀ F', Scr w1 sp F' S1 → ScrTo w1 w2 sp F' S2) : ScrTo w w2 sp F S2 := by
  obtain ⟨⟨F', h1, h2⟩, h3⟩ := h
  obtain ⟨⟨F'', h4, h5⟩, h6⟩ := h' F' h1
  refine ⟨⟨F'', h4, fun k hk => ?_⟩, h3.trans h6 fun k hk => h2 k hk⟩
  rcases h5 k hk with hk | hk
  · exact h2 k hk
  · exact .inr (Nat.le_trans h3.size hk)
theorem ScrTo.link {w w1 w2 : World} {sp : Nat} {F F1 : Nat → Prop} {S2 : Vz.Sr} (hF : ∀ k, F1 k → F k ∨ w.heap.size ≤ k) (hK : Keeps F w w1) (h : ScrTo w1 w2 sp F1 S2) : ScrTo w w2 sp F S2 := by
  obtain ⟨⟨F'', h4, h5⟩, h6⟩ := h
  refine ⟨⟨F'', h4, fun k hk => ?_⟩, hK.trans h6 hF⟩
  rcases h5 k hk with hk | hk
  · exact hF k hk
  · exact .inr (Nat.le_trans hK.size hk)
theorem Keeps.setCell' {F : Nat → Prop} {a b : World} (h : Keeps F a b) {p : Addr} (hp : F p.block) (v : Value) : Keeps F a (b.setCell p v) :=
  h.trans (Keeps.setCell F b hp v) fun k hk => .inl hk
/-- The cursor is laid anew. -/
theorem ScrAt.place {W : World} {sp gp tp mb : Nat} {FG : Nat → Prop} {S : Vz.Sr} (h : ScrAt W sp gp tp mb FG S) (pl : Vz.Pl) (hin : pl.at_.inS S.D.R S.D.C) :
    ScrAt (((W.setCell ⟨sp, 0, none⟩ (.int .i64 pl.at_.row)).setCell ⟨sp, 1, none⟩ (.int .i64 pl.at_.col)).setCell ⟨sp, 2, none⟩ (.bool pl.pend)) sp gp tp mb FG { S with pl := pl } := by
  have ho : ∀ k, k ≠ sp → _ := fun k hk => set_three_other W sp (.int .i64 pl.at_.row) (.int .i64 pl.at_.col) (.bool pl.pend) (k := k) hk
  refine ⟨?_, h.grid.of_blocks fun k hk => ho k (fun e => h.nsp (e ▸ hk)), h.tabs.of_blocks (ho _ h.spt.symm) (ho _ h.spm.symm), hin, h.nsp, h.ntp, h.nmb, h.spt, h.spm, h.tpm, h.blk.of_block (ho _ (h.nbl sp (.inl rfl)).symm), h.nbl⟩
  have h0 := heap_set_same h.box 0 (.int .i64 pl.at_.row)
  have h1 := heap_set_same h0 1 (.int .i64 pl.at_.col)
  have h2 := heap_set_same h1 2 (.bool pl.pend)
  exact h2
theorem ScrTo.place {w W : World} {sp : Nat} {F : Nat → Prop} {S : Vz.Sr} (h : ScrTo w W sp F S) (hsp : F sp) (pl : Vz.Pl) (hin : pl.at_.inS S.D.R S.D.C) :
    ScrTo w (((W.setCell ⟨sp, 0, none⟩ (.int .i64 pl.at_.row)).setCell ⟨sp, 1, none⟩ (.int .i64 pl.at_.col)).setCell ⟨sp, 2, none⟩ (.bool pl.pend)) sp F { S with pl := pl } := by
  obtain ⟨⟨F', ⟨gp, tp, mb, FG, h, hF⟩, h2⟩, hK⟩ := h
  exact ⟨⟨F', ⟨gp, tp, mb, FG, h.place pl hin, hF⟩, h2⟩, ((hK.setCell' (p := ⟨sp, 0, none⟩) hsp _).setCell' (p := ⟨sp, 1, none⟩) hsp _).setCell' (p := ⟨sp, 2, none⟩) hsp _⟩
/-- The grid is another one. -/
theorem ScrAt.gridTo {W W' : World} {sp gp tp mb : Nat} {FG : Nat → Prop} {S : Vz.Sr} {D' : Vz.Gd} (h : ScrAt W sp gp tp mb FG S) (hg : GridTo W W' gp FG D') (hR : D'.R = S.D.R) (hC : D'.C = S.D.C) : ∃ FG', ScrAt W' sp gp tp mb FG' { S with D := D' } ∧ ∀ k, FG' k → FG k ∨ W.heap.size ≤ k := by
  obtain ⟨⟨FG', h1, h2⟩, hK⟩ := hg
  have hs := h.lt (.inl rfl)
  have ht := h.lt (.inr (.inl rfl))
  have hm := h.lt (.inr (.inr (.inl rfl)))
  have hno : ∀ k, k < W.heap.size → ¬ FG k → ¬ FG' k := fun k hk hn hf => by
    rcases h2 k hf with h | h
    · exact hn h
    · omega
  have hgb : ¬ FG 0 := fun hf => h.nbl _ (.inr (.inr (.inr hf))) rfl
  refine ⟨FG', ⟨(hK.block _ hs h.nsp).trans h.box, h1, ?_, ?_, hno _ hs h.nsp, hno _ ht h.ntp, hno _ hm h.nmb, h.spt, h.spm, h.tpm, h.blk.of_block (hK.block _ h.blk.lt hgb), ?_⟩, h2⟩
  · rw [hC]
    exact h.tabs.of_blocks (hK.block _ ht h.ntp) (hK.block _ hm h.nmb)
  · rw [hR, hC]
    exact h.here
  · intro k hk
    rcases hk with rfl | rfl | rfl | hk
    · exact h.nbl _ (.inl rfl)
    · exact h.nbl _ (.inr (.inl rfl))
    · exact h.nbl _ (.inr (.inr (.inl rfl)))
    · rcases h2 k hk with hk | hk
      · exact h.nbl _ (.inr (.inr (.inr hk)))
      · have := h.blk.lt
        omega
theorem Scr.gridTo {W W' : World} {sp gp tp mb : Nat} {FG F : Nat → Prop} {S : Vz.Sr} {D' : Vz.Gd} (h : ScrAt W sp gp tp mb FG S) (hF : ∀ k, F k ↔ footS sp tp mb FG k) (hg : GridTo W W' gp FG D') (hR : D'.R = S.D.R) (hC : D'.C = S.D.C) : ScrTo W W' sp F { S with D := D' } := by
  obtain ⟨FG', h1, h2⟩ := h.gridTo hg hR hC
  refine ⟨⟨footS sp tp mb FG', ⟨gp, tp, mb, FG', h1, fun k => Iff.rfl⟩, fun k hk => ?_⟩, hg.2.mono fun k hk => (hF k).2 (.inr (.inr (.inr hk)))⟩
  rcases hk with rfl | rfl | rfl | hk
  · exact .inl ((hF _).2 (.inl rfl))
  · exact .inl ((hF _).2 (.inr (.inl rfl)))
  · exact .inl ((hF _).2 (.inr (.inr (.inl rfl))))
  · exact (h2 k hk).imp (fun hk => (hF k).2 (.inr (.inr (.inr hk)))) id
theorem row5' {W : World} {g : Nat} {pl : Vz.Pl} {gp tp : Nat} {t : TypeId} (h : W.heap[g]? = some (.cells (scrB pl gp tp) t (0, 0))) : W.cell? ⟨g, 0, none⟩ = some (.int .i64 pl.at_.row) ∧ W.cell? ⟨g, 1, none⟩ = some (.int .i64 pl.at_.col) ∧ W.cell? ⟨g, 2, none⟩ = some (.bool pl.pend) ∧ W.cell? ⟨g, 3, none⟩ = some (.pointer (some ⟨gp, 0, none⟩)) ∧ W.cell? ⟨g, 4, none⟩ = some (.pointer (some ⟨tp, 0, none⟩)) ∧ W.frozen? ⟨g, 0, none⟩ = false ∧ W.frozen? ⟨g, 1, none⟩ = false ∧ W.frozen? ⟨g, 2, none⟩ = false ∧ W.frozen? ⟨g, 3, none⟩ = false ∧ W.frozen? ⟨g, 4, none⟩ = false := row5 h
end Go.Proofs.YtbnkfiaggehmgaaGreatDoor
