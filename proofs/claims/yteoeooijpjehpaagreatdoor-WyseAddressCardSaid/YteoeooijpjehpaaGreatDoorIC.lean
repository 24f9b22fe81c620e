import Derived.Test.YteoeooijpjehpaaGreatDoorHF
import Derived.Lib.AtoiErrMem
import Derived.Test.YteoeooijpjehpaaGreatDoorIA
import Derived.Test.YteoeooijpjehpaaGreatDoorHR
import Derived.Test.YteoeooijpjehpaaGreatDoorHZ
import Derived.Defers

set_option maxRecDepth 100000
set_option maxHeartbeats 16000000
namespace Go.Proofs.YteoeooijpjehpaaGreatDoor
open Go.RowKit
set_option linter.unusedSimpArgs false
set_option linter.unusedVariables false
/- What the library's functions want of the world: two errors, one bound; how they stay. -/
section
structure LibW (w : World) : Prop where
 syn : ∃ t p, w.var? Tryz.prog "strconv.ErrSyntax" = some #[.iface t p]
 ran : ∃ t p, w.var? Tryz.prog "strconv.ErrRange" = some #[.iface t p]
 max : ∃ m, w.cell? ⟨1, 0, none⟩ = some (.int .i64 m)
def isLib (k : Nat) : Prop := k = 2 ∨ k = 3 ∨ k = 1
theorem gSyn : Tryz.prog.globalNamed "strconv.ErrSyntax" = some 2 := by kernel_rfl
theorem gRan : Tryz.prog.globalNamed "strconv.ErrRange" = some 3 := by kernel_rfl
theorem cell_block {w w' : World} {g o : Nat} (e : w'.heap[g]? = w.heap[g]?) : w'.cell? ⟨g, o, none⟩ = w.cell? ⟨g, o, none⟩ := by
 unfold World.cell?
 rw [e]
theorem var?_block {P : Program} {w w' : World} {nm : String} {g : Nat} (hg : P.globalNamed nm = some g) (e : w'.heap[g]? = w.heap[g]?) : w'.var? P nm = w.var? P nm := by
  unfold World.var?
  rw [hg]
  simp only [Option.bind_some, e]
theorem var?_lt {P : Program} {w : World} {nm : String} {g : Nat} {cs : Array Value} (hg : P.globalNamed nm = some g) (h : w.var? P nm = some cs) : g < w.heap.size := by
  unfold World.var? at h
  rw [hg] at h
  simp only [Option.bind_some] at h
  split at h
  · rename_i hh; exact (Array.getElem?_eq_some_iff.1 hh).1
  · cases h
theorem LibW.lt {w : World} (h : LibW w) : ∀ k, isLib k → k < w.heap.size := by
 obtain ⟨t, p, h1⟩ := h.syn
 obtain ⟨t', p', h2⟩ := h.ran
 obtain ⟨m, h3⟩ := h.max
 rintro k (rfl | rfl | rfl)
 · exact var?_lt gSyn h1
 · exact var?_lt gRan h2
 · exact World.block_lt_of_cell? w _ h3
theorem LibW.of_blocks {w w' : World} (h : LibW w) (e : ∀ k, isLib k → w'.heap[k]? = w.heap[k]?) : LibW w' := by
 obtain ⟨t, p, h1⟩ := h.syn
 obtain ⟨t', p', h2⟩ := h.ran
 obtain ⟨m, h3⟩ := h.max
 exact ⟨⟨t, p, (var?_block gSyn (e _ (.inl rfl))).trans h1⟩, ⟨t', p', (var?_block gRan (e _ (.inr (.inl rfl)))).trans h2⟩, ⟨m, (cell_block (e _ (.inr (.inr rfl)))).trans h3⟩⟩
theorem LibW.below {w w' : World} (h : LibW w) (hb : Below w.heap.size w w') : LibW w' := h.of_blocks fun k hk => hb.block k (h.lt k hk)
theorem LibW.keeps {w w' : World} {K : Nat → Prop} (h : LibW w) (hk : Keeps K w w') (hn : ∀ k, isLib k → ¬ K k) : LibW w' := h.of_blocks fun k hl => hk.block k (h.lt k hl) (hn k hl)
structure BaseW (w : World) : Prop where
 bl : Blanked w
 lib : LibW w
theorem BaseW.below {w w' : World} (h : BaseW w) (hb : Below w.heap.size w w') : BaseW w' := ⟨h.bl.below hb, h.lib.below hb⟩
end
section
def wyB (sp qp : Nat) (A : Wy) : Array Value := #[.pointer (some ⟨sp, 0, none⟩), .pointer (some ⟨qp, 0, none⟩), .bool A.gd, .bool A.pr, .bool A.gr, .bool A.ins, .bool A.emb, .int .i64 A.attr, .string ⟨A.status.toArray⟩, .string ⟨A.seq.toArray⟩]
structure WyAt (W : World) (tp sp qp lb fr : Nat) (F : Nat → Prop) (A : Wy) : Prop where
 box : W.heap[tp]? = some (.cells (wyB sp qp A) 75 (0, 0))
 scr : Scr W sp F A.S
 que : QueAt W qp lb fr A.most A.q A.over
 len : A.seq.length ≤ 64
 ntp : ¬ F tp
 nqp : ¬ F qp
 nlb : ¬ F lb
 tq : tp ≠ qp
 tl : tp ≠ lb
 nbl : ∀ k, k = tp ∨ k = qp ∨ k = lb → k ≠ 0
 lib : LibW W
 nli : ∀ k, k = tp ∨ k = qp ∨ k = lb ∨ F k → ¬ isLib k
def footY (tp qp lb : Nat) (F : Nat → Prop) (k : Nat) : Prop := k = tp ∨ k = qp ∨ k = lb ∨ F k
def WTerm (W : World) (tp sp qp : Nat) (FT : Nat → Prop) (A : Wy) : Prop := ∃ lb fr F, WyAt W tp sp qp lb fr F A ∧ ∀ k, FT k ↔ footY tp qp lb F k
section
variable {w W W' w' : World} {tp sp qp lb fr : Nat} {F FT K : Nat → Prop} {A A' : Wy} {S' : Vz.Sr}
theorem WyAt.of_blocks (h : WyAt W tp sp qp lb fr F A) (e : ∀ k, footY tp qp lb F k → W'.heap[k]? = W.heap[k]?) (hs : Scr W' sp F A.S) (hl : LibW W') : WyAt W' tp sp qp lb fr F A :=
 ⟨(e _ (.inl rfl)).trans h.box, hs, h.que.of_blocks (e _ (.inr (.inl rfl))) (e _ (.inr (.inr (.inl rfl)))), h.len, h.ntp, h.nqp, h.nlb, h.tq, h.tl, h.nbl, hl, h.nli⟩
theorem WyAt.lt (h : WyAt W tp sp qp lb fr F A) {k : Nat} (hk : footY tp qp lb F k) : k < W.heap.size := by
 rcases hk with rfl | rfl | rfl | hk
 · exact block_lt h.box
 · exact h.que.lt.1
 · exact h.que.lt.2
 · exact h.scr.lt k hk
theorem WyAt.below (h : WyAt W tp sp qp lb fr F A) (hb : Below W.heap.size W W') : WyAt W' tp sp qp lb fr F A :=
 h.of_blocks (fun k hk => hb.block k (h.lt hk)) (h.scr.below hb) (h.lib.below hb)
theorem WTerm.lt (h : WTerm W tp sp qp FT A) : ∀ k, FT k → k < W.heap.size := by
 obtain ⟨lb, fr, F, h, hF⟩ := h
 exact fun k hk => h.lt ((hF k).1 hk)
theorem WTerm.below (h : WTerm W tp sp qp FT A) (hb : Below W.heap.size W W') : WTerm W' tp sp qp FT A := by
 obtain ⟨lb, fr, F, h, hF⟩ := h
 exact ⟨lb, fr, F, h.below hb, hF⟩
theorem WTerm.blk (h : WTerm W tp sp qp FT A) : Blanked W ∧ ∀ k, FT k → k ≠ 0 := by
 obtain ⟨lb, fr, F, h, hF⟩ := h
 refine ⟨h.scr.blk.1, fun k hk => ?_⟩
 rcases (hF k).1 hk with hk | hk | hk | hk
 · exact h.nbl k (.inl hk)
 · exact h.nbl k (.inr (.inl hk))
 · exact h.nbl k (.inr (.inr hk))
 · exact h.scr.blk.2 k hk
theorem WTerm.lib (h : WTerm W tp sp qp FT A) : LibW W ∧ ∀ k, FT k → ¬ isLib k := by
 obtain ⟨lb, fr, F, h, hF⟩ := h
 exact ⟨h.lib, fun k hk => h.nli k ((hF k).1 hk)⟩
theorem WTerm.keeps (h : WTerm W tp sp qp FT A) (hk : Keeps K W W') (hd : ∀ k, FT k → ¬ K k) (hb : ¬ K 0) (hl : ∀ k, isLib k → ¬ K k) : WTerm W' tp sp qp FT A := by
 have hlt := h.lt
 obtain ⟨lb, fr, F, h, hF⟩ := h
 have he : ∀ k, footY tp qp lb F k → W'.heap[k]? = W.heap[k]? := fun k hf => hk.block k (h.lt hf) (hd k ((hF k).2 hf))
 refine ⟨lb, fr, F, h.of_blocks he ?_ (h.lib.keeps hk hl), hF⟩
 obtain ⟨gp, tp', mb, FG, hA, hG⟩ := h.scr
 exact ⟨gp, tp', mb, FG, hA.of_blocks (fun k hf => he k (.inr (.inr (.inr ((hG k).2 hf))))) (hk.block _ hA.blk.lt hb), hG⟩
def WTermTo (w w' : World) (tp sp qp : Nat) (FT : Nat → Prop) (A' : Wy) : Prop := (∃ F', WTerm w' tp sp qp F' A' ∧ ∀ k, F' k → FT k ∨ w.heap.size ≤ k) ∧ Keeps FT w w'
theorem WTermTo.refl (h : WTerm w tp sp qp F A) : WTermTo w w tp sp qp F A := ⟨⟨F, h, fun k hk => .inl hk⟩, Keeps.refl F w⟩
theorem WTermTo.after {w w1 w2 : World} (hb : Below w.heap.size w w1) (h : WTermTo w1 w2 tp sp qp F A') : WTermTo w w2 tp sp qp F A' := by
 obtain ⟨⟨F', h1, h2⟩, h3⟩ := h
 exact ⟨⟨F', h1, fun k hk => (h2 k hk).imp id fun hk => Nat.le_trans hb.size hk⟩, (Keeps.of_below hb).trans h3 fun k hk => .inl hk⟩
theorem WTermTo.later {w w1 w2 : World} (h : WTermTo w w1 tp sp qp F A') (hb : Below w1.heap.size w1 w2) : WTermTo w w2 tp sp qp F A' := by
 obtain ⟨⟨F', h1, h2⟩, h3⟩ := h
 exact ⟨⟨F', h1.below hb, h2⟩, h3.trans (Keeps.of_below hb : Keeps F w1 w2) fun k hk => .inl hk⟩
theorem WTermTo.link {w w1 w2 : World} {F F1 : Nat → Prop} {A2 : Wy} (hF : ∀ k, F1 k → F k ∨ w.heap.size ≤ k) (hK : Keeps F w w1) (h : WTermTo w1 w2 tp sp qp F1 A2) : WTermTo w w2 tp sp qp F A2 := by
 obtain ⟨⟨F'', h4, h5⟩, h6⟩ := h
 refine ⟨⟨F'', h4, fun k hk => ?_⟩, hK.trans h6 hF⟩
 rcases h5 k hk with hk | hk
 · exact hF k hk
 · exact .inr (Nat.le_trans hK.size hk)
theorem WTermTo.trans {w w1 w2 : World} {A1 A2 : Wy} (h : WTermTo w w1 tp sp qp F A1) (h' : ∀ F', WTerm w1 tp sp qp F' A1 → WTermTo w1 w2 tp sp qp F' A2) : WTermTo w w2 tp sp qp F A2 := by
 obtain ⟨⟨F', h1, h2⟩, h3⟩ := h
 exact WTermTo.link h2 h3 (h' F' h1)
theorem WTerm.scrTo (h : WyAt w tp sp qp lb fr F A) (hF : ∀ k, FT k ↔ footY tp qp lb F k) (hs : ScrTo w w' sp F S') : WTermTo w w' tp sp qp FT { A with S := S' } := by
 obtain ⟨⟨F', h1, h2⟩, hK⟩ := hs
 have hn : ∀ k, k < w.heap.size → ¬ F k → ¬ F' k := fun k hk hf hf' => by
  rcases h2 k hf' with h | h
  · exact hf h
  · omega
 have ht := block_lt h.box
 obtain ⟨hq, hl⟩ := h.que.lt
 refine ⟨⟨footY tp qp lb F', ⟨lb, fr, F', ⟨(hK.block _ ht h.ntp).trans h.box, h1, h.que.of_blocks (hK.block _ hq h.nqp) (hK.block _ hl h.nlb), h.len, hn _ ht h.ntp, hn _ hq h.nqp, hn _ hl h.nlb, h.tq, h.tl, h.nbl, h.lib.keeps hK (fun k hl hf => h.nli k (.inr (.inr (.inr hf))) hl), fun k hk hl => ?_⟩, fun k => Iff.rfl⟩, fun k hk => ?_⟩, hK.mono fun k hk => (hF k).2 (.inr (.inr (.inr hk)))⟩
 · rcases hk with e | e | e | hk
   · exact h.nli k (.inl e) hl
   · exact h.nli k (.inr (.inl e)) hl
   · exact h.nli k (.inr (.inr (.inl e))) hl
   · rcases h2 k hk with h3 | h3
     · exact h.nli k (.inr (.inr (.inr h3))) hl
     · have := h.lib.lt k hl
       omega
 rcases hk with rfl | rfl | rfl | hk
 · exact .inl ((hF _).2 (.inl rfl))
 · exact .inl ((hF _).2 (.inr (.inl rfl)))
 · exact .inl ((hF _).2 (.inr (.inr (.inl rfl))))
 · exact (h2 k hk).imp (fun h => (hF k).2 (.inr (.inr (.inr h)))) id
theorem WTerm.queTo {q : List UInt8} {over : Bool} (h : WyAt w tp sp qp lb fr F A) (hF : ∀ k, FT k ↔ footY tp qp lb F k) (hs : QueTo w w' qp lb A.most q over) : WTermTo w w' tp sp qp FT { A with q := q, over := over } := by
 obtain ⟨⟨fr', h1⟩, hK⟩ := hs
 have ht := block_lt h.box
 have hbn : ¬ (0 = qp ∨ 0 = lb) := by
  rintro (e | e)
  · exact h.nbl _ (.inr (.inl rfl)) e.symm
  · exact h.nbl _ (.inr (.inr rfl)) e.symm
 have hscr : Scr w' sp F A.S := by
  obtain ⟨gp, tp', mb, FG, hA, hG⟩ := h.scr
  refine ⟨gp, tp', mb, FG, hA.of_blocks (fun k hf => hK.block _ (hA.lt hf) ?_) (hK.block _ hA.blk.lt hbn), hG⟩
  rintro (rfl | rfl)
  · exact h.nqp ((hG _).2 hf)
  · exact h.nlb ((hG _).2 hf)
 refine ⟨⟨FT, ⟨lb, fr', F, ⟨(hK.block _ ht ?_).trans h.box, hscr, h1, h.len, h.ntp, h.nqp, h.nlb, h.tq, h.tl, h.nbl, h.lib.keeps hK (fun k hl hf => h.nli k (hf.elim (fun e => .inr (.inl e)) (fun e => .inr (.inr (.inl e)))) hl), h.nli⟩, hF⟩, fun k hk => .inl hk⟩, hK.mono ?_⟩
 · rintro (e | e)
   · exact h.tq e
   · exact h.tl e
 · rintro k (e | e)
   · exact (hF k).2 (.inr (.inl e))
   · exact (hF k).2 (.inr (.inr (.inl e)))
theorem WTerm.boxed (h : WyAt w tp sp qp lb fr F A) (hF : ∀ k, FT k ↔ footY tp qp lb F k) (hS : A'.S = A.S) (hq : A'.q = A.q) (ho : A'.over = A.over) (hm : A'.most = A.most)
 (hbox : w'.heap[tp]? = some (.cells (wyB sp qp A') 75 (0, 0))) (hlen : A'.seq.length ≤ 64) (hK : Keeps (fun k => k = tp) w w') :
 WTermTo w w' tp sp qp FT A' := by
 have hbn : ¬ (0 = tp) := fun e => h.nbl _ (.inl rfl) e.symm
 have hscr : Scr w' sp F A.S := by
  obtain ⟨gp, tp', mb, FG, hA, hG⟩ := h.scr
  refine ⟨gp, tp', mb, FG, hA.of_blocks (fun k hf => hK.block _ (hA.lt hf) ?_) (hK.block _ hA.blk.lt hbn), hG⟩
  rintro rfl
  exact h.ntp ((hG _).2 hf)
 obtain ⟨hq', hl⟩ := h.que.lt
 refine ⟨⟨footY tp qp lb F, ⟨lb, fr, F, ⟨hbox, by rw [hS]; exact hscr, by rw [hq, ho, hm]; exact h.que.of_blocks (hK.block _ hq' h.tq.symm) (hK.block _ hl h.tl.symm), hlen, h.ntp, h.nqp, h.nlb, h.tq, h.tl, h.nbl, h.lib.keeps hK (fun k hl e => h.nli k (.inl e) hl), h.nli⟩, fun k => Iff.rfl⟩, fun k hk => .inl ((hF k).2 hk)⟩, hK.mono ?_⟩
 rintro k rfl
 exact (hF k).2 (.inl rfl)
end
theorem row10 {W : World} {g : Nat} {a b c d e f x y z u : Value} {t : TypeId} (h : W.heap[g]? = some (.cells #[a, b, c, d, e, f, x, y, z, u] t (0, 0))) : W.cell? ⟨g, 0, none⟩ = some a ∧ W.cell? ⟨g, 1, none⟩ = some b ∧ W.cell? ⟨g, 2, none⟩ = some c ∧ W.cell? ⟨g, 3, none⟩ = some d ∧ W.cell? ⟨g, 4, none⟩ = some e ∧ W.cell? ⟨g, 5, none⟩ = some f ∧ W.cell? ⟨g, 6, none⟩ = some x ∧ W.cell? ⟨g, 7, none⟩ = some y ∧ W.cell? ⟨g, 8, none⟩ = some z ∧ W.cell? ⟨g, 9, none⟩ = some u ∧ W.frozen? ⟨g, 2, none⟩ = false ∧ W.frozen? ⟨g, 3, none⟩ = false ∧ W.frozen? ⟨g, 4, none⟩ = false ∧ W.frozen? ⟨g, 5, none⟩ = false ∧ W.frozen? ⟨g, 6, none⟩ = false ∧ W.frozen? ⟨g, 7, none⟩ = false ∧ W.frozen? ⟨g, 8, none⟩ = false ∧ W.frozen? ⟨g, 9, none⟩ = false :=
 ⟨cell_row h 0, cell_row h 1, cell_row h 2, cell_row h 3, cell_row h 4, cell_row h 5, cell_row h 6, cell_row h 7, cell_row h 8, cell_row h 9, frozen_row h 2, frozen_row h 3, frozen_row h 4, frozen_row h 5, frozen_row h 6, frozen_row h 7, frozen_row h 8, frozen_row h 9⟩
end
section
attribute [local go_sem] alloc_drewN setCell_drewN World.cell?_alloc_some frozen_alloc_some size_f0 size_f1
structure Wys (w : World) (tp sp qp : Nat) (A : Wy) (F : Nat → Prop) (S : Vz.Sr) : Prop where
 box : w.heap[tp]? = some (.cells (wyB sp qp A) 75 (0, 0))
 scr : Scr w sp F S
 ntp : ¬ F tp
theorem Wys.below {w W : World} {tp sp qp : Nat} {A : Wy} {F : Nat → Prop} {S : Vz.Sr} (h : Wys w tp sp qp A F S) (hb : Below w.heap.size w W) : Wys W tp sp qp A F S :=
 ⟨(hb.block _ (block_lt h.box)).trans h.box, h.scr.below hb, h.ntp⟩
theorem Wys.cells {w : World} {tp sp qp : Nat} {A : Wy} {F : Nat → Prop} {S : Vz.Sr} (h : Wys w tp sp qp A F S) : w.cell? ⟨tp, 0, none⟩ = some (.pointer (some ⟨sp, 0, none⟩)) ∧ w.cell? ⟨tp, 1, none⟩ = some (.pointer (some ⟨qp, 0, none⟩)) ∧ w.cell? ⟨tp, 2, none⟩ = some (.bool A.gd) ∧ w.cell? ⟨tp, 3, none⟩ = some (.bool A.pr) ∧ w.cell? ⟨tp, 4, none⟩ = some (.bool A.gr) ∧ w.cell? ⟨tp, 5, none⟩ = some (.bool A.ins) ∧ w.cell? ⟨tp, 6, none⟩ = some (.bool A.emb) ∧ w.cell? ⟨tp, 7, none⟩ = some (.int .i64 A.attr) ∧ w.cell? ⟨tp, 8, none⟩ = some (.string ⟨A.status.toArray⟩) ∧ w.cell? ⟨tp, 9, none⟩ = some (.string ⟨A.seq.toArray⟩) :=
 ⟨cell_row h.box 0, cell_row h.box 1, cell_row h.box 2, cell_row h.box 3, cell_row h.box 4, cell_row h.box 5, cell_row h.box 6, cell_row h.box 7, cell_row h.box 8, cell_row h.box 9⟩
theorem Wys.to {w w' : World} {tp sp qp : Nat} {A : Wy} {F : Nat → Prop} {S S' : Vz.Sr} (h : Wys w tp sp qp A F S) (ht : ScrTo w w' sp F S') : ∃ F', Wys w' tp sp qp A F' S' ∧ (∀ k, F' k → F k ∨ w.heap.size ≤ k) ∧ Keeps F w w' := by
 obtain ⟨⟨F', h1, h2⟩, hK⟩ := ht
 refine ⟨F', ⟨(hK.block _ (block_lt h.box) h.ntp).trans h.box, h1, fun hf => ?_⟩, h2, hK⟩
 rcases h2 tp hf with h3 | h3
 · exact h.ntp h3
 · have := block_lt h.box
   omega
theorem Wys.seq {w w1 w2 : World} {tp sp qp : Nat} {A : Wy} {F : Nat → Prop} {S S1 S2 : Vz.Sr} (h : Wys w tp sp qp A F S) (ht : ScrTo w w1 sp F S1) (k : ∀ F', Wys w1 tp sp qp A F' S1 → ScrTo w1 w2 sp F' S2) : ScrTo w w2 sp F S2 := by
 obtain ⟨F', h1, h2, h3⟩ := h.to ht
 exact ScrTo.link h2 h3 (k F' h1)
theorem wys_column {w : World} {tp sp qp : Nat} {A : Wy} {F : Nat → Prop} {S : Vz.Sr} (h : Wys w tp sp qp A F S) (c : Int) : Calls Tryz.prog 90 #[.pointer (some ⟨tp, 0, none⟩), .int .i64 c] w fun e w' => e = .returned (.tuple #[]) ∧ ScrTo w w' sp F (columnS S c) := by
 have HA := Lib.hid (fun W (hb : Below w.heap.size w W) => h.below hb)
 obtain ⟨t0, _⟩ := h.cells
 have HCU := Lib.hid (scr_cursor sp F S w h.scr)
 clear h
 go_enter Tryz.func90, Tryz.ntmps90
 go_upto_region 1 with (go_at_call 22; refine HCU.out.mono ?_; rintro e w1 ⟨rfl, hb1⟩; have HB1 := Lib.hid hb1; clear hb1)
 have HB2 : Hid (Below w.heap.size w (w1.alloc (.cells #[.int .i64 S.pl.at_.row, .int .i64 S.pl.at_.col] 49)).drew) := (HB1.out.alloc HB1.out.size _).drew
 have HX : Hid ((w1.alloc (.cells #[.int .i64 S.pl.at_.row, .int .i64 S.pl.at_.col] 49)).drew.heap[w1.heap.size]? = some (.cells #[.int .i64 S.pl.at_.row, .int .i64 S.pl.at_.col] 49 (0, 0))) := heap_alloc_new w1 _
 refine wp_region_noPanic ?_
 refine wp_region_k (S := fun W : World => Below w.heap.size w W ∧ W.heap[w1.heap.size]? = some (.cells #[.int .i64 S.pl.at_.row, .int .i64 S.pl.at_.col] 49 (0, 0))) 8 (by kernel_rfl) (⟨HB2.out, HX.out⟩) (fun hHeld => ?_)
 refine kSK 0 hHeld ?_
 refine kSK 1 hHeld ?_
 refine kSK 2 hHeld ?_
 refine kTK (v := ?_) 3 [] hHeld ?y4 ?_
 case y4 => (intro W hSw; obtain ⟨y0, _⟩ := (HA.out _ hSw.1).cells; obtain ⟨p0, p1, _⟩ := row2 hSw.2; go_simp; try with_reducible rfl)
 refine kSK 4 hHeld ?_
 try refine kNK ?_
 refine kTK (v := ?_) 5 [7] hHeld ?y6 ?_
 case y6 => (intro W hSw; obtain ⟨y0, _⟩ := (HA.out _ hSw.1).cells; obtain ⟨p0, p1, _⟩ := row2 hSw.2; go_simp; try with_reducible rfl)
 refine kSK 6 hHeld ?_
 refine kSK 7 hHeld ?_
 try refine kNK ?_
 refine kPK 8 fun KQ hKQ => ?_
 go_simp
 go_at_call 59
 refine (scr_move sp F S ⟨S.pl.at_.row, c⟩ _ (HA.out _ HB2.out).scr).mono ?_
 rintro e w2 ⟨rfl, ht⟩
 have HT := Lib.hid ht
 clear ht
 go_wp2_with fail
 refine hKQ.out _ _ ?_
 clear hKQ KQ
 try refine kNK ?_
 refine wpAnyK_done (by kernel_rfl) ?_ _
 refine NoPanic.normal ?_
 go_wp2_with fail
 go_end0
 exact ⟨rfl, ScrTo.after HB2.out HT.out⟩
theorem wys_cleared {w : World} {tp sp qp : Nat} {A : Wy} {F : Nat → Prop} {S : Vz.Sr} (h : Wys w tp sp qp A F S) : Calls Tryz.prog 34 #[.pointer (some ⟨tp, 0, none⟩)] w fun e w' => e = .returned (.tuple #[]) ∧ ScrTo w w' sp F (clearS S A.pr) := by
 have HA := Lib.hid (fun W (hb : Below w.heap.size w W) => h.below hb)
 have H := Lib.hid h
 clear h
 go_enter Tryz.func34, Tryz.ntmps34
 go_upto_region 0 with fail
 have HB : Hid (Below w.heap.size w w.drew) := (Below.refl _ _).drew
 refine wp_region_noPanic ?_
 refine wp_region_k (S := fun W : World => Below w.heap.size w W) 10 (by kernel_rfl) (HB.out) (fun hHeld => ?_)
 refine kSK 0 hHeld ?_
 refine kSK 1 hHeld ?_
 refine kSK 2 hHeld ?_
 refine kTK (v := ?_) 3 [] hHeld ?y4 ?_
 case y4 => (intro W hSw; obtain ⟨y0, y1, y2, y3, _⟩ := (HA.out _ hSw).cells; obtain ⟨g0, g1, g2, g3⟩ := (HA.out _ hSw).scr.blk.1.cells; go_simp; try with_reducible rfl)
 refine kTK (v := ?_) 4 [] hHeld ?y5 ?_
 case y5 => (intro W hSw; obtain ⟨y0, y1, y2, y3, _⟩ := (HA.out _ hSw).cells; obtain ⟨g0, g1, g2, g3⟩ := (HA.out _ hSw).scr.blk.1.cells; go_simp; try with_reducible rfl)
 try refine kNK ?_
 refine kSK 5 hHeld ?_
 refine kSK 6 hHeld ?_
 refine kSK 7 hHeld ?_
 refine kSK 8 hHeld ?_
 refine kTK (v := ?_) 9 [] hHeld ?y10 ?_
 case y10 => (intro W hSw; obtain ⟨y0, y1, y2, y3, _⟩ := (HA.out _ hSw).cells; obtain ⟨g0, g1, g2, g3⟩ := (HA.out _ hSw).scr.blk.1.cells; go_simp; try with_reducible rfl)
 try refine kNK ?_
 refine kPK 10 fun KQ hKQ => ?_
 go_simp
 go_at_call 58
 refine (scr_part sp F S 1 Vz.Cl.blank A.pr _ (HA.out _ HB.out).scr).mono ?_
 rintro e w1 ⟨rfl, ht⟩
 have HT := Lib.hid (show ScrTo w w1 sp F (partS S 1 Vz.Cl.blank A.pr) from ScrTo.after HB.out ht)
 clear ht
 go_wp2_with fail
 refine hKQ.out _ _ ?_
 clear hKQ KQ
 try refine kNK ?_
 refine wpAnyK_done (by kernel_rfl) ?_ _
 refine NoPanic.normal ?_
 obtain ⟨F1, ha, hf, hk⟩ := H.out.to HT.out
 have HA1 := Lib.hid ha
 obtain ⟨z0, _⟩ := ha.cells
 clear ha
 go_wp2_with (go_at_call 59; refine (scr_move sp F1 (partS S 1 Vz.Cl.blank A.pr) ⟨0, 0⟩ _ HA1.out.scr).mono ?_; rintro e w2 ⟨rfl, ht⟩; have HT2 := Lib.hid ht; clear ht)
 go_end0
 exact ⟨rfl, ScrTo.link hf hk HT2.out⟩
theorem wys_feed {w : World} {tp sp qp : Nat} {A : Wy} {F : Nat → Prop} {S : Vz.Sr} (h : Wys w tp sp qp A F S) : Calls Tryz.prog 89 #[.pointer (some ⟨tp, 0, none⟩)] w fun e w' => e = .returned (.tuple #[]) ∧ ScrTo w w' sp F (lfeedS S A.pr) := by
 have HA := Lib.hid (fun W (hb : Below w.heap.size w W) => h.below hb)
 obtain ⟨t0, t1, t2, t3, _⟩ := h.cells
 have HCU := Lib.hid (scr_cursor sp F S w h.scr)
 obtain ⟨m1, m2, m3, m4⟩ := h.scr.here.2
 obtain ⟨q1, q2, q3, q4⟩ := h.scr.here.1
 have hww : IntKind.i64.wrap ((S.D.R : Int) - 1) = (S.D.R : Int) - 1 := wrap_in (by omega) (by omega)
 cases hpr : A.pr
 · rw [hpr] at t3
   clear h
   have HE : Hid (lfeedS S false = feedS S 1) := rfl
   rw [HE.out]
   go_enter Tryz.func89, Tryz.ntmps89
   go_wp2_with (first
    | (go_at_call 22; refine HCU.out.mono ?_; rintro e w1 ⟨rfl, hb1⟩; have HB1 := Lib.hid (hb1.alloc hb1.size (.cells #[.int .i64 S.pl.at_.row, .int .i64 S.pl.at_.col] 49)); obtain ⟨y0, y1, y2, y3, _⟩ := (HA.out _ HB1.out).cells; clear hb1)
    | (go_at_call 127; refine (scr_feed sp F S 1 _ (HA.out _ HB1.out).scr).mono ?_; rintro e w2 ⟨rfl, ht⟩; have HT := Lib.hid (ScrTo.after HB1.out ht); clear ht))
   go_end0
   exact ⟨rfl, HT.out⟩
 · rw [hpr] at t3
   have HSZ := Lib.hid (fun W (hb : Below w.heap.size w W) => scr_size sp F S W (h.below hb).scr)
   have HE : Hid (lfeedS S true = if S.pl.at_.row = (S.D.R : Int) - 1 then moveS S ⟨0, S.pl.at_.col⟩ else stepS S 1 0) := rfl
   rw [HE.out]
   clear h
   go_enter Tryz.func89, Tryz.ntmps89
   go_upto_region 4 with (go_at_call 22; refine HCU.out.mono ?_; rintro e w1 ⟨rfl, hb1⟩; have HB1 := Lib.hid (hb1.alloc hb1.size (.cells #[.int .i64 S.pl.at_.row, .int .i64 S.pl.at_.col] 49)); obtain ⟨y0, y1, y2, y3, _⟩ := (HA.out _ HB1.out).cells; clear hb1)
   clear y0 y1 y2 y3
   have HB2 : Hid (Below w.heap.size w (w1.alloc (.cells #[.int .i64 S.pl.at_.row, .int .i64 S.pl.at_.col] 49)).drew) := HB1.out.drew
   have HX : Hid ((w1.alloc (.cells #[.int .i64 S.pl.at_.row, .int .i64 S.pl.at_.col] 49)).drew.heap[w1.heap.size]? = some (.cells #[.int .i64 S.pl.at_.row, .int .i64 S.pl.at_.col] 49 (0, 0))) := heap_alloc_new w1 _
   refine wp_region_noPanic ?_
   refine wp_region_k (S := fun W : World => Below w.heap.size w W ∧ W.heap[w1.heap.size]? = some (.cells #[.int .i64 S.pl.at_.row, .int .i64 S.pl.at_.col] 49 (0, 0))) 999 (by kernel_rfl) (⟨HB2.out, HX.out⟩) (fun hHeld => ?_)
   refine kSK 0 hHeld ?_
   refine kHK (v := ?_) 1 hHeld ?y2 ?_
   case y2 => (intro W hSw; obtain ⟨y0, _⟩ := (HA.out _ hSw.1).cells; obtain ⟨p0, p1, _⟩ := row2 hSw.2; go_simp; try with_reducible rfl)
   refine kSK 2 hHeld ?_
   refine kSK 3 hHeld ?_
   refine kSK 4 hHeld ?_
   try refine kNK ?_
   refine kHK (v := ?_) 5 hHeld ?y6 ?_
   case y6 => (intro W hSw; obtain ⟨y0, _⟩ := (HA.out _ hSw.1).cells; obtain ⟨p0, p1, _⟩ := row2 hSw.2; go_simp; try with_reducible rfl)
   try refine kNK ?_
   refine kOK 6 fun KQ hKQ => ?_
   go_simp
   go_at_call 103
   refine (HSZ.out _ HB2.out).mono ?_
   rintro e w2 ⟨rfl, hb2⟩
   have HB3 := Lib.hid (Below.later HB2.out hb2 HB2.out.size)
   have HX3 := Lib.hid ((hb2.block _ (block_lt HX.out)).trans HX.out)
   clear hb2
   go_wp2_with fail
   refine hKQ.out _ _ (⟨HB3.out, HX3.out⟩) ?_
   clear hHeld hKQ KQ
   intro hHeld
   try refine kNK ?_
   refine kSK 7 hHeld ?_
   refine kSK 8 hHeld ?_
   refine kSK 9 hHeld ?_
   refine kSK 10 hHeld ?_
   try refine kNK ?_
   refine wpAnyK_done (by kernel_rfl) ?_ _
   refine NoPanic.normal ?_
   by_cases hrow : S.pl.at_.row = (S.D.R : Int) - 1
   · have HR := Lib.hid hrow
     have hbq : (S.pl.at_.row == (S.D.R : Int) - 1) = true := by simp [hrow]
     rw [hbq]
     clear hrow hbq hHeld
     go_upto_region 5 with fail
     have HB4 : Hid (Below w.heap.size w w2.drew) := HB3.out.drew
     have HX4 : Hid (w2.drew.heap[w1.heap.size]? = some (.cells #[.int .i64 S.pl.at_.row, .int .i64 S.pl.at_.col] 49 (0, 0))) := HX3.out
     refine wp_region_noPanic ?_
     refine wp_region_k (S := fun W : World => Below w.heap.size w W ∧ W.heap[w1.heap.size]? = some (.cells #[.int .i64 S.pl.at_.row, .int .i64 S.pl.at_.col] 49 (0, 0))) 7 (by kernel_rfl) (⟨HB4.out, HX4.out⟩) (fun hHeld => ?_)
     refine kSK 0 hHeld ?_
     refine kSK 1 hHeld ?_
     refine kSK 2 hHeld ?_
     refine kTK (v := ?_) 3 [] hHeld ?y4 ?_
     case y4 => (intro W hSw; obtain ⟨y0, _⟩ := (HA.out _ hSw.1).cells; obtain ⟨p0, p1, _⟩ := row2 hSw.2; go_simp; try with_reducible rfl)
     refine kSK 4 hHeld ?_
     try refine kNK ?_
     refine kTK (v := ?_) 5 [6] hHeld ?y6 ?_
     case y6 => (intro W hSw; obtain ⟨y0, _⟩ := (HA.out _ hSw.1).cells; obtain ⟨p0, p1, _⟩ := row2 hSw.2; go_simp; try with_reducible rfl)
     refine kSK 6 hHeld ?_
     try refine kNK ?_
     refine kPK 7 fun KQ hKQ => ?_
     go_simp
     go_at_call 59
     refine (scr_move sp F S ⟨0, S.pl.at_.col⟩ _ (HA.out _ HB4.out).scr).mono ?_
     rintro e w3 ⟨rfl, ht⟩
     have HT := Lib.hid ht
     clear ht
     go_wp2_with fail
     refine hKQ.out _ _ ?_
     clear hKQ KQ
     try refine kNK ?_
     refine wpAnyK_done (by kernel_rfl) ?_ _
     refine NoPanic.normal ?_
     go_wp2_with fail
     go_end0
     exact ⟨rfl, ScrTo.after HB4.out HT.out⟩
   · obtain ⟨y0, y1, y2, y3, _⟩ := (HA.out _ HB3.out).cells
     have HR := Lib.hid hrow
     have hbq : (S.pl.at_.row == (S.D.R : Int) - 1) = false := by simp [hrow]
     rw [hbq]
     clear hrow hbq hHeld
     go_wp2_with (go_at_call 87; refine (scr_step sp F S 1 0 _ (HA.out _ HB3.out).scr).mono ?_; rintro e w3 ⟨rfl, ht⟩; have HT := Lib.hid ht; clear ht)
     go_end0
     exact ⟨rfl, ScrTo.after HB3.out HT.out⟩
theorem wy_told (n : Int) (h0 : 0 ≤ n) (h1 : n < 255) (w : World) : Calls Tryz.prog 139 #[.int .i64 n] w fun e w' => e = .returned (.int .u8 (toldA n).toNat) ∧ w = w' := by
 have hw1 : IntKind.i64.wrap (n + 32) = n + 32 := wrap_in (by omega) (by omega)
 have hT : ((toldA n).toNat : Int) = min (n + 32) 126 := by
  unfold toldA
  rw [UInt8.toNat_ofNat']
  omega
 have HT := Lib.hid hT
 by_cases hn : n + 32 < 126
 · have hm : min (n + 32) 126 = n + 32 := by omega
   have hw2 : IntKind.u8.wrap (n + 32) = n + 32 := by simp [IntKind.wrap, IntKind.bits, IntKind.signed]; omega
   have hlt2 : ¬ (126 : Int) < n + 32 := by omega
   go_enter Tryz.func139, Tryz.ntmps139
   go_wp2_with fail
   go_ret
   exact ⟨rfl, rfl⟩
 · have hm : min (n + 32) 126 = 126 := by omega
   have hge : (126 : Int) ≤ n + 32 := by omega
   go_enter Tryz.func139, Tryz.ntmps139
   go_wp2_with fail
   go_ret
   exact ⟨rfl, rfl⟩
theorem wground_8 {w : World} {tp sp qp : Nat} {A : Wy} {F : Nat → Prop} {S : Vz.Sr} (h : Wys w tp sp qp A F S) : Calls Tryz.prog 54 #[.pointer (some ⟨tp, 0, none⟩), .int .u8 8] w fun e w' => e = .returned (.bool true) ∧ ScrTo w w' sp F (stepS S 0 (-1)) := by
 obtain ⟨t0, t1, t2, t3, _⟩ := h.cells
 have HC := Lib.hid (scr_step sp F S 0 (-1) w h.scr)
 clear h
 go_enter Tryz.func54, Tryz.ntmps54
 go_wp2_with (go_at_call 87; refine HC.out.mono ?_; rintro e w1 ⟨rfl, ht⟩; have HT := Lib.hid ht; clear ht)
 go_ret
 exact ⟨rfl, HT.out⟩
theorem wground_11 {w : World} {tp sp qp : Nat} {A : Wy} {F : Nat → Prop} {S : Vz.Sr} (h : Wys w tp sp qp A F S) : Calls Tryz.prog 54 #[.pointer (some ⟨tp, 0, none⟩), .int .u8 11] w fun e w' => e = .returned (.bool true) ∧ ScrTo w w' sp F (stepS S (-1) 0) := by
 obtain ⟨t0, t1, t2, t3, _⟩ := h.cells
 have HC := Lib.hid (scr_step sp F S (-1) 0 w h.scr)
 clear h
 go_enter Tryz.func54, Tryz.ntmps54
 go_wp2_with (go_at_call 87; refine HC.out.mono ?_; rintro e w1 ⟨rfl, ht⟩; have HT := Lib.hid ht; clear ht)
 go_ret
 exact ⟨rfl, HT.out⟩
theorem wground_12 {w : World} {tp sp qp : Nat} {A : Wy} {F : Nat → Prop} {S : Vz.Sr} (h : Wys w tp sp qp A F S) : Calls Tryz.prog 54 #[.pointer (some ⟨tp, 0, none⟩), .int .u8 12] w fun e w' => e = .returned (.bool false) ∧ ScrTo w w' sp F (stepS S 0 1) := by
 obtain ⟨t0, t1, t2, t3, _⟩ := h.cells
 have HC := Lib.hid (scr_step sp F S 0 1 w h.scr)
 clear h
 go_enter Tryz.func54, Tryz.ntmps54
 go_wp2_with (go_at_call 87; refine HC.out.mono ?_; rintro e w1 ⟨rfl, ht⟩; have HT := Lib.hid ht; clear ht)
 go_ret
 exact ⟨rfl, HT.out⟩
theorem wground_13 {w : World} {tp sp qp : Nat} {A : Wy} {F : Nat → Prop} {S : Vz.Sr} (h : Wys w tp sp qp A F S) : Calls Tryz.prog 54 #[.pointer (some ⟨tp, 0, none⟩), .int .u8 13] w fun e w' => e = .returned (.bool false) ∧ ScrTo w w' sp F (columnS S 0) := by
 obtain ⟨t0, t1, t2, t3, _⟩ := h.cells
 have HC := Lib.hid (wys_column h 0)
 clear h
 go_enter Tryz.func54, Tryz.ntmps54
 go_wp2_with (go_at_call 90; refine HC.out.mono ?_; rintro e w1 ⟨rfl, ht⟩; have HT := Lib.hid ht; clear ht)
 go_ret
 exact ⟨rfl, HT.out⟩
theorem wground_26 {w : World} {tp sp qp : Nat} {A : Wy} {F : Nat → Prop} {S : Vz.Sr} (h : Wys w tp sp qp A F S) : Calls Tryz.prog 54 #[.pointer (some ⟨tp, 0, none⟩), .int .u8 26] w fun e w' => e = .returned (.bool false) ∧ ScrTo w w' sp F (clearS S A.pr) := by
 obtain ⟨t0, t1, t2, t3, _⟩ := h.cells
 have HC := Lib.hid (wys_cleared h)
 clear h
 go_enter Tryz.func54, Tryz.ntmps54
 go_wp2_with (go_at_call 34; refine HC.out.mono ?_; rintro e w1 ⟨rfl, ht⟩; have HT := Lib.hid ht; clear ht)
 go_ret
 exact ⟨rfl, HT.out⟩
theorem wground_30 {w : World} {tp sp qp : Nat} {A : Wy} {F : Nat → Prop} {S : Vz.Sr} (h : Wys w tp sp qp A F S) : Calls Tryz.prog 54 #[.pointer (some ⟨tp, 0, none⟩), .int .u8 30] w fun e w' => e = .returned (.bool false) ∧ ScrTo w w' sp F (moveS S ⟨0, 0⟩) := by
 obtain ⟨t0, t1, t2, t3, _⟩ := h.cells
 have HC := Lib.hid (scr_move sp F S ⟨0, 0⟩ w h.scr)
 clear h
 go_enter Tryz.func54, Tryz.ntmps54
 go_wp2_with (go_at_call 59; refine HC.out.mono ?_; rintro e w1 ⟨rfl, ht⟩; have HT := Lib.hid ht; clear ht)
 go_ret
 exact ⟨rfl, HT.out⟩
theorem wground_10 {w : World} {tp sp qp : Nat} {A : Wy} {F : Nat → Prop} {S : Vz.Sr} (h : Wys w tp sp qp A F S) : Calls Tryz.prog 54 #[.pointer (some ⟨tp, 0, none⟩), .int .u8 10] w fun e w' => e = .returned (.bool false) ∧ ScrTo w w' sp F (lfeedS S A.pr) := by
 obtain ⟨t0, t1, t2, t3, _⟩ := h.cells
 have HC := Lib.hid (wys_feed h)
 clear h
 go_enter Tryz.func54, Tryz.ntmps54
 go_wp2_with (go_at_call 89; refine HC.out.mono ?_; rintro e w1 ⟨rfl, ht⟩; have HT := Lib.hid ht; clear ht)
 go_ret
 exact ⟨rfl, HT.out⟩
def restY (S : Vz.Sr) (pr back : Bool) : Vz.Sr := if pr = true ∧ (atD S.D S.pl.at_).gd = true then freeS S (if back = true then -1 else 1) else S
theorem restW_eq (A : Wy) (b : Bool) : restW A b = { A with S := restY A.S A.pr b } := by
 unfold restW restY
 split <;> rfl
theorem wys_rest_d {w : World} {tp sp qp : Nat} {A : Wy} {F : Nat → Prop} {S : Vz.Sr} (h : Wys w tp sp qp A F S) (bp : Nat) (back : Bool) (hbp : w.heap[bp]? = some (.cells #[.bool back] 4 (0, 0))) (u : FrameMode) : CallsD Tryz.prog 52 #[.pointer (some ⟨tp, 0, none⟩), .pointer (some ⟨bp, 0, none⟩)] u w fun e u' w' => u' = u ∧ (e = .returned (.tuple #[]) ∧ ScrTo w w' sp F (restY S A.pr back)) := by
 have HA := Lib.hid (fun W (hb : Below w.heap.size w W) => h.below hb)
 obtain ⟨t0, t1, t2, t3, _⟩ := h.cells
 cases hpr : A.pr
 · rw [hpr] at t3
   have HT := Lib.hid (ScrTo.refl h.scr)
   have HE : Hid (restY S false back = S) := if_neg (fun e => Bool.noConfusion e.1)
   rw [HE.out]
   clear h HE
   go_enter_d Tryz.func52, Tryz.ntmps52
   go_wp2_with fail
   refine bodyPost_ret (results_none rfl _ _ _) rfl ⟨rfl, HT.out⟩
 · rw [hpr] at t3
   have HCU := Lib.hid (scr_cursor sp F S w h.scr)
   have HAT := Lib.hid (fun W (hb : Below w.heap.size w W) => scr_at sp F S S.pl.at_ W (h.below hb).scr h.scr.here.1)
   have HBP := Lib.hid hbp
   have HE : Hid (restY S true back = if (atD S.D S.pl.at_).gd = true then freeS S (if back = true then -1 else 1) else S) := by
    show restY S true back = _
    unfold restY
    simp
   rw [HE.out]
   have HFR := Lib.hid (fun W (hb : Below w.heap.size w W) => scr_free sp F S back W (h.below hb).scr)
   clear h HE hbp
   generalize (if back = true then (-1 : Int) else 1) = n at *
   generalize hx : atD S.D S.pl.at_ = x at *
   clear hx
   go_enter_d Tryz.func52, Tryz.ntmps52
   go_upto_region 2 with (go_at_call 22; refine HCU.out.mono ?_; rintro e w1 ⟨rfl, hb1⟩; have HB1 := Lib.hid hb1; clear hb1)
   have HB2 : Hid (Below w.heap.size w (w1.alloc (.cells #[.int .i64 S.pl.at_.row, .int .i64 S.pl.at_.col] 49)).drew) := (HB1.out.alloc HB1.out.size _).drew
   have HX : Hid ((w1.alloc (.cells #[.int .i64 S.pl.at_.row, .int .i64 S.pl.at_.col] 49)).drew.heap[w1.heap.size]? = some (.cells #[.int .i64 S.pl.at_.row, .int .i64 S.pl.at_.col] 49 (0, 0))) := heap_alloc_new w1 _
   refine wp_region_noPanic ?_
   refine wp_region_k (S := fun W : World => Below w.heap.size w W ∧ W.heap[w1.heap.size]? = some (.cells #[.int .i64 S.pl.at_.row, .int .i64 S.pl.at_.col] 49 (0, 0))) 5 (by kernel_rfl) (⟨HB2.out, HX.out⟩) (fun hHeld => ?_)
   refine kSK 0 hHeld ?_
   refine kSK 1 hHeld ?_
   refine kSK 2 hHeld ?_
   refine kTK (v := ?_) 3 [] hHeld ?y4 ?_
   case y4 => (intro W hSw; obtain ⟨y0, _⟩ := (HA.out _ hSw.1).cells; obtain ⟨p0, p1, _⟩ := row2 hSw.2; go_simp; try with_reducible rfl)
   refine kTK (v := ?_) 4 [] hHeld ?y5 ?_
   case y5 => (intro W hSw; obtain ⟨y0, _⟩ := (HA.out _ hSw.1).cells; obtain ⟨p0, p1, _⟩ := row2 hSw.2; go_simp; try with_reducible rfl)
   try refine kNK ?_
   refine wpAnyK_ready (rs := [5, 9]) (by kernel_rfl) (by simp) ?_
   refine AllReadyK.free rfl (by kernel_rfl) (fun KQ hKQ => ?_) (AllReadyK.cons rfl (fun KQ hKQ => ?_) AllReadyK.nil)
   focus
    go_simp
    go_at_call 21
    refine (HAT.out _ hHeld.1).mono ?_
    rintro e w2 ⟨rfl, hb2⟩
    have HB3 := Lib.hid (Below.later hHeld.1 hb2 hHeld.1.size)
    have HB23 := Lib.hid hb2
    first | (have hl := row4 ((hb2.block _ (block_lt HC9.out)).trans HC9.out); revert hl; rintro ⟨l0, l1, l2, l3, n0, n1, n2, n3⟩) | skip
    clear hb2
    go_wp2_with fail
    refine hKQ.out _ _ ?_
    clear hKQ KQ
    try refine kNK ?_
    refine kBK 6 ?_
    refine kBK 7 ?_
    refine kBK 8 ?_
    try refine kNK ?_
    refine kPK 9 fun KQ hKQ => ?_
    go_simp
    have HC9 : Hid (((w1.alloc (.cells #[.int .i64 S.pl.at_.row, .int .i64 S.pl.at_.col] 49)).drew.alloc (.cells #[.int .i32 0, .int .i64 0, .bool false, .int .i64 0] 45)).heap[w1.heap.size + 1]? = some (.cells #[.int .i32 0, .int .i64 0, .bool false, .int .i64 0] 45 (0, 0))) := by
     have := heap_alloc_new (w1.alloc (.cells #[.int .i64 S.pl.at_.row, .int .i64 S.pl.at_.col] 49)).drew (.cells #[.int .i32 0, .int .i64 0, .bool false, .int .i64 0] 45)
     rwa [show (w1.alloc (.cells #[.int .i64 S.pl.at_.row, .int .i64 S.pl.at_.col] 49)).drew.heap.size = w1.heap.size + 1 from World.size_alloc _ _] at this
    refine hKQ.out _ _ ?_
    clear hKQ KQ
    try refine kNK ?_
    refine kPK 10 fun KQ hKQ => ?_
    go_simp
    refine hKQ.out _ _ ?_
    clear hKQ KQ
    try refine kNK ?_
    refine kBK 11 ?_
    try refine kNK ?_
    refine wpAnyK_done (by kernel_rfl) ?_ _
    refine NoPanic.normal ?_
   rotate_left 1
   focus
    go_simp
    have HC9 : Hid (((w1.alloc (.cells #[.int .i64 S.pl.at_.row, .int .i64 S.pl.at_.col] 49)).drew.alloc (.cells #[.int .i32 0, .int .i64 0, .bool false, .int .i64 0] 45)).heap[w1.heap.size + 1]? = some (.cells #[.int .i32 0, .int .i64 0, .bool false, .int .i64 0] 45 (0, 0))) := by
     have := heap_alloc_new (w1.alloc (.cells #[.int .i64 S.pl.at_.row, .int .i64 S.pl.at_.col] 49)).drew (.cells #[.int .i32 0, .int .i64 0, .bool false, .int .i64 0] 45)
     rwa [show (w1.alloc (.cells #[.int .i64 S.pl.at_.row, .int .i64 S.pl.at_.col] 49)).drew.heap.size = w1.heap.size + 1 from World.size_alloc _ _] at this
    refine hKQ.out _ _ (⟨hHeld.1.alloc hHeld.1.size _, (Below.heap_alloc _ _ _ (block_lt hHeld.2)).trans hHeld.2⟩) ?_
    clear hHeld hKQ KQ
    intro hHeld
    try refine kNK ?_
    refine kPK 5 fun KQ hKQ => ?_
    go_simp
    go_at_call 21
    refine (HAT.out _ hHeld.1).mono ?_
    rintro e w2 ⟨rfl, hb2⟩
    have HB3 := Lib.hid (Below.later hHeld.1 hb2 hHeld.1.size)
    have HB23 := Lib.hid hb2
    first | (have hl := row4 ((hb2.block _ (block_lt HC9.out)).trans HC9.out); revert hl; rintro ⟨l0, l1, l2, l3, n0, n1, n2, n3⟩) | skip
    clear hb2
    go_wp2_with fail
    refine hKQ.out _ _ ?_
    clear hKQ KQ
    try refine kNK ?_
    refine kBK 6 ?_
    refine kBK 7 ?_
    refine kBK 8 ?_
    try refine kNK ?_
    refine kPK 10 fun KQ hKQ => ?_
    go_simp
    refine hKQ.out _ _ ?_
    clear hKQ KQ
    try refine kNK ?_
    refine kBK 11 ?_
    try refine kNK ?_
    refine wpAnyK_done (by kernel_rfl) ?_ _
    refine NoPanic.normal ?_
   rotate_left 1
   · have HB4 : Hid (Below w.heap.size w (w2.alloc (.cells #[.int .i32 x.g, .int .i64 x.a, .bool x.gd, .int .i64 x.m] 45))) := HB3.out.alloc HB3.out.size _
     have HCC : Hid ((w2.alloc (.cells #[.int .i32 x.g, .int .i64 x.a, .bool x.gd, .int .i64 x.m] 45)).heap[w2.heap.size]? = some (.cells #[.int .i32 x.g, .int .i64 x.a, .bool x.gd, .int .i64 x.m] 45 (0, 0))) := heap_alloc_new _ _
     clear HB23 HX HB2
     generalize w2.alloc (.cells #[.int .i32 x.g, .int .i64 x.a, .bool x.gd, .int .i64 x.m] 45) = W4 at *
     generalize w2.heap.size = cb at *
     obtain ⟨k0, k1, k2, k3, _⟩ := row4 HCC.out
     cases hg : x.gd
     · go_wp2_with fail
       all_goals (
        go_end0
        exact ⟨rfl, ScrTo.after HB4.out (ScrTo.refl (HA.out _ HB4.out).scr)⟩)
     · go_upto_region 4 with fail
       have HB5 := Lib.hid HB4.out.drew
       refine wp_region_noPanic ?_
       refine wp_region_k (S := fun W : World => Below w.heap.size w W) 7 (by kernel_rfl) (HB5.out) (fun hHeld => ?_)
       refine kSK 0 hHeld ?_
       refine kSK 1 hHeld ?_
       refine kSK 2 hHeld ?_
       refine kTK (v := ?_) 3 [] hHeld ?y4 ?_
       case y4 => (intro W hSw; obtain ⟨y0, _⟩ := (HA.out _ hSw).cells; have z0 := cell_row ((hSw.block _ (block_lt HBP.out)).trans HBP.out) 0; go_simp; try with_reducible rfl)
       refine kSK 4 hHeld ?_
       try refine kNK ?_
       refine kSK 5 hHeld ?_
       refine kTK (v := ?_) 6 [] hHeld ?y7 ?_
       case y7 => (intro W hSw; obtain ⟨y0, _⟩ := (HA.out _ hSw).cells; have z0 := cell_row ((hSw.block _ (block_lt HBP.out)).trans HBP.out) 0; go_simp; try with_reducible rfl)
       try refine kNK ?_
       refine kPK 7 fun KQ hKQ => ?_
       go_simp
       go_at_call 84
       refine (HFR.out _ HB5.out).mono ?_
       rintro e w6 ⟨rfl, ht⟩
       have HT := Lib.hid ht
       clear ht
       go_wp2_with fail
       refine hKQ.out _ _ ?_
       clear hKQ KQ
       try refine kNK ?_
       refine wpAnyK_done (by kernel_rfl) ?_ _
       refine NoPanic.normal ?_
       go_wp2_with fail
       all_goals (
        go_end0
        exact ⟨rfl, ScrTo.after HB5.out HT.out⟩)
   · have hz := HB1.out.size
     have HB4 : Hid (Below w.heap.size w ((((w2.setCell ⟨w1.heap.size + 1, 0, none⟩ (.int .i32 x.g)).setCell ⟨w1.heap.size + 1, 1, none⟩ (.int .i64 x.a)).setCell ⟨w1.heap.size + 1, 2, none⟩ (.bool x.gd)).setCell ⟨w1.heap.size + 1, 3, none⟩ (.int .i64 x.m))) := Below.set4 HB3.out (by omega) _ _ _ _
     have HCC : Hid (((((w2.setCell ⟨w1.heap.size + 1, 0, none⟩ (.int .i32 x.g)).setCell ⟨w1.heap.size + 1, 1, none⟩ (.int .i64 x.a)).setCell ⟨w1.heap.size + 1, 2, none⟩ (.bool x.gd)).setCell ⟨w1.heap.size + 1, 3, none⟩ (.int .i64 x.m)).heap[w1.heap.size + 1]? = some (.cells #[.int .i32 x.g, .int .i64 x.a, .bool x.gd, .int .i64 x.m] 45 (0, 0))) := set_four ((HB23.out.block _ (block_lt HC9.out)).trans HC9.out) _ _ _ _
     clear hz l0 l1 l2 l3 n0 n1 n2 n3 HC9
     clear HB23 HX HB2
     generalize ((((w2.setCell ⟨w1.heap.size + 1, 0, none⟩ (.int .i32 x.g)).setCell ⟨w1.heap.size + 1, 1, none⟩ (.int .i64 x.a)).setCell ⟨w1.heap.size + 1, 2, none⟩ (.bool x.gd)).setCell ⟨w1.heap.size + 1, 3, none⟩ (.int .i64 x.m)) = W4 at *
     generalize w1.heap.size + 1 = cb at *
     obtain ⟨k0, k1, k2, k3, _⟩ := row4 HCC.out
     cases hg : x.gd
     · go_wp2_with fail
       all_goals (
        go_end0
        exact ⟨rfl, ScrTo.after HB4.out (ScrTo.refl (HA.out _ HB4.out).scr)⟩)
     · go_upto_region 4 with fail
       have HB5 := Lib.hid HB4.out.drew
       refine wp_region_noPanic ?_
       refine wp_region_k (S := fun W : World => Below w.heap.size w W) 7 (by kernel_rfl) (HB5.out) (fun hHeld => ?_)
       refine kSK 0 hHeld ?_
       refine kSK 1 hHeld ?_
       refine kSK 2 hHeld ?_
       refine kTK (v := ?_) 3 [] hHeld ?y4 ?_
       case y4 => (intro W hSw; obtain ⟨y0, _⟩ := (HA.out _ hSw).cells; have z0 := cell_row ((hSw.block _ (block_lt HBP.out)).trans HBP.out) 0; go_simp; try with_reducible rfl)
       refine kSK 4 hHeld ?_
       try refine kNK ?_
       refine kSK 5 hHeld ?_
       refine kTK (v := ?_) 6 [] hHeld ?y7 ?_
       case y7 => (intro W hSw; obtain ⟨y0, _⟩ := (HA.out _ hSw).cells; have z0 := cell_row ((hSw.block _ (block_lt HBP.out)).trans HBP.out) 0; go_simp; try with_reducible rfl)
       try refine kNK ?_
       refine kPK 7 fun KQ hKQ => ?_
       go_simp
       go_at_call 84
       refine (HFR.out _ HB5.out).mono ?_
       rintro e w6 ⟨rfl, ht⟩
       have HT := Lib.hid ht
       clear ht
       go_wp2_with fail
       refine hKQ.out _ _ ?_
       clear hKQ KQ
       try refine kNK ?_
       refine wpAnyK_done (by kernel_rfl) ?_ _
       refine NoPanic.normal ?_
       go_wp2_with fail
       all_goals (
        go_end0
        exact ⟨rfl, ScrTo.after HB5.out HT.out⟩)
theorem Wys.keeps {w W : World} {tp sp qp : Nat} {A : Wy} {F K : Nat → Prop} {S : Vz.Sr} (h : Wys w tp sp qp A F S) (hk : Keeps K w W) (hd : ∀ k, F k → ¬ K k) (ht : ¬ K tp) (hb : ¬ K 0) : Wys W tp sp qp A F S := by
 refine ⟨(hk.block _ (block_lt h.box) ht).trans h.box, ?_, h.ntp⟩
 obtain ⟨gp, tp', mb, FG, hA, hG⟩ := h.scr
 exact ⟨gp, tp', mb, FG, hA.of_blocks (fun k hf => hk.block _ (hA.lt hf) (hd k ((hG k).2 hf))) (hk.block _ hA.blk.lt hb), hG⟩
theorem wy_putany (sp : Nat) (F : Nat → Prop) (S : Vz.Sr) (c : Vz.Cl) (g : Bool) (w : World) (h : Scr w sp F S) : Calls Tryz.prog 129 #[.pointer (some ⟨sp, 0, none⟩), .agg #[.int .i32 c.g, .int .i64 c.a, .bool c.gd, .int .i64 c.m], .int .i64 2, .bool g] w fun e w' => e = .returned (.tuple #[]) ∧ ScrTo w w' sp F (putAny S c g) := by
 cases g
 · exact scr_put sp F S c 2 w h
 · exact scr_putg sp F S c 2 w h
theorem wys_put {w : World} {tp sp qp : Nat} {A : Wy} {F : Nat → Prop} {S : Vz.Sr} (h : Wys w tp sp qp A F S) (g a m : Int) : Calls Tryz.prog 91 #[.pointer (some ⟨tp, 0, none⟩), .agg #[.int .i32 g, .int .i64 a, .bool false, .int .i64 m]] w fun e w' => e = .returned (.tuple #[]) ∧ ScrTo w w' sp F (putAny (if A.ins = true then charsS S 1 Vz.Cl.blank A.pr else S) ⟨g, a, A.gd, m⟩ A.pr) := by
 have HA := Lib.hid (fun W (hb : Below w.heap.size w W) => h.below hb)
 have H := Lib.hid h
 have hb0 := below1 w (.cells #[.int .i32 g, .int .i64 a, .bool false, .int .i64 m] 45)
 obtain ⟨t0, t1, t2, t3, t4, t5, _⟩ := (h.below hb0).cells
 have HB0 := Lib.hid hb0
 clear h hb0
 cases hi : A.ins
 · rw [hi] at t5
   have HE : Hid ((if false = true then charsS S 1 Vz.Cl.blank A.pr else S) = S) := rfl
   rw [HE.out]
   clear HE
   go_enter Tryz.func91, Tryz.ntmps91
   go_upto_region 4 with fail
   have hb2 := (below1 w (.cells #[.int .i32 g, .int .i64 a, .bool A.gd, .int .i64 m] 45)).drew
   have HB2 := Lib.hid hb2
   have HX : Hid (∀ W, Below (w.heap.size + 1) (w.alloc (.cells #[.int .i32 g, .int .i64 a, .bool A.gd, .int .i64 m] 45)).drew W → Below w.heap.size w W ∧ W.heap[w.heap.size]? = some (.cells #[.int .i32 g, .int .i64 a, .bool A.gd, .int .i64 m] 45 (0, 0))) := fun W hb => ⟨Below.later hb2 (hb.mono (by simp)) hb2.size, (hb.block _ (Nat.lt_succ_self _)).trans (heap_alloc_new w _)⟩
   clear hb2
   refine wp_region_noPanic ?_
   refine wp_region_k (S := fun W : World => Below (w.heap.size + 1) (w.alloc (.cells #[.int .i32 g, .int .i64 a, .bool A.gd, .int .i64 m] 45)).drew W) 10 (by kernel_rfl) (Below.refl _ _) (fun hHeld => ?_)
   refine kSK 0 hHeld ?_
   refine kSK 1 hHeld ?_
   refine kSK 2 hHeld ?_
   refine kTK (v := ?_) 3 [] hHeld ?y4 ?_
   case y4 => (intro W hSw; obtain ⟨y0, y1, y2, y3, _⟩ := (HA.out _ (HX.out _ hSw).1).cells; obtain ⟨c0, c1, c2, c3, _⟩ := row4 (HX.out _ hSw).2; go_simp; try with_reducible rfl)
   refine kTK (v := ?_) 4 [] hHeld ?y5 ?_
   case y5 => (intro W hSw; obtain ⟨y0, y1, y2, y3, _⟩ := (HA.out _ (HX.out _ hSw).1).cells; obtain ⟨c0, c1, c2, c3, _⟩ := row4 (HX.out _ hSw).2; go_simp; try with_reducible rfl)
   try refine kNK ?_
   refine kSK 5 hHeld ?_
   refine kSK 6 hHeld ?_
   refine kSK 7 hHeld ?_
   refine kSK 8 hHeld ?_
   refine kTK (v := ?_) 9 [] hHeld ?y10 ?_
   case y10 => (intro W hSw; obtain ⟨y0, y1, y2, y3, _⟩ := (HA.out _ (HX.out _ hSw).1).cells; obtain ⟨c0, c1, c2, c3, _⟩ := row4 (HX.out _ hSw).2; go_simp; try with_reducible rfl)
   try refine kNK ?_
   refine kPK 10 fun KQ hKQ => ?_
   go_simp
   go_at_call 129
   refine (wy_putany sp F S ⟨g, a, A.gd, m⟩ A.pr _ (HA.out _ (HX.out _ hHeld).1).scr).mono ?_
   rintro e w2 ⟨rfl, ht⟩
   have HT := Lib.hid (ScrTo.after (HX.out _ hHeld).1 ht)
   clear ht
   go_wp2_with fail
   refine hKQ.out _ _ ?_
   clear hKQ KQ
   try refine kNK ?_
   refine wpAnyK_done (by kernel_rfl) ?_ _
   refine NoPanic.normal ?_
   go_wp2_with fail
   go_end0
   exact ⟨rfl, HT.out⟩
 · rw [hi] at t5
   have HE : Hid ((if true = true then charsS S 1 Vz.Cl.blank A.pr else S) = charsS S 1 Vz.Cl.blank A.pr) := rfl
   rw [HE.out]
   clear HE
   have hbx0 := heap_alloc_new w (.cells #[.int .i32 g, .int .i64 a, .bool false, .int .i64 m] 45)
   have HBX0 := Lib.hid hbx0
   clear hbx0
   go_enter Tryz.func91, Tryz.ntmps91
   go_upto_region 2 with fail
   clear t0 t1 t2 t3 t4 t5
   have HBD : Hid (Below w.heap.size w (w.alloc (.cells #[.int .i32 g, .int .i64 a, .bool false, .int .i64 m] 45)).drew) := HB0.out.drew
   refine wp_region_noPanic ?_
   refine wp_region_k (S := fun W : World => Below (w.heap.size + 1) (w.alloc (.cells #[.int .i32 g, .int .i64 a, .bool false, .int .i64 m] 45)).drew W) 10 (by kernel_rfl) (Below.refl _ _) (fun hHeld => ?_)
   refine kSK 0 hHeld ?_
   refine kSK 1 hHeld ?_
   refine kSK 2 hHeld ?_
   refine kTK (v := ?_) 3 [] hHeld ?y4 ?_
   case y4 => (intro W hSw; obtain ⟨y0, y1, y2, y3, _⟩ := (HA.out _ (Below.later HBD.out (hSw.mono (by simp)) HBD.out.size)).cells; obtain ⟨b0, b1, b2, b3⟩ := (HA.out _ (Below.later HBD.out (hSw.mono (by simp)) HBD.out.size)).scr.blk.1.cells; go_simp; try with_reducible rfl)
   refine kTK (v := ?_) 4 [] hHeld ?y5 ?_
   case y5 => (intro W hSw; obtain ⟨y0, y1, y2, y3, _⟩ := (HA.out _ (Below.later HBD.out (hSw.mono (by simp)) HBD.out.size)).cells; obtain ⟨b0, b1, b2, b3⟩ := (HA.out _ (Below.later HBD.out (hSw.mono (by simp)) HBD.out.size)).scr.blk.1.cells; go_simp; try with_reducible rfl)
   try refine kNK ?_
   refine kSK 5 hHeld ?_
   refine kSK 6 hHeld ?_
   refine kSK 7 hHeld ?_
   refine kSK 8 hHeld ?_
   refine kTK (v := ?_) 9 [] hHeld ?y10 ?_
   case y10 => (intro W hSw; obtain ⟨y0, y1, y2, y3, _⟩ := (HA.out _ (Below.later HBD.out (hSw.mono (by simp)) HBD.out.size)).cells; obtain ⟨b0, b1, b2, b3⟩ := (HA.out _ (Below.later HBD.out (hSw.mono (by simp)) HBD.out.size)).scr.blk.1.cells; go_simp; try with_reducible rfl)
   try refine kNK ?_
   refine kPK 10 fun KQ hKQ => ?_
   go_simp
   have hbn := Below.later HBD.out (hHeld.mono (by simp)) HBD.out.size
   have hx2 := (hHeld.block _ (Nat.lt_succ_self _)).trans HBX0.out
   have HX2 := Lib.hid hx2
   have HBN := Lib.hid hbn
   clear hbn hx2
   go_at_call 128
   refine (scr_chars sp F S 1 Vz.Cl.blank A.pr _ (HA.out _ HBN.out).scr).mono ?_
   rintro e w2 ⟨rfl, ht⟩
   have HX3 := Lib.hid ((ht.2.block _ (block_lt HX2.out) (fun hf => by have := H.out.scr.lt _ hf; omega)).trans HX2.out)
   obtain ⟨F1, ha, hf, hk⟩ := (HA.out _ HBN.out).to (show ScrTo _ w2 sp F (charsS S 1 Vz.Cl.blank A.pr) from ht)
   have hne : ∀ k, F1 k → k ≠ w.heap.size := fun k hk' e => by
    rcases hf k hk' with h1 | h1
    · have := H.out.scr.lt k h1; omega
    · have h3 : w.heap.size + 1 ≤ _ := Nat.le_trans (by simp) hHeld.size
      omega
   have HA1 := Lib.hid ha
   have HF := Lib.hid (show ∀ k, F1 k → F k ∨ w.heap.size ≤ k from fun k hk' => (hf k hk').imp id fun h => Nat.le_trans HBN.out.size h)
   have HK := Lib.hid ((Keeps.of_below HBN.out : Keeps F w _).trans hk fun k hk => .inl hk)
   have HNE := Lib.hid hne
   obtain ⟨y0, y1, y2, y3, _⟩ := ha.cells
   clear ht ha hf hk hne
   go_wp2_with fail
   refine hKQ.out _ _ ?_
   clear hKQ KQ
   try refine kNK ?_
   refine wpAnyK_done (by kernel_rfl) ?_ _
   refine NoPanic.normal ?_
   clear hHeld
   obtain ⟨c0, c1, c2, c3, g0, g1, g2, g3⟩ := row4 HX3.out
   go_upto_region 4 with fail
   clear y0 y1 y2 y3 c0 c1 c2 c3 g0 g1 g2 g3
   have hblt := H.out.scr.blk.1.lt
   have htlt := block_lt H.out.box
   have HA2 : Hid (Wys (w2.setCell ⟨w.heap.size, 2, none⟩ (.bool A.gd)) tp sp qp A F1 (charsS S 1 Vz.Cl.blank A.pr)) :=
    HA1.out.keeps (Keeps.setCell (fun k => k = w.heap.size) w2 (p := ⟨w.heap.size, 2, none⟩) rfl _) HNE.out (by omega) (by omega)
   have HX4 : Hid ((w2.setCell ⟨w.heap.size, 2, none⟩ (.bool A.gd)).heap[w.heap.size]? = some (.cells #[.int .i32 g, .int .i64 a, .bool A.gd, .int .i64 m] 45 (0, 0))) := heap_set_same HX3.out 2 (.bool A.gd)
   have HK3 : Hid (Keeps F w (w2.setCell ⟨w.heap.size, 2, none⟩ (.bool A.gd))) := HK.out.trans (Keeps.setCell (fun k => k = w.heap.size) w2 (p := ⟨w.heap.size, 2, none⟩) rfl _) fun k e => .inr (Nat.le_of_eq e.symm)
   generalize w2.setCell ⟨w.heap.size, 2, none⟩ (.bool A.gd) = W3 at *
   have HD : Hid (Below W3.heap.size W3 W3.drew) := (Below.refl _ _).drew
   refine wp_region_noPanic ?_
   refine wp_region_k (S := fun W : World => Below W3.heap.size W3 W) 10 (by kernel_rfl) (HD.out) (fun hHeld => ?_)
   refine kSK 0 hHeld ?_
   refine kSK 1 hHeld ?_
   refine kSK 2 hHeld ?_
   refine kTK (v := ?_) 3 [] hHeld ?y4 ?_
   case y4 => (intro W hSw; obtain ⟨y0, y1, y2, y3, _⟩ := (HA2.out.below hSw).cells; obtain ⟨c0, c1, c2, c3, _⟩ := row4 ((hSw.block _ (block_lt HX4.out)).trans HX4.out); go_simp; try with_reducible rfl)
   refine kTK (v := ?_) 4 [] hHeld ?y5 ?_
   case y5 => (intro W hSw; obtain ⟨y0, y1, y2, y3, _⟩ := (HA2.out.below hSw).cells; obtain ⟨c0, c1, c2, c3, _⟩ := row4 ((hSw.block _ (block_lt HX4.out)).trans HX4.out); go_simp; try with_reducible rfl)
   try refine kNK ?_
   refine kSK 5 hHeld ?_
   refine kSK 6 hHeld ?_
   refine kSK 7 hHeld ?_
   refine kSK 8 hHeld ?_
   refine kTK (v := ?_) 9 [] hHeld ?y10 ?_
   case y10 => (intro W hSw; obtain ⟨y0, y1, y2, y3, _⟩ := (HA2.out.below hSw).cells; obtain ⟨c0, c1, c2, c3, _⟩ := row4 ((hSw.block _ (block_lt HX4.out)).trans HX4.out); go_simp; try with_reducible rfl)
   try refine kNK ?_
   refine kPK 10 fun KQ hKQ => ?_
   go_simp
   go_at_call 129
   refine (wy_putany sp F1 (charsS S 1 Vz.Cl.blank A.pr) ⟨g, a, A.gd, m⟩ A.pr _ (HA2.out.below hHeld).scr).mono ?_
   rintro e w4 ⟨rfl, ht⟩
   have HT := Lib.hid (ScrTo.link HF.out HK3.out (ScrTo.after hHeld ht))
   clear ht
   go_wp2_with fail
   refine hKQ.out _ _ ?_
   clear hKQ KQ
   try refine kNK ?_
   refine wpAnyK_done (by kernel_rfl) ?_ _
   refine NoPanic.normal ?_
   go_wp2_with fail
   go_end0
   exact ⟨rfl, HT.out⟩
theorem wys_goes_in {w : World} {tp sp qp : Nat} {A : Wy} {F : Nat → Prop} {S : Vz.Sr} (h : Wys w tp sp qp A F S) (r c : Int) (hin : (⟨r, c⟩ : Vz.Ps).inS S.D.R S.D.C) : Calls Tryz.prog 96 #[.pointer (some ⟨tp, 0, none⟩), .int .i64 r, .int .i64 c] w fun e w' => e = .returned (.tuple #[]) ∧ ScrTo w w' sp F (moveS S ⟨r, c⟩) := by
 have HA := Lib.hid (fun W (hb : Below w.heap.size w W) => h.below hb)
 have HAT := Lib.hid (fun W (hb : Below w.heap.size w W) => scr_at sp F S ⟨r, c⟩ W (h.below hb).scr hin)
 generalize atD S.D ⟨r, c⟩ = x at *
 clear h hin
 go_enter Tryz.func96, Tryz.ntmps96
 go_upto_region 1 with fail
 have HP : Hid (∀ W, Below (w.heap.size + 1) (w.alloc (.cells #[.int .i64 r, .int .i64 c] 49)) W → W.heap[w.heap.size]? = some (.cells #[.int .i64 r, .int .i64 c] 49 (0, 0)) ∧ Below w.heap.size w W) := fun W hb => box1 (hb.mono (by simp))
 have HB2 : Hid (Below (w.heap.size + 1) (w.alloc (.cells #[.int .i64 r, .int .i64 c] 49)) (w.alloc (.cells #[.int .i64 r, .int .i64 c] 49)).drew) := (Below.refl _ _).drew
 refine wp_region_noPanic ?_
 refine wp_region_k (S := fun W : World => Below (w.heap.size + 1) (w.alloc (.cells #[.int .i64 r, .int .i64 c] 49)) W) 5 (by kernel_rfl) (HB2.out) (fun hHeld => ?_)
 refine kSK 0 hHeld ?_
 refine kSK 1 hHeld ?_
 refine kSK 2 hHeld ?_
 refine kTK (v := ?_) 3 [] hHeld ?y4 ?_
 case y4 => (intro W hSw; obtain ⟨z0, z1⟩ := HP.out _ hSw; obtain ⟨y0, _⟩ := (HA.out _ z1).cells; obtain ⟨p0, p1, _⟩ := row2 z0; go_simp; try with_reducible rfl)
 refine kTK (v := ?_) 4 [] hHeld ?y5 ?_
 case y5 => (intro W hSw; obtain ⟨z0, z1⟩ := HP.out _ hSw; obtain ⟨y0, _⟩ := (HA.out _ z1).cells; obtain ⟨p0, p1, _⟩ := row2 z0; go_simp; try with_reducible rfl)
 try refine kNK ?_
 refine wpAnyK_ready (rs := [5, 9]) (by kernel_rfl) (by simp) ?_
 refine AllReadyK.free rfl (by kernel_rfl) (fun KQ hKQ => ?_) (AllReadyK.cons rfl (fun KQ hKQ => ?_) AllReadyK.nil)
 focus
  go_simp
  go_at_call 21
  refine (HAT.out _ (HP.out _ hHeld).2).mono ?_
  rintro e w2 ⟨rfl, hb2⟩
  have HB3 := Lib.hid (Below.later hHeld hb2 (Nat.le_trans (by simp) hHeld.size))
  have HB23 := Lib.hid hb2
  first | (have hl := row4 ((hb2.block _ (block_lt HC9.out)).trans HC9.out); revert hl; rintro ⟨l0, l1, l2, l3, n0, n1, n2, n3⟩) | skip
  clear hb2
  go_wp2_with fail
  refine hKQ.out _ _ ?_
  clear hKQ KQ
  try refine kNK ?_
  refine kBK 6 ?_
  refine kBK 7 ?_
  refine kBK 8 ?_
  try refine kNK ?_
  refine kPK 9 fun KQ hKQ => ?_
  go_simp
  have HC9 : Hid (((w.alloc (.cells #[.int .i64 r, .int .i64 c] 49)).drew.alloc (.cells #[.int .i32 0, .int .i64 0, .bool false, .int .i64 0] 45)).heap[w.heap.size + 1]? = some (.cells #[.int .i32 0, .int .i64 0, .bool false, .int .i64 0] 45 (0, 0))) := by
   have := heap_alloc_new (w.alloc (.cells #[.int .i64 r, .int .i64 c] 49)).drew (.cells #[.int .i32 0, .int .i64 0, .bool false, .int .i64 0] 45)
   rwa [show (w.alloc (.cells #[.int .i64 r, .int .i64 c] 49)).drew.heap.size = w.heap.size + 1 from World.size_alloc _ _] at this
  refine hKQ.out _ _ ?_
  clear hKQ KQ
  try refine kNK ?_
  refine kPK 10 fun KQ hKQ => ?_
  go_simp
  refine hKQ.out _ _ ?_
  clear hKQ KQ
  try refine kNK ?_
  refine kBK 11 ?_
  try refine kNK ?_
  refine wpAnyK_done (by kernel_rfl) ?_ _
  refine NoPanic.normal ?_
 rotate_left 1
 focus
  go_simp
  have HC9 : Hid (((w.alloc (.cells #[.int .i64 r, .int .i64 c] 49)).drew.alloc (.cells #[.int .i32 0, .int .i64 0, .bool false, .int .i64 0] 45)).heap[w.heap.size + 1]? = some (.cells #[.int .i32 0, .int .i64 0, .bool false, .int .i64 0] 45 (0, 0))) := by
   have := heap_alloc_new (w.alloc (.cells #[.int .i64 r, .int .i64 c] 49)).drew (.cells #[.int .i32 0, .int .i64 0, .bool false, .int .i64 0] 45)
   rwa [show (w.alloc (.cells #[.int .i64 r, .int .i64 c] 49)).drew.heap.size = w.heap.size + 1 from World.size_alloc _ _] at this
  refine hKQ.out _ _ (hHeld.alloc (Nat.le_trans (by simp) hHeld.size) _) ?_
  clear hHeld hKQ KQ
  intro hHeld
  try refine kNK ?_
  refine kPK 5 fun KQ hKQ => ?_
  go_simp
  go_at_call 21
  refine (HAT.out _ (HP.out _ hHeld).2).mono ?_
  rintro e w2 ⟨rfl, hb2⟩
  have HB3 := Lib.hid (Below.later hHeld hb2 (Nat.le_trans (by simp) hHeld.size))
  have HB23 := Lib.hid hb2
  first | (have hl := row4 ((hb2.block _ (block_lt HC9.out)).trans HC9.out); revert hl; rintro ⟨l0, l1, l2, l3, n0, n1, n2, n3⟩) | skip
  clear hb2
  go_wp2_with fail
  refine hKQ.out _ _ ?_
  clear hKQ KQ
  try refine kNK ?_
  refine kBK 6 ?_
  refine kBK 7 ?_
  refine kBK 8 ?_
  try refine kNK ?_
  refine kPK 10 fun KQ hKQ => ?_
  go_simp
  refine hKQ.out _ _ ?_
  clear hKQ KQ
  try refine kNK ?_
  refine kBK 11 ?_
  try refine kNK ?_
  refine wpAnyK_done (by kernel_rfl) ?_ _
  refine NoPanic.normal ?_
 rotate_left 1
 · have HB4 : Hid (Below (w.heap.size + 1) (w.alloc (.cells #[.int .i64 r, .int .i64 c] 49)) (w2.alloc (.cells #[.int .i32 x.g, .int .i64 x.a, .bool x.gd, .int .i64 x.m] 45))) := HB3.out.alloc (Nat.le_trans (by simp) HB3.out.size) _
   obtain ⟨z0, z1⟩ := HP.out _ HB4.out
   have HZ0 := Lib.hid z0
   have HZ1 := Lib.hid z1
   clear z0 z1 HB23 HB4
   generalize w2.alloc (.cells #[.int .i32 x.g, .int .i64 x.a, .bool x.gd, .int .i64 x.m] 45) = W4 at *
   go_upto_region 3 with fail
   have HB5 := Lib.hid HZ1.out.drew
   have HX5 := Lib.hid (show W4.drew.heap[w.heap.size]? = _ from HZ0.out)
   refine wp_region_noPanic ?_
   refine wp_region_k (S := fun W : World => Below w.heap.size w W ∧ W.heap[w.heap.size]? = some (.cells #[.int .i64 r, .int .i64 c] 49 (0, 0))) 5 (by kernel_rfl) (⟨HB5.out, HX5.out⟩) (fun hHeld => ?_)
   refine kSK 0 hHeld ?_
   refine kSK 1 hHeld ?_
   refine kSK 2 hHeld ?_
   refine kTK (v := ?_) 3 [] hHeld ?y4 ?_
   case y4 => (intro W hSw; obtain ⟨y0, _⟩ := (HA.out _ hSw.1).cells; obtain ⟨p0, p1, _⟩ := row2 hSw.2; go_simp; try with_reducible rfl)
   refine kTK (v := ?_) 4 [] hHeld ?y5 ?_
   case y5 => (intro W hSw; obtain ⟨y0, _⟩ := (HA.out _ hSw.1).cells; obtain ⟨p0, p1, _⟩ := row2 hSw.2; go_simp; try with_reducible rfl)
   try refine kNK ?_
   refine kPK 5 fun KQ hKQ => ?_
   go_simp
   go_at_call 59
   refine (scr_move sp F S ⟨r, c⟩ _ (HA.out _ HB5.out).scr).mono ?_
   rintro e w6 ⟨rfl, ht⟩
   have HT := Lib.hid ht
   clear ht
   go_wp2_with fail
   refine hKQ.out _ _ ?_
   clear hKQ KQ
   try refine kNK ?_
   refine wpAnyK_done (by kernel_rfl) ?_ _
   refine NoPanic.normal ?_
   go_wp2_with fail
   all_goals (
    go_end0
    exact ⟨rfl, ScrTo.after HB5.out HT.out⟩)
 · have HB4 : Hid (Below (w.heap.size + 1) (w.alloc (.cells #[.int .i64 r, .int .i64 c] 49)) ((((w2.setCell ⟨w.heap.size + 1, 0, none⟩ (.int .i32 x.g)).setCell ⟨w.heap.size + 1, 1, none⟩ (.int .i64 x.a)).setCell ⟨w.heap.size + 1, 2, none⟩ (.bool x.gd)).setCell ⟨w.heap.size + 1, 3, none⟩ (.int .i64 x.m))) := Below.set4 HB3.out (Nat.le_refl _) _ _ _ _
   clear l0 l1 l2 l3 n0 n1 n2 n3 HC9
   obtain ⟨z0, z1⟩ := HP.out _ HB4.out
   have HZ0 := Lib.hid z0
   have HZ1 := Lib.hid z1
   clear z0 z1 HB23 HB4
   generalize ((((w2.setCell ⟨w.heap.size + 1, 0, none⟩ (.int .i32 x.g)).setCell ⟨w.heap.size + 1, 1, none⟩ (.int .i64 x.a)).setCell ⟨w.heap.size + 1, 2, none⟩ (.bool x.gd)).setCell ⟨w.heap.size + 1, 3, none⟩ (.int .i64 x.m)) = W4 at *
   go_upto_region 3 with fail
   have HB5 := Lib.hid HZ1.out.drew
   have HX5 := Lib.hid (show W4.drew.heap[w.heap.size]? = _ from HZ0.out)
   refine wp_region_noPanic ?_
   refine wp_region_k (S := fun W : World => Below w.heap.size w W ∧ W.heap[w.heap.size]? = some (.cells #[.int .i64 r, .int .i64 c] 49 (0, 0))) 5 (by kernel_rfl) (⟨HB5.out, HX5.out⟩) (fun hHeld => ?_)
   refine kSK 0 hHeld ?_
   refine kSK 1 hHeld ?_
   refine kSK 2 hHeld ?_
   refine kTK (v := ?_) 3 [] hHeld ?y4 ?_
   case y4 => (intro W hSw; obtain ⟨y0, _⟩ := (HA.out _ hSw.1).cells; obtain ⟨p0, p1, _⟩ := row2 hSw.2; go_simp; try with_reducible rfl)
   refine kTK (v := ?_) 4 [] hHeld ?y5 ?_
   case y5 => (intro W hSw; obtain ⟨y0, _⟩ := (HA.out _ hSw.1).cells; obtain ⟨p0, p1, _⟩ := row2 hSw.2; go_simp; try with_reducible rfl)
   try refine kNK ?_
   refine kPK 5 fun KQ hKQ => ?_
   go_simp
   go_at_call 59
   refine (scr_move sp F S ⟨r, c⟩ _ (HA.out _ HB5.out).scr).mono ?_
   rintro e w6 ⟨rfl, ht⟩
   have HT := Lib.hid ht
   clear ht
   go_wp2_with fail
   refine hKQ.out _ _ ?_
   clear hKQ KQ
   try refine kNK ?_
   refine wpAnyK_done (by kernel_rfl) ?_ _
   refine NoPanic.normal ?_
   go_wp2_with fail
   all_goals (
    go_end0
    exact ⟨rfl, ScrTo.after HB5.out HT.out⟩)
theorem wys_goes_out {w : World} {tp sp qp : Nat} {A : Wy} {F : Nat → Prop} {S : Vz.Sr} (h : Wys w tp sp qp A F S) (r c : Int) (hin : ¬ (⟨r, c⟩ : Vz.Ps).inS S.D.R S.D.C) : Calls Tryz.prog 96 #[.pointer (some ⟨tp, 0, none⟩), .int .i64 r, .int .i64 c] w fun e w' => e = .returned (.tuple #[]) ∧ ScrTo w w' sp F S := by
 have HA := Lib.hid (fun W (hb : Below w.heap.size w W) => h.below hb)
 have HAT := Lib.hid (fun W (hb : Below w.heap.size w W) => scr_at_no sp F S ⟨r, c⟩ W (h.below hb).scr hin)
 clear h hin
 go_enter Tryz.func96, Tryz.ntmps96
 go_upto_region 1 with fail
 have HP : Hid (∀ W, Below (w.heap.size + 1) (w.alloc (.cells #[.int .i64 r, .int .i64 c] 49)) W → W.heap[w.heap.size]? = some (.cells #[.int .i64 r, .int .i64 c] 49 (0, 0)) ∧ Below w.heap.size w W) := fun W hb => box1 (hb.mono (by simp))
 have HB2 : Hid (Below (w.heap.size + 1) (w.alloc (.cells #[.int .i64 r, .int .i64 c] 49)) (w.alloc (.cells #[.int .i64 r, .int .i64 c] 49)).drew) := (Below.refl _ _).drew
 refine wp_region_noPanic ?_
 refine wp_region_k (S := fun W : World => Below (w.heap.size + 1) (w.alloc (.cells #[.int .i64 r, .int .i64 c] 49)) W) 5 (by kernel_rfl) (HB2.out) (fun hHeld => ?_)
 refine kSK 0 hHeld ?_
 refine kSK 1 hHeld ?_
 refine kSK 2 hHeld ?_
 refine kTK (v := ?_) 3 [] hHeld ?y4 ?_
 case y4 => (intro W hSw; obtain ⟨z0, z1⟩ := HP.out _ hSw; obtain ⟨y0, _⟩ := (HA.out _ z1).cells; obtain ⟨p0, p1, _⟩ := row2 z0; go_simp; try with_reducible rfl)
 refine kTK (v := ?_) 4 [] hHeld ?y5 ?_
 case y5 => (intro W hSw; obtain ⟨z0, z1⟩ := HP.out _ hSw; obtain ⟨y0, _⟩ := (HA.out _ z1).cells; obtain ⟨p0, p1, _⟩ := row2 z0; go_simp; try with_reducible rfl)
 try refine kNK ?_
 refine wpAnyK_ready (rs := [5, 9]) (by kernel_rfl) (by simp) ?_
 refine AllReadyK.free rfl (by kernel_rfl) (fun KQ hKQ => ?_) (AllReadyK.cons rfl (fun KQ hKQ => ?_) AllReadyK.nil)
 focus
  go_simp
  go_at_call 21
  refine (HAT.out _ (HP.out _ hHeld).2).mono ?_
  rintro e w2 ⟨rfl, hb2⟩
  have HB3 := Lib.hid (Below.later hHeld hb2 (Nat.le_trans (by simp) hHeld.size))
  have HB23 := Lib.hid hb2
  first | (have hl := row4 ((hb2.block _ (block_lt HC9.out)).trans HC9.out); revert hl; rintro ⟨l0, l1, l2, l3, n0, n1, n2, n3⟩) | skip
  clear hb2
  go_wp2_with fail
  refine hKQ.out _ _ ?_
  clear hKQ KQ
  try refine kNK ?_
  refine kBK 6 ?_
  refine kBK 7 ?_
  refine kBK 8 ?_
  try refine kNK ?_
  refine kPK 9 fun KQ hKQ => ?_
  go_simp
  have HC9 : Hid (((w.alloc (.cells #[.int .i64 r, .int .i64 c] 49)).drew.alloc (.cells #[.int .i32 0, .int .i64 0, .bool false, .int .i64 0] 45)).heap[w.heap.size + 1]? = some (.cells #[.int .i32 0, .int .i64 0, .bool false, .int .i64 0] 45 (0, 0))) := by
   have := heap_alloc_new (w.alloc (.cells #[.int .i64 r, .int .i64 c] 49)).drew (.cells #[.int .i32 0, .int .i64 0, .bool false, .int .i64 0] 45)
   rwa [show (w.alloc (.cells #[.int .i64 r, .int .i64 c] 49)).drew.heap.size = w.heap.size + 1 from World.size_alloc _ _] at this
  refine hKQ.out _ _ ?_
  clear hKQ KQ
  try refine kNK ?_
  refine kPK 10 fun KQ hKQ => ?_
  go_simp
  refine hKQ.out _ _ ?_
  clear hKQ KQ
  try refine kNK ?_
  refine kBK 11 ?_
  try refine kNK ?_
  refine wpAnyK_done (by kernel_rfl) ?_ _
  refine NoPanic.normal ?_
 rotate_left 1
 focus
  go_simp
  have HC9 : Hid (((w.alloc (.cells #[.int .i64 r, .int .i64 c] 49)).drew.alloc (.cells #[.int .i32 0, .int .i64 0, .bool false, .int .i64 0] 45)).heap[w.heap.size + 1]? = some (.cells #[.int .i32 0, .int .i64 0, .bool false, .int .i64 0] 45 (0, 0))) := by
   have := heap_alloc_new (w.alloc (.cells #[.int .i64 r, .int .i64 c] 49)).drew (.cells #[.int .i32 0, .int .i64 0, .bool false, .int .i64 0] 45)
   rwa [show (w.alloc (.cells #[.int .i64 r, .int .i64 c] 49)).drew.heap.size = w.heap.size + 1 from World.size_alloc _ _] at this
  refine hKQ.out _ _ (hHeld.alloc (Nat.le_trans (by simp) hHeld.size) _) ?_
  clear hHeld hKQ KQ
  intro hHeld
  try refine kNK ?_
  refine kPK 5 fun KQ hKQ => ?_
  go_simp
  go_at_call 21
  refine (HAT.out _ (HP.out _ hHeld).2).mono ?_
  rintro e w2 ⟨rfl, hb2⟩
  have HB3 := Lib.hid (Below.later hHeld hb2 (Nat.le_trans (by simp) hHeld.size))
  have HB23 := Lib.hid hb2
  first | (have hl := row4 ((hb2.block _ (block_lt HC9.out)).trans HC9.out); revert hl; rintro ⟨l0, l1, l2, l3, n0, n1, n2, n3⟩) | skip
  clear hb2
  go_wp2_with fail
  refine hKQ.out _ _ ?_
  clear hKQ KQ
  try refine kNK ?_
  refine kBK 6 ?_
  refine kBK 7 ?_
  refine kBK 8 ?_
  try refine kNK ?_
  refine kPK 10 fun KQ hKQ => ?_
  go_simp
  refine hKQ.out _ _ ?_
  clear hKQ KQ
  try refine kNK ?_
  refine kBK 11 ?_
  try refine kNK ?_
  refine wpAnyK_done (by kernel_rfl) ?_ _
  refine NoPanic.normal ?_
 rotate_left 1
 · have HB4 : Hid (Below (w.heap.size + 1) (w.alloc (.cells #[.int .i64 r, .int .i64 c] 49)) (w2.alloc (.cells #[.int .i32 0, .int .i64 0, .bool false, .int .i64 0] 45))) := HB3.out.alloc (Nat.le_trans (by simp) HB3.out.size) _
   have HZ1 := Lib.hid (HP.out _ HB4.out).2
   clear HB23 HB4
   generalize w2.alloc (.cells #[.int .i32 0, .int .i64 0, .bool false, .int .i64 0] 45) = W4 at *
   go_wp2_with fail
   all_goals (
    go_end0
    exact ⟨rfl, ScrTo.after HZ1.out (ScrTo.refl (HA.out _ HZ1.out).scr)⟩)
 · have HB4 : Hid (Below (w.heap.size + 1) (w.alloc (.cells #[.int .i64 r, .int .i64 c] 49)) ((((w2.setCell ⟨w.heap.size + 1, 0, none⟩ (.int .i32 0)).setCell ⟨w.heap.size + 1, 1, none⟩ (.int .i64 0)).setCell ⟨w.heap.size + 1, 2, none⟩ (.bool false)).setCell ⟨w.heap.size + 1, 3, none⟩ (.int .i64 0))) := Below.set4 HB3.out (Nat.le_refl _) _ _ _ _
   clear l0 l1 l2 l3 n0 n1 n2 n3 HC9
   have HZ1 := Lib.hid (HP.out _ HB4.out).2
   clear HB23 HB4
   generalize ((((w2.setCell ⟨w.heap.size + 1, 0, none⟩ (.int .i32 0)).setCell ⟨w.heap.size + 1, 1, none⟩ (.int .i64 0)).setCell ⟨w.heap.size + 1, 2, none⟩ (.bool false)).setCell ⟨w.heap.size + 1, 3, none⟩ (.int .i64 0)) = W4 at *
   go_wp2_with fail
   all_goals (
    go_end0
    exact ⟨rfl, ScrTo.after HZ1.out (ScrTo.refl (HA.out _ HZ1.out).scr)⟩)
theorem wys_goes {w : World} {tp sp qp : Nat} {A : Wy} {F : Nat → Prop} {S : Vz.Sr} (h : Wys w tp sp qp A F S) (r c : Int) : Calls Tryz.prog 96 #[.pointer (some ⟨tp, 0, none⟩), .int .i64 r, .int .i64 c] w fun e w' => e = .returned (.tuple #[]) ∧ ScrTo w w' sp F (if 0 ≤ r ∧ r < (S.D.R : Int) ∧ 0 ≤ c ∧ c < (S.D.C : Int) then moveS S ⟨r, c⟩ else S) := by
 by_cases hin : 0 ≤ r ∧ r < (S.D.R : Int) ∧ 0 ≤ c ∧ c < (S.D.C : Int)
 · rw [if_pos hin]
   exact wys_goes_in h r c hin
 · rw [if_neg hin]
   exact wys_goes_out h r c hin
end
end Go.Proofs.YteoeooijpjehpaaGreatDoor
