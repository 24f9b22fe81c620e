import Derived.Test.YtmgeghoalmonoaaGreatDoorAnPlain
import Derived.Test.YtmgeghoalmonoaaGreatDoorKeyM
import Derived.Test.YtmgeghoalmonoaaGreatDoorRM
import Derived.Test.YtmgeghoalmonoaaGreatDoorRQ
import Derived.Test.YtmgeghoalmonoaaGreatDoorRL

/- ANSI.SYS in memory: its box, its screen, its queue, its keys, its bytes. -/
namespace Go.Proofs.YtmgeghoalmonoaaGreatDoor
open Go.RowKit
set_option linter.unusedSimpArgs false
set_option linter.unusedVariables false

structure Pt where
  tp : Nat
  sp : Nat
  qp : Nat
  lb : Nat
  kp : Nat
  mb : Nat
  fb : Nat
def anC (P : Pt) (A : An) : Array Value := #[.pointer (some ⟨P.sp, 0, none⟩), .pointer (some ⟨P.qp, 0, none⟩), .pointer (some ⟨P.kp, 0, none⟩), .int .i64 A.attr, .bool A.wrap, .int .i64 A.sv.row, .int .i64 A.sv.col, .int .i64 A.st, .pointer (some ⟨P.fb, 0, none⟩), .int .u8 A.quo.toNat]
/-- Block k is of part i. -/
def ownA (P : Pt) (F : Nat → Prop) (v : Value) (i k : Nat) : Prop :=
  (i = 0 ∧ k = P.tp) ∨ (i = 1 ∧ F k) ∨ (i = 2 ∧ (k = P.qp ∨ k = P.lb)) ∨ (i = 3 ∧ (k = P.kp ∨ k = P.mb)) ∨ (i = 4 ∧ (k = P.fb ∨ v.ownBlock = some k))
structure AnAt (W : World) (P : Pt) (F : Nat → Prop) (v : Value) (A : An) : Prop where
  box : W.heap[P.tp]? = some (.cells (anC P A) 78 (0, 0))
  scr : Scr W P.sp F A.S
  que : ∃ fr, QueAt W P.qp P.lb fr A.most A.q A.over
  key : ∃ used ov D, KeyAt W P.kp P.mb used ov D
  buf : Buf 0 W P.fb v A.body 61 A.lost
  len : A.body.length ≤ 61
  apart : ∀ i j k, ownA P F v i k → ownA P F v j k → i = j
  zero : ∀ i k, ownA P F v i k → k ≠ 0
def AnW (W : World) (P : Pt) (G : Nat → Prop) (A : An) : Prop := ∃ F v, AnAt W P F v A ∧ ∀ k, G k ↔ ∃ i, ownA P F v i k
def AnTo (w w' : World) (P : Pt) (G : Nat → Prop) (A' : An) : Prop := (∃ G', AnW w' P G' A' ∧ ∀ k, G' k → G k ∨ w.heap.size ≤ k) ∧ Keeps G w w'
section
variable {w W W' w' : World} {P : Pt} {F F' G K : Nat → Prop} {v v' : Value} {A A' : An} {S' : Vz.Sr}
theorem AnAt.lt (h : AnAt W P F v A) {i k : Nat} (hk : ownA P F v i k) : k < W.heap.size := by
  rcases hk with ⟨_, rfl⟩ | ⟨_, hk⟩ | ⟨_, rfl | rfl⟩ | ⟨_, rfl | rfl⟩ | ⟨_, rfl | hk⟩
  · exact block_lt h.box
  · exact h.scr.lt k hk
  · obtain ⟨fr, hq⟩ := h.que; exact hq.lt.1
  · obtain ⟨fr, hq⟩ := h.que; exact hq.lt.2
  · obtain ⟨u, o, D, hq⟩ := h.key; exact hq.lt.1
  · obtain ⟨u, o, D, hq⟩ := h.key; exact hq.lt.2
  · exact h.buf.lt
  · exact (h.buf.2.2.lt k hk).2
theorem AnAt.blk (h : AnAt W P F v A) : 0 < W.heap.size := h.scr.blk.1.lt
/-- Where part i0 alone has turned, the others are as they were. -/
theorem AnAt.same (h : AnAt w P F v A) {i0 : Nat} (hK : Keeps (ownA P F v i0) w w') {i k : Nat} (hk : ownA P F v i k) (hi : i ≠ i0) : w'.heap[k]? = w.heap[k]? :=
  hK.block k (h.lt hk) fun e => hi (h.apart _ _ _ hk e)
theorem AnAt.scr_same (h : AnAt w P F v A) {i0 : Nat} (hK : Keeps (ownA P F v i0) w w') (hi : 1 ≠ i0) : Scr w' P.sp F A.S :=
  h.scr.keeps hK (fun k hk e => hi (h.apart _ _ _ (.inr (.inl ⟨rfl, hk⟩)) e)) (fun e => h.zero _ _ e rfl)
theorem AnAt.box_same (h : AnAt w P F v A) {i0 : Nat} (hK : Keeps (ownA P F v i0) w w') (hi : 0 ≠ i0) : w'.heap[P.tp]? = some (.cells (anC P A) 78 (0, 0)) :=
  (h.same hK (.inl ⟨rfl, rfl⟩) hi).trans h.box
theorem AnAt.que_same (h : AnAt w P F v A) {i0 : Nat} (hK : Keeps (ownA P F v i0) w w') (hi : 2 ≠ i0) : ∃ fr, QueAt w' P.qp P.lb fr A.most A.q A.over := by
  obtain ⟨fr, hq⟩ := h.que
  exact ⟨fr, hq.of_blocks (h.same hK (i := 2) (.inr (.inr (.inl ⟨rfl, .inl rfl⟩))) hi) (h.same hK (i := 2) (.inr (.inr (.inl ⟨rfl, .inr rfl⟩))) hi)⟩
theorem AnAt.key_same (h : AnAt w P F v A) {i0 : Nat} (hK : Keeps (ownA P F v i0) w w') (hi : 3 ≠ i0) : ∃ used ov D, KeyAt w' P.kp P.mb used ov D := by
  obtain ⟨u, o, D, hq⟩ := h.key
  exact ⟨u, o, D, hq.of_blocks (h.same hK (i := 3) (.inr (.inr (.inr (.inl ⟨rfl, .inl rfl⟩)))) hi) (h.same hK (i := 3) (.inr (.inr (.inr (.inl ⟨rfl, .inr rfl⟩)))) hi)⟩
theorem Buf.of_blocks {base g : Nat} {l : List UInt8} {most lost : Int} (h : Buf base W g v l most lost) (h1 : W'.heap[g]? = W.heap[g]?) (h2 : ∀ k, v.ownBlock = some k → W'.heap[k]? = W.heap[k]?) : Buf base W' g v l most lost := by
  refine ⟨h.1, h1.trans h.2.1, h.2.2.1, ?_⟩
  rcases h.2.2.2 with h' | ⟨g', cap, cur, rfl, hb, hg, rest⟩
  · exact .inl h'
  · exact .inr ⟨g', cap, cur, rfl, hb, (h2 g' rfl).trans hg, rest⟩
theorem AnAt.buf_same (h : AnAt w P F v A) {i0 : Nat} (hK : Keeps (ownA P F v i0) w w') (hi : 4 ≠ i0) : Buf 0 w' P.fb v A.body 61 A.lost :=
  h.buf.of_blocks (h.same hK (i := 4) (.inr (.inr (.inr (.inr ⟨rfl, .inl rfl⟩)))) hi) fun k hk => h.same hK (i := 4) (.inr (.inr (.inr (.inr ⟨rfl, .inr hk⟩)))) hi
theorem AnAt.apart_new (h : AnAt w P F v A) {i0 : Nat} (hg : ∀ i k, ownA P F' v' i k → ownA P F v i k ∨ (i = i0 ∧ w.heap.size ≤ k)) : ∀ i j k, ownA P F' v' i k → ownA P F' v' j k → i = j := by
  intro i j k hi hj
  rcases hg i k hi with h1 | ⟨h1, h2⟩ <;> rcases hg j k hj with h3 | ⟨h3, h4⟩
  · exact h.apart _ _ _ h1 h3
  · have := h.lt h1; omega
  · have := h.lt h3; omega
  · rw [h1, h3]
theorem AnAt.zero_new (h : AnAt w P F v A) {i0 : Nat} (hg : ∀ i k, ownA P F' v' i k → ownA P F v i k ∨ (i = i0 ∧ w.heap.size ≤ k)) : ∀ i k, ownA P F' v' i k → k ≠ 0 := by
  intro i k hi
  rcases hg i k hi with h1 | ⟨h1, h2⟩
  · exact h.zero _ _ h1
  · have := h.blk; omega
theorem AnTo.of (hG : ∀ k, G k ↔ ∃ i, ownA P F v i k) {i0 : Nat} (hK : Keeps (ownA P F v i0) w w') (h' : AnAt w' P F' v' A') (hg : ∀ i k, ownA P F' v' i k → ownA P F v i k ∨ (i = i0 ∧ w.heap.size ≤ k)) : AnTo w w' P G A' := by
  refine ⟨⟨fun k => ∃ i, ownA P F' v' i k, ⟨F', v', h', fun k => Iff.rfl⟩, ?_⟩, hK.mono fun k hk => (hG k).2 ⟨_, hk⟩⟩
  rintro k ⟨i, hk⟩
  exact (hg i k hk).imp (fun h => (hG k).2 ⟨i, h⟩) (fun h => h.2)
/-- The screen is another one. -/
theorem AnAt.scrTo (h : AnAt w P F v A) (hG : ∀ k, G k ↔ ∃ i, ownA P F v i k) (hs : ScrTo w w' P.sp F S') : AnTo w w' P G { A with S := S' } := by
  obtain ⟨⟨F', h1, h2⟩, hK⟩ := hs
  have hK' : Keeps (ownA P F v 1) w w' := hK.mono fun k hk => .inr (.inl ⟨rfl, hk⟩)
  have hg : ∀ i k, ownA P F' v i k → ownA P F v i k ∨ (i = 1 ∧ w.heap.size ≤ k) := by
    rintro i k (hk | ⟨rfl, hk⟩ | hk)
    · exact .inl (.inl hk)
    · exact (h2 k hk).imp (fun h => .inr (.inl ⟨rfl, h⟩)) (fun h => ⟨rfl, h⟩)
    · exact .inl (.inr (.inr hk))
  exact AnTo.of hG hK' ⟨h.box_same hK' (by decide), h1, h.que_same hK' (by decide), h.key_same hK' (by decide), h.buf_same hK' (by decide), h.len, h.apart_new hg, h.zero_new hg⟩ hg
/-- The queue is another one. -/
theorem AnAt.queTo {q : List UInt8} {over : Bool} (h : AnAt w P F v A) (hG : ∀ k, G k ↔ ∃ i, ownA P F v i k) (hs : QueTo w w' P.qp P.lb A.most q over) : AnTo w w' P G { A with q := q, over := over } := by
  obtain ⟨h1, hK⟩ := hs
  have hK' : Keeps (ownA P F v 2) w w' := hK.mono fun k hk => .inr (.inr (.inl ⟨rfl, hk⟩))
  exact AnTo.of hG hK' ⟨h.box_same hK' (by decide), h.scr_same hK' (by decide), h1, h.key_same hK' (by decide), h.buf_same hK' (by decide), h.len, h.apart, h.zero⟩ fun i k hk => .inl hk
/-- The keys are other ones. -/
theorem AnAt.keyTo (h : AnAt w P F v A) (hG : ∀ k, G k ↔ ∃ i, ownA P F v i k) (hs : KeyTo w w' P.kp P.mb) : AnTo w w' P G A := by
  obtain ⟨h1, hK⟩ := hs
  have hK' : Keeps (ownA P F v 3) w w' := hK.mono fun k hk => .inr (.inr (.inr (.inl ⟨rfl, hk⟩)))
  exact AnTo.of hG hK' ⟨h.box_same hK' (by decide), h.scr_same hK' (by decide), h.que_same hK' (by decide), h1, h.buf_same hK' (by decide), h.len, h.apart, h.zero⟩ fun i k hk => .inl hk
/-- A buffer behind a call. -/
def BufTo (w w' : World) (g : Nat) (v : Value) (l : List UInt8) (lost : Int) : Prop :=
  (∃ v', Buf 0 w' g v' l 61 lost ∧ ∀ k, v'.ownBlock = some k → v.ownBlock = some k ∨ w.heap.size ≤ k) ∧ Keeps (fun k => k = g ∨ v.ownBlock = some k) w w'
theorem AnAt.bufTo {l : List UInt8} {n : Nat} (h : AnAt w P F v A) (hG : ∀ k, G k ↔ ∃ i, ownA P F v i k) (hl : l.length ≤ 61) (hs : BufTo w w' P.fb v l n) : AnTo w w' P G { A with body := l, lost := n } := by
  obtain ⟨⟨v', h1, h2⟩, hK⟩ := hs
  have hK' : Keeps (ownA P F v 4) w w' := hK.mono fun k hk => .inr (.inr (.inr (.inr ⟨rfl, hk⟩)))
  have hg : ∀ i k, ownA P F v' i k → ownA P F v i k ∨ (i = 4 ∧ w.heap.size ≤ k) := by
    rintro i k (hk | hk | hk | hk | ⟨rfl, rfl | hk⟩)
    · exact .inl (.inl hk)
    · exact .inl (.inr (.inl hk))
    · exact .inl (.inr (.inr (.inl hk)))
    · exact .inl (.inr (.inr (.inr (.inl hk))))
    · exact .inl (.inr (.inr (.inr (.inr ⟨rfl, .inl rfl⟩))))
    · exact (h2 k hk).imp (fun h => .inr (.inr (.inr (.inr ⟨rfl, .inr h⟩)))) (fun h => ⟨rfl, h⟩)
  exact AnTo.of hG hK' ⟨h.box_same hK' (by decide), h.scr_same hK' (by decide), h.que_same hK' (by decide), h.key_same hK' (by decide), h1, hl, h.apart_new hg, h.zero_new hg⟩ hg
/-- The terminal's own box is laid anew. -/
theorem AnAt.boxed (h : AnAt w P F v A) (hG : ∀ k, G k ↔ ∃ i, ownA P F v i k) (hS : A'.S = A.S) (hq : A'.q = A.q) (ho : A'.over = A.over) (hm : A'.most = A.most) (hb : A'.body = A.body) (hl : A'.lost = A.lost)
    (hbox : w'.heap[P.tp]? = some (.cells (anC P A') 78 (0, 0))) (hK : Keeps (fun k => k = P.tp) w w') : AnTo w w' P G A' := by
  have hK' : Keeps (ownA P F v 0) w w' := hK.mono fun k hk => .inl ⟨rfl, hk⟩
  exact AnTo.of hG hK' ⟨hbox, by rw [hS]; exact h.scr_same hK' (by decide), by rw [hq, ho, hm]; exact h.que_same hK' (by decide), h.key_same hK' (by decide), by rw [hb, hl]; exact h.buf_same hK' (by decide), by rw [hb]; exact h.len, h.apart, h.zero⟩ fun i k hk => .inl hk
theorem AnAt.keeps (h : AnAt W P F v A) (hk : Keeps K W W') (hd : ∀ i k, ownA P F v i k → ¬ K k) (hb : ¬ K 0) : AnAt W' P F v A := by
  have e : ∀ i k, ownA P F v i k → W'.heap[k]? = W.heap[k]? := fun i k hi => hk.block k (h.lt hi) (hd i k hi)
  obtain ⟨fr, hq⟩ := h.que
  obtain ⟨u, o, D, hm⟩ := h.key
  exact ⟨(e 0 _ (.inl ⟨rfl, rfl⟩)).trans h.box, h.scr.keeps hk (fun k hf => hd 1 k (.inr (.inl ⟨rfl, hf⟩))) hb, ⟨fr, hq.of_blocks (e 2 _ (.inr (.inr (.inl ⟨rfl, .inl rfl⟩)))) (e 2 _ (.inr (.inr (.inl ⟨rfl, .inr rfl⟩))))⟩,
    ⟨u, o, D, hm.of_blocks (e 3 _ (.inr (.inr (.inr (.inl ⟨rfl, .inl rfl⟩))))) (e 3 _ (.inr (.inr (.inr (.inl ⟨rfl, .inr rfl⟩)))))⟩, h.buf.of_blocks (e 4 _ (.inr (.inr (.inr (.inr ⟨rfl, .inl rfl⟩))))) (fun k hk => e 4 k (.inr (.inr (.inr (.inr ⟨rfl, .inr hk⟩))))), h.len, h.apart, h.zero⟩
theorem AnW.lt (h : AnW W P G A) : ∀ k, G k → k < W.heap.size := by
  obtain ⟨F, v, h, hG⟩ := h
  exact fun k hk => by obtain ⟨i, hi⟩ := (hG k).1 hk; exact h.lt hi
theorem AnW.zero (h : AnW W P G A) : ∀ k, G k → k ≠ 0 := by
  obtain ⟨F, v, h, hG⟩ := h
  exact fun k hk => by obtain ⟨i, hi⟩ := (hG k).1 hk; exact h.zero i k hi
theorem AnW.blk (h : AnW W P G A) : Blanked W := by
  obtain ⟨F, v, h, hG⟩ := h
  exact h.scr.blk.1
theorem AnW.keeps (h : AnW W P G A) (hk : Keeps K W W') (hd : ∀ k, G k → ¬ K k) (hb : ¬ K 0) : AnW W' P G A := by
  obtain ⟨F, v, h, hG⟩ := h
  exact ⟨F, v, h.keeps hk (fun i k hi => hd k ((hG k).2 ⟨i, hi⟩)) hb, hG⟩
theorem AnW.below (h : AnW W P G A) (hb : Below W.heap.size W W') : AnW W' P G A := h.keeps (K := fun _ => False) (Keeps.of_below hb) (fun _ _ e => e) (fun e => e)
theorem AnTo.refl (h : AnW w P G A) : AnTo w w P G A := ⟨⟨G, h, fun k hk => .inl hk⟩, Keeps.refl G w⟩
theorem AnTo.after {w w1 w2 : World} (hb : Below w.heap.size w w1) (h : AnTo w1 w2 P G A') : AnTo w w2 P G A' := by
  obtain ⟨⟨F', h1, h2⟩, h3⟩ := h
  exact ⟨⟨F', h1, fun k hk => (h2 k hk).imp id fun hk => Nat.le_trans hb.size hk⟩, (Keeps.of_below hb).trans h3 fun k hk => .inl hk⟩
theorem AnTo.later {w w1 w2 : World} (h : AnTo w w1 P G A') (hb : Below w1.heap.size w1 w2) : AnTo w w2 P G A' := by
  obtain ⟨⟨F', h1, h2⟩, h3⟩ := h
  exact ⟨⟨F', h1.below hb, h2⟩, h3.trans (Keeps.of_below hb : Keeps G w1 w2) fun k hk => .inl hk⟩
theorem AnTo.trans {w w1 w2 : World} {A1 A2 : An} (h : AnTo w w1 P G A1) (h' : ∀ G', AnW w1 P G' A1 → AnTo w1 w2 P G' A2) : AnTo w w2 P G A2 := by
  obtain ⟨⟨F', h1, h2⟩, h3⟩ := h
  obtain ⟨⟨F'', h4, h5⟩, h6⟩ := h' F' h1
  refine ⟨⟨F'', h4, fun k hk => ?_⟩, h3.trans h6 fun k hk => h2 k hk⟩
  rcases h5 k hk with hk | hk
  · exact h2 k hk
  · exact .inr (Nat.le_trans h3.size hk)
theorem AnW.scrTo (h : AnW w P G A) : ∃ F, Scr w P.sp F A.S ∧ ∀ w' S', ScrTo w w' P.sp F S' → AnTo w w' P G { A with S := S' } := by
  obtain ⟨F, v, h, hG⟩ := h
  exact ⟨F, h.scr, fun _ _ hs => h.scrTo hG hs⟩
theorem AnW.scr (h : AnW w P G A) : ∃ F, Scr w P.sp F A.S := by
  obtain ⟨F, v, h, hG⟩ := h
  exact ⟨F, h.scr⟩
theorem AnW.boxed (h : AnW w P G A) (hS : A'.S = A.S) (hq : A'.q = A.q) (ho : A'.over = A.over) (hm : A'.most = A.most) (hb : A'.body = A.body) (hl : A'.lost = A.lost)
    (hbox : w'.heap[P.tp]? = some (.cells (anC P A') 78 (0, 0))) (hK : Keeps (fun k => k = P.tp) w w') : AnTo w w' P G A' := by
  obtain ⟨F, v, h, hG⟩ := h
  exact h.boxed hG hS hq ho hm hb hl hbox hK
theorem AnW.box (h : AnW w P G A) : w.heap[P.tp]? = some (.cells (anC P A) 78 (0, 0)) := by
  obtain ⟨F, v, h, hG⟩ := h
  exact h.box
theorem AnW.here (h : AnW w P G A) : A.S.pl.at_.inS A.S.D.R A.S.D.C ∧ A.S.D.may := by
  obtain ⟨F, v, h, hG⟩ := h
  exact h.scr.here
theorem rowA {W : World} {g : Nat} {a b c d e f x y z u : Value} {t : TypeId} (h : W.heap[g]? = some (.cells #[a, b, c, d, e, f, x, y, z, u] t (0, 0))) :
    (W.cell? ⟨g, 0, none⟩ = some a ∧ W.cell? ⟨g, 1, none⟩ = some b ∧ W.cell? ⟨g, 2, none⟩ = some c ∧ W.cell? ⟨g, 3, none⟩ = some d ∧ W.cell? ⟨g, 4, none⟩ = some e ∧ W.cell? ⟨g, 5, none⟩ = some f ∧ W.cell? ⟨g, 6, none⟩ = some x ∧ W.cell? ⟨g, 7, none⟩ = some y ∧ W.cell? ⟨g, 8, none⟩ = some z ∧ W.cell? ⟨g, 9, none⟩ = some u) ∧
    W.frozen? ⟨g, 3, none⟩ = false ∧ W.frozen? ⟨g, 4, none⟩ = false ∧ W.frozen? ⟨g, 5, none⟩ = false ∧ W.frozen? ⟨g, 6, none⟩ = false ∧ W.frozen? ⟨g, 7, none⟩ = false ∧ W.frozen? ⟨g, 9, none⟩ = false :=
  ⟨⟨cell_row h 0, cell_row h 1, cell_row h 2, cell_row h 3, cell_row h 4, cell_row h 5, cell_row h 6, cell_row h 7, cell_row h 8, cell_row h 9⟩, frozen_row h 3, frozen_row h 4, frozen_row h 5, frozen_row h 6, frozen_row h 7, frozen_row h 9⟩
end
end Go.Proofs.YtmgeghoalmonoaaGreatDoor
