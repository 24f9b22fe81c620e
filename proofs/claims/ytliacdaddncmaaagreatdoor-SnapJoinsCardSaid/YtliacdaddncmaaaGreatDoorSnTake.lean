import Derived.Test.YtliacdaddncmaaaGreatDoorSnLooks
import Derived.Test.YtliacdaddncmaaaGreatDoorLQ
import Derived.Test.YtliacdaddncmaaaGreatDoorLO
import Derived.Test.YtliacdaddncmaaaGreatDoorLH

/- Walks: snap.Take: what is to be seen of a screen. -/
namespace Go.Proofs.YtliacdaddncmaaaGreatDoor
open Go.RowKit
set_option linter.unusedSimpArgs false
set_option linter.unusedVariables false
attribute [local go_sem] alloc_drewN setCell_drewN World.cell?_alloc_some frozen_alloc_some size_f0 size_f1

/-- The nine cells of a shot. -/
def shV (x : Sh) (OB g cap : Nat) (sv : Value) : Array Value := #[.int .i64 x.p, .int .i64 (x.S.D.R : Int), .int .i64 (x.S.D.C : Int), .int .i64 x.S.pl.at_.row, .int .i64 x.S.pl.at_.col, .bool x.S.pl.pend, .slice (some ⟨OB, 0, none⟩) x.S.D.R x.S.D.R, .slice (some ⟨g, 0, none⟩) x.S.D.R cap, sv]
/-- What a shot's slices hold: all behind B. -/
structure ShP (B : Nat) (W : World) (x : Sh) (OB g cap : Nat) (sv : Value) (G K G' : Nat → Nat) : Prop where
  rows : RowsAt B W OB x.S.D G K
  looks : LooksAt B W g x.S.D.R x.S.D.C (lookS x.p x.S.D) G'
  stops : W.ownsRow B 3 1 sv (stopsI x.S.D.C x.S.T).length ((stopsI x.S.D.C x.S.T).map (Value.int .i64))
  nil : sv = .slice none 0 0 ↔ stopsI x.S.D.C x.S.T = []
  le : B ≤ W.heap.size
theorem ShP.below {B : Nat} {W W' : World} {x : Sh} {OB g cap : Nat} {sv : Value} {G K G' : Nat → Nat} (h : ShP B W x OB g cap sv G K G') (hb : Below W.heap.size W W') : ShP B W' x OB g cap sv G K G' :=
  ⟨h.rows.below hb, h.looks.below hb, ownsRow_low h.stops hb, h.nil, Nat.le_trans h.le hb.size⟩
theorem ShP.of_blocks {B : Nat} {W W' : World} {x : Sh} {OB g cap : Nat} {sv : Value} {G K G' : Nat → Nat} (h : ShP B W x OB g cap sv G K G') (e : ∀ k, B ≤ k → k < W.heap.size → W'.heap[k]? = W.heap[k]?) (hs : W.heap.size ≤ W'.heap.size) : ShP B W' x OB g cap sv G K G' := by
  refine ⟨h.rows.of_blocks e, h.looks.of_blocks e hs, ⟨h.stops.1, ?_⟩, h.nil, Nat.le_trans h.le hs⟩
  rcases h.stops.2 with h' | ⟨g, cap, cur, hv, hB, hg, rest⟩
  · exact .inl h'
  · exact .inr ⟨g, cap, cur, hv, hB, (e g hB (Array.getElem?_eq_some_iff.1 hg).1).trans hg, rest⟩
theorem RowsAt.lower {B B' : Nat} {W : World} {OB : Nat} {D : Vz.Gd} {G K : Nat → Nat} (h : RowsAt B W OB D G K) (hb : B' ≤ B) : RowsAt B' W OB D G K := ⟨h.outer, h.row, h.low, h.inj, Nat.le_trans hb h.ge⟩
theorem LooksAt.lower {B B' : Nat} {W : World} {g R C : Nat} {L : Nat → Nat → Int} {G : Nat → Nat} (h : LooksAt B W g R C L G) (hb : B' ≤ B) : LooksAt B' W g R C L G := ⟨h.outer, ⟨h.ints.row, fun i hi => Nat.le_trans hb (h.ints.ge i hi), h.ints.mono⟩, h.lt, Nat.le_trans hb h.ge, h.ne⟩
theorem ownsRow_lower {B B' : Nat} {W : World} {e : TypeId} {size : Nat} {v : Value} {k : Nat} {xs : List Value} (h : W.ownsRow B e size v k xs) (hb : B' ≤ B) : W.ownsRow B' e size v k xs := by
  refine ⟨h.1, ?_⟩
  rcases h.2 with h' | ⟨g, cap, cur, hv, hB, rest⟩
  · exact .inl h'
  · exact .inr ⟨g, cap, cur, hv, Nat.le_trans hb hB, rest⟩
theorem ownsRow_blocks {B : Nat} {W W' : World} {e : TypeId} {size : Nat} {v : Value} {k : Nat} {xs : List Value} (h : W.ownsRow B e size v k xs) (eq : ∀ k, B ≤ k → k < W.heap.size → W'.heap[k]? = W.heap[k]?) : W'.ownsRow B e size v k xs := by
  refine ⟨h.1, ?_⟩
  rcases h.2 with h' | ⟨g, cap, cur, hv, hB, hg, rest⟩
  · exact .inl h'
  · exact .inr ⟨g, cap, cur, hv, hB, (eq g hB (Array.getElem?_eq_some_iff.1 hg).1).trans hg, rest⟩
theorem row9 {W : World} {g : Nat} {a b c d e f i j k : Value} {t : TypeId} (h : W.heap[g]? = some (.cells #[a, b, c, d, e, f, i, j, k] t (0, 0))) : (W.cell? ⟨g, 0, none⟩ = some a ∧ W.cell? ⟨g, 1, none⟩ = some b ∧ W.cell? ⟨g, 2, none⟩ = some c ∧ W.cell? ⟨g, 3, none⟩ = some d ∧ W.cell? ⟨g, 4, none⟩ = some e ∧ W.cell? ⟨g, 5, none⟩ = some f ∧ W.cell? ⟨g, 6, none⟩ = some i ∧ W.cell? ⟨g, 7, none⟩ = some j ∧ W.cell? ⟨g, 8, none⟩ = some k) ∧ ∀ q, W.frozen? ⟨g, q, none⟩ = false :=
  ⟨⟨cell_row h 0, cell_row h 1, cell_row h 2, cell_row h 3, cell_row h 4, cell_row h 5, cell_row h 6, cell_row h 7, cell_row h 8⟩, fun q => frozen_row h q⟩
def sh0 : Array Value := #[.int .i64 0, .int .i64 0, .int .i64 0, .int .i64 0, .int .i64 0, .bool false, .slice none 0 0, .slice none 0 0, .slice none 0 0]
set_option maxRecDepth 100000 in
set_option maxHeartbeats 8000000 in
/-- Of no personality, or of no screen, there is no shot. -/
theorem take_no (p : Int) (s : Option Addr) (w : World) (h : nameB p = [] ∨ s = none) : Calls Tryz.prog 6 #[.int .i64 p, .pointer s] w fun e w' => e = .returned (.tuple #[.agg sh0, .int .i64 (if nameB p = [] then 12 else 2)]) ∧ Below w.heap.size w w' := by
  have HN := Lib.hid (name_any p)
  obtain ⟨⟨x0, x1, x2, x3, x4, x5, x6, x7, x8⟩, hf⟩ := row9 (heap_alloc_new w (.cells sh0 30))
  have hf0 := hf 0; have hf1 := hf 1; have hf2 := hf 2; have hf3 := hf 3; have hf4 := hf 4; have hf5 := hf 5; have hf6 := hf 6; have hf7 := hf 7; have hf8 := hf 8
  clear hf
  unfold sh0 at *
  by_cases hn : nameB p = []
  · rw [hn] at HN
    rw [if_pos hn]
    clear hn h
    go_enter Tryz.func6, Tryz.ntmps6
    go_wp2_with (go_at_call 20; refine (HN.out _).mono ?_; rintro e w1 ⟨rfl, rfl⟩)
    exact bodyPost_ret (v := .tuple #[.agg #[.int .i64 0, .int .i64 0, .int .i64 0, .int .i64 0, .int .i64 0, .bool false, .slice none 0 0, .slice none 0 0, .slice none 0 0], .int .i64 12]) (by simp [results, Tryz.results6, go_sem, x0, x1, x2, x3, x4, x5, x6, x7, x8]) rfl ⟨rfl, below1 _ _⟩
  · obtain rfl : s = none := by rcases h with h | h; exact absurd h hn; exact h
    rw [if_neg hn]
    have hne : ((nameB p == []) = false) := by simp [hn]
    clear hn h
    generalize nameB p = nm at *
    go_enter Tryz.func6, Tryz.ntmps6
    go_wp2_with (go_at_call 20; refine (HN.out _).mono ?_; rintro e w1 ⟨rfl, rfl⟩)
    exact bodyPost_ret (v := .tuple #[.agg #[.int .i64 0, .int .i64 0, .int .i64 0, .int .i64 0, .int .i64 0, .bool false, .slice none 0 0, .slice none 0 0, .slice none 0 0], .int .i64 2]) (by simp [results, Tryz.results6, go_sem, x0, x1, x2, x3, x4, x5, x6, x7, x8]) rfl ⟨rfl, below1 _ _⟩
theorem heap9 {W : World} {g : Nat} {a b c d e f i j k : Value} {t : TypeId} (h : W.heap[g]? = some (.cells #[a, b, c, d, e, f, i, j, k] t (0, 0))) (a' b' c' d' e' f' i' j' k' : Value) :
    (((((((((W.setCell ⟨g, 0, none⟩ a').setCell ⟨g, 1, none⟩ b').setCell ⟨g, 2, none⟩ c').setCell ⟨g, 3, none⟩ d').setCell ⟨g, 4, none⟩ e').setCell ⟨g, 5, none⟩ f').setCell ⟨g, 6, none⟩ i').setCell ⟨g, 7, none⟩ j').setCell ⟨g, 8, none⟩ k').heap[g]? = some (.cells #[a', b', c', d', e', f', i', j', k'] t (0, 0)) := by
  have h0 : (W.setCell ⟨g, 0, none⟩ a').heap[g]? = some (.cells #[a', b, c, d, e, f, i, j, k] t (0, 0)) := heap_set_same h 0 a'
  have h1 : ((W.setCell ⟨g, 0, none⟩ a').setCell ⟨g, 1, none⟩ b').heap[g]? = some (.cells #[a', b', c, d, e, f, i, j, k] t (0, 0)) := heap_set_same h0 1 b'
  have h2 : (((W.setCell ⟨g, 0, none⟩ a').setCell ⟨g, 1, none⟩ b').setCell ⟨g, 2, none⟩ c').heap[g]? = some (.cells #[a', b', c', d, e, f, i, j, k] t (0, 0)) := heap_set_same h1 2 c'
  have h3 : ((((W.setCell ⟨g, 0, none⟩ a').setCell ⟨g, 1, none⟩ b').setCell ⟨g, 2, none⟩ c').setCell ⟨g, 3, none⟩ d').heap[g]? = some (.cells #[a', b', c', d', e, f, i, j, k] t (0, 0)) := heap_set_same h2 3 d'
  have h4 : (((((W.setCell ⟨g, 0, none⟩ a').setCell ⟨g, 1, none⟩ b').setCell ⟨g, 2, none⟩ c').setCell ⟨g, 3, none⟩ d').setCell ⟨g, 4, none⟩ e').heap[g]? = some (.cells #[a', b', c', d', e', f, i, j, k] t (0, 0)) := heap_set_same h3 4 e'
  have h5 : ((((((W.setCell ⟨g, 0, none⟩ a').setCell ⟨g, 1, none⟩ b').setCell ⟨g, 2, none⟩ c').setCell ⟨g, 3, none⟩ d').setCell ⟨g, 4, none⟩ e').setCell ⟨g, 5, none⟩ f').heap[g]? = some (.cells #[a', b', c', d', e', f', i, j, k] t (0, 0)) := heap_set_same h4 5 f'
  have h6 : (((((((W.setCell ⟨g, 0, none⟩ a').setCell ⟨g, 1, none⟩ b').setCell ⟨g, 2, none⟩ c').setCell ⟨g, 3, none⟩ d').setCell ⟨g, 4, none⟩ e').setCell ⟨g, 5, none⟩ f').setCell ⟨g, 6, none⟩ i').heap[g]? = some (.cells #[a', b', c', d', e', f', i', j, k] t (0, 0)) := heap_set_same h5 6 i'
  have h7 : ((((((((W.setCell ⟨g, 0, none⟩ a').setCell ⟨g, 1, none⟩ b').setCell ⟨g, 2, none⟩ c').setCell ⟨g, 3, none⟩ d').setCell ⟨g, 4, none⟩ e').setCell ⟨g, 5, none⟩ f').setCell ⟨g, 6, none⟩ i').setCell ⟨g, 7, none⟩ j').heap[g]? = some (.cells #[a', b', c', d', e', f', i', j', k] t (0, 0)) := heap_set_same h6 7 j'
  have h8 : (((((((((W.setCell ⟨g, 0, none⟩ a').setCell ⟨g, 1, none⟩ b').setCell ⟨g, 2, none⟩ c').setCell ⟨g, 3, none⟩ d').setCell ⟨g, 4, none⟩ e').setCell ⟨g, 5, none⟩ f').setCell ⟨g, 6, none⟩ i').setCell ⟨g, 7, none⟩ j').setCell ⟨g, 8, none⟩ k').heap[g]? = some (.cells #[a', b', c', d', e', f', i', j', k'] t (0, 0)) := heap_set_same h7 8 k'
  exact h8
set_option maxRecDepth 100000 in
set_option maxHeartbeats 16000000 in
theorem take_ok (p : Int) (hp : nameB p ≠ []) (sp : Nat) (F : Nat → Prop) (S : Vz.Sr) (hx : ∀ i j, CellOk (S.D.X i j)) (w : World) (h : Scr w sp F S) : Calls Tryz.prog 6 #[.int .i64 p, .pointer (some ⟨sp, 0, none⟩)] w fun e w' => ∃ OB g cap sv G K G', e = .returned (.tuple #[.agg (shV ⟨p, S⟩ OB g cap sv), .int .i64 0]) ∧ ShP w.heap.size w' ⟨p, S⟩ OB g cap sv G K G' ∧ Below w.heap.size w w' := by
  have HN := Lib.hid (name_any p)
  have HM := Lib.hid h.here.2
  have HX := Lib.hid hx
  have HSZ := Lib.hid (fun W (hb : Below w.heap.size w W) => scr_size sp F S W (h.below hb))
  have HRO := Lib.hid (fun W (hb : Below w.heap.size w W) => scr_rows sp F S W (h.below hb))
  have HLI := Lib.hid (fun W (hb : Below w.heap.size w W) => scr_listed sp F S W (h.below hb))
  have HCU := Lib.hid (fun W (hb : Below w.heap.size w W) => scr_cursor sp F S W (h.below hb))
  have HLO := Lib.hid (fun (B0 OB : Nat) (G0 K0 : Nat → Nat) (W : World) (hr : RowsAt B0 W OB S.D G0 K0) => looks_ok p hr h.here.2 hx)
  have hne : ((nameB p == []) = false) := by simp [hp]
  have HB0 := Lib.hid (below1 w (.cells sh0 30))
  have HT0 := Lib.hid (heap_alloc_new w (.cells sh0 30))
  clear h hx hp
  generalize nameB p = nm at *
  unfold sh0 at *
  go_enter Tryz.func6, Tryz.ntmps6
  go_wp2_with (first
    | (go_at_call 20; refine (HN.out _).mono ?_; rintro e w1 ⟨rfl, rfl⟩)
    | (go_at_call 21; refine (HSZ.out _ HB0.out).mono ?_; rintro e w2 ⟨rfl, hb⟩; have HB2 := Lib.hid (Below.later HB0.out hb HB0.out.size); have HZ2 := Lib.hid (show w.heap.size + 1 ≤ w2.heap.size by have := hb.size; rw [World.size_alloc] at this; exact this); have HT2 := Lib.hid ((hb.block _ (block_lt HT0.out)).trans HT0.out); clear hb)
    | (go_at_call 22; refine (HRO.out _ HB2.out).mono ?_; rintro e w3 ⟨OB, G, K, rfl, hr, hb⟩; have HR3 := Lib.hid (hr.lower HZ2.out); have HZ3 := Lib.hid (Nat.le_trans HZ2.out hb.size); have HB3 := Lib.hid (Below.later HB2.out hb HB2.out.size); have HT3 := Lib.hid ((hb.block _ (block_lt HT2.out)).trans HT2.out); clear hb hr)
    | (go_at_call 23; refine (HLI.out _ HB3.out).mono ?_; rintro e w4 ⟨sv, rfl, hs, hn, hb⟩; obtain ⟨sa, sc, rfl⟩ : ∃ a c, sv = .slice a (stopsI S.D.C S.T).length c := (by rcases hs.2 with ⟨hv, hz⟩ | ⟨g, cap, cur, hv, _⟩; exact ⟨none, 0, by rw [hv, hz]⟩; exact ⟨_, _, hv⟩); have HS4 := Lib.hid (And.intro (ownsRow_lower hs HZ3.out) hn); have HR4 := Lib.hid (HR3.out.below hb); have HB4 := Lib.hid (Below.later HB3.out hb HB3.out.size); have HT4 := Lib.hid ((hb.block _ (block_lt HT3.out)).trans HT3.out); clear hb hs hn)
    | (go_at_call 24; refine (HCU.out _ (HB4.out.alloc HB4.out.size _)).mono ?_; rintro e w6 ⟨rfl, hb⟩; have HX6 := Lib.hid ((hb.block _ (block_lt (heap_alloc_new w4 _))).trans (heap_alloc_new w4 (.cells #[.int .i64 p, .int .i64 (S.D.R : Int), .int .i64 (S.D.C : Int), .int .i64 0, .int .i64 0, .bool false, .slice (some ⟨OB, 0, none⟩) S.D.R S.D.R, .slice none 0 0, .slice sa (stopsI S.D.C S.T).length sc] 30))); have HB6 := Lib.hid (Below.later (below1 w4 _) hb (below1 w4 _).size); clear hb; obtain ⟨⟨y0, y1, y2, y3, y4, y5, y6, y7, y8⟩, yf⟩ := row9 HX6.out; have yf3 := yf 3; have yf4 := yf 4; have yf5 := yf 5; clear yf)
    | (go_at_call 25; have hb7 : Below w4.heap.size w4 (((w6.setCell ⟨w4.heap.size, 3, none⟩ (.int .i64 S.pl.at_.row)).setCell ⟨w4.heap.size, 4, none⟩ (.int .i64 S.pl.at_.col)).setCell ⟨w4.heap.size, 5, none⟩ (.bool S.pl.pend)) := ((HB6.out.setCell (p := ⟨w4.heap.size, 3, none⟩) (Nat.le_refl _) _).setCell (p := ⟨w4.heap.size, 4, none⟩) (Nat.le_refl _) _).setCell (p := ⟨w4.heap.size, 5, none⟩) (Nat.le_refl _) _; have HX7 := Lib.hid (show (((w6.setCell ⟨w4.heap.size, 3, none⟩ (.int .i64 S.pl.at_.row)).setCell ⟨w4.heap.size, 4, none⟩ (.int .i64 S.pl.at_.col)).setCell ⟨w4.heap.size, 5, none⟩ (.bool S.pl.pend)).heap[w4.heap.size]? = some (.cells #[.int .i64 p, .int .i64 (S.D.R : Int), .int .i64 (S.D.C : Int), .int .i64 S.pl.at_.row, .int .i64 S.pl.at_.col, .bool S.pl.pend, .slice (some ⟨OB, 0, none⟩) S.D.R S.D.R, .slice none 0 0, .slice sa (stopsI S.D.C S.T).length sc] 30 (0, 0)) from heap_set_same (heap_set_same (heap_set_same HX6.out 3 _) 4 _) 5 _); clear y0 y1 y2 y3 y4 y5 y6 y7 y8 yf3 yf4 yf5; have HB7 := Lib.hid hb7; clear hb7; generalize ((w6.setCell ⟨w4.heap.size, 3, none⟩ (.int .i64 S.pl.at_.row)).setCell ⟨w4.heap.size, 4, none⟩ (.int .i64 S.pl.at_.col)).setCell ⟨w4.heap.size, 5, none⟩ (.bool S.pl.pend) = W7 at *; refine (HLO.out _ _ _ _ _ (HR4.out.below HB7.out)).mono ?_; rintro e w8 ⟨g, cap, G', rfl, hl, hb8⟩; have HL8 := Lib.hid hl; have HB8 := Lib.hid hb8; obtain ⟨⟨y0, y1, y2, y3, y4, y5, y6, y7, y8⟩, yf⟩ := row9 ((hb8.block _ (block_lt HX7.out)).trans HX7.out); have yf7 := yf 7; obtain ⟨⟨z0, z1, z2, z3, z4, z5, z6, z7, z8⟩, zf⟩ := row9 ((hb8.block _ (by have := HB7.out.size; have := block_lt HT4.out; omega)).trans ((HB7.out.block _ (block_lt HT4.out)).trans HT4.out)); have zf0 := zf 0; have zf1 := zf 1; have zf2 := zf 2; have zf3 := zf 3; have zf4 := zf 4; have zf5 := zf 5; have zf6 := zf 6; have zf7 := zf 7; have zf8 := zf 8; have htx := block_lt HT4.out; have htn : ¬ (w.heap.size = w4.heap.size) := (by omega); clear hl hb8 zf yf))
  clear y0 y1 y2 y3 y4 y5 y6 y7 y8 yf7 z0 z1 z2 z3 z4 z5 z6 z7 z8 zf0 zf1 zf2 zf3 zf4 zf5 zf6 zf7 zf8
  have hT9 : (w8.setCell ⟨w4.heap.size, 7, none⟩ (.slice (some ⟨g, 0, none⟩) S.D.R cap)).heap[w.heap.size]? = some (.cells #[.int .i64 0, .int .i64 0, .int .i64 0, .int .i64 0, .int .i64 0, .bool false, .slice none 0 0, .slice none 0 0, .slice none 0 0] 30 (0, 0)) :=
    (heap_setCell_other _ _ _ _ (by show w.heap.size ≠ w4.heap.size; omega)).trans ((HB8.out.block _ (by have := HB7.out.size; omega)).trans ((HB7.out.block _ htx).trans HT4.out))
  have hTf := heap9 hT9 (.int .i64 p) (.int .i64 (S.D.R : Int)) (.int .i64 (S.D.C : Int)) (.int .i64 S.pl.at_.row) (.int .i64 S.pl.at_.col) (.bool S.pl.pend) (.slice (some ⟨OB, 0, none⟩) S.D.R S.D.R) (.slice (some ⟨g, 0, none⟩) S.D.R cap) (.slice sa (stopsI S.D.C S.T).length sc)
  have hblk : ∀ k, k ≠ w.heap.size → k ≠ w4.heap.size → ((((((((((w8.setCell ⟨w4.heap.size, 7, none⟩ (.slice (some ⟨g, 0, none⟩) S.D.R cap)).setCell ⟨w.heap.size, 0, none⟩ (.int .i64 p)).setCell ⟨w.heap.size, 1, none⟩ (.int .i64 (S.D.R : Int))).setCell ⟨w.heap.size, 2, none⟩ (.int .i64 (S.D.C : Int))).setCell ⟨w.heap.size, 3, none⟩ (.int .i64 S.pl.at_.row)).setCell ⟨w.heap.size, 4, none⟩ (.int .i64 S.pl.at_.col)).setCell ⟨w.heap.size, 5, none⟩ (.bool S.pl.pend)).setCell ⟨w.heap.size, 6, none⟩ (.slice (some ⟨OB, 0, none⟩) S.D.R S.D.R)).setCell ⟨w.heap.size, 7, none⟩ (.slice (some ⟨g, 0, none⟩) S.D.R cap)).setCell ⟨w.heap.size, 8, none⟩ (.slice sa (stopsI S.D.C S.T).length sc)).heap[k]? = w8.heap[k]? := fun k h1 h2 => by
    have e : ∀ (W : World) (q : Nat) (v : Value), (W.setCell ⟨w.heap.size, q, none⟩ v).heap[k]? = W.heap[k]? := fun W q v => heap_setCell_other _ _ _ _ h1
    rw [e, e, e, e, e, e, e, e, e]
    exact heap_setCell_other _ _ _ _ h2
  have hbelow : Below w.heap.size w ((((((((((w8.setCell ⟨w4.heap.size, 7, none⟩ (.slice (some ⟨g, 0, none⟩) S.D.R cap)).setCell ⟨w.heap.size, 0, none⟩ (.int .i64 p)).setCell ⟨w.heap.size, 1, none⟩ (.int .i64 (S.D.R : Int))).setCell ⟨w.heap.size, 2, none⟩ (.int .i64 (S.D.C : Int))).setCell ⟨w.heap.size, 3, none⟩ (.int .i64 S.pl.at_.row)).setCell ⟨w.heap.size, 4, none⟩ (.int .i64 S.pl.at_.col)).setCell ⟨w.heap.size, 5, none⟩ (.bool S.pl.pend)).setCell ⟨w.heap.size, 6, none⟩ (.slice (some ⟨OB, 0, none⟩) S.D.R S.D.R)).setCell ⟨w.heap.size, 7, none⟩ (.slice (some ⟨g, 0, none⟩) S.D.R cap)).setCell ⟨w.heap.size, 8, none⟩ (.slice sa (stopsI S.D.C S.T).length sc)) := by
    have h8 : Below w.heap.size w w8 := Below.later (Below.later HB4.out HB7.out HB4.out.size) HB8.out (Below.later HB4.out HB7.out HB4.out.size).size
    have e : ∀ (W : World) (q : Nat) (v : Value), Below w.heap.size w W → Below w.heap.size w (W.setCell ⟨w.heap.size, q, none⟩ v) := fun W q v h => h.setCell (p := ⟨w.heap.size, q, none⟩) (Nat.le_refl _) v
    refine e _ _ _ ?_
    refine e _ _ _ ?_
    refine e _ _ _ ?_
    refine e _ _ _ ?_
    refine e _ _ _ ?_
    refine e _ _ _ ?_
    refine e _ _ _ ?_
    refine e _ _ _ ?_
    refine e _ _ _ ?_
    exact h8.setCell (p := ⟨w4.heap.size, 7, none⟩) (by show w.heap.size ≤ w4.heap.size; omega) _
  generalize ((((((((((w8.setCell ⟨w4.heap.size, 7, none⟩ (.slice (some ⟨g, 0, none⟩) S.D.R cap)).setCell ⟨w.heap.size, 0, none⟩ (.int .i64 p)).setCell ⟨w.heap.size, 1, none⟩ (.int .i64 (S.D.R : Int))).setCell ⟨w.heap.size, 2, none⟩ (.int .i64 (S.D.C : Int))).setCell ⟨w.heap.size, 3, none⟩ (.int .i64 S.pl.at_.row)).setCell ⟨w.heap.size, 4, none⟩ (.int .i64 S.pl.at_.col)).setCell ⟨w.heap.size, 5, none⟩ (.bool S.pl.pend)).setCell ⟨w.heap.size, 6, none⟩ (.slice (some ⟨OB, 0, none⟩) S.D.R S.D.R)).setCell ⟨w.heap.size, 7, none⟩ (.slice (some ⟨g, 0, none⟩) S.D.R cap)).setCell ⟨w.heap.size, 8, none⟩ (.slice sa (stopsI S.D.C S.T).length sc)) = WF at *
  obtain ⟨⟨z0, z1, z2, z3, z4, z5, z6, z7, z8⟩, _⟩ := row9 hTf
  have hz7 := HB7.out.size
  have hw4 : ∀ k, w.heap.size + 1 ≤ k → k < w4.heap.size → WF.heap[k]? = w4.heap[k]? := fun k h1 h2 => (hblk k (by omega) (by omega)).trans ((HB8.out.block k (by omega)).trans (HB7.out.block k h2))
  have hw8 : ∀ k, W7.heap.size ≤ k → k < w8.heap.size → WF.heap[k]? = w8.heap[k]? := fun k h1 h2 => hblk k (by omega) (by have := block_lt HX7.out; omega)
  have hszF : w8.heap.size ≤ WF.heap.size := by
    rcases Nat.lt_or_ge WF.heap.size w8.heap.size with hh | hh
    · have hl := HL8.out.lt
      have hge := HL8.out.ge
      have e1 := hblk (w8.heap.size - 1) (by omega) (by have := block_lt HX7.out; omega)
      rw [Array.getElem?_eq_none (show WF.heap.size ≤ w8.heap.size - 1 by omega), Array.getElem?_eq_getElem (show w8.heap.size - 1 < w8.heap.size by omega)] at e1
      cases e1
    · exact hh
  refine bodyPost_ret (v := .tuple #[.agg #[.int .i64 p, .int .i64 (S.D.R : Int), .int .i64 (S.D.C : Int), .int .i64 S.pl.at_.row, .int .i64 S.pl.at_.col, .bool S.pl.pend, .slice (some ⟨OB, 0, none⟩) S.D.R S.D.R, .slice (some ⟨g, 0, none⟩) S.D.R cap, .slice sa (stopsI S.D.C S.T).length sc], .int .i64 0]) (by simp [results, Tryz.results6, go_sem, z0, z1, z2, z3, z4, z5, z6, z7, z8]) rfl ?_
  exact ⟨OB, g, cap, .slice sa (stopsI S.D.C S.T).length sc, G, K, G', rfl, ⟨(HR4.out.of_blocks hw4).lower (by omega), (HL8.out.of_blocks hw8 hszF).lower (by omega), ownsRow_lower (ownsRow_blocks HS4.out.1 hw4) (by omega), HS4.out.2, hbelow.size⟩, hbelow⟩
end Go.Proofs.YtliacdaddncmaaaGreatDoor
