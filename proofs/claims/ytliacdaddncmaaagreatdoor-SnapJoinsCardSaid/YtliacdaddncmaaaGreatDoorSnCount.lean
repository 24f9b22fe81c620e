import Derived.Test.YtliacdaddncmaaaGreatDoorSnOwnP
import Derived.Lib.TrimUEq
import Derived.Lib.OthersKept

/- Plain: how many runes a run's text has; the texts one behind the other are no longer than the whole. -/
namespace Go.Proofs.YtliacdaddncmaaaGreatDoor
open Go.RowKit
set_option linter.unusedSimpArgs false
set_option linter.unusedVariables false

theorem u8z (z : Int) (h0 : 0 ≤ z) (h1 : z < 256) : (z.toNat.toUInt8).toNat = z.toNat := by
  show (UInt8.ofNat z.toNat).toNat = _
  rw [UInt8.toNat_ofNat']
  omega
/-- The width of a rune's bytes. -/
theorem dec_w (c : Nat) (h1 : c ≤ 9727) (t : List UInt8) : (Lib.decodeL (Lib.encodeRune (c : Int) ++ t)).2 = (Lib.encodeRune (c : Int)).length := by
  rw [Lib.decodeL_N]
  unfold Lib.encodeRune
  by_cases ha : c ≤ 127
  · rw [Lib.encodeRuneZ_one (by omega) (by omega)]
    simp only [List.map_cons, List.map_nil, List.cons_append, List.nil_append, List.getD_cons_zero, List.length_cons, List.length_nil]
    rw [u8z _ (by omega) (by omega)]
    unfold Lib.decodeN
    rw [if_pos (by omega)]
  · by_cases hb : c ≤ 2047
    · rw [Lib.encodeRuneZ_two (by omega) (by omega)]
      simp only [List.map_cons, List.map_nil, List.cons_append, List.nil_append, List.getD_cons_zero, List.getD_cons_succ, List.length_cons, List.length_nil]
      rw [u8z (192 + (c : Int) / 64) (by omega) (by omega), u8z (128 + (c : Int) % 64) (by omega) (by omega)]
      unfold Lib.decodeN
      rw [if_neg (by omega), if_pos ⟨by omega, by omega, by omega⟩, if_pos (by omega)]
    · rw [Lib.encodeRuneZ_three (by omega)]
      simp only [List.map_cons, List.map_nil, List.cons_append, List.nil_append, List.getD_cons_zero, List.getD_cons_succ, List.length_cons, List.length_nil]
      rw [u8z (224 + (c : Int) / 4096) (by omega) (by omega), u8z (128 + (c : Int) / 64 % 64) (by omega) (by omega), u8z (128 + (c : Int) % 64) (by omega) (by omega)]
      unfold Lib.decodeN
      rw [if_neg (by omega), if_neg (by omega), if_pos ⟨by omega, ⟨by omega, by omega⟩, by omega, by omega⟩, if_pos ⟨by omega, .inl (by omega)⟩]
theorem enc_len (r : Int) : 1 ≤ (Lib.encodeRune r).length := by
  have := Lib.runeCells_le r
  rw [Lib.runeCells_length] at this
  exact this.1
theorem glyL_step (x : Nat → Vz.Cl) (o j : Nat) : (glyL x o (j + 1)).length = (glyL x o j).length + (Lib.encodeRune (x (o + j)).g.toNat).length := by
  show (glyL x o j ++ _).length = _
  rw [List.length_append]
theorem glyL_lt (x : Nat → Vz.Cl) (o j : Nat) : ∀ n, j < n → (glyL x o j).length < (glyL x o n).length
  | 0, h => absurd h (Nat.not_lt_zero _)
  | n + 1, h => by
    rw [glyL_step]
    have h1 := enc_len (x (o + n)).g.toNat
    rcases Nat.lt_or_ge j n with hl | hl
    · have := glyL_lt x o j n hl
      omega
    · obtain rfl : j = n := by omega
      omega
theorem glyL_dec (x : Nat → Vz.Cl) (o n j : Nat) (hx : ∀ j, CellOk (x j)) (hj : j < n) : (Utf8.decode ⟨(glyL x o n).toArray⟩ (glyL x o j).length).2 = (Lib.encodeRune (x (o + j)).g.toNat).length := by
  rw [← Lib.decodeL_drop]
  have e : glyL x o n = glyL x o j ++ (Lib.encodeRune (x (o + j)).g.toNat ++ glyL x (o + (j + 1)) (n - (j + 1))) := by
    have h1 := glyL_append x o (j + 1) (n - (j + 1))
    rw [show j + 1 + (n - (j + 1)) = n by omega] at h1
    rw [h1]
    show glyL x o j ++ _ ++ _ = _
    rw [List.append_assoc]
  show (Lib.decodeL ((glyL x o n).drop (glyL x o j).length)).2 = _
  rw [e, List.drop_left]
  exact dec_w _ (by have := (hx (o + j)).1; omega) _
/-- A run's text is glyphs of cells, as many as it is long. -/
def RunG1 (r : Rn) : Prop := ∃ (x : Nat → Vz.Cl) (o : Nat), (∀ j, CellOk (x j)) ∧ r.text = glyL x o r.len
theorem runsC_g (x : Nat → Vz.Cl) (hx : ∀ j, CellOk (x j)) (L : Nat → Int) (i C : Nat) : ∀ (n fr : Nat), ∀ r ∈ runsC x L i C fr n, RunG1 r
  | 0, fr, r, h => by cases h
  | n + 1, fr, r, h => by
    unfold runsC at h
    split at h
    · rcases List.mem_cons.1 h with rfl | h
      · exact ⟨x, fr, hx, rfl⟩
      · exact runsC_g x hx L i C n _ r h
    · cases h
theorem runsD_g (D : Vz.Gd) (hx : ∀ i j, CellOk (D.X i j)) (L : Nat → Nat → Int) : ∀ (n i : Nat), ∀ r ∈ runsD D L i n, RunG1 r
  | 0, i, r, h => by cases h
  | n + 1, i, r, h => by
    rcases List.mem_append.1 (show r ∈ rowN D L i ++ runsD D L (i + 1) n from h) with h | h
    · exact runsC_g _ (hx i) _ _ _ _ _ r h
    · exact runsD_g D hx L n (i + 1) r h
theorem allN_g (D : Vz.Gd) (hx : ∀ i j, CellOk (D.X i j)) (L : Nat → Nat → Int) : ∀ r ∈ allN D L, RunG1 r := runsD_g D hx L D.R 0
theorem joinN_len : ∀ (l : List Rn) (s : JnN), s.text.length ≤ (joinN s l).text.length
  | [], s => Nat.le_refl _
  | r :: l, s => by
    refine Nat.le_trans ?_ (joinN_len l (joinR s r))
    show _ ≤ (s.text ++ List.replicate (r.row - s.row) 10 ++ r.text).length
    rw [List.length_append, List.length_append]
    omega
theorem join_pre {D : Vz.Gd} {L : Nat → Nat → Int} (hC : 0 < D.C) (hR : 0 < D.R) (hC2 : D.C ≤ 20) (hR2 : D.R ≤ 20) {pre : List Rn} (hp : pre <+: allN D L) : (joinN JnN.nil pre).text.length ≤ 2000 := by
  obtain ⟨l, hl⟩ := hp
  have h1 := allN_text D L hC hR
  have h2 := rowsB_len D D.R
  have h3 : D.R * (4 * D.C + 1) ≤ 20 * 81 := Nat.mul_le_mul hR2 (by omega)
  have h4 := congrArg List.length h1
  rw [List.length_append, List.length_singleton] at h4
  have h5 := joinN_len l (joinN JnN.nil pre)
  rw [← joinN_append, hl] at h5
  omega
/-- Two boxes behind w14 and the box of the runs. -/
structure JoinI (w14 : World) (V : Array Value) (tb : ByteArray) (row : Nat) (W : World) : Prop where
  bel : Below w14.heap.size w14 W
  text : W.heap[w14.heap.size]? = some (.cells #[.string tb] 9 (0, 0))
  row : W.heap[w14.heap.size + 1]? = some (.cells #[.int .i64 (row : Int)] 3 (0, 0))
  box : W.heap[w14.heap.size + 1 + 1]? = some (.cells V 30 (0, 0))
section
variable {w14 W W' : World} {V : Array Value} {tb : ByteArray} {row : Nat}
theorem JoinI.fresh (w14 : World) (V : Array Value) : JoinI w14 V ⟨#[]⟩ 0 (((w14.alloc (.cells #[.string ⟨#[]⟩] 9)).alloc (.cells #[.int .i64 0] 3)).alloc (.cells V 30)) := by
  obtain ⟨h1, h2, h3, b1⟩ := box3 (Below.refl (((w14.alloc (.cells #[.string ⟨#[]⟩] 9)).alloc (.cells #[.int .i64 0] 3)).alloc (.cells V 30)).heap.size (((w14.alloc (.cells #[.string ⟨#[]⟩] 9)).alloc (.cells #[.int .i64 0] 3)).alloc (.cells V 30)))
  exact ⟨b1, h1, h2, h3⟩
theorem JoinI.own (h : JoinI w14 V tb row W) {rw_ : Option Nat} {n : Nat} (hn : w14.heap.size ≤ n) (hg : W.grownBy W' rw_) (hr : ∀ r, rw_ = some r → n ≤ r ∧ ∃ o : Obj, W.heap[r]? = some o ∧ o.isCells = false) : JoinI w14 V tb row W' :=
  ⟨below_own hn h.bel hg hr, cells_kept hg hr h.text, cells_kept hg hr h.row, cells_kept hg hr h.box⟩
theorem JoinI.below (h : JoinI w14 V tb row W) (hb : Below W.heap.size W W') : JoinI w14 V tb row W' :=
  ⟨Below.later h.bel hb h.bel.size, (hb.block _ (block_lt h.text)).trans h.text, (hb.block _ (block_lt h.row)).trans h.row, (hb.block _ (block_lt h.box)).trans h.box⟩
theorem JoinI.setText (h : JoinI w14 V tb row W) (t : ByteArray) : JoinI w14 V t row (W.setCell ⟨w14.heap.size, 0, none⟩ (.string t)) := by
  have e : ∀ k, k ≠ w14.heap.size → (W.setCell ⟨w14.heap.size, 0, none⟩ (.string t)).heap[k]? = W.heap[k]? := fun k hk => heap_setCell_other _ _ _ _ hk
  exact ⟨h.bel.setCell (p := ⟨w14.heap.size, 0, none⟩) (Nat.le_refl _) _, heap_set_same h.text 0 _, (e _ (by omega)).trans h.row, (e _ (by omega)).trans h.box⟩
theorem JoinI.setRow (h : JoinI w14 V tb row W) (r : Nat) : JoinI w14 V tb r (W.setCell ⟨w14.heap.size + 1, 0, none⟩ (.int .i64 (r : Int))) := by
  have e : ∀ k, k ≠ w14.heap.size + 1 → (W.setCell ⟨w14.heap.size + 1, 0, none⟩ (.int .i64 (r : Int))).heap[k]? = W.heap[k]? := fun k hk => heap_setCell_other _ _ _ _ hk
  exact ⟨h.bel.setCell (p := ⟨w14.heap.size + 1, 0, none⟩) (Nat.le_succ _) _, (e _ (by omega)).trans h.text, heap_set_same h.row 0 _, (e _ (by omega)).trans h.box⟩
end
theorem keeps_below {B : Nat} {W W7 W' : World} (h : KeepsFrom B W W7) (hb : Below W7.heap.size W7 W') : KeepsFrom B W W' :=
  h.trans ⟨hb.size, fun k o hB hk ho => (hb.block k (block_lt hk)).trans hk⟩
/-- The row's box, as a number. -/
def rowOf (b : Nat) (W : World) : Nat := (((W.cell? ⟨b, 0, none⟩).map fun v => (intOf v).toNat)).getD 0
theorem rowOf_eq {b n : Nat} {W : World} (h : W.heap[b]? = some (.cells #[.int .i64 (n : Int)] 3 (0, 0))) : rowOf b W = n := by
  unfold rowOf
  rw [cell_row h 0]
  simp [intOf]
end Go.Proofs.YtliacdaddncmaaaGreatDoor
