import Derived.Test.YtliacdaddncmaaaGreatDoorLU
import Derived.Test.YtliacdaddncmaaaGreatDoorLQ

/- Walks: snap.glyphs: the glyphs of cells as a text. -/
namespace Go.Proofs.YtliacdaddncmaaaGreatDoor
open Go.RowKit
set_option linter.unusedSimpArgs false
set_option linter.unusedVariables false
attribute [local go_sem] alloc_drewN setCell_drewN World.cell?_alloc_some frozen_alloc_some size_f0 size_f1

/-- A glyph that may be. -/
def GlyOk (c : Vz.Cl) : Prop := 0 ≤ c.g ∧ c.g ≤ 1114111
theorem glyL_len (x : Nat → Vz.Cl) (o : Nat) : ∀ n, (glyL x o n).length ≤ 4 * n
  | 0 => Nat.le_refl _
  | n + 1 => by
    unfold glyL
    rw [List.length_append]
    have := glyL_len x o n
    have h4 := Lib.runeCells_le ((x (o + n)).g.toNat : Int)
    rw [Lib.runeCells_length] at h4
    omega
/-- A row's cells at a block. -/
def CellsIn (W : World) (g : Nat) (C : Nat) (x : Nat → Vz.Cl) : Prop := ∀ j, j < C → W.cell? ⟨g, j * 4, none⟩ = some (.int .i32 (x j).g) ∧ W.cell? ⟨g, j * 4 + 1, none⟩ = some (.int .i64 (x j).a) ∧ W.cell? ⟨g, j * 4 + 2, none⟩ = some (.bool (x j).gd) ∧ W.cell? ⟨g, j * 4 + 3, none⟩ = some (.int .i64 (x j).m)
theorem RowsAt.cellsIn {B : Nat} {W : World} {OB : Nat} {D : Vz.Gd} {G K : Nat → Nat} (h : RowsAt B W OB D G K) {i : Nat} (hi : i < D.R) : CellsIn W (G i) D.C (D.X i) := fun j hj => by
  have hr := h.row i hi
  refine ⟨?_, ?_, ?_, ?_⟩
  · rw [hr.cell (show j * 4 < D.C * 4 by omega), Nat.mul_comm j 4, Vz.flatC_0]
  · rw [hr.cell (show j * 4 + 1 < D.C * 4 by omega), Nat.mul_comm j 4, Vz.flatC_1]
  · rw [hr.cell (show j * 4 + 2 < D.C * 4 by omega), Nat.mul_comm j 4, Vz.flatC_2]
  · rw [hr.cell (show j * 4 + 3 < D.C * 4 by omega), Nat.mul_comm j 4, Vz.flatC_3]
theorem CellsIn.below {W W' : World} {g C : Nat} {x : Nat → Vz.Cl} {B : Nat} (h : CellsIn W g C x) (hb : Below B W W') (hg : g < B) : CellsIn W' g C x := fun j hj => by
  obtain ⟨h0, h1, h2, h3⟩ := h j hj
  exact ⟨(hb.cell hg).trans h0, (hb.cell hg).trans h1, (hb.cell hg).trans h2, (hb.cell hg).trans h3⟩
set_option maxRecDepth 100000 in
set_option maxHeartbeats 8000000 in
theorem glyphs_ok (g o C : Nat) (x : Nat → Vz.Cl) (n cap : Nat) (w : World) (h : CellsIn w g C x) (hg : g < w.heap.size) (hn : o + n ≤ C) (hC : C ≤ 255) (hx : ∀ j, GlyOk (x j)) :
    Calls Tryz.prog 27 #[.slice (some ⟨g, o * 4, none⟩) n cap] w fun e w' => e = .returned (.string ⟨(glyL x o n).toArray⟩) ∧ Below w.heap.size w w' := by
  have HC := Lib.hid (fun W (hb : Below w.heap.size w W) => h.below hb hg)
  have HX := Lib.hid hx
  have HB0 : Hid (BuildL w.heap.size w.heap.size [] (w.alloc (.cells #[.pointer none, .slice none 0 0] 72))) := BuildL.fresh w
  have HBE := Lib.hid (below1 w (.cells #[.pointer none, .slice none 0 0] 72))
  clear h hx
  go_enter Tryz.func27, Tryz.ntmps27
  go_wp2_with fail
  go_loopw [8] (fun i wr => ∃ k : Nat, k ≤ n ∧ i = .int .i64 (k : Int) ∧ BuildL w.heap.size w.heap.size (glyL x o k) wr ∧ Below w.heap.size w wr) (fun i _ => n - (intOf i).toNat)
  case atStart => exact ⟨0, Nat.zero_le _, rfl, HB0.out, HBE.out⟩
  case round =>
    obtain ⟨k, hk, rfl, hbu, hbw⟩ := hrel
    have HBU := Lib.hid hbu
    have HBW := Lib.hid hbw
    by_cases hlt : k < n
    · have hkz : (k : Int) < (n : Int) := by omega
      have hwk : IntKind.i64.wrap ((k : Int) + 1) = ((k + 1 : Nat) : Int) := by rw [wrap_in (by omega) (by omega)]; rfl
      obtain ⟨p0, p1, p2, p3⟩ := HC.out wr hbw (o + k) (by omega)
      rw [show (o + k) * 4 = o * 4 + k * 4 by omega] at p0 p1 p2 p3
      obtain ⟨hg0, hg1⟩ := HX.out (o + k)
      have hlen := glyL_len x o k
      have HST : Hid (glyL x o (k + 1) = glyL x o k ++ Lib.encodeRune (x (o + k)).g.toNat) := rfl
      clear hbu hbw
      generalize x (o + k) = c at *
      have HBU2 := Lib.hid (show BuildL w.heap.size w.heap.size (glyL x o k) (wr.alloc (.cells #[.int .i32 c.g, .int .i64 c.a, .bool c.gd, .int .i64 c.m] 47)) from HBU.out.below (below1 _ _))
      have HBW2 := Lib.hid (HBW.out.alloc HBW.out.size (.cells #[.int .i32 c.g, .int .i64 c.a, .bool c.gd, .int .i64 c.m] 47))
      have hsz := HBW.out.size
      have HRU := Lib.hid (rune_l HBU2.out hg0 (by omega) (by omega) HBW2.out.size)
      clear HBU2
      go_wp2_with (go_at_call 51; refine HRU.out.mono ?_; rintro e w2 ⟨⟨v, rfl⟩, hbu2, hb2⟩; have HU2 := Lib.hid hbu2; have HB2 := Lib.hid (HBW2.out.trans hb2); clear hbu2 hb2)
      exact ⟨⟨k + 1, by omega, rfl, by rw [HST.out]; exact HU2.out, HB2.out⟩, by simp [intOf]; omega⟩
    · obtain rfl : k = n := by omega
      clear hbu hbw
      have HSR := Lib.hid (string_l HBU.out HBW.out.size)
      go_wp2_with (go_at_call 29; refine HSR.out.mono ?_; rintro e w2 ⟨rfl, hb2⟩; have HB2 := Lib.hid (HBW.out.trans hb2); clear hb2)
      go_ret
      exact ⟨rfl, HB2.out⟩
end Go.Proofs.YtliacdaddncmaaaGreatDoor
