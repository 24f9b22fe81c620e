import Derived.Test.YtliacdaddncmaaaGreatDoorSnGly
import Derived.Test.YtliacdaddncmaaaGreatDoorLQ
import Derived.Maps.AppendAt
import Derived.Laws.IdiomStrings

/- Walks: wyse.Look: the attributes of all cells, with the marks. -/
namespace Go.Proofs.YtliacdaddncmaaaGreatDoor
open Go.RowKit
set_option linter.unusedSimpArgs false
set_option linter.unusedVariables false
attribute [local go_sem] alloc_drewN setCell_drewN World.cell?_alloc_some frozen_alloc_some size_f0 size_f1

theorem infoInts : (Tryz.prog.info? 28).map (fun i => (i.zero, i.size, i.bytes)) = some (some (.slice none 0 0), 1, 24) := by kernel_rfl
theorem infoI64 : (Tryz.prog.info? 3).map (fun i => (i.zero, i.size, i.bytes)) = some (some (.int .i64 0), 1, 8) := by kernel_rfl
theorem make_ints (m : Nat) (h2 : m ≤ 255) : ∀ W : World, Sem.run Tryz.prog (Instr.makeSlice 28 (.int .i64 (m : Int)) (.int .i64 (m : Int))) W = .ok (.slice (some ⟨W.heap.size, 0, none⟩) m m) (W.alloc (.cells (madeCells #[.int .i64 0] m) 3)) := by
  obtain ⟨i, hi, hz, hs, hb⟩ := info_three infoI64
  intro W
  have := run_make (P := Tryz.prog) W 28 3 i _ Tryz.underlying28 hi hz .i64 .i64 m m (by omega) (by omega) (by rw [hb]; omega) (by omega)
  rw [hs] at this
  simpa [Value.cells] using this
/-- Rows of ints: their slices. -/
def rowsI (G : Nat → Nat) (C n : Nat) : List Value := (List.range n).map fun i => .slice (some ⟨G i, 0, none⟩) C C
theorem rowsI_len (G : Nat → Nat) (C n : Nat) : (rowsI G C n).length = n := by simp [rowsI]
theorem rowsI_succ (G : Nat → Nat) (C n g : Nat) : rowsI (fun i => if i = n then g else G i) C (n + 1) = rowsI G C n ++ [.slice (some ⟨g, 0, none⟩) C C] := by
  unfold rowsI
  rw [List.range_succ, List.map_append]
  congr 1
  · refine List.map_congr_left fun i hi => ?_
    have hne : i ≠ n := by have := List.mem_range.1 hi; omega
    simp [hne]
  · simp
/-- Rows of ints in memory, that rise. -/
structure IntsAt (B : Nat) (W : World) (C n : Nat) (L : Nat → Nat → Int) (G : Nat → Nat) : Prop where
  row : ∀ i, i < n → RowC W (G i) 3 C C (fun j => .int .i64 (L i j))
  ge : ∀ i, i < n → B ≤ G i
  mono : ∀ i j, i < j → j < n → G i < G j
theorem IntsAt.below {B : Nat} {W W' : World} {C n : Nat} {L : Nat → Nat → Int} {G : Nat → Nat} (h : IntsAt B W C n L G) (hb : Below W.heap.size W W') : IntsAt B W' C n L G :=
  ⟨fun i hi => (h.row i hi).of_block (hb.block _ (h.row i hi).lt), h.ge, h.mono⟩
theorem IntsAt.zero (B : Nat) (W : World) (C : Nat) (L : Nat → Nat → Int) (G : Nat → Nat) : IntsAt B W C 0 L G := ⟨fun i h => by omega, fun i h => by omega, fun i j _ h => by omega⟩
/-- A row is laid behind. -/
theorem IntsAt.snoc {B : Nat} {W W' : World} {C n : Nat} {L : Nat → Nat → Int} {G : Nat → Nat} (h : IntsAt B W C n L G) (hb : Below W.heap.size W W') {g : Nat} (hg : W.heap.size ≤ g) (hB : B ≤ W.heap.size) (hr : RowC W' g 3 C C (fun j => .int .i64 (L n j))) : IntsAt B W' C (n + 1) L (fun i => if i = n then g else G i) := by
  refine ⟨fun i hi => ?_, fun i hi => ?_, fun i j hij hj => ?_⟩
  · by_cases e : i = n
    · subst e
      simp only [if_true]
      exact hr
    · simp only [if_neg e]
      exact (h.row i (by omega)).of_block (hb.block _ (h.row i (by omega)).lt)
  · by_cases e : i = n
    · subst e
      simp only [if_true]
      omega
    · simp only [if_neg e]
      exact h.ge i (by omega)
  · by_cases e : j = n
    · subst e
      simp only [if_true, if_neg (show i ≠ j by omega)]
      have := (h.row i hij).lt
      omega
    · simp only [if_neg e, if_neg (show i ≠ n by omega)]
      exact h.mono i j hij (by omega)
theorem IntsAt.grow {B : Nat} {W W' : World} {C n : Nat} {L : Nat → Nat → Int} {G : Nat → Nat} {row : Option Nat} (h : IntsAt B W C n L G) (hg : W.grownBy W' row) (hne : ∀ i, i < n → row ≠ some (G i)) : IntsAt B W' C n L G :=
  ⟨fun i hi => (h.row i hi).of_block (hg.block _ (h.row i hi).lt (fun e => hne i hi e.symm)), h.ge, h.mono⟩
theorem IntsAt.apart {B B' : Nat} {W : World} {C n k : Nat} {L : Nat → Nat → Int} {G : Nat → Nat} {v : Value} {xs : List Value} (h : IntsAt B W C n L G) (ho : W.ownsRow B' 28 1 v k xs) : ∀ i, i < n → v.ownBlock ≠ some (G i) := fun i hi => by
  obtain ⟨c, hb, _⟩ := h.row i hi
  exact Lib.ownBlock_ne ho hb (by decide)
theorem RowC.push {W : World} {b : Nat} {t : TypeId} {cap n : Nat} {f : Nat → Value} (h : RowC W b t cap n f) (hn : n < cap) {v : Value} (hv : f n = v) : RowC (W.setCell ⟨b, n, none⟩ v) b t cap (n + 1) f := by
  obtain ⟨c, hb, hs, hl, hc⟩ := h
  refine ⟨c.setIfInBounds n v, ?_, by simpa using hs, by omega, fun j hj => ?_⟩
  · simp [World.setCell, Array.getElem?_modify, hb]
  · rw [Array.getElem?_setIfInBounds]
    by_cases e : n = j
    · subst e
      have : n < c.size := by omega
      simp [this, hv]
    · rw [if_neg e]
      exact hc j (by omega)
theorem RowC.some_ {W : World} {b : Nat} {t : TypeId} {cap n : Nat} {f : Nat → Value} (h : RowC W b t cap n f) {i : Nat} (hi : i < cap) : ∃ v, W.cell? ⟨b, i, none⟩ = some v := by
  obtain ⟨c, hb, hs, _⟩ := h
  exact ⟨_, by rw [cell_row hb]; exact Array.getElem?_eq_getElem (by omega)⟩
/-- Cells whose numbers are not too great. -/
def CellOk (c : Vz.Cl) : Prop := (32 ≤ c.g ∧ c.g ≤ 9727) ∧ (0 ≤ c.a ∧ c.a ≤ 16383) ∧ (0 ≤ c.m ∧ c.m ≤ 64)
theorem CellOk.gly {c : Vz.Cl} (h : CellOk c) : GlyOk c := ⟨by have := h.1; omega, by have := h.1; omega⟩
theorem markC_ok {x : Nat → Vz.Cl} (h : ∀ j, CellOk (x j)) {m : Int} (hm : 0 ≤ m ∧ m ≤ 63) : ∀ k, 0 ≤ markC x m k ∧ markC x m k ≤ 63
  | 0 => hm
  | k + 1 => by
    unfold markC
    split
    · rename_i h0
      have := (h k).2.2
      rw [Int.tmod_eq_emod_of_nonneg (by omega)]
      omega
    · exact markC_ok h hm k
theorem markR_ok {D : Vz.Gd} (h : ∀ i j, CellOk (D.X i j)) : ∀ i, 0 ≤ markR D i ∧ markR D i ≤ 63
  | 0 => ⟨Int.le_refl _, by show (0 : Int) ≤ 63; decide⟩
  | i + 1 => markC_ok (h i) (markR_ok h i) _
set_option maxRecDepth 100000 in
set_option maxHeartbeats 16000000 in
theorem look_ok {B0 OB : Nat} {D : Vz.Gd} {G0 K0 : Nat → Nat} {w : World} (h : RowsAt B0 w OB D G0 K0) (hm : D.may) (hx : ∀ i j, CellOk (D.X i j)) :
    Calls Tryz.prog 49 #[.slice (some ⟨OB, 0, none⟩) D.R D.R] w fun e w' => ∃ v G, e = .returned v ∧ w'.ownsRow w.heap.size 28 1 v D.R (rowsI G D.C D.R) ∧ IntsAt w.heap.size w' D.C D.R (lookW D) G ∧ Below w.heap.size w w' := by
  obtain ⟨m1, m2, m3, m4⟩ := hm
  obtain ⟨i0, hi, hz0, hz1, hz2⟩ := info_parts infoInts
  have HR := Lib.hid (fun W (hb : Below w.heap.size w W) => h.below hb)
  have HX := Lib.hid hx
  have HMK := Lib.hid (make_ints D.C m4)
  have HMR := Lib.hid (markR_ok hx)
  clear h hx
  go_enter Tryz.func49, Tryz.ntmps49
  go_wp2_with fail
  go_loopw [3, 4, 12] (fun v m i wr => ∃ (k : Nat) (G : Nat → Nat), k ≤ D.R ∧ i = .int .i64 (k : Int) ∧ m = .int .i64 (markR D k) ∧ wr.ownsRow w.heap.size 28 1 v k (rowsI G D.C k) ∧ IntsAt w.heap.size wr D.C k (lookW D) G ∧ Below w.heap.size w wr) (fun _ _ i _ => D.R - (intOf i).toNat)
  case atStart => exact ⟨0, fun _ => 0, Nat.zero_le _, rfl, rfl, World.ownsRow_nil _ _ _ _, IntsAt.zero _ _ _ _ _, Below.refl _ _⟩
  case round =>
    obtain ⟨k, G, hk, rfl, rfl, hown, hints, hbw⟩ := hrel
    have HO := Lib.hid hown
    have HI := Lib.hid hints
    have HBW := Lib.hid hbw
    have hmr := HMR.out k
    by_cases hlt : k < D.R
    · have hkz : (k : Int) < (D.R : Int) := by omega
      have hwk : IntKind.i64.wrap ((k : Int) + 1) = ((k + 1 : Nat) : Int) := by rw [wrap_in (by omega) (by omega)]; rfl
      have gk : wr.cell? ⟨OB, k, none⟩ = some (.slice (some ⟨G0 k, 0, none⟩) D.C (K0 k)) := (HR.out _ hbw).outer.cell hlt
      have hcl : CellsIn wr (G0 k) D.C (D.X k) := (HR.out _ hbw).cellsIn hlt
      have hgl : G0 k < wr.heap.size := ((HR.out _ hbw).row k hlt).lt
      have HCL := Lib.hid (fun W (hb : Below wr.heap.size wr W) => hcl.below hb hgl)
      have hmk := HMK.out
      have HMS : Hid (markR D (k + 1) = markC (D.X k) (markR D k) D.C) := rfl
      have HLW : Hid (∀ j, lookW D k j = bits .or .i64 (D.X k j).a (markC (D.X k) (markR D k) (j + 1))) := fun j => rfl
      have hxk := HX.out k
      clear hown hints hbw hcl hgl
      generalize D.X k = x at *
      generalize markR D k = mk at *
      have HXK := Lib.hid hxk
      have HMC := Lib.hid (fun q => markC_ok hxk hmr q)
      clear hxk
      obtain ⟨wr0, hwr0⟩ : ∃ W, W = wr := ⟨_, rfl⟩
      subst hwr0
      have HRZ := Lib.hid (fun (f : Nat → Value) => RowC.made' wr0 (madeCells #[.int .i64 0] D.C) 3 (n := D.C) (f := f) (size_madeCells _ _))
      go_wp2_with fail
      go_loopw [4, 21] (fun m j wq => ∃ q : Nat, q ≤ D.C ∧ j = .int .i64 (q : Int) ∧ m = .int .i64 (markC x mk q) ∧ RowC wq wr0.heap.size 3 D.C q (fun j => .int .i64 (bits .or .i64 (x j).a (markC x mk (j + 1)))) ∧ Below wr0.heap.size wr0 wq) (fun _ j _ => D.C - (intOf j).toNat)
      case atStart => exact ⟨0, Nat.zero_le _, rfl, rfl, HRZ.out _, below1 _ _⟩
      case round =>
        clear gk
        obtain ⟨q, hq, rfl, rfl, hrow, hbq⟩ := hrel
        have HROW := Lib.hid hrow
        have HBQ := Lib.hid hbq
        have hmq := HMC.out q
        by_cases hlq : q < D.C
        · have hqz : (q : Int) < (D.C : Int) := by omega
          have hwq : IntKind.i64.wrap ((q : Int) + 1) = ((q + 1 : Nat) : Int) := by rw [wrap_in (by omega) (by omega)]; rfl
          obtain ⟨p0, p1, p2, p3⟩ := HCL.out _ hbq q hlq
          obtain ⟨_, ha, hmm⟩ := HXK.out q
          have hglt := hrow.lt
          obtain ⟨v0, hv0⟩ := hrow.some_ hlq
          have hf0 := hrow.frozen q
          have HMS2 : Hid (markC x mk (q + 1) = if 0 < (x q).m then ((x q).m - 1).tmod 64 else markC x mk q) := rfl
          obtain ⟨mv, hmv⟩ : ∃ mv, mv = markC x mk (q + 1) := ⟨_, rfl⟩
          have hmvb := HMC.out (q + 1)
          rw [← hmv] at HMS2 hmvb
          have HMV := Lib.hid hmv
          generalize hc : x q = c at *
          have HC := Lib.hid hc
          clear hmv hc hrow hbq
          have HSTEP : Hid (∀ W, RowC W wr0.heap.size 3 D.C q (fun j => .int .i64 (bits .or .i64 (x j).a (markC x mk (j + 1)))) → RowC (W.setCell ⟨wr0.heap.size, q, none⟩ (.int .i64 (bits .or .i64 c.a mv))) wr0.heap.size 3 D.C (q + 1) (fun j => .int .i64 (bits .or .i64 (x j).a (markC x mk (j + 1))))) := fun W h => h.push hlq (by rw [HC.out, HMV.out])
          generalize markC x mk q = mq at *
          by_cases hpos : 0 < c.m
          · have hmz : (c.m - 1).tmod 64 = mv := by rw [HMS2.out, if_pos hpos]
            have hw1 : IntKind.i64.wrap (c.m - 1) = c.m - 1 := wrap_in (by omega) (by omega)
            have hw2 : IntKind.i64.wrap mv = mv := wrap_in (by omega) (by omega)
            clear HMS2
            go_wp2_with fail
            exact ⟨⟨q + 1, by omega, rfl, by rw [← HMV.out], (HSTEP.out _ HROW.out).of_block (Below.heap_alloc _ _ _ (by rw [World.size_setCell]; exact hglt)), (HBQ.out.setCell (p := ⟨wr0.heap.size, q, none⟩) (Nat.le_refl _) _).alloc (by rw [World.size_setCell]; exact HBQ.out.size) _⟩, by simp [intOf]; omega⟩
          · have hmz : mq = mv := by rw [HMS2.out, if_neg hpos]
            subst hmz
            clear HMS2
            go_wp2_with fail
            exact ⟨⟨q + 1, by omega, rfl, by rw [← HMV.out], (HSTEP.out _ HROW.out).of_block (Below.heap_alloc _ _ _ (by rw [World.size_setCell]; exact hglt)), (HBQ.out.setCell (p := ⟨wr0.heap.size, q, none⟩) (Nat.le_refl _) _).alloc (by rw [World.size_setCell]; exact HBQ.out.size) _⟩, by simp [intOf]; omega⟩
        · obtain rfl : q = D.C := by omega
          clear hrow hbq
          have hmx : k + 1 ≤ maxLen := by unfold maxLen; omega
          have HO2 := Lib.hid (ownsRow_low HO.out HBQ.out)
          have HI2 := Lib.hid (HI.out.snoc HBQ.out (Nat.le_refl _) HBW.out.size (HROW.out.congr fun j _ => by rw [HLW.out]))
          have HB2 := Lib.hid (Below.later HBW.out HBQ.out HBW.out.size)
          have HI3 := Lib.hid (HI2.out.below (below1 wr (.cells #[.slice (some ⟨wr0.heap.size, 0, none⟩) D.C D.C] 28)))
          have HB3 := Lib.hid (HB2.out.alloc HB2.out.size (.cells #[.slice (some ⟨wr0.heap.size, 0, none⟩) D.C D.C] 28))
          go_wp2_with (at_builtin; refine wpList_append_own _ rfl _ _ 27 rfl w.heap.size 28 i0 (.slice none 0 0) 1 24 Tryz.underlying27 hi hz0 hz1 hz2 rfl (by decide) _ _ _ rfl (HO2.out.alloc _) ⟨wr.heap.size, 0, none⟩ 1 1 [.slice (some ⟨wr0.heap.size, 0, none⟩) D.C D.C] rfl rfl (cell_one_new _ _ _) (by simp [Value.oneCell']) hmx (by omega) (by have := HB3.out.size; exact this) ?_; intro v' w1 hown' hgrow _; have HO4 := Lib.hid hown'; have HG4 := Lib.hid hgrow; clear hown' hgrow)
          refine ⟨⟨k + 1, _, by omega, rfl, by rw [HMS.out], by rw [rowsI_succ]; exact HO4.out, HI3.out.grow HG4.out (HI3.out.apart (HO2.out.alloc _)), HB3.out.grown HG4.out HB3.out.size (fun j e => (HO2.out.lt j e).1)⟩, by simp [intOf]; omega⟩
    · obtain rfl : k = D.R := by omega
      clear hown hints hbw
      go_wp2_with fail
      go_ret
      exact ⟨_, G, rfl, HO.out, HI.out, HBW.out⟩
end Go.Proofs.YtliacdaddncmaaaGreatDoor
