/- Walks: told of scripts. -/
import Derived.Test.YtfkbgnonkgaobaaDoorParNum
import Derived.Test.YtfkbgnonkgaobaaDoorScrFields
namespace Go.Proofs.YtfkbgnonkgaobaaDoor
open Go.RowKit
set_option linter.unusedSimpArgs false
set_option linter.unusedVariables false

/-- The word of a kind of step. -/
def wordK (k : Nat) : List UInt8 := match k with
  | 1 => Vz.feedW
  | 2 => Vz.pressW
  | 3 => Vz.drainW
  | 4 => Vz.resetW
  | 5 => Vz.resizeW
  | _ => Vz.switchW
/-- What the first k words tell. -/
def doK (w : List UInt8) : Nat → Int
  | 0 => 0
  | k + 1 => if k ≠ 0 ∧ wordK k = w then k else doK w k
theorem doK_all (w : List UInt8) : doK w 7 = Vz.doOf w := by
  simp only [doK, wordK, Vz.doOf]
  by_cases h6 : w = Vz.switchW
  · subst h6; decide
  by_cases h5 : w = Vz.resizeW
  · subst h5; decide
  by_cases h4 : w = Vz.resetW
  · subst h4; decide
  by_cases h3 : w = Vz.drainW
  · subst h3; decide
  by_cases h2 : w = Vz.pressW
  · subst h2; decide
  by_cases h1 : w = Vz.feedW
  · subst h1; decide
  simp [h1, h2, h3, h4, h5, h6, eq_comm]

theorem tail_run (g m : Nat) (hm : m ≤ 10000) : ∃ A', (∀ W, Sem.run Tryd.prog (Instr.slice 64 (.slice (some ⟨g, 0, none⟩) (m + 1) (m + 1)) (some (.int .i64 1)) none none) W = .ok (.slice A' m m) W) ∧ (0 < m → A' = some ⟨g, 1, none⟩) := by
  by_cases h : m = 0
  · subst h
    refine ⟨some ⟨g, 0, none⟩, fun W => ?_, fun h => absurd h (by decide)⟩
    simp [Instr.slice, go_sem, run_underlying Tryd.underlying64]
  · refine ⟨some ⟨g, 1, none⟩, fun W => ?_, fun _ => rfl⟩
    simp [Instr.slice, go_sem, run_underlying Tryd.underlying64]
    rw [if_pos (by omega), if_neg h]
theorem doOf_cases (w : List UInt8) : (Vz.doOf w ≠ 1 ∧ Vz.doOf w ≠ 2 ∧ Vz.doOf w ≠ 5 ∧ Vz.doOf w ≠ 6) ∨ Vz.doOf w = 1 ∨ Vz.doOf w = 2 ∨ Vz.doOf w = 5 ∨ Vz.doOf w = 6 := by omega
theorem nine_cells {W : World} {g : Nat} {a0 a1 a2 a3 a4 a5 a6 a7 a8 : Value} {t : TypeId} (h : W.heap[g]? = some (.cells #[a0, a1, a2, a3, a4, a5, a6, a7, a8] t (0, 0))) :
    W.cell? ⟨g, 0, none⟩ = some a0 ∧ W.cell? ⟨g, 1, none⟩ = some a1 ∧ W.cell? ⟨g, 2, none⟩ = some a2 ∧ W.cell? ⟨g, 3, none⟩ = some a3 ∧ W.cell? ⟨g, 4, none⟩ = some a4 ∧ W.cell? ⟨g, 5, none⟩ = some a5 ∧ W.cell? ⟨g, 6, none⟩ = some a6 ∧ W.cell? ⟨g, 7, none⟩ = some a7 ∧ W.cell? ⟨g, 8, none⟩ = some a8 := by
  refine ⟨?_, ?_, ?_, ?_, ?_, ?_, ?_, ?_, ?_⟩
  all_goals (rw [cell_of_row W g _ _ _ _ h]; rfl)

set_option maxHeartbeats 1000000 in
theorem nine_set {W : World} {g : Nat} {a0 a1 a2 a3 a4 a5 a6 a7 a8 v0 v1 v2 v3 v4 v5 v6 v7 v8 : Value} {t : TypeId} (h : W.heap[g]? = some (.cells #[a0, a1, a2, a3, a4, a5, a6, a7, a8] t (0, 0))) :
    (((((((((W.setCell ⟨g, 0, none⟩ v0).setCell ⟨g, 1, none⟩ v1).setCell ⟨g, 2, none⟩ v2).setCell ⟨g, 3, none⟩ v3).setCell ⟨g, 4, none⟩ v4).setCell ⟨g, 5, none⟩ v5).setCell ⟨g, 6, none⟩ v6).setCell ⟨g, 7, none⟩ v7).setCell ⟨g, 8, none⟩ v8).heap[g]? = some (.cells #[v0, v1, v2, v3, v4, v5, v6, v7, v8] t (0, 0)) := by
  have h0 : (W.setCell ⟨g, 0, none⟩ v0).heap[g]? = some (.cells #[v0, a1, a2, a3, a4, a5, a6, a7, a8] t (0, 0)) := heap_set_same h 0 v0
  have h1 : ((W.setCell ⟨g, 0, none⟩ v0).setCell ⟨g, 1, none⟩ v1).heap[g]? = some (.cells #[v0, v1, a2, a3, a4, a5, a6, a7, a8] t (0, 0)) := heap_set_same h0 1 v1
  have h2 : (((W.setCell ⟨g, 0, none⟩ v0).setCell ⟨g, 1, none⟩ v1).setCell ⟨g, 2, none⟩ v2).heap[g]? = some (.cells #[v0, v1, v2, a3, a4, a5, a6, a7, a8] t (0, 0)) := heap_set_same h1 2 v2
  have h3 : ((((W.setCell ⟨g, 0, none⟩ v0).setCell ⟨g, 1, none⟩ v1).setCell ⟨g, 2, none⟩ v2).setCell ⟨g, 3, none⟩ v3).heap[g]? = some (.cells #[v0, v1, v2, v3, a4, a5, a6, a7, a8] t (0, 0)) := heap_set_same h2 3 v3
  have h4 : (((((W.setCell ⟨g, 0, none⟩ v0).setCell ⟨g, 1, none⟩ v1).setCell ⟨g, 2, none⟩ v2).setCell ⟨g, 3, none⟩ v3).setCell ⟨g, 4, none⟩ v4).heap[g]? = some (.cells #[v0, v1, v2, v3, v4, a5, a6, a7, a8] t (0, 0)) := heap_set_same h3 4 v4
  have h5 : ((((((W.setCell ⟨g, 0, none⟩ v0).setCell ⟨g, 1, none⟩ v1).setCell ⟨g, 2, none⟩ v2).setCell ⟨g, 3, none⟩ v3).setCell ⟨g, 4, none⟩ v4).setCell ⟨g, 5, none⟩ v5).heap[g]? = some (.cells #[v0, v1, v2, v3, v4, v5, a6, a7, a8] t (0, 0)) := heap_set_same h4 5 v5
  have h6 : (((((((W.setCell ⟨g, 0, none⟩ v0).setCell ⟨g, 1, none⟩ v1).setCell ⟨g, 2, none⟩ v2).setCell ⟨g, 3, none⟩ v3).setCell ⟨g, 4, none⟩ v4).setCell ⟨g, 5, none⟩ v5).setCell ⟨g, 6, none⟩ v6).heap[g]? = some (.cells #[v0, v1, v2, v3, v4, v5, v6, a7, a8] t (0, 0)) := heap_set_same h5 6 v6
  have h7 : ((((((((W.setCell ⟨g, 0, none⟩ v0).setCell ⟨g, 1, none⟩ v1).setCell ⟨g, 2, none⟩ v2).setCell ⟨g, 3, none⟩ v3).setCell ⟨g, 4, none⟩ v4).setCell ⟨g, 5, none⟩ v5).setCell ⟨g, 6, none⟩ v6).setCell ⟨g, 7, none⟩ v7).heap[g]? = some (.cells #[v0, v1, v2, v3, v4, v5, v6, v7, a8] t (0, 0)) := heap_set_same h6 7 v7
  have h8 : (((((((((W.setCell ⟨g, 0, none⟩ v0).setCell ⟨g, 1, none⟩ v1).setCell ⟨g, 2, none⟩ v2).setCell ⟨g, 3, none⟩ v3).setCell ⟨g, 4, none⟩ v4).setCell ⟨g, 5, none⟩ v5).setCell ⟨g, 6, none⟩ v6).setCell ⟨g, 7, none⟩ v7).setCell ⟨g, 8, none⟩ v8).heap[g]? = some (.cells #[v0, v1, v2, v3, v4, v5, v6, v7, v8] t (0, 0)) := heap_set_same h7 8 v8
  exact h8
set_option maxHeartbeats 1000000 in
theorem below_nine {B g : Nat} {a W : World} {v0 v1 v2 v3 v4 v5 v6 v7 v8 : Value} (h : Below B a W) (hg : B ≤ g) :
    Below B a (((((((((W.setCell ⟨g, 0, none⟩ v0).setCell ⟨g, 1, none⟩ v1).setCell ⟨g, 2, none⟩ v2).setCell ⟨g, 3, none⟩ v3).setCell ⟨g, 4, none⟩ v4).setCell ⟨g, 5, none⟩ v5).setCell ⟨g, 6, none⟩ v6).setCell ⟨g, 7, none⟩ v7).setCell ⟨g, 8, none⟩ v8) :=
  ((((((((h.setCell (p := ⟨g, 0, none⟩) hg v0).setCell (p := ⟨g, 1, none⟩) hg v1).setCell (p := ⟨g, 2, none⟩) hg v2).setCell (p := ⟨g, 3, none⟩) hg v3).setCell (p := ⟨g, 4, none⟩) hg v4).setCell (p := ⟨g, 5, none⟩) hg v5).setCell (p := ⟨g, 6, none⟩) hg v6).setCell (p := ⟨g, 7, none⟩) hg v7).setCell (p := ⟨g, 8, none⟩) hg v8
set_option maxHeartbeats 1000000 in
theorem res_nine (tmps : Array Value) (W : World) (g : Nat) (a0 a1 a2 a3 a4 a5 a6 a7 a8 : Value) (ht : tmps[2]?.getD undef = .pointer (some ⟨g, 0, none⟩)) (h : W.heap[g]? = some (.cells #[a0, a1, a2, a3, a4, a5, a6, a7, a8] 33 (0, 0))) :
    Sem.run Tryd.prog (results Tryd.f25 tmps) W = .ok (.agg #[a0, a1, a2, a3, a4, a5, a6, a7, a8]) W := by
  obtain ⟨z0, z1, z2, z3, z4, z5, z6, z7, z8⟩ := nine_cells h
  unfold results
  rw [Tryd.results25]
  simp [ht, go_sem, z0, z1, z2, z3, z4, z5, z6, z7, z8]
theorem toldP_eq (ws : List (List UInt8)) (w0 : List UInt8) (d : Int) (h : ws[0]?.getD [] = w0) (hd : Vz.doOf w0 = d) : Vz.toldP ws =
    if d = 1 then { Vz.Stp.nil with d := 1, text := match ws[1]? with | some w => Vz.unhexP w | none => [] }
    else if d = 2 then { Vz.Stp.nil with d := 2, kind := Vz.numAt ws 1, code := Vz.numAt ws 2, shift := decide (ws[3]? = some Vz.shiftW), ctrl := decide (ws[ws.length - 1]? = some Vz.ctrlW) }
    else if d = 5 then { Vz.Stp.nil with d := 5, rows := Vz.numAt ws 1, cols := Vz.numAt ws 2 }
    else if d = 6 then ⟨6, [], 0, 0, false, false, 0, 0, Vz.numAt ws 1⟩
    else { Vz.Stp.nil with d := d } := by
  unfold Vz.toldP
  rw [h, hd]
  rfl
theorem beq_dec (a b : List UInt8) : (a == b) = decide (some a = some b) := by
  by_cases h : a = b
  · subst h; simp
  · simp [h]

theorem below_five {B g : Nat} {a W : World} {v2 v3 v4 v5 v6 : Value} (h : Below B a W) (hg : B ≤ g) :
    Below B a (((((W.setCell ⟨g, 2, none⟩ v2).setCell ⟨g, 3, none⟩ v3).setCell ⟨g, 4, none⟩ v4).setCell ⟨g, 5, none⟩ v5).setCell ⟨g, 4, none⟩ v6) :=
  ((((h.setCell (p := ⟨g, 2, none⟩) hg v2).setCell (p := ⟨g, 3, none⟩) hg v3).setCell (p := ⟨g, 4, none⟩) hg v4).setCell (p := ⟨g, 5, none⟩) hg v5).setCell (p := ⟨g, 4, none⟩) hg v6
theorem twice_four {W : World} {g : Nat} {a0 a1 a2 a3 a4 a5 a6 a7 a8 : Value} {t : TypeId} (h : W.heap[g]? = some (.cells #[a0, a1, a2, a3, a4, a5, a6, a7, a8] t (0, 0))) :
    ∀ v2 v3 v4 v5 v4', (((((W.setCell ⟨g, 2, none⟩ v2).setCell ⟨g, 3, none⟩ v3).setCell ⟨g, 4, none⟩ v4).setCell ⟨g, 5, none⟩ v5).setCell ⟨g, 4, none⟩ v4').heap[g]? = some (.cells #[a0, a1, v2, v3, v4', v5, a6, a7, a8] t (0, 0)) := fun v2 v3 v4 v5 v4' => by
  have h2 : (W.setCell ⟨g, 2, none⟩ v2).heap[g]? = some (.cells #[a0, a1, v2, a3, a4, a5, a6, a7, a8] t (0, 0)) := heap_set_same h 2 v2
  have h3 : ((W.setCell ⟨g, 2, none⟩ v2).setCell ⟨g, 3, none⟩ v3).heap[g]? = some (.cells #[a0, a1, v2, v3, a4, a5, a6, a7, a8] t (0, 0)) := heap_set_same h2 3 v3
  have h4 : (((W.setCell ⟨g, 2, none⟩ v2).setCell ⟨g, 3, none⟩ v3).setCell ⟨g, 4, none⟩ v4).heap[g]? = some (.cells #[a0, a1, v2, v3, v4, a5, a6, a7, a8] t (0, 0)) := heap_set_same h3 4 v4
  have h5 : ((((W.setCell ⟨g, 2, none⟩ v2).setCell ⟨g, 3, none⟩ v3).setCell ⟨g, 4, none⟩ v4).setCell ⟨g, 5, none⟩ v5).heap[g]? = some (.cells #[a0, a1, v2, v3, v4, v5, a6, a7, a8] t (0, 0)) := heap_set_same h4 5 v5
  exact heap_set_same h5 4 v4'
theorem twice_cell {W : World} {g : Nat} {a0 a1 a2 a3 a4 a5 a6 a7 a8 : Value} {t : TypeId} (h : W.heap[g]? = some (.cells #[a0, a1, a2, a3, a4, a5, a6, a7, a8] t (0, 0))) :
    ∀ v2 v3 v4 v5 v4', (((((W.setCell ⟨g, 2, none⟩ v2).setCell ⟨g, 3, none⟩ v3).setCell ⟨g, 4, none⟩ v4).setCell ⟨g, 5, none⟩ v5).setCell ⟨g, 4, none⟩ v4').cell? ⟨g, 4, none⟩ = some v4' := fun v2 v3 v4 v5 v4' => by
  rw [cell_of_row _ g 4 _ _ _ (twice_four h v2 v3 v4 v5 v4')]
  rfl

set_option maxRecDepth 100000 in
set_option maxHeartbeats 20000000 in
theorem told_any (m g : Nat) (ws : List (List UInt8)) (w : World) (hI : Wds w.heap.size w (some ⟨g, 0, none⟩) (m + 1) ws) (hl : ∀ x ∈ ws, x.length ≤ 1000) (hn : m ≤ 10000) (hv : ErrV w) :
    Calls Tryd.prog 25 #[.slice (some ⟨g, 0, none⟩) (m + 1 : Nat) (m + 1 : Nat)] w fun e w' => e = .returned (stpV (Vz.toldP ws)) ∧ Below w.heap.size w w' := by
  have HI := Lib.hid hI
  have HL := Lib.hid hl
  have HV := Lib.hid hv
  have HWD := Lib.hid words_any
  obtain ⟨b, o, hbo, hbB, hc0⟩ := hI.at_ (k := 0) (by omega)
  obtain ⟨rfl, rfl, -⟩ := by simpa using hbo
  generalize hw0 : ws[0]?.getD [] = w0 at hc0
  have HW0 := Lib.hid hw0
  clear hI hl hv hbo hw0
  go_enter Tryd.func25, Tryd.ntmps25
  have hB0 : Below w.heap.size w ((w.alloc (.cells #[.int .i64 (0), .string ⟨#[]⟩, .int .i64 0, .int .i64 0, .bool false, .bool false, .int .i64 0, .int .i64 0, .int .i64 0] 33)).alloc (.cells #[.int .i64 (0), .string ⟨#[]⟩, .int .i64 0, .int .i64 0, .bool false, .bool false, .int .i64 0, .int .i64 0, .int .i64 0] 33)) := ((Below.refl _ _).alloc (Nat.le_refl _) _).alloc (by simp) _
  have hr0 := row_new2 w (.cells #[.int .i64 (0), .string ⟨#[]⟩, .int .i64 0, .int .i64 0, .bool false, .bool false, .int .i64 0, .int .i64 0, .int .i64 0] 33) (.cells #[.int .i64 (0), .string ⟨#[]⟩, .int .i64 0, .int .i64 0, .bool false, .bool false, .int .i64 0, .int .i64 0, .int .i64 0] 33)
  have HB0 := Lib.hid hB0
  have HR0 := Lib.hid hr0
  clear hB0 hr0
  go_wp2_with (go_at_call 36; refine (HWD.out _).mono ?_; rintro e w1 ⟨rfl, hb1⟩; unfold wordsV)
  have hb1' := HB0.out.trans (hb1.mono HB0.out.size)
  have hr1 := (hb1.block w.heap.size (by simp; omega)).trans HR0.out.1
  have hr2 := (hb1.block (w.heap.size + 1) (by simp)).trans HR0.out.2
  clear hb1
  go_loopw [10] (fun i wr => ∃ k : Nat, k ≤ 7 ∧ i = .int .i64 k ∧ wr.heap[w.heap.size]? = some (.cells #[.int .i64 (0), .string ⟨#[]⟩, .int .i64 0, .int .i64 0, .bool false, .bool false, .int .i64 0, .int .i64 0, .int .i64 0] 33 (0, 0)) ∧ wr.heap[w.heap.size + 1]? = some (.cells #[.int .i64 (doK w0 k), .string ⟨#[]⟩, .int .i64 0, .int .i64 0, .bool false, .bool false, .int .i64 0, .int .i64 0, .int .i64 0] 33 (0, 0)) ∧ Below w.heap.size w wr) (fun i _ => 7 - (intOf i).toNat)
  case atStart => exact ⟨0, by omega, rfl, hr1, hr2, hb1'⟩
  case round =>
    obtain ⟨k, hk, rfl, hq1, hq2, hB⟩ := hrel
    have HQ1 := Lib.hid hq1
    have HQ2 := Lib.hid hq2
    clear hr1 hr2 hb1'
    by_cases hlt : k < 7
    · have cw := (hB.cell (p := ⟨g, 0, none⟩) hbB).trans hc0
      have d0 : wr.cell? ⟨w.heap.size + 1, 0, none⟩ = some (.int .i64 (doK w0 k)) := by rw [cell_of_row wr (w.heap.size + 1) 0 _ _ _ hq2]; rfl
      have f0 := frozen_row hq2 0
      clear hq1 hq2
      obtain rfl | rfl | rfl | rfl | rfl | rfl | rfl : k = 0 ∨ k = 1 ∨ k = 2 ∨ k = 3 ∨ k = 4 ∨ k = 5 ∨ k = 6 := by omega
      · have hix : ∀ W, (Instr.index 77 wordsV (.int .i64 0)).run Tryd.prog W = .ok (.string ⟨#[]⟩) W := fun W => by kernel_rfl
        unfold wordsV at hix
        go_wp2_with fail
        exact ⟨⟨1, by omega, by go_num, HQ1.out, by rw [HQ2.out]; rfl, hB⟩, by simp [intOf]⟩
      · have hix := words_at1
        unfold wordsV at hix
        by_cases hm : wordK 1 = w0
        · have HM := Lib.hid hm
          rw [← hm] at cw
          clear hm
          simp only [wordK, Vz.feedW] at cw
          go_wp2_with fail
          refine ⟨⟨2, by omega, by go_num, ?_, ?_, hB.setCell (p := ⟨w.heap.size + 1, 0, none⟩) (by show w.heap.size ≤ w.heap.size + 1; omega) _⟩, by simp [intOf]⟩
          · rw [heap_set_other 0 _ (by omega)]; exact HQ1.out
          · rw [heap_set_same HQ2.out 0 _, show doK w0 2 = 1 by simp only [doK]; rw [if_pos ⟨by decide, HM.out⟩]; rfl]
            rfl
        · have hcmp : (([102, 101, 101, 100] : List UInt8) == (⟨w0.toArray⟩ : ByteArray).toList) = false := by
            rw [ByteArray.toList_eq]
            simp only [beq_eq_false_iff_ne, ne_eq]
            exact hm
          have HM := Lib.hid hm
          clear hm
          generalize (⟨w0.toArray⟩ : ByteArray) = T0 at hcmp cw
          go_wp2_with fail
          exact ⟨⟨2, by omega, by go_num, HQ1.out, by rw [HQ2.out, show doK w0 2 = doK w0 1 by simp only [doK]; rw [if_neg (fun h => HM.out h.2)]], hB⟩, by simp [intOf]⟩
      · have hix := words_at2
        unfold wordsV at hix
        by_cases hm : wordK 2 = w0
        · have HM := Lib.hid hm
          rw [← hm] at cw
          clear hm
          simp only [wordK, Vz.pressW] at cw
          go_wp2_with fail
          refine ⟨⟨3, by omega, by go_num, ?_, ?_, hB.setCell (p := ⟨w.heap.size + 1, 0, none⟩) (by show w.heap.size ≤ w.heap.size + 1; omega) _⟩, by simp [intOf]⟩
          · rw [heap_set_other 0 _ (by omega)]; exact HQ1.out
          · rw [heap_set_same HQ2.out 0 _, show doK w0 3 = 2 by simp only [doK]; rw [if_pos ⟨by decide, HM.out⟩]; rfl]
            rfl
        · have hcmp : (([112, 114, 101, 115, 115] : List UInt8) == (⟨w0.toArray⟩ : ByteArray).toList) = false := by
            rw [ByteArray.toList_eq]
            simp only [beq_eq_false_iff_ne, ne_eq]
            exact hm
          have HM := Lib.hid hm
          clear hm
          generalize (⟨w0.toArray⟩ : ByteArray) = T0 at hcmp cw
          go_wp2_with fail
          exact ⟨⟨3, by omega, by go_num, HQ1.out, by rw [HQ2.out, show doK w0 3 = doK w0 2 by simp only [doK]; rw [if_neg (fun h => HM.out h.2)]], hB⟩, by simp [intOf]⟩
      · have hix := words_at3
        unfold wordsV at hix
        by_cases hm : wordK 3 = w0
        · have HM := Lib.hid hm
          rw [← hm] at cw
          clear hm
          simp only [wordK, Vz.drainW] at cw
          go_wp2_with fail
          refine ⟨⟨4, by omega, by go_num, ?_, ?_, hB.setCell (p := ⟨w.heap.size + 1, 0, none⟩) (by show w.heap.size ≤ w.heap.size + 1; omega) _⟩, by simp [intOf]⟩
          · rw [heap_set_other 0 _ (by omega)]; exact HQ1.out
          · rw [heap_set_same HQ2.out 0 _, show doK w0 4 = 3 by simp only [doK]; rw [if_pos ⟨by decide, HM.out⟩]; rfl]
            rfl
        · have hcmp : (([100, 114, 97, 105, 110] : List UInt8) == (⟨w0.toArray⟩ : ByteArray).toList) = false := by
            rw [ByteArray.toList_eq]
            simp only [beq_eq_false_iff_ne, ne_eq]
            exact hm
          have HM := Lib.hid hm
          clear hm
          generalize (⟨w0.toArray⟩ : ByteArray) = T0 at hcmp cw
          go_wp2_with fail
          exact ⟨⟨4, by omega, by go_num, HQ1.out, by rw [HQ2.out, show doK w0 4 = doK w0 3 by simp only [doK]; rw [if_neg (fun h => HM.out h.2)]], hB⟩, by simp [intOf]⟩
      · have hix := words_at4
        unfold wordsV at hix
        by_cases hm : wordK 4 = w0
        · have HM := Lib.hid hm
          rw [← hm] at cw
          clear hm
          simp only [wordK, Vz.resetW] at cw
          go_wp2_with fail
          refine ⟨⟨5, by omega, by go_num, ?_, ?_, hB.setCell (p := ⟨w.heap.size + 1, 0, none⟩) (by show w.heap.size ≤ w.heap.size + 1; omega) _⟩, by simp [intOf]⟩
          · rw [heap_set_other 0 _ (by omega)]; exact HQ1.out
          · rw [heap_set_same HQ2.out 0 _, show doK w0 5 = 4 by simp only [doK]; rw [if_pos ⟨by decide, HM.out⟩]; rfl]
            rfl
        · have hcmp : (([114, 101, 115, 101, 116] : List UInt8) == (⟨w0.toArray⟩ : ByteArray).toList) = false := by
            rw [ByteArray.toList_eq]
            simp only [beq_eq_false_iff_ne, ne_eq]
            exact hm
          have HM := Lib.hid hm
          clear hm
          generalize (⟨w0.toArray⟩ : ByteArray) = T0 at hcmp cw
          go_wp2_with fail
          exact ⟨⟨5, by omega, by go_num, HQ1.out, by rw [HQ2.out, show doK w0 5 = doK w0 4 by simp only [doK]; rw [if_neg (fun h => HM.out h.2)]], hB⟩, by simp [intOf]⟩
      · have hix := words_at5
        unfold wordsV at hix
        by_cases hm : wordK 5 = w0
        · have HM := Lib.hid hm
          rw [← hm] at cw
          clear hm
          simp only [wordK, Vz.resizeW] at cw
          go_wp2_with fail
          refine ⟨⟨6, by omega, by go_num, ?_, ?_, hB.setCell (p := ⟨w.heap.size + 1, 0, none⟩) (by show w.heap.size ≤ w.heap.size + 1; omega) _⟩, by simp [intOf]⟩
          · rw [heap_set_other 0 _ (by omega)]; exact HQ1.out
          · rw [heap_set_same HQ2.out 0 _, show doK w0 6 = 5 by simp only [doK]; rw [if_pos ⟨by decide, HM.out⟩]; rfl]
            rfl
        · have hcmp : (([114, 101, 115, 105, 122, 101] : List UInt8) == (⟨w0.toArray⟩ : ByteArray).toList) = false := by
            rw [ByteArray.toList_eq]
            simp only [beq_eq_false_iff_ne, ne_eq]
            exact hm
          have HM := Lib.hid hm
          clear hm
          generalize (⟨w0.toArray⟩ : ByteArray) = T0 at hcmp cw
          go_wp2_with fail
          exact ⟨⟨6, by omega, by go_num, HQ1.out, by rw [HQ2.out, show doK w0 6 = doK w0 5 by simp only [doK]; rw [if_neg (fun h => HM.out h.2)]], hB⟩, by simp [intOf]⟩
      · have hix := words_at6
        unfold wordsV at hix
        by_cases hm : wordK 6 = w0
        · have HM := Lib.hid hm
          rw [← hm] at cw
          clear hm
          simp only [wordK, Vz.switchW] at cw
          go_wp2_with fail
          refine ⟨⟨7, by omega, by go_num, ?_, ?_, hB.setCell (p := ⟨w.heap.size + 1, 0, none⟩) (by show w.heap.size ≤ w.heap.size + 1; omega) _⟩, by simp [intOf]⟩
          · rw [heap_set_other 0 _ (by omega)]; exact HQ1.out
          · rw [heap_set_same HQ2.out 0 _, show doK w0 7 = 6 by simp only [doK]; rw [if_pos ⟨by decide, HM.out⟩]; rfl]
            rfl
        · have hcmp : (([115, 119, 105, 116, 99, 104] : List UInt8) == (⟨w0.toArray⟩ : ByteArray).toList) = false := by
            rw [ByteArray.toList_eq]
            simp only [beq_eq_false_iff_ne, ne_eq]
            exact hm
          have HM := Lib.hid hm
          clear hm
          generalize (⟨w0.toArray⟩ : ByteArray) = T0 at hcmp cw
          go_wp2_with fail
          exact ⟨⟨7, by omega, by go_num, HQ1.out, by rw [HQ2.out, show doK w0 7 = doK w0 6 by simp only [doK]; rw [if_neg (fun h => HM.out h.2)]], hB⟩, by simp [intOf]⟩
    · obtain rfl : k = 7 := by omega
      rw [doK_all] at hq2
      obtain ⟨A1, hsl, hA1⟩ := tail_run g m hn
      have hvl : m = (ws.drop 1).length := by have := HI.out.1; rw [List.length_drop]; omega
      have hwd : Wds wr.heap.size wr A1 m (ws.drop 1) := by
        refine ⟨hvl, fun h0 => ⟨g, 1, hA1 h0, by have := hB.size; omega, fun i hi => ?_⟩⟩
        obtain ⟨b, o, hbo, -, hh⟩ := (HI.out.below hB (Nat.le_refl _)).at_ (k := i + 1) (by omega)
        obtain ⟨rfl, rfl, -⟩ := by simpa using hbo
        rw [Nat.zero_add] at hh
        rw [Nat.add_comm 1 i, hh]
        congr 3
        rw [List.getElem?_drop, Nat.add_comm 1 i]
      have HNM := Lib.hid (numbers_any A1 m m (ws.drop 1) wr hwd (fun x hx => HL.out x (List.mem_of_mem_drop hx)) hn (HV.out.below hB))
      rw [show Vz.numAt (ws.drop 1) 0 = Vz.numAt ws 1 by unfold Vz.numAt; rw [List.getElem?_drop], show Vz.numAt (ws.drop 1) 1 = Vz.numAt ws 2 by unfold Vz.numAt; rw [List.getElem?_drop]] at HNM
      have HR2 := Lib.hid hq2
      have hlt1 : w.heap.size < wr.heap.size := (Array.getElem?_eq_some_iff.1 HQ1.out).1
      have hlt2 : w.heap.size + 1 < wr.heap.size := (Array.getElem?_eq_some_iff.1 hq2).1
      have hX1 : ∀ j i, (j = 0 ∧ i < 9) → (ws[j]?.isSome → True) := fun _ _ _ _ => trivial
      clear hq1 hq2 HQ2 hvl hwd hA1 hX1
      have hds := doOf_cases w0
      generalize hdd : Vz.doOf w0 = d at HR2 hds
      have HDD := Lib.hid hdd
      clear hdd
      rcases hds with ⟨hd1, hd2, hd5, hd6⟩ | rfl | rfl | rfl | rfl
      · have hb1 : (d == 1) = false := by simpa using hd1
        have hb2 : (d == 2) = false := by simpa using hd2
        have hb5 : (d == 5) = false := by simpa using hd5
        have hb6 : (d == 6) = false := by simpa using hd6
        have HDN := Lib.hid (And.intro hd1 (And.intro hd2 (And.intro hd5 hd6)))
        clear hd1 hd2 hd5 hd6
        go_wp2_with (go_at_call 37; refine HNM.out.mono ?_; rintro e w3 ⟨rfl, hb3⟩; have r13 := (hb3.block _ hlt1).trans HQ1.out; have r23 := (hb3.block _ hlt2).trans HR2.out; have hl3 := hb3.size; have hw31 : w.heap.size < w3.heap.size := (by omega); have hw32 : w.heap.size + 1 < w3.heap.size := (by omega); obtain ⟨z0, z1, z2, z3, z4, z5, z6, z7, z8⟩ := nine_cells r13; obtain ⟨e0, e1, e2, e3, e4, e5, e6, e7, e8⟩ := nine_cells r23; have F1 := frozen_row r13; have F2 := frozen_row r23; have R13 := Lib.hid r13; have R23 := Lib.hid r23; have hbw := hB.trans (hb3.mono hB.size); clear r13 r23 hl3)
        refine bodyPost_ret (res_nine _ _ w.heap.size _ _ _ _ _ _ _ _ _ rfl ((Below.heap_alloc _ _ _ (by simp [World.setCell]; omega)).trans (nine_set R13.out))) rfl ⟨?_, ?_⟩
        · obtain ⟨n1, n2, n5, n6⟩ := HDN.out
          rw [toldP_eq ws w0 d HW0.out HDD.out, if_neg n1, if_neg n2, if_neg n5, if_neg n6]
          rfl
        · exact (below_nine hbw (Nat.le_refl _)).alloc (by have := hbw.size; simp [World.setCell]; omega) _
      · have hcn : ∀ j, j ≤ m → w.cell? ⟨g, 0 + j, none⟩ = some (.string ⟨(ws[j]?.getD []).toArray⟩) := fun j hj => by
          obtain ⟨b, o, hbo, -, hh⟩ := HI.out.at_ (k := j) (by omega)
          obtain ⟨rfl, rfl, -⟩ := by simpa using hbo
          exact hh
        by_cases hm1 : m = 0
        · subst hm1
          clear hcn
          go_wp2_with (go_at_call 37; refine HNM.out.mono ?_; rintro e w3 ⟨rfl, hb3⟩; have r13 := (hb3.block _ hlt1).trans HQ1.out; have r23 := (hb3.block _ hlt2).trans HR2.out; have hl3 := hb3.size; have hw31 : w.heap.size < w3.heap.size := (by omega); have hw32 : w.heap.size + 1 < w3.heap.size := (by omega); obtain ⟨z0, z1, z2, z3, z4, z5, z6, z7, z8⟩ := nine_cells r13; obtain ⟨e0, e1, e2, e3, e4, e5, e6, e7, e8⟩ := nine_cells r23; have F1 := frozen_row r13; have F2 := frozen_row r23; have R13 := Lib.hid r13; have R23 := Lib.hid r23; have hbw := hB.trans (hb3.mono hB.size); clear r13 r23 hl3)
          refine bodyPost_ret (res_nine _ _ w.heap.size _ _ _ _ _ _ _ _ _ rfl ((Below.heap_alloc _ _ _ (by simp [World.setCell]; omega)).trans (nine_set R13.out))) rfl ⟨?_, ?_⟩
          · rw [toldP_eq ws w0 _ HW0.out HDD.out]
            have : ws[1]? = none := List.getElem?_eq_none (by have := HI.out.1; omega)
            rw [if_pos rfl, this]
            rfl
          · exact (below_nine hbw (Nat.le_refl _)).alloc (by have := hbw.size; simp [World.setCell]; omega) _
        · have hcb : decide ((0 : Int) < (m : Int)) = true := decide_eq_true (by omega)
          have hmp : 0 < m := by omega
          have hc1 := hcn 1 (by omega)
          have hw1 : ws[1]? = some (ws[1]?.getD []) := by rw [List.getElem?_eq_getElem (by have := HI.out.1; omega)]; rfl
          have hx1 := HL.out (ws[1]?.getD []) (by rw [List.getElem?_eq_getElem (by have := HI.out.1; omega)]; exact List.getElem_mem _)
          generalize ws[1]?.getD [] = x1 at hc1 hw1 hx1
          have hxs : (⟨x1.toArray⟩ : ByteArray).size ≤ 1000 := by show x1.toArray.size ≤ 1000; simpa using hx1
          have HUX := Lib.hid (unhexed_any ⟨x1.toArray⟩ hxs)
          rw [show (⟨x1.toArray⟩ : ByteArray).data.toList = x1 by simp] at HUX
          generalize (⟨x1.toArray⟩ : ByteArray) = X1 at hc1 HUX
          have HW1 := Lib.hid hw1
          have HC1 : Hid (w.cell? ⟨g, 1, none⟩ = some (.string X1)) := hc1
          clear hm1 hcn hc1 hw1 hx1 hxs
          go_wp2_with (go_at_call 37; refine HNM.out.mono ?_; rintro e w3 ⟨rfl, hb3⟩; have r13 := (hb3.block _ hlt1).trans HQ1.out; have r23 := (hb3.block _ hlt2).trans HR2.out; have hl3 := hb3.size; have hw31 : w.heap.size < w3.heap.size := (by omega); have hw32 : w.heap.size + 1 < w3.heap.size := (by omega); obtain ⟨z0, z1, z2, z3, z4, z5, z6, z7, z8⟩ := nine_cells r13; obtain ⟨e0, e1, e2, e3, e4, e5, e6, e7, e8⟩ := nine_cells r23; have F1 := frozen_row r13; have F2 := frozen_row r23; have R13 := Lib.hid r13; have R23 := Lib.hid r23; have hbw := hB.trans (hb3.mono hB.size); have cx3 := (hbw.cell (p := ⟨g, 1, none⟩) hbB).trans HC1.out; have hg3 : g < w3.heap.size := (by have := hbw.size; omega); have cx4 := cell_alloc_all cx3; clear r13 r23 hl3)
          go_wp2_with (go_at_call 38; refine (HUX.out _).mono ?_; rintro e w4 ⟨rfl, hb4⟩; have hs4 := hb4.size; simp at hs4; have r14 := (hb4.block _ (by simp; omega)).trans ((Below.heap_alloc _ _ _ hw31).trans R13.out); have r24 := (hb4.block _ (by simp; omega)).trans ((Below.heap_alloc _ _ _ hw32).trans R23.out); obtain ⟨y0, y1, y2, y3, y4, y5, y6, y7, y8⟩ := nine_cells r14; obtain ⟨x0, x1, x2, x3, x4, x5, x6, x7, x8⟩ := nine_cells r24; have G1 := frozen_row r14; have G2 := frozen_row r24; have R14 := Lib.hid r14; have R24 := Lib.hid r24; have hbw4 := (hbw.alloc (by omega) (.cells #[.int .i64 (Vz.numAt ws 1), .int .i64 (Vz.numAt ws 2)] 79)).trans (hb4.mono (by simp; omega)); clear r14 r24)
          refine bodyPost_ret (res_nine _ _ w.heap.size _ _ _ _ _ _ _ _ _ rfl (nine_set ((heap_set_other 1 _ (by omega)).trans R14.out))) rfl ⟨?_, below_nine (hbw4.setCell (p := ⟨w.heap.size + 1, 1, none⟩) (by show w.heap.size ≤ w.heap.size + 1; omega) _) (Nat.le_refl _)⟩
          rw [toldP_eq ws w0 _ HW0.out HDD.out, if_pos rfl, HW1.out]
          rfl
      · have hcn : ∀ j, j ≤ m → w.cell? ⟨g, 0 + j, none⟩ = some (.string ⟨(ws[j]?.getD []).toArray⟩) := fun j hj => by
          obtain ⟨b, o, hbo, -, hh⟩ := HI.out.at_ (k := j) (by omega)
          obtain ⟨rfl, rfl, -⟩ := by simpa using hbo
          exact hh
        have hcm := hcn m (Nat.le_refl _)
        rw [Nat.zero_add] at hcm
        have hws : ws.length = m + 1 := HI.out.1.symm
        have hlm : ws[m]? = some (ws[m]?.getD []) := by rw [List.getElem?_eq_getElem (by omega)]; rfl
        generalize ws[m]?.getD [] = xm at hcm hlm
        obtain ⟨bl, hbl⟩ : ∃ b, ((⟨xm.toArray⟩ : ByteArray).toList == ([99, 116, 114, 108] : List UInt8)) = b := ⟨_, rfl⟩
        have HBL : Hid (bl = decide (ws[ws.length - 1]? = some Vz.ctrlW)) := by
          show _ = _
          rw [← hbl, ByteArray.toList_eq, hws, show m + 1 - 1 = m by omega, hlm]
          simp only [Vz.ctrlW]
          exact beq_dec _ _
        generalize (⟨xm.toArray⟩ : ByteArray) = XM at hcm hbl
        have HCM : Hid (w.cell? ⟨g, m, none⟩ = some (.string XM)) := hcm
        clear hcm hlm
        by_cases hm3 : 3 ≤ m
        · have HM3 := Lib.hid hm3
          have HWS := Lib.hid hws
          have hidx : ((m : Int) + 1 - 1).toNat = m := by omega
          have hlt3 : (3 : Int) < (m : Int) + 1 := by omega
          have hc3 := hcn 3 hm3
          rw [Nat.zero_add] at hc3
          have hl3 : ws[3]? = some (ws[3]?.getD []) := by rw [List.getElem?_eq_getElem (by omega)]; rfl
          generalize hx3 : ws[3]?.getD [] = x3 at hc3 hl3
          obtain ⟨bs, hbs⟩ : ∃ b, ((⟨x3.toArray⟩ : ByteArray).toList == ([115, 104, 105, 102, 116] : List UInt8)) = b := ⟨_, rfl⟩
          have HBS : Hid (bs = decide (ws[3]? = some Vz.shiftW)) := by
            show _ = _
            rw [← hbs, ByteArray.toList_eq, hl3]
            simp only [Vz.shiftW]
            exact beq_dec _ _
          generalize (⟨x3.toArray⟩ : ByteArray) = X3 at hc3 hbs
          have HC3 : Hid (w.cell? ⟨g, 3, none⟩ = some (.string X3)) := hc3
          clear hcn hm3 hws hc3 hl3 hx3
          go_wp2_with (go_at_call 37; refine HNM.out.mono ?_; rintro e w3 ⟨rfl, hb3⟩; have r13 := (hb3.block _ hlt1).trans HQ1.out; have r23 := (hb3.block _ hlt2).trans HR2.out; have hl3 := hb3.size; have hw31 : w.heap.size < w3.heap.size := (by omega); have hw32 : w.heap.size + 1 < w3.heap.size := (by omega); obtain ⟨z0, z1, z2, z3, z4, z5, z6, z7, z8⟩ := nine_cells r13; obtain ⟨e0, e1, e2, e3, e4, e5, e6, e7, e8⟩ := nine_cells r23; have F1 := frozen_row r13; have F2 := frozen_row r23; have hx4 := twice_cell r23; have R13 := Lib.hid r13; have R23 := Lib.hid r23; have hbw := hB.trans (hb3.mono hB.size); have cx3 := (hbw.cell (p := ⟨g, m, none⟩) hbB).trans HCM.out; have hg3 : g < w3.heap.size := (by have := hbw.size; omega); have cx4 := cell_alloc_all cx3; have cy3 := (hbw.cell (p := ⟨g, 3, none⟩) hbB).trans HC3.out; have cy4 := cell_alloc_all cy3; clear r13 r23 hl3)
          refine bodyPost_ret (res_nine _ _ w.heap.size _ _ _ _ _ _ _ _ _ rfl ((Below.heap_alloc _ _ _ (by simp [World.setCell]; omega)).trans (nine_set ((heap_set_other 4 _ (by omega)).trans ((heap_set_other 5 _ (by omega)).trans ((heap_set_other 4 _ (by omega)).trans ((heap_set_other 3 _ (by omega)).trans ((heap_set_other 2 _ (by omega)).trans R13.out)))))))) rfl ⟨?_, ?_⟩
          · rw [toldP_eq ws w0 _ HW0.out HDD.out, if_neg (by decide), if_pos rfl, ← HBS.out, ← HBL.out]
            rfl
          · exact (below_nine (below_five hbw (Nat.le_succ _)) (Nat.le_refl _)).alloc (by have := hbw.size; simp [World.setCell]; omega) _
        · have HM3 := Lib.hid hm3
          have hidx : ((m : Int) + 1 - 1).toNat = m := by omega
          have hlt3 : ¬ ((3 : Int) < (m : Int) + 1) := by omega
          have HW3 : Hid (ws[3]? = none) := List.getElem?_eq_none (by omega)
          have HWS := Lib.hid hws
          clear hcn hm3 hws
          go_wp2_with (go_at_call 37; refine HNM.out.mono ?_; rintro e w3 ⟨rfl, hb3⟩; have r13 := (hb3.block _ hlt1).trans HQ1.out; have r23 := (hb3.block _ hlt2).trans HR2.out; have hl3 := hb3.size; have hw31 : w.heap.size < w3.heap.size := (by omega); have hw32 : w.heap.size + 1 < w3.heap.size := (by omega); obtain ⟨z0, z1, z2, z3, z4, z5, z6, z7, z8⟩ := nine_cells r13; obtain ⟨e0, e1, e2, e3, e4, e5, e6, e7, e8⟩ := nine_cells r23; have F1 := frozen_row r13; have F2 := frozen_row r23; have hx4 := twice_cell r23; have R13 := Lib.hid r13; have R23 := Lib.hid r23; have hbw := hB.trans (hb3.mono hB.size); have cx3 := (hbw.cell (p := ⟨g, m, none⟩) hbB).trans HCM.out; have hg3 : g < w3.heap.size := (by have := hbw.size; omega); have cx4 := cell_alloc_all cx3; clear r13 r23 hl3)
          refine bodyPost_ret (res_nine _ _ w.heap.size _ _ _ _ _ _ _ _ _ rfl ((Below.heap_alloc _ _ _ (by simp [World.setCell]; omega)).trans (nine_set ((heap_set_other 4 _ (by omega)).trans ((heap_set_other 5 _ (by omega)).trans ((heap_set_other 4 _ (by omega)).trans ((heap_set_other 3 _ (by omega)).trans ((heap_set_other 2 _ (by omega)).trans R13.out)))))))) rfl ⟨?_, ?_⟩
          · rw [toldP_eq ws w0 _ HW0.out HDD.out, if_neg (by decide), if_pos rfl, HW3.out, ← HBL.out]
            rfl
          · exact (below_nine (below_five hbw (Nat.le_succ _)) (Nat.le_refl _)).alloc (by have := hbw.size; simp [World.setCell]; omega) _
      · go_wp2_with (go_at_call 37; refine HNM.out.mono ?_; rintro e w3 ⟨rfl, hb3⟩; have r13 := (hb3.block _ hlt1).trans HQ1.out; have r23 := (hb3.block _ hlt2).trans HR2.out; have hl3 := hb3.size; have hw31 : w.heap.size < w3.heap.size := (by omega); have hw32 : w.heap.size + 1 < w3.heap.size := (by omega); obtain ⟨z0, z1, z2, z3, z4, z5, z6, z7, z8⟩ := nine_cells r13; obtain ⟨e0, e1, e2, e3, e4, e5, e6, e7, e8⟩ := nine_cells r23; have F1 := frozen_row r13; have F2 := frozen_row r23; have R13 := Lib.hid r13; have R23 := Lib.hid r23; have hbw := hB.trans (hb3.mono hB.size); clear r13 r23 hl3)
        refine bodyPost_ret (res_nine _ _ w.heap.size _ _ _ _ _ _ _ _ _ rfl ((Below.heap_alloc _ _ _ (by simp [World.setCell]; omega)).trans (nine_set ((heap_set_other 7 _ (by omega)).trans ((heap_set_other 6 _ (by omega)).trans R13.out))))) rfl ⟨?_, ?_⟩
        · rw [toldP_eq ws w0 _ HW0.out HDD.out]
          rfl
        · exact (below_nine ((hbw.setCell (p := ⟨w.heap.size + 1, 6, none⟩) (by show w.heap.size ≤ w.heap.size + 1; omega) _).setCell (p := ⟨w.heap.size + 1, 7, none⟩) (by show w.heap.size ≤ w.heap.size + 1; omega) _) (Nat.le_refl _)).alloc (by have := hbw.size; simp [World.setCell]; omega) _
      · go_wp2_with (go_at_call 37; refine HNM.out.mono ?_; rintro e w3 ⟨rfl, hb3⟩; have r13 := (hb3.block _ hlt1).trans HQ1.out; have r23 := (hb3.block _ hlt2).trans HR2.out; have hl3 := hb3.size; have hw31 : w.heap.size < w3.heap.size := (by omega); have hw32 : w.heap.size + 1 < w3.heap.size := (by omega); obtain ⟨z0, z1, z2, z3, z4, z5, z6, z7, z8⟩ := nine_cells r13; obtain ⟨e0, e1, e2, e3, e4, e5, e6, e7, e8⟩ := nine_cells r23; have F1 := frozen_row r13; have F2 := frozen_row r23; have R13 := Lib.hid r13; have R23 := Lib.hid r23; have hbw := hB.trans (hb3.mono hB.size); clear r13 r23 hl3)
        refine bodyPost_ret (res_nine _ _ w.heap.size _ _ _ _ _ _ _ _ _ rfl ((Below.heap_alloc _ _ _ (by simp [World.setCell]; omega)).trans (nine_set ((heap_set_other 8 _ (by omega)).trans R13.out)))) rfl ⟨?_, ?_⟩
        · rw [toldP_eq ws w0 _ HW0.out HDD.out]
          rfl
        · exact (below_nine (hbw.setCell (p := ⟨w.heap.size + 1, 8, none⟩) (by show w.heap.size ≤ w.heap.size + 1; omega) _) (Nat.le_refl _)).alloc (by have := hbw.size; simp [World.setCell]; omega) _
end Go.Proofs.YtfkbgnonkgaobaaDoor
