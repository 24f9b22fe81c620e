/- Walks: slices.Repeat at cells. -/
import Derived.Test.YtbnkfiaggehmgaaGreatDoorWk
import Derived.Test.YtbnkfiaggehmgaaGreatDoorGdPlain
import Derived.Test.YtbnkfiaggehmgaaGreatDoorRowC
import Derived.Test.YtbnkfiaggehmgaaGreatDoorShelf
namespace Go.Proofs.YtbnkfiaggehmgaaGreatDoor
open Go.RowKit
set_option linter.unusedSimpArgs false
set_option linter.unusedVariables false
attribute [local go_sem] alloc_drewN setCell_drewN

theorem infoCell : (Tryz.prog.info? 24).map (fun i => (i.zero, i.size, i.bytes)) = some (some (.agg #[.int .i32 0, .int .i64 0, .bool false, .int .i64 0]), 4, 32) := by kernel_rfl
theorem info_three {P : Program} {t : TypeId} {z : Option Value} {n b : Nat} (h : (P.info? t).map (fun i => (i.zero, i.size, i.bytes)) = some (z, n, b)) : ∃ i, P.info? t = some i ∧ i.zero = z ∧ i.size = n ∧ i.bytes = b := by
  cases hi : P.info? t with
  | none => rw [hi] at h; cases h
  | some i =>
    rw [hi] at h
    injection h with h
    injection h with h1 h
    injection h with h2 h3
    exact ⟨i, rfl, h1, h2, h3⟩
theorem make_cells (C : Nat) (h2 : C ≤ 255) : ∃ c0 : Array Value, c0.size = C * 4 ∧ ∀ W : World, Sem.run Tryz.prog (Instr.makeSlice 88 (.int .i64 (C : Int)) (.int .i64 (C : Int))) W = .ok (.slice (some ⟨W.heap.size, 0, none⟩) C C) (W.alloc (.cells c0 24)) := by
  obtain ⟨i, hi, hz, hs, hb⟩ := info_three infoCell
  refine ⟨madeCells (Value.agg #[.int .i32 0, .int .i64 0, .bool false, .int .i64 0]).cells (C * 4), size_madeCells _ _, fun W => ?_⟩
  have := run_make (P := Tryz.prog) W 88 24 i _ Tryz.underlying88 hi hz .i64 .i64 C C (by omega) (Int.le_refl _) (by rw [hb]; omega) (by omega)
  rw [hs] at this
  simpa using this
theorem flat_same (x : Vz.Cl) (q j : Nat) : Vz.flatC (fun _ => x) (4 * q + j) = Vz.flatC (fun _ => x) j := by
  unfold Vz.flatC
  rw [show (4 * q + j) % 4 = j % 4 by omega]
theorem flat_one (f : Nat → Vz.Cl) (q : Nat) : (Vz.flatC f q).oneCell' = true := by
  unfold Vz.flatC Vz.cellK
  split
  · rfl
  · split
    · rfl
    · split <;> rfl
theorem cellSize : (Tryz.prog.info? 24).map (·.size) = some 4 := by kernel_rfl
theorem add_none (b o j : Nat) : (⟨b, o, none⟩ : Addr).add j = ⟨b, o + j, none⟩ := by unfold Addr.add; split <;> simp_all
theorem mul_one (C : Nat) (h2 : C ≤ 255) (W : World) : Calls Tryz.prog 120 #[.int .u64 1, .int .u64 C] W fun e w' => e = .returned (.tuple #[.int .u64 0, .int .u64 C]) ∧ W = w' := by
  have := Tryz.bits_Mul 1 C (by decide) (by omega) W
  rw [show 1 * C / 18446744073709551616 = 0 by omega, show 1 * C % 18446744073709551616 = C by omega] at this
  exact this.mono fun e w' h => ⟨h.1, h.2.symm⟩

set_option maxRecDepth 10000 in
set_option maxHeartbeats 2000000 in
theorem repeat_any (b cp : Nat) (x : Vz.Cl) (C : Nat) (h1 : 1 ≤ C) (h2 : C ≤ 255) (w : World) (hx : RowC w b 24 cp 4 (Vz.flatC fun _ => x)) :
    Calls Tryz.prog 87 #[.slice (some ⟨b, 0, none⟩) 1 1, .int .i64 C] w fun e w' => ∃ g, e = .returned (.slice (some ⟨g, 0, none⟩) C C) ∧ w.heap.size ≤ g ∧ RowC w' g 24 (C * 4) (C * 4) (Vz.flatC fun _ => x) ∧ Below w.heap.size w w' := by
  have hx0 := hx.cell (i := 0) (by decide)
  have hx1 := hx.cell (i := 1) (by decide)
  have hx2 := hx.cell (i := 2) (by decide)
  have hx3 := hx.cell (i := 3) (by decide)
  have HM := Lib.hid (mul_one C h2)
  have hC0 : ¬ ((C : Int) < 0) := by omega
  have hC1 : ¬ (9223372036854775807 < (C : Int)) := by omega
  have hw : IntKind.i64.wrap (C : Int) = C := wrap_in (by omega) (by omega)
  have hw8 : IntKind.u64.wrap (C : Int) = C := by rw [IntKind.wrap_u64]; omega
  obtain ⟨c0, hc0, hmk⟩ := make_cells C h2
  have HL : Hid (((List.range 4).map (Vz.flatC fun _ => x)).length = 1 * 4) := by simp [Hid]
  have HFT : Hid (0 + ((List.range 4).map (Vz.flatC fun _ => x)).length ≤ C * 4) := by rw [HL.out]; show 0 + 1 * 4 ≤ C * 4; omega
  have HL4 : Hid (4 ≤ 0 + ((List.range 4).map (Vz.flatC fun _ => x)).length) := by rw [HL.out]; show 4 ≤ 0 + 1 * 4; omega
  have HC4 : Hid (4 ≤ C * 4) := by show 4 ≤ C * 4; omega
  have HR0 := Lib.hid (RowC.made' w c0 24 hc0 (f := Vz.flatC fun _ => x))
  have HQ : Hid (Nat.min 1 C = 1) := Nat.min_eq_left h1
  have HS : Hid (∀ (j : Nat) (v : Value), ((List.range 4).map (Vz.flatC fun _ => x))[j]? = some v → (w.alloc (.cells c0 24)).cell? ((⟨b, 0, none⟩ : Addr).add j) = some v) := by
    intro j v hj
    have hj4 : j < 4 := by
      have := (List.getElem?_eq_some_iff.1 hj).1
      simpa using this
    rw [add_none, Nat.zero_add]
    rw [World.cell?_of_block (w := w) (Below.heap_alloc w _ b hx.lt), hx.cell hj4]
    rw [← hj]
    simp [hj4]
  have HO : Hid (∀ v ∈ (List.range 4).map (Vz.flatC fun _ => x), v.oneCell' = true) := by
    intro v hv
    obtain ⟨j, _, rfl⟩ := List.mem_map.1 hv
    exact flat_one _ _
  have HF : Hid (∀ i, i < 4 → Vz.flatC (fun _ => x) i = if 0 ≤ i ∧ i < 0 + ((List.range 4).map (Vz.flatC fun _ => x)).length then ((List.range 4).map (Vz.flatC fun _ => x)).getD (i - 0) undef else Vz.flatC (fun _ => x) i) := by
    intro i hi
    rw [if_pos ⟨Nat.zero_le _, by simpa using hi⟩]
    simp [List.getD, hi]
  have H := Lib.hid hx
  clear hx hx0 hx1 hx2 hx3
  go_enter Tryz.func87, Tryz.ntmps87
  go_wp2_with (first
    | (go_at_call 120; refine (HM.out _).mono ?_; rintro e wn ⟨rfl, rfl⟩)
    | (refine wpList_copy_rowC rfl _ _ _ _ rfl 24 4 Tryz.underlying88 cellSize w.heap.size 0 C C ⟨b, 0, none⟩ 1 1 rfl rfl 1 HQ.out 24 (C * 4) 0 (Vz.flatC fun _ => x) HR0.out ((List.range 4).map (Vz.flatC fun _ => x)) HL.out HS.out HO.out (Nat.zero_le _) HFT.out 4 (.inr HL4.out) HC4.out (Vz.flatC fun _ => x) HF.out ?_; intro w1 hr1 hk1 hb1 hz1))
  have hB0 : Below w.heap.size w w1 := (below1 w _).trans hb1
  have HB0 := Lib.hid hB0
  clear hB0 hb1 hk1 HR0 HC4 HL4 HFT HL HQ HS HF
  go_loopw [8] (fun n wr => ∃ k : Nat, 1 ≤ k ∧ k ≤ C ∧ n = .int .i64 k ∧ RowC wr w.heap.size 24 (C * 4) (k * 4) (Vz.flatC fun _ => x) ∧ Below w.heap.size w wr) (fun n _ => C - (intOf n).toNat)
  case atStart => exact ⟨1, Nat.le_refl _, h1, rfl, hr1, HB0.out⟩
  case round =>
    obtain ⟨k, hk1, hkC, rfl, hr, hB⟩ := hrel
    have HR := Lib.hid hr
    have HB := Lib.hid hB
    clear hr hB hr1
    by_cases hlt : k < C
    · obtain ⟨q, hq⟩ : ∃ q, Nat.min k (C - k) = q := ⟨_, rfl⟩
      have hq1 : q ≤ k := by rw [← hq]; exact Nat.min_le_left _ _
      have hq2 : q ≤ C - k := by rw [← hq]; exact Nat.min_le_right _ _
      have hq3 : 1 ≤ q := by rw [← hq]; exact Nat.le_min.2 ⟨hk1, by omega⟩
      have HQ := Lib.hid hq
      have hsl1 : ∀ W : World, Sem.run Tryz.prog (Instr.slice 88 (.slice (some ⟨w.heap.size, 0, none⟩) C C) (some (.int .i64 (k : Int))) none none) W = .ok (.slice (some ⟨w.heap.size, k * 4, none⟩) (C - k) (C - k)) W := fun W => by
        have := run_cut_from (P := Tryz.prog) Tryz.underlying88 cellSize W w.heap.size 0 C C k hkC hlt
        rwa [Nat.zero_add] at this
      have hsl2 : ∀ W : World, Sem.run Tryz.prog (Instr.slice 88 (.slice (some ⟨w.heap.size, 0, none⟩) C C) none (some (.int .i64 (k : Int))) none) W = .ok (.slice (some ⟨w.heap.size, 0, none⟩) k C) W := fun W => run_cut_to (P := Tryz.prog) Tryz.underlying88 cellSize W w.heap.size 0 C C k hkC
      have HL : Hid (((List.range (q * 4)).map (Vz.flatC fun _ => x)).length = q * 4) := by simp [Hid]
      have HFT : Hid (k * 4 + ((List.range (q * 4)).map (Vz.flatC fun _ => x)).length ≤ C * 4) := by rw [HL.out]; show k * 4 + q * 4 ≤ C * 4; omega
      have HM2 : Hid ((k + q) * 4 ≤ k * 4 + ((List.range (q * 4)).map (Vz.flatC fun _ => x)).length) := by rw [HL.out]; show (k + q) * 4 ≤ k * 4 + q * 4; omega
      have HM3 : Hid ((k + q) * 4 ≤ C * 4) := by show _ ≤ _; omega
      have HS : Hid (∀ (j : Nat) (v : Value), ((List.range (q * 4)).map (Vz.flatC fun _ => x))[j]? = some v → wr.drew.cell? ((⟨w.heap.size, 0, none⟩ : Addr).add j) = some v) := by
        intro j v hj
        have hj4 : j < q * 4 := by
          have := (List.getElem?_eq_some_iff.1 hj).1
          simpa using this
        rw [add_none, Nat.zero_add]
        rw [show wr.drew.cell? ⟨w.heap.size, j, none⟩ = wr.cell? ⟨w.heap.size, j, none⟩ from rfl, HR.out.cell (by omega)]
        rw [← hj]
        simp [hj4]
      have HO2 : Hid (∀ v ∈ (List.range (q * 4)).map (Vz.flatC fun _ => x), v.oneCell' = true) := by
        intro v hv
        obtain ⟨j, _, rfl⟩ := List.mem_map.1 hv
        exact flat_one _ _
      have HF : Hid (∀ i, i < (k + q) * 4 → Vz.flatC (fun _ => x) i = if k * 4 ≤ i ∧ i < k * 4 + ((List.range (q * 4)).map (Vz.flatC fun _ => x)).length then ((List.range (q * 4)).map (Vz.flatC fun _ => x)).getD (i - k * 4) undef else Vz.flatC (fun _ => x) i) := by
        intro i hi
        rw [HL.out]
        split
        · rename_i h
          have h4 : i - k * 4 < q * 4 := by omega
          have : i = 4 * k + (i - k * 4) := by omega
          rw [this, flat_same, show 4 * k + (i - k * 4) - k * 4 = i - k * 4 by omega]
          simp [List.getD, h4]
        · rfl
      have hkq : IntKind.i64.wrap ((k : Int) + (q : Int)) = ((k + q : Nat) : Int) := by rw [IntKind.wrap_i64]; omega
      clear hq
      go_upto_region 9 with fail
      refine wp_region_noPanic ?_
      refine wp_region_held_drew (S := fun _ : World => True) (by kernel_rfl) (trivial) (fun hHeld => ?_)
      refine wpAnyH_take (i := 0) (v := ?_) rfl (by kernel_rfl) (by kernel_rfl) (by kernel_rfl) (fun _ _ _ h => h) (Or.inl ⟨by rfl, ?hy0⟩) hHeld ?_
      case hy0 => (intro w hSw; (try dsimp only at hSw); go_simp; try with_reducible rfl)
      try simp only [Act.put, List.getElem_toArray, List.getElem_cons_zero, List.getElem_cons_succ, List.setIfInBounds_toArray, List.set_cons_zero, List.set_cons_succ]
      refine wpAnyH_take (i := 1) (v := ?_) rfl (by kernel_rfl) (by kernel_rfl) (by kernel_rfl) (fun _ _ _ h => h) (Or.inl ⟨by rfl, ?hy1⟩) hHeld ?_
      case hy1 => (intro w hSw; (try dsimp only at hSw); go_simp; try with_reducible rfl)
      try simp only [Act.put, List.getElem_toArray, List.getElem_cons_zero, List.getElem_cons_succ, List.setIfInBounds_toArray, List.set_cons_zero, List.set_cons_succ]
      refine wpAnyH_take (i := 2) (v := ?_) rfl (by kernel_rfl) (by kernel_rfl) (by kernel_rfl) (fun _ _ _ h => h) (Or.inl ⟨by rfl, ?hy2⟩) hHeld ?_
      case hy2 => (intro w hSw; (try dsimp only at hSw); go_simp; try with_reducible rfl)
      try simp only [Act.put, List.getElem_toArray, List.getElem_cons_zero, List.getElem_cons_succ, List.setIfInBounds_toArray, List.set_cons_zero, List.set_cons_succ]
      refine wpAnyH_take (i := 3) (v := ?_) rfl (by kernel_rfl) (by kernel_rfl) (by kernel_rfl) (fun _ _ _ h => h) (Or.inl ⟨by rfl, ?hy3⟩) hHeld ?_
      case hy3 => (intro w hSw; (try dsimp only at hSw); go_simp; try with_reducible rfl)
      try simp only [Act.put, List.getElem_toArray, List.getElem_cons_zero, List.getElem_cons_succ, List.setIfInBounds_toArray, List.set_cons_zero, List.set_cons_succ]
      refine wpAnyH_take (i := 4) (v := ?_) rfl (by kernel_rfl) (by kernel_rfl) (by kernel_rfl) (fun _ _ _ h => h) (Or.inl ⟨by rfl, ?hy4⟩) hHeld ?_
      case hy4 => (intro w hSw; (try dsimp only at hSw); go_simp; try with_reducible rfl)
      try simp only [Act.put, List.getElem_toArray, List.getElem_cons_zero, List.getElem_cons_succ, List.setIfInBounds_toArray, List.set_cons_zero, List.set_cons_succ]
      refine wpAnyH_take (i := 5) (v := ?_) rfl (by kernel_rfl) (by kernel_rfl) (by kernel_rfl) (fun _ _ _ h => h) (Or.inl ⟨by rfl, ?hy5⟩) hHeld ?_
      case hy5 => (intro w hSw; (try dsimp only at hSw); go_simp; try with_reducible rfl)
      try simp only [Act.put, List.getElem_toArray, List.getElem_cons_zero, List.getElem_cons_succ, List.setIfInBounds_toArray, List.set_cons_zero, List.set_cons_succ]
      refine wpAnyH_take (i := 6) (v := ?_) rfl (by kernel_rfl) (by kernel_rfl) (by kernel_rfl) (fun _ _ _ h => h) (Or.inl ⟨by rfl, ?hy6⟩) hHeld ?_
      case hy6 => (intro w hSw; (try dsimp only at hSw); go_simp; try with_reducible rfl)
      try simp only [Act.put, List.getElem_toArray, List.getElem_cons_zero, List.getElem_cons_succ, List.setIfInBounds_toArray, List.set_cons_zero, List.set_cons_succ]
      refine wpAnyH_ready (rs := [7]) (by kernel_rfl) (by simp) ?_
      refine AllReadyH.cons rfl (fun K hK => ?_) AllReadyH.nil
      rw [if_pos (by rfl)]
      refine wp_copy_rowC (.tmp 41) (.tmp 44) 88 88 rfl 24 4 Tryz.underlying88 cellSize w.heap.size (k * 4) (C - k) (C - k) ⟨w.heap.size, 0, none⟩ k C rfl rfl q HQ.out 24 (C * 4) (k * 4) (Vz.flatC fun _ => x) (w := wr.drew) HR.out ((List.range (q * 4)).map (Vz.flatC fun _ => x)) HL.out HS.out HO2.out (Nat.le_refl _) HFT.out ((k + q) * 4) (.inr HM2.out) HM3.out (Vz.flatC fun _ => x) HF.out ?_
      intro w2 hr2 hk2 hb2 hz2
      refine hK.out _ _ trivial (fun hHeld2 => ?_)
      clear hHeld hK K
      have hHeld := hHeld2
      clear hHeld2
      try simp only [Act.put, List.getElem_toArray, List.getElem_cons_zero, List.getElem_cons_succ, List.setIfInBounds_toArray, List.set_cons_zero, List.set_cons_succ]
      refine wpAnyH_take (i := 8) (v := ?_) rfl (by kernel_rfl) (by kernel_rfl) (by kernel_rfl) (fun _ _ _ h => h) (Or.inl ⟨by rfl, ?hy8⟩) hHeld ?_
      case hy8 => (intro w hSw; (try dsimp only at hSw); go_simp; try with_reducible rfl)
      try simp only [Act.put, List.getElem_toArray, List.getElem_cons_zero, List.getElem_cons_succ, List.setIfInBounds_toArray, List.set_cons_zero, List.set_cons_succ]
      refine wpAnyH_take (i := 9) (v := ?_) rfl (by kernel_rfl) (by kernel_rfl) (by kernel_rfl) (fun _ _ _ h => h) (Or.inl ⟨by rfl, ?hy9⟩) hHeld ?_
      case hy9 => (intro w hSw; (try dsimp only at hSw); go_simp; try with_reducible rfl)
      try simp only [Act.put, List.getElem_toArray, List.getElem_cons_zero, List.getElem_cons_succ, List.setIfInBounds_toArray, List.set_cons_zero, List.set_cons_succ]
      refine wpAnyH_done (by kernel_rfl) ?_ _
      refine NoPanic.normal ?_
      go_wp2_with fail
      exact ⟨⟨k + q, by omega, by omega, by go_num, hr2, HB.out.drew.trans hb2⟩, by simp [intOf]; omega⟩
    · obtain rfl : k = C := by omega
      go_wp2_with fail
      go_ret
      exact ⟨w.heap.size, rfl, Nat.le_refl _, HR.out, HB.out⟩
end Go.Proofs.YtbnkfiaggehmgaaGreatDoor
