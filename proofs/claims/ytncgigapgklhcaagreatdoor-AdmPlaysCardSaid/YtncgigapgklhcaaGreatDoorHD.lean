import Derived.Test.YtncgigapgklhcaaGreatDoorHB
import Derived.Test.YtncgigapgklhcaaGreatDoorHA
import Derived.Test.YtncgigapgklhcaaGreatDoorShelf
import Derived.Deep.RegionHeld3

set_option maxRecDepth 100000
set_option maxHeartbeats 16000000
namespace Go.Proofs.YtncgigapgklhcaaGreatDoor
open Go.RowKit
set_option linter.unusedSimpArgs false
set_option linter.unusedVariables false
/- Walks: slices.Repeat at cells. -/
section
attribute [local go_sem] alloc_drewN setCell_drewN
theorem infoCell : (Tryz.prog.info? 56).map (fun i => (i.zero, i.size, i.bytes)) = some (some (.agg #[.int .i32 0, .int .i64 0, .bool false, .int .i64 0]), 4, 32) := by kernel_rfl
theorem info_three {P : Program} {t : TypeId} {z : Option Value} {n b : Nat} (h : (P.info? t).map (fun i => (i.zero, i.size, i.bytes)) = some (z, n, b)) : ∃ i, P.info? t = some i ∧ i.zero = z ∧ i.size = n ∧ i.bytes = b := by
 cases hi : P.info? t with
 | none => rw [hi] at h; cases h
 | some i =>
   rw [hi] at h
   injection h with h
   injection h with h1 h
   injection h with h2 h3
   exact ⟨i, rfl, h1, h2, h3⟩
theorem make_cells (C : Nat) (h2 : C ≤ 255) : ∃ c0 : Array Value, c0.size = C * 4 ∧ ∀ W : World, Sem.run Tryz.prog (Instr.makeSlice 54 (.int .i64 (C : Int)) (.int .i64 (C : Int))) W = .ok (.slice (some ⟨W.heap.size, 0, none⟩) C C) (W.alloc (.cells c0 56)) := by
 obtain ⟨i, hi, hz, hs, hb⟩ := info_three infoCell
 refine ⟨madeCells (Value.agg #[.int .i32 0, .int .i64 0, .bool false, .int .i64 0]).cells (C * 4), size_madeCells _ _, fun W => ?_⟩
 have := run_make (P := Tryz.prog) W 54 56 i _ Tryz.underlying54 hi hz .i64 .i64 C C (by omega) (Int.le_refl _) (by rw [hb]; omega) (by omega)
 rw [hs] at this
 simpa using this
theorem flat_same (x : Vz.Cl) (q j : Nat) : Vz.flatC (fun _ => x) (4 * q + j) = Vz.flatC (fun _ => x) j := by
 unfold Vz.flatC
 rw [show (4 * q + j) % 4 = j % 4 by omega]
theorem flat_one (f : Nat → Vz.Cl) (q : Nat) : (Vz.flatC f q).oneCell' = true := by
 unfold Vz.flatC Vz.cellK
 split
 · rfl
 · split
   · rfl
   · split <;> rfl
theorem cellSize : (Tryz.prog.info? 56).map (·.size) = some 4 := by kernel_rfl
theorem add_none (b o j : Nat) : (⟨b, o, none⟩ : Addr).add j = ⟨b, o + j, none⟩ := by unfold Addr.add; split <;> simp_all
theorem mul_one (C : Nat) (h2 : C ≤ 255) (W : World) : Calls Tryz.prog 99 #[.int .u64 1, .int .u64 C] W fun e w' => e = .returned (.tuple #[.int .u64 0, .int .u64 C]) ∧ W = w' := by
 have := Tryz.bits_Mul 1 C (by decide) (by omega) W
 rw [show 1 * C / 18446744073709551616 = 0 by omega, show 1 * C % 18446744073709551616 = C by omega] at this
 exact this.mono fun e w' h => ⟨h.1, h.2.symm⟩
theorem repeat_any (b cp : Nat) (x : Vz.Cl) (C : Nat) (h1 : 1 ≤ C) (h2 : C ≤ 255) (w : World) (hx : RowC w b 56 cp 4 (Vz.flatC fun _ => x)) :
 Calls Tryz.prog 75 #[.slice (some ⟨b, 0, none⟩) 1 1, .int .i64 C] w fun e w' => ∃ g, e = .returned (.slice (some ⟨g, 0, none⟩) C C) ∧ w.heap.size ≤ g ∧ RowC w' g 56 (C * 4) (C * 4) (Vz.flatC fun _ => x) ∧ Below w.heap.size w w' := by
 have hx0 := hx.cell (i := 0) (by decide)
 have hx1 := hx.cell (i := 1) (by decide)
 have hx2 := hx.cell (i := 2) (by decide)
 have hx3 := hx.cell (i := 3) (by decide)
 have HM := Lib.hid (mul_one C h2)
 have hC0 : ¬ ((C : Int) < 0) := by omega
 have hC1 : ¬ (9223372036854775807 < (C : Int)) := by omega
 have hw : IntKind.i64.wrap (C : Int) = C := wrap_in (by omega) (by omega)
 have hw8 : IntKind.u64.wrap (C : Int) = C := by rw [IntKind.wrap_u64]; omega
 obtain ⟨c0, hc0, hmk⟩ := make_cells C h2
 have HL : Hid (((List.range 4).map (Vz.flatC fun _ => x)).length = 1 * 4) := by simp [Hid]
 have HFT : Hid (0 + ((List.range 4).map (Vz.flatC fun _ => x)).length ≤ C * 4) := by rw [HL.out]; show 0 + 1 * 4 ≤ C * 4; omega
 have HL4 : Hid (4 ≤ 0 + ((List.range 4).map (Vz.flatC fun _ => x)).length) := by rw [HL.out]; show 4 ≤ 0 + 1 * 4; omega
 have HC4 : Hid (4 ≤ C * 4) := by show 4 ≤ C * 4; omega
 have HR0 := Lib.hid (RowC.made' w c0 56 hc0 (f := Vz.flatC fun _ => x))
 have HQ : Hid (Nat.min 1 C = 1) := Nat.min_eq_left h1
 have HS : Hid (∀ (j : Nat) (v : Value), ((List.range 4).map (Vz.flatC fun _ => x))[j]? = some v → (w.alloc (.cells c0 56)).cell? ((⟨b, 0, none⟩ : Addr).add j) = some v) := by
  intro j v hj
  have hj4 : j < 4 := by
   have := (List.getElem?_eq_some_iff.1 hj).1
   simpa using this
  rw [add_none, Nat.zero_add]
  rw [World.cell?_of_block (w := w) (Below.heap_alloc w _ b hx.lt), hx.cell hj4]
  rw [← hj]
  simp [hj4]
 have HO : Hid (∀ v ∈ (List.range 4).map (Vz.flatC fun _ => x), v.oneCell' = true) := by
  intro v hv
  obtain ⟨j, _, rfl⟩ := List.mem_map.1 hv
  exact flat_one _ _
 have HF : Hid (∀ i, i < 4 → Vz.flatC (fun _ => x) i = if 0 ≤ i ∧ i < 0 + ((List.range 4).map (Vz.flatC fun _ => x)).length then ((List.range 4).map (Vz.flatC fun _ => x)).getD (i - 0) undef else Vz.flatC (fun _ => x) i) := by
  intro i hi
  rw [if_pos ⟨Nat.zero_le _, by simpa using hi⟩]
  simp [List.getD, hi]
 have H := Lib.hid hx
 clear hx hx0 hx1 hx2 hx3
 go_enter Tryz.func75, Tryz.ntmps75
 go_wp2_with (first
  | (go_at_call 99; refine (HM.out _).mono ?_; rintro e wn ⟨rfl, rfl⟩)
  | (refine wpList_copy_rowC rfl _ _ _ _ rfl 56 4 Tryz.underlying54 cellSize w.heap.size 0 C C ⟨b, 0, none⟩ 1 1 rfl rfl 1 HQ.out 56 (C * 4) 0 (Vz.flatC fun _ => x) HR0.out ((List.range 4).map (Vz.flatC fun _ => x)) HL.out HS.out HO.out (Nat.zero_le _) HFT.out 4 (.inr HL4.out) HC4.out (Vz.flatC fun _ => x) HF.out ?_; intro w1 hr1 hk1 hb1 hz1))
 have hB0 : Below w.heap.size w w1 := (below1 w _).trans hb1
 have HB0 := Lib.hid hB0
 clear hB0 hb1 hk1 HR0 HC4 HL4 HFT HL HQ HS HF
 go_loopw [8] (fun n wr => ∃ k : Nat, 1 ≤ k ∧ k ≤ C ∧ n = .int .i64 k ∧ RowC wr w.heap.size 56 (C * 4) (k * 4) (Vz.flatC fun _ => x) ∧ Below w.heap.size w wr) (fun n _ => C - (intOf n).toNat)
 case atStart => exact ⟨1, Nat.le_refl _, h1, rfl, hr1, HB0.out⟩
 case round =>
  obtain ⟨k, hk1, hkC, rfl, hr, hB⟩ := hrel
  have HR := Lib.hid hr
  have HB := Lib.hid hB
  clear hr hB hr1
  by_cases hlt : k < C
  · obtain ⟨q, hq⟩ : ∃ q, Nat.min k (C - k) = q := ⟨_, rfl⟩
    have hq1 : q ≤ k := by rw [← hq]; exact Nat.min_le_left _ _
    have hq2 : q ≤ C - k := by rw [← hq]; exact Nat.min_le_right _ _
    have hq3 : 1 ≤ q := by rw [← hq]; exact Nat.le_min.2 ⟨hk1, by omega⟩
    have HQ := Lib.hid hq
    have hsl1 : ∀ W : World, Sem.run Tryz.prog (Instr.slice 54 (.slice (some ⟨w.heap.size, 0, none⟩) C C) (some (.int .i64 (k : Int))) none none) W = .ok (.slice (some ⟨w.heap.size, k * 4, none⟩) (C - k) (C - k)) W := fun W => by
     have := run_cut_from (P := Tryz.prog) Tryz.underlying54 cellSize W w.heap.size 0 C C k hkC hlt
     rwa [Nat.zero_add] at this
    have hsl2 : ∀ W : World, Sem.run Tryz.prog (Instr.slice 54 (.slice (some ⟨w.heap.size, 0, none⟩) C C) none (some (.int .i64 (k : Int))) none) W = .ok (.slice (some ⟨w.heap.size, 0, none⟩) k C) W := fun W => run_cut_to (P := Tryz.prog) Tryz.underlying54 cellSize W w.heap.size 0 C C k hkC
    have HL : Hid (((List.range (q * 4)).map (Vz.flatC fun _ => x)).length = q * 4) := by simp [Hid]
    have HFT : Hid (k * 4 + ((List.range (q * 4)).map (Vz.flatC fun _ => x)).length ≤ C * 4) := by rw [HL.out]; show k * 4 + q * 4 ≤ C * 4; omega
    have HM2 : Hid ((k + q) * 4 ≤ k * 4 + ((List.range (q * 4)).map (Vz.flatC fun _ => x)).length) := by rw [HL.out]; show (k + q) * 4 ≤ k * 4 + q * 4; omega
    have HM3 : Hid ((k + q) * 4 ≤ C * 4) := by show _ ≤ _; omega
    have HS : Hid (∀ (j : Nat) (v : Value), ((List.range (q * 4)).map (Vz.flatC fun _ => x))[j]? = some v → wr.drew.cell? ((⟨w.heap.size, 0, none⟩ : Addr).add j) = some v) := by
     intro j v hj
     have hj4 : j < q * 4 := by
      have := (List.getElem?_eq_some_iff.1 hj).1
      simpa using this
     rw [add_none, Nat.zero_add]
     rw [show wr.drew.cell? ⟨w.heap.size, j, none⟩ = wr.cell? ⟨w.heap.size, j, none⟩ from rfl, HR.out.cell (by omega)]
     rw [← hj]
     simp [hj4]
    have HO2 : Hid (∀ v ∈ (List.range (q * 4)).map (Vz.flatC fun _ => x), v.oneCell' = true) := by
     intro v hv
     obtain ⟨j, _, rfl⟩ := List.mem_map.1 hv
     exact flat_one _ _
    have HF : Hid (∀ i, i < (k + q) * 4 → Vz.flatC (fun _ => x) i = if k * 4 ≤ i ∧ i < k * 4 + ((List.range (q * 4)).map (Vz.flatC fun _ => x)).length then ((List.range (q * 4)).map (Vz.flatC fun _ => x)).getD (i - k * 4) undef else Vz.flatC (fun _ => x) i) := by
     intro i hi
     rw [HL.out]
     split
     · rename_i h
       have h4 : i - k * 4 < q * 4 := by omega
       have : i = 4 * k + (i - k * 4) := by omega
       rw [this, flat_same, show 4 * k + (i - k * 4) - k * 4 = i - k * 4 by omega]
       simp [List.getD, h4]
     · rfl
    have hkq : IntKind.i64.wrap ((k : Int) + (q : Int)) = ((k + q : Nat) : Int) := by rw [IntKind.wrap_i64]; omega
    clear hq
    go_upto_region 9 with fail
    refine wp_region_noPanic ?_
    refine wp_region_held_drew (S := fun _ : World => True) (by kernel_rfl) (trivial) (fun hHeld => ?_)
    refine wpAnyH_take (i := 0) (v := ?_) rfl (by kernel_rfl) (by kernel_rfl) (by kernel_rfl) (fun _ _ _ h => h) (Or.inl ⟨by rfl, ?hy0⟩) hHeld ?_
    case hy0 => (intro w hSw; (try dsimp only at hSw); go_simp; try with_reducible rfl)
    try simp only [Act.put, List.getElem_toArray, List.getElem_cons_zero, List.getElem_cons_succ, List.setIfInBounds_toArray, List.set_cons_zero, List.set_cons_succ]
    refine wpAnyH_take (i := 1) (v := ?_) rfl (by kernel_rfl) (by kernel_rfl) (by kernel_rfl) (fun _ _ _ h => h) (Or.inl ⟨by rfl, ?hy1⟩) hHeld ?_
    case hy1 => (intro w hSw; (try dsimp only at hSw); go_simp; try with_reducible rfl)
    try simp only [Act.put, List.getElem_toArray, List.getElem_cons_zero, List.getElem_cons_succ, List.setIfInBounds_toArray, List.set_cons_zero, List.set_cons_succ]
    refine wpAnyH_take (i := 2) (v := ?_) rfl (by kernel_rfl) (by kernel_rfl) (by kernel_rfl) (fun _ _ _ h => h) (Or.inl ⟨by rfl, ?hy2⟩) hHeld ?_
    case hy2 => (intro w hSw; (try dsimp only at hSw); go_simp; try with_reducible rfl)
    try simp only [Act.put, List.getElem_toArray, List.getElem_cons_zero, List.getElem_cons_succ, List.setIfInBounds_toArray, List.set_cons_zero, List.set_cons_succ]
    refine wpAnyH_take (i := 3) (v := ?_) rfl (by kernel_rfl) (by kernel_rfl) (by kernel_rfl) (fun _ _ _ h => h) (Or.inl ⟨by rfl, ?hy3⟩) hHeld ?_
    case hy3 => (intro w hSw; (try dsimp only at hSw); go_simp; try with_reducible rfl)
    try simp only [Act.put, List.getElem_toArray, List.getElem_cons_zero, List.getElem_cons_succ, List.setIfInBounds_toArray, List.set_cons_zero, List.set_cons_succ]
    refine wpAnyH_take (i := 4) (v := ?_) rfl (by kernel_rfl) (by kernel_rfl) (by kernel_rfl) (fun _ _ _ h => h) (Or.inl ⟨by rfl, ?hy4⟩) hHeld ?_
    case hy4 => (intro w hSw; (try dsimp only at hSw); go_simp; try with_reducible rfl)
    try simp only [Act.put, List.getElem_toArray, List.getElem_cons_zero, List.getElem_cons_succ, List.setIfInBounds_toArray, List.set_cons_zero, List.set_cons_succ]
    refine wpAnyH_take (i := 5) (v := ?_) rfl (by kernel_rfl) (by kernel_rfl) (by kernel_rfl) (fun _ _ _ h => h) (Or.inl ⟨by rfl, ?hy5⟩) hHeld ?_
    case hy5 => (intro w hSw; (try dsimp only at hSw); go_simp; try with_reducible rfl)
    try simp only [Act.put, List.getElem_toArray, List.getElem_cons_zero, List.getElem_cons_succ, List.setIfInBounds_toArray, List.set_cons_zero, List.set_cons_succ]
    refine wpAnyH_take (i := 6) (v := ?_) rfl (by kernel_rfl) (by kernel_rfl) (by kernel_rfl) (fun _ _ _ h => h) (Or.inl ⟨by rfl, ?hy6⟩) hHeld ?_
    case hy6 => (intro w hSw; (try dsimp only at hSw); go_simp; try with_reducible rfl)
    try simp only [Act.put, List.getElem_toArray, List.getElem_cons_zero, List.getElem_cons_succ, List.setIfInBounds_toArray, List.set_cons_zero, List.set_cons_succ]
    refine wpAnyH_ready (rs := [7]) (by kernel_rfl) (by simp) ?_
    refine AllReadyH.cons rfl (fun K hK => ?_) AllReadyH.nil
    rw [if_pos (by rfl)]
    refine wp_copy_rowC (.tmp 41) (.tmp 44) 54 54 rfl 56 4 Tryz.underlying54 cellSize w.heap.size (k * 4) (C - k) (C - k) ⟨w.heap.size, 0, none⟩ k C rfl rfl q HQ.out 56 (C * 4) (k * 4) (Vz.flatC fun _ => x) (w := wr.drew) HR.out ((List.range (q * 4)).map (Vz.flatC fun _ => x)) HL.out HS.out HO2.out (Nat.le_refl _) HFT.out ((k + q) * 4) (.inr HM2.out) HM3.out (Vz.flatC fun _ => x) HF.out ?_
    intro w2 hr2 hk2 hb2 hz2
    refine hK.out _ _ trivial (fun hHeld2 => ?_)
    clear hHeld hK K
    have hHeld := hHeld2
    clear hHeld2
    try simp only [Act.put, List.getElem_toArray, List.getElem_cons_zero, List.getElem_cons_succ, List.setIfInBounds_toArray, List.set_cons_zero, List.set_cons_succ]
    refine wpAnyH_take (i := 8) (v := ?_) rfl (by kernel_rfl) (by kernel_rfl) (by kernel_rfl) (fun _ _ _ h => h) (Or.inl ⟨by rfl, ?hy8⟩) hHeld ?_
    case hy8 => (intro w hSw; (try dsimp only at hSw); go_simp; try with_reducible rfl)
    try simp only [Act.put, List.getElem_toArray, List.getElem_cons_zero, List.getElem_cons_succ, List.setIfInBounds_toArray, List.set_cons_zero, List.set_cons_succ]
    refine wpAnyH_take (i := 9) (v := ?_) rfl (by kernel_rfl) (by kernel_rfl) (by kernel_rfl) (fun _ _ _ h => h) (Or.inl ⟨by rfl, ?hy9⟩) hHeld ?_
    case hy9 => (intro w hSw; (try dsimp only at hSw); go_simp; try with_reducible rfl)
    try simp only [Act.put, List.getElem_toArray, List.getElem_cons_zero, List.getElem_cons_succ, List.setIfInBounds_toArray, List.set_cons_zero, List.set_cons_succ]
    refine wpAnyH_done (by kernel_rfl) ?_ _
    refine NoPanic.normal ?_
    go_wp2_with fail
    exact ⟨⟨k + q, by omega, by omega, by go_num, hr2, HB.out.drew.trans hb2⟩, by simp [intOf]; omega⟩
  · obtain rfl : k = C := by omega
    go_wp2_with fail
    go_ret
    exact ⟨w.heap.size, rfl, Nat.le_refl _, HR.out, HB.out⟩
end
section
structure Keeps (F : Nat → Prop) (W W' : World) : Prop where
 os : W'.os = W.os
 tape : W'.tape = W.tape
 output : W'.output = W.output
 size : W.heap.size ≤ W'.heap.size
 block : ∀ k, k < W.heap.size → ¬ F k → W'.heap[k]? = W.heap[k]?
theorem Keeps.of_below {F : Nat → Prop} {W W' : World} (h : Below W.heap.size W W') : Keeps F W W' := ⟨h.os, h.tape, h.output, h.size, fun k hk _ => h.block k hk⟩
theorem Keeps.below {F : Nat → Prop} {W W' : World} {B : Nat} (h : Keeps F W W') (hF : ∀ k, F k → B ≤ k) (hB : B ≤ W.heap.size) : Below B W W' :=
 ⟨h.os, h.tape, h.output, h.size, fun k hk => h.block k (by omega) (fun hf => by have := hF k hf; omega)⟩
theorem Keeps.trans {F F' : Nat → Prop} {a b c : World} (h : Keeps F a b) (k : Keeps F' b c) (hF : ∀ k, F' k → F k ∨ a.heap.size ≤ k) : Keeps F a c :=
 ⟨k.os.trans h.os, k.tape.trans h.tape, k.output.trans h.output, Nat.le_trans h.size k.size, fun i hi hn => (k.block i (Nat.lt_of_lt_of_le hi h.size) (fun hf => by rcases hF i hf with h1 | h1; exact hn h1; omega)).trans (h.block i hi hn)⟩
theorem Keeps.mono {F F' : Nat → Prop} {a b : World} (h : Keeps F a b) (hF : ∀ k, F k → F' k) : Keeps F' a b := ⟨h.os, h.tape, h.output, h.size, fun k hk hn => h.block k hk fun hf => hn (hF k hf)⟩
theorem Keeps.refl (F : Nat → Prop) (W : World) : Keeps F W W := ⟨rfl, rfl, rfl, Nat.le_refl _, fun _ _ _ => rfl⟩
theorem Keeps.setCell (F : Nat → Prop) (W : World) {p : Addr} (hp : F p.block) (v : Value) : Keeps F W (W.setCell p v) :=
 ⟨rfl, rfl, rfl, by simp [World.setCell], fun k hk hn => Below.heap_setCell _ _ _ _ (fun e => hn (e ▸ hp))⟩
theorem Keeps.draws {F : Nat → Prop} {a b : World} (h : Keeps F a b) (q : Nat) : Keeps F a (b.drewN q) := ⟨h.os, h.tape, h.output, h.size, h.block⟩
theorem Keeps.alloc {F : Nat → Prop} {a b : World} (h : Keeps F a b) (o : Obj) : Keeps F a (b.alloc o) :=
 ⟨h.os, h.tape, h.output, Nat.le_trans h.size (by simp), fun k hk hn => (Below.heap_alloc _ o k (Nat.lt_of_lt_of_le hk h.size)).trans (h.block k hk hn)⟩
def rowV (G K : Nat → Nat) (C i : Nat) : Value := .slice (some ⟨G i, 0, none⟩) C (K i)
structure GridAt (W : World) (gp B cap : Nat) (G K : Nat → Nat) (D : Vz.Gd) : Prop where
 may : D.may
 box : W.heap[gp]? = some (.cells #[.slice (some ⟨B, 0, none⟩) D.R cap] 115 (0, 0))
 outer : RowC W B 54 cap D.R (rowV G K D.C)
 row : ∀ i, i < D.R → RowC W (G i) 56 (K i * 4) (D.C * 4) (Vz.flatC (D.X i))
 inj : ∀ i j, i < D.R → j < D.R → G i = G j → i = j
def footG (gp B : Nat) (G : Nat → Nat) (R : Nat) (k : Nat) : Prop := k = gp ∨ k = B ∨ ∃ i, i < R ∧ k = G i
def Grid (W : World) (gp : Nat) (F : Nat → Prop) (D : Vz.Gd) : Prop := ∃ B cap G K, GridAt W gp B cap G K D ∧ ∀ k, F k ↔ footG gp B G D.R k
theorem block_lt {W : World} {k : Nat} {o : Obj} (h : W.heap[k]? = some o) : k < W.heap.size := (Array.getElem?_eq_some_iff.1 h).1
theorem Grid.lt {W : World} {gp : Nat} {F : Nat → Prop} {D : Vz.Gd} (h : Grid W gp F D) : ∀ k, F k → k < W.heap.size := by
 obtain ⟨B, cap, G, K, h, hF⟩ := h
 intro k hk
 rcases (hF k).1 hk with rfl | rfl | ⟨i, hi, rfl⟩
 · exact block_lt h.box
 · exact h.outer.lt
 · exact (h.row i hi).lt
theorem Grid.may {W : World} {gp : Nat} {F : Nat → Prop} {D : Vz.Gd} (h : Grid W gp F D) : D.may := by
 obtain ⟨B, cap, G, K, h, hF⟩ := h
 exact h.may
theorem GridAt.of_blocks {W W' : World} {gp B cap : Nat} {G K : Nat → Nat} {D : Vz.Gd} (h : GridAt W gp B cap G K D) (hk : ∀ k, footG gp B G D.R k → W'.heap[k]? = W.heap[k]?) : GridAt W' gp B cap G K D :=
 ⟨h.may, (hk _ (.inl rfl)).trans h.box, h.outer.of_block (hk _ (.inr (.inl rfl))), fun i hi => (h.row i hi).of_block (hk _ (.inr (.inr ⟨i, hi, rfl⟩))), h.inj⟩
theorem Grid.of_blocks {W W' : World} {gp : Nat} {F : Nat → Prop} {D : Vz.Gd} (h : Grid W gp F D) (hk : ∀ k, F k → W'.heap[k]? = W.heap[k]?) : Grid W' gp F D := by
 obtain ⟨B, cap, G, K, h, hF⟩ := h
 exact ⟨B, cap, G, K, h.of_blocks fun k hf => hk k ((hF k).2 hf), hF⟩
theorem Grid.keeps {W W' : World} {gp : Nat} {F F' : Nat → Prop} {D : Vz.Gd} (h : Grid W gp F D) (hk : Keeps F' W W') (hd : ∀ k, F k → ¬ F' k) : Grid W' gp F D :=
 h.of_blocks fun k hf => hk.block k (h.lt k hf) (hd k hf)
theorem Grid.below {W W' : World} {gp : Nat} {F : Nat → Prop} {D : Vz.Gd} (h : Grid W gp F D) (hk : Below W.heap.size W W') : Grid W' gp F D :=
 h.of_blocks fun k hf => hk.block k (h.lt k hf)
theorem RowC.of_own {W : World} {base : Nat} {e : TypeId} {g n cap : Nat} {xs : List Value} (h : W.ownsRow base e 1 (.slice (some ⟨g, 0, none⟩) n cap) n xs) : RowC W g e cap n (fun i => xs.getD i undef) := by
 obtain ⟨hl, h⟩ := h
 rcases h with ⟨h, _⟩ | ⟨g', cap', cur, hv, _, hg, hn, _, hc, ht⟩
 · cases h
 · cases hv
   refine ⟨cur, hg, by omega, hn, fun i hi => ?_⟩
   have : (cur.toList.take (n * 1))[i]? = xs[i]? := by rw [ht]
   rw [List.getElem?_take_of_lt (by omega)] at this
   rw [← Array.getElem?_toList, this]
   simp [List.getD, List.getElem?_eq_getElem (show i < xs.length by omega)]
end
section
attribute [local go_sem] alloc_drewN setCell_drewN
theorem own_below {W W' : World} {base : Nat} {e : TypeId} {size : Nat} {v : Value} {n : Nat} {xs : List Value} (h : W.ownsRow base e size v n xs) (hb : Below W.heap.size W W') : W'.ownsRow base e size v n xs :=
 h.kept (row := none) ⟨hb.os, hb.tape, hb.output, hb.size, fun k hk _ => hb.block k hk⟩ (by cases h : v.ownBlock <;> simp)
theorem own_not {W : World} {base : Nat} {e t : TypeId} {size : Nat} {v : Value} {n k : Nat} {xs : List Value} {c : Array Value} (h : W.ownsRow base e size v n xs) (hk : W.heap[k]? = some (.cells c t (0, 0))) (ht : t ≠ e) : v.ownBlock ≠ some k := by
 rcases h.2 with ⟨rfl, _⟩ | ⟨g', cap, cur, rfl, _, hg, _⟩
 · simp [Value.ownBlock]
 · intro e'
   obtain rfl : g' = k := by simpa [Value.ownBlock] using e'
   rw [hk] at hg
   injection hg with hg
   injection hg with _ h2
   exact ht h2
theorem cell_row {W : World} {g : Nat} {cs : Array Value} {t : TypeId} (h : W.heap[g]? = some (.cells cs t (0, 0))) (i : Nat) : W.cell? ⟨g, i, none⟩ = cs[i]? := by
 simp [World.cell?, h]
theorem frozen_row {W : World} {g : Nat} {cs : Array Value} {t : TypeId} (h : W.heap[g]? = some (.cells cs t (0, 0))) (i : Nat) : W.frozen? ⟨g, i, none⟩ = false := by
 simp [World.frozen?, h]
theorem heap_set_same {W : World} {g : Nat} {cs : Array Value} {t : TypeId} (h : W.heap[g]? = some (.cells cs t (0, 0))) (i : Nat) (u : Value) : (W.setCell ⟨g, i, none⟩ u).heap[g]? = some (.cells (cs.setIfInBounds i u) t (0, 0)) := by
 simp [World.setCell, Array.getElem?_modify, h]
theorem RowC.of_cells {W : World} {g : Nat} {cs : Array Value} {t : TypeId} (h : W.heap[g]? = some (.cells cs t (0, 0))) {cap : Nat} (hc : cs.size = cap) (f : Nat → Value) (n : Nat) (hn : n ≤ cap) (hf : ∀ i, i < n → cs[i]? = some (f i)) : RowC W g t cap n f := ⟨cs, h, hc, hn, hf⟩
theorem RowC.below {W W' : World} {b : Nat} {t : TypeId} {cap n : Nat} {f : Nat → Value} (h : RowC W b t cap n f) (hb : Below W.heap.size W W') : RowC W' b t cap n f := h.of_block (hb.block b h.lt)
theorem RowC.ne_of {W : World} {b b' : Nat} {t t' : TypeId} {cap n : Nat} {f : Nat → Value} {c : Array Value} (h : RowC W b t cap n f) (hk : W.heap[b']? = some (.cells c t' (0, 0))) (ht : t ≠ t') : b ≠ b' := by
 rintro rfl
 obtain ⟨c', h, _⟩ := h
 rw [hk] at h
 injection h with h
 injection h with _ h
 exact ht h.symm
def cellB (x : Vz.Cl) : Array Value := #[.int .i32 x.g, .int .i64 x.a, .bool x.gd, .int .i64 x.m]
theorem cellB_row {W : World} {g : Nat} {x : Vz.Cl} (h : W.heap[g]? = some (.cells (cellB x) 56 (0, 0))) : RowC W g 56 4 4 (Vz.flatC fun _ => x) := by
 refine RowC.of_cells h rfl _ 4 (Nat.le_refl _) fun i hi => ?_
 obtain rfl | rfl | rfl | rfl : i = 0 ∨ i = 1 ∨ i = 2 ∨ i = 3 := by omega
 all_goals rfl
theorem cell4 {W : World} {g : Nat} {x : Vz.Cl} (h : W.heap[g]? = some (.cells (cellB x) 56 (0, 0))) : W.cell? ⟨g, 0, none⟩ = some (.int .i32 x.g) ∧ W.cell? ⟨g, 1, none⟩ = some (.int .i64 x.a) ∧ W.cell? ⟨g, 2, none⟩ = some (.bool x.gd) ∧ W.cell? ⟨g, 3, none⟩ = some (.int .i64 x.m) :=
 ⟨cell_row h 0, cell_row h 1, cell_row h 2, cell_row h 3⟩
def Bx (n R C : Nat) (x : Vz.Cl) (W : World) : Prop := W.heap[n]? = some (.cells #[.int .i64 R, .int .i64 C] 23 (0, 0)) ∧ W.heap[n + 1]? = some (.cells (cellB x) 56 (0, 0))
theorem Bx.below {n R C : Nat} {x : Vz.Cl} {W W' : World} (h : Bx n R C x W) (hb : Below W.heap.size W W') : Bx n R C x W' := ⟨(hb.block _ (block_lt h.1)).trans h.1, (hb.block _ (block_lt h.2)).trans h.2⟩
theorem own_succ {W : World} {base : Nat} {e : TypeId} {size : Nat} {v : Value} {n : Nat} {xs : List Value} (h : W.ownsRow base e size v (n + 1) xs) : ∃ g cap, v = .slice (some ⟨g, 0, none⟩) (n + 1) cap := by
 rcases h.2 with ⟨_, h⟩ | ⟨g, cap, _, rfl, _⟩
 · omega
 · exact ⟨g, cap, rfl⟩
structure NewInv (w : World) (n R C : Nat) (x : Vz.Cl) (k : Nat) (v : Value) (G : Nat → Nat) (W : World) : Prop where
 b0 : W.heap[n]? = some (.cells #[.int .i64 R, .int .i64 C] 23 (0, 0))
 b1 : W.heap[n + 1]? = some (.cells (cellB x) 56 (0, 0))
 box : W.heap[n + 1 + 1 + 1]? = some (.cells #[v] 115 (0, 0))
 own : W.ownsRow n 54 1 v k ((List.range k).map (rowV G (fun _ => C) C))
 row : ∀ i, i < k → RowC W (G i) 56 (C * 4) (C * 4) (Vz.flatC fun _ => x)
 inj : ∀ i j, i < k → j < k → G i = G j → i = j
 ge : ∀ i, i < k → n + 1 + 1 ≤ G i
 le : Below n w W
theorem NewInv.step {w : World} {n R C : Nat} {x : Vz.Cl} {k : Nat} {v v' : Value} {G : Nat → Nat} {W w3 w5 : World} {g : Nat} {o1 o2 : Obj} {m : Nat} (h : NewInv w n R C x k v G W) (hn : n = w.heap.size)
 (hb : Below ((W.drewN m).alloc o1).heap.size ((W.drewN m).alloc o1) w3) (hg : ((W.drewN m).alloc o1).heap.size ≤ g) (hr : RowC w3 g 56 (C * 4) (C * 4) (Vz.flatC fun _ => x))
 (hgr : (w3.alloc o2).grownBy w5 v.ownBlock) (hown : w5.ownsRow n 54 1 v' (k + 1) ((List.range k).map (rowV G (fun _ => C) C) ++ [.slice (some ⟨g, 0, none⟩) C C])) :
 Bx n R C x w5 ∧ w5.heap[n + 1 + 1 + 1]? = some (.cells #[v] 115 (0, 0)) ∧ NewInv w n R C x (k + 1) v' (fun i => if i = k then g else G i) (w5.setCell ⟨n + 1 + 1 + 1, 0, none⟩ v') := by
 have e1 : ((W.drewN m).alloc o1).heap.size = W.heap.size + 1 := by simp
 have hW3 : ∀ b, b < W.heap.size → w3.heap[b]? = W.heap[b]? := fun b hlt => (hb.block b (by omega)).trans (Below.heap_alloc (W.drewN m) o1 b hlt)
 have hs3 : W.heap.size + 1 ≤ w3.heap.size := by have := hb.size; omega
 have hW4 : ∀ b, b < W.heap.size → (w3.alloc o2).heap[b]? = W.heap[b]? := fun b hlt => (Below.heap_alloc w3 o2 b (by omega)).trans (hW3 b hlt)
 have hB4 : Below W.heap.size W (w3.alloc o2) := ⟨hb.os, hb.tape, hb.output, by rw [World.size_alloc]; omega, hW4⟩
 have own4 := own_below h.own hB4
 have hs4 : (w3.alloc o2).heap.size = w3.heap.size + 1 := by simp
 have hW5 : ∀ (b : Nat) (c : Array Value) (t : TypeId), W.heap[b]? = some (.cells c t (0, 0)) → t ≠ 54 → w5.heap[b]? = some (.cells c t (0, 0)) := fun b c t hc ht => by
  have hlt := block_lt hc
  exact (hgr.block b (by omega) (fun e => own_not h.own hc ht e.symm)).trans ((hW4 b hlt).trans hc)
 have hR3 : ∀ b (f : Nat → Value) (cp m : Nat), RowC w3 b 56 cp m f → RowC w5 b 56 cp m f := fun b f cp m hr => by
  have hr4 : RowC (w3.alloc o2) b 56 cp m f := hr.of_block (Below.heap_alloc w3 o2 b hr.lt)
  have hc := hr4.choose_spec.1
  exact hr4.of_block (hgr.block b hr4.lt (fun e => own_not own4 hc (show 56 ≠ 54 by decide) e.symm))
 have hbox5 := hW5 _ _ _ h.box (by decide)
 have hset : ∀ b, b ≠ n + 1 + 1 + 1 → (w5.setCell ⟨n + 1 + 1 + 1, 0, none⟩ v').heap[b]? = w5.heap[b]? := fun b hne => Below.heap_setCell _ _ _ _ hne
 have hrow5 : ∀ i, i < k + 1 → RowC w5 (if i = k then g else G i) 56 (C * 4) (C * 4) (Vz.flatC fun _ => x) := fun i hi => by
  by_cases e : i = k
  · rw [if_pos e]
    exact hR3 _ _ _ _ hr
  · rw [if_neg e]
    have hi' := h.row i (by omega)
    exact hR3 _ _ _ _ (hi'.of_block (hW3 _ hi'.lt))
 have hnW : n ≤ W.heap.size := by have := h.le.size; omega
 refine ⟨⟨hW5 _ _ _ h.b0 (by decide), hW5 _ _ _ h.b1 (by decide)⟩, hbox5, ?_⟩
 refine ⟨(hset _ (by omega)).trans (hW5 _ _ _ h.b0 (by decide)), (hset _ (by omega)).trans (hW5 _ _ _ h.b1 (by decide)), heap_set_same hbox5 0 v', ?_, ?_, ?_, ?_, ?_⟩
 · have hne := own_not hown hbox5 (by decide)
   have hk := hown.kept (w' := w5.setCell ⟨n + 1 + 1 + 1, 0, none⟩ v') (row := some (n + 1 + 1 + 1)) ⟨rfl, rfl, rfl, by simp [World.setCell], fun b _ hb => hset b (fun e => hb (by rw [e]))⟩ (.inr hne)
   have e : (List.range (k + 1)).map (rowV (fun i => if i = k then g else G i) (fun _ => C) C) = (List.range k).map (rowV G (fun _ => C) C) ++ [.slice (some ⟨g, 0, none⟩) C C] := by
    rw [List.range_succ, List.map_append]
    congr 1
    · apply List.map_congr_left
      intro i hi
      have := List.mem_range.1 hi
      simp [rowV, show i ≠ k by omega]
    · simp [rowV]
   rw [e]
   exact hk
 · intro i hi
   have := hrow5 i hi
   exact this.of_block (hset _ (this.ne_of hbox5 (by decide)))
 · intro i j hi hj e
   have hG : ∀ i, i < k → G i < W.heap.size := fun i hi => (h.row i hi).lt
   split at e <;> split at e
   · omega
   · have := hG j (by omega); omega
   · have := hG i (by omega); omega
   · exact h.inj i j (by omega) (by omega) e
 · intro i hi
   split
   · have := (block_lt h.box); omega
   · exact h.ge i (by omega)
 · refine (h.le.trans (hB4.mono hnW)).trans ?_
   refine (Below.grown (Below.refl _ _) hgr (by rw [hs4]; omega) (fun b e => ?_)).setCell (by show n ≤ n + 1 + 1 + 1; omega) v'
   exact (own4.lt b e).1
theorem NewInv.done {w : World} {n R C : Nat} {x : Vz.Cl} {v : Value} {G : Nat → Nat} {W : World} (h : NewInv w n R C x R v G W) (hm : (Vz.Gd.new R C x).may) : ∃ F, Grid W (n + 1 + 1 + 1) F (Vz.Gd.new R C x) ∧ ∀ k, F k → n ≤ k := by
 obtain ⟨r, rfl⟩ : ∃ r, R = r + 1 := ⟨R - 1, by have : 1 ≤ R := hm.1; omega⟩
 obtain ⟨B, cap, rfl⟩ := own_succ h.own
 have hB := (h.own.lt B rfl).1
 refine ⟨footG (n + 1 + 1 + 1) B G (r + 1), ⟨B, cap, G, fun _ => C, ⟨hm, h.box, (RowC.of_own h.own).congr fun i hi => ?_, fun i hi => h.row i hi, fun i j hi hj e => h.inj i j hi hj e⟩, fun k => Iff.rfl⟩, ?_⟩
 · have hi' : i < r + 1 := hi
   simp [List.getD, hi', Vz.Gd.new]
 · intro k hk
   rcases hk with rfl | rfl | ⟨i, hi, rfl⟩
   · omega
   · exact hB
   · have := h.ge i hi
     omega
theorem infoRow : (Tryz.prog.info? 54).map (fun i => (i.zero, i.size, i.bytes)) = some (some (.slice none 0 0), 1, 24) := by kernel_rfl
theorem new_start (w : World) (a b c d : Obj) : ((((w.alloc a).alloc b).alloc c).alloc d).heap[w.heap.size]? = some a ∧ ((((w.alloc a).alloc b).alloc c).alloc d).heap[w.heap.size + 1]? = some b ∧ ((((w.alloc a).alloc b).alloc c).alloc d).heap[w.heap.size + 1 + 1 + 1]? = some d := by
 have z1 : (w.alloc a).heap.size = w.heap.size + 1 := by simp
 have z2 : ((w.alloc a).alloc b).heap.size = w.heap.size + 1 + 1 := by simp
 have z3 : (((w.alloc a).alloc b).alloc c).heap.size = w.heap.size + 1 + 1 + 1 := by simp
 refine ⟨?_, ?_, ?_⟩
 · exact (Below.heap_alloc _ d _ (by omega)).trans ((Below.heap_alloc _ c _ (by omega)).trans ((Below.heap_alloc _ b _ (by omega)).trans (heap_alloc_new w a)))
 · have := heap_alloc_new (w.alloc a) b
   rw [z1] at this
   exact (Below.heap_alloc _ d _ (by omega)).trans ((Below.heap_alloc _ c _ (by omega)).trans this)
 · have := heap_alloc_new (((w.alloc a).alloc b).alloc c) d
   rwa [z3] at this
theorem gnew_ok (R C : Nat) (x : Vz.Cl) (h : Vz.mayS R C = true) (w : World) : Calls Tryz.prog 50 #[.agg #[.int .i64 R, .int .i64 C], .agg #[.int .i32 x.g, .int .i64 x.a, .bool x.gd, .int .i64 x.m]] w fun e w' => ∃ gp F, e = .returned (.tuple #[.pointer (some ⟨gp, 0, none⟩), .int .i64 0]) ∧ Grid w' gp F (Vz.Gd.new R C x) ∧ (∀ k, F k → w.heap.size ≤ k) ∧ Below w.heap.size w w' := by
 have H := Lib.hid h
 have hm := (Vz.mayS_iff R C).1 h
 have hm1 : 1 ≤ R := by omega
 have hm2 : R ≤ 255 := by omega
 have hm3 : 1 ≤ C := by omega
 have hm4 : C ≤ 255 := by omega
 clear h hm
 go_enter Tryz.func50, Tryz.ntmps50
 go_wp2_with (first
  | (go_at_call 74; refine (may_ok _ _ H.out _).mono ?_; rintro e wm ⟨rfl, rfl⟩))
 obtain ⟨st0, st1, st2⟩ := new_start w (.cells #[.int .i64 R, .int .i64 C] 23) (.cells (cellB x) 56) (.cells #[.int .i64 R, .int .i64 C] 23) (.cells #[.slice none 0 0] 115)
 have HST : Hid (NewInv w w.heap.size R C x 0 (.slice none 0 0) (fun _ => 0) ((((w.alloc (.cells #[.int .i64 R, .int .i64 C] 23)).alloc (.cells (cellB x) 56)).alloc (.cells #[.int .i64 R, .int .i64 C] 23)).alloc (.cells #[.slice none 0 0] 115))) :=
  ⟨st0, st1, st2, World.ownsRow_nil _ _ _ _, fun i hi => absurd hi (Nat.not_lt_zero _), fun i j hi => absurd hi (Nat.not_lt_zero _), fun i hi => absurd hi (Nat.not_lt_zero _), Grows.below ((((Grows.refl _).alloc _).alloc _).alloc _ |>.alloc _)⟩
 clear st0 st1 st2
 go_loopw [17] (fun i wr => ∃ (k : Nat) (v : Value) (G : Nat → Nat), k ≤ R ∧ i = .int .i64 k ∧ NewInv w w.heap.size R C x k v G wr) (fun i _ => R - (intOf i).toNat)
 case atStart => exact ⟨0, _, _, Nat.zero_le _, rfl, HST.out⟩
 case round =>
  obtain ⟨k, v, G, hk, rfl, hI⟩ := hrel
  have HI := Lib.hid hI
  have c0 : wr.cell? ⟨w.heap.size + 1 + 1 + 1, 0, none⟩ = some v := cell_row hI.box 0
  obtain ⟨i0, hi, hz0, hz1, hz2⟩ := info_three infoRow
  by_cases hlt : k < R
  · have hkw : IntKind.i64.wrap ((k : Int) + 1) = ((k + 1 : Nat) : Int) := by rw [IntKind.wrap_i64]; omega
    have HBX : Hid (Bx w.heap.size R C x wr.drew) := ⟨hI.b0, hI.b1⟩
    have hgp := block_lt hI.box
    have hnz : w.heap.size ≤ wr.heap.size := by omega
    have c1 : (wr.alloc (.cells #[.int .i32 x.g, .int .i64 x.a, .bool x.gd, .int .i64 x.m] 56)).cell? ⟨w.heap.size + 1 + 1 + 1, 0, none⟩ = some v := cell_row ((Below.heap_alloc wr _ _ hgp).trans hI.box) 0
    have HC3 : Hid (∀ w3, Below (wr.alloc (.cells (cellB x) 56)).drew.heap.size (wr.alloc (.cells (cellB x) 56)).drew w3 → w3.cell? ⟨w.heap.size + 1 + 1 + 1, 0, none⟩ = some v) := fun w3 hb => cell_row ((hb.block _ (by show _ < (wr.alloc _).heap.size; rw [World.size_alloc]; omega)).trans ((Below.heap_alloc wr _ _ hgp).trans hI.box)) 0
    have HC4 : Hid (∀ w3 u, Below (wr.alloc (.cells (cellB x) 56)).drew.heap.size (wr.alloc (.cells (cellB x) 56)).drew w3 → (w3.alloc (.cells #[u] 54)).cell? ⟨w.heap.size + 1 + 1 + 1, 0, none⟩ = some v) := fun w3 u hb => cell_row ((Below.heap_alloc w3 _ _ (by have := hb.size; have h2 : (wr.alloc (Obj.cells (cellB x) 56)).drew.heap.size = wr.heap.size + 1 := World.size_alloc _ _; omega)).trans ((hb.block _ (by show _ < (wr.alloc _).heap.size; rw [World.size_alloc]; omega)).trans ((Below.heap_alloc wr _ _ hgp).trans hI.box))) 0
    have HOWN : Hid (∀ w3 o, Below (wr.alloc (.cells (cellB x) 56)).drew.heap.size (wr.alloc (.cells (cellB x) 56)).drew w3 → (w3.alloc o).ownsRow w.heap.size 54 1 v k ((List.range k).map (rowV G (fun _ => C) C))) := fun w3 o hb => ((own_below (hI.own.alloc (.cells (cellB x) 56)) (W' := w3) ⟨hb.os, hb.tape, hb.output, hb.size, hb.block⟩)).alloc o
    have HSZ : Hid (∀ w3 o, Below (wr.alloc (.cells (cellB x) 56)).drew.heap.size (wr.alloc (.cells (cellB x) 56)).drew w3 → w.heap.size ≤ (w3.alloc o).heap.size) := fun w3 o hb => by have := hb.size; have h2 : (wr.alloc (Obj.cells (cellB x) 56)).drew.heap.size = wr.heap.size + 1 := World.size_alloc _ _; rw [World.size_alloc]; omega
    have HRN : Hid (RowC (wr.alloc (.cells (cellB x) 56)).drew wr.heap.size 56 4 4 (Vz.flatC fun _ => x)) := cellB_row (heap_alloc_new wr (.cells (cellB x) 56))
    clear hI
    go_upto_region 7 with fail
    refine wp_region_noPanic ?_
    refine wp_region_held_drew (S := Bx w.heap.size R C x) (by kernel_rfl) (HBX.out) (fun hHeld => ?_)
    refine wpAnyH_take (i := 0) (v := ?_) rfl (by kernel_rfl) (by kernel_rfl) (by kernel_rfl) (fun _ _ _ h => h) (Or.inl ⟨by rfl, ?hy1⟩) hHeld ?_
    case hy1 => (intro w hSw; (try dsimp only at hSw); go_simp; try with_reducible rfl)
    try simp only [Act.put, List.getElem_toArray, List.getElem_cons_zero, List.getElem_cons_succ, List.setIfInBounds_toArray, List.set_cons_zero, List.set_cons_succ]
    refine wpAnyH_take (i := 1) (v := ?_) rfl (by kernel_rfl) (by kernel_rfl) (by kernel_rfl) (fun _ _ _ h => h) (Or.inl ⟨by rfl, ?hy2⟩) hHeld ?_
    case hy2 => (intro w hSw; (try dsimp only at hSw); go_simp; try with_reducible rfl)
    try simp only [Act.put, List.getElem_toArray, List.getElem_cons_zero, List.getElem_cons_succ, List.setIfInBounds_toArray, List.set_cons_zero, List.set_cons_succ]
    refine wpAnyH_take (i := 2) (v := ?_) rfl (by kernel_rfl) (by kernel_rfl) (by kernel_rfl) (fun _ _ _ h => h) (Or.inl ⟨by rfl, ?hy3⟩) hHeld ?_
    case hy3 => (intro w hSw; (try dsimp only at hSw); go_simp; try with_reducible rfl)
    try simp only [Act.put, List.getElem_toArray, List.getElem_cons_zero, List.getElem_cons_succ, List.setIfInBounds_toArray, List.set_cons_zero, List.set_cons_succ]
    refine wpAnyH_take (i := 3) (v := ?_) rfl (by kernel_rfl) (by kernel_rfl) (by kernel_rfl) (fun _ _ _ h => h) (Or.inl ⟨by rfl, ?hy4⟩) hHeld ?_
    case hy4 => (intro w hSw; (try dsimp only at hSw); go_simp; try with_reducible rfl)
    try simp only [Act.put, List.getElem_toArray, List.getElem_cons_zero, List.getElem_cons_succ, List.setIfInBounds_toArray, List.set_cons_zero, List.set_cons_succ]
    refine wpAnyH_take (i := 5) (v := ?_) rfl (by kernel_rfl) (by kernel_rfl) (by kernel_rfl) (fun _ _ _ h => h) (Or.inl ⟨by rfl, ?hy5⟩) hHeld ?_
    case hy5 => (intro W hSw; obtain ⟨q0, q1, q2, q3⟩ := cell4 hSw.2; go_simp; try with_reducible rfl)
    try simp only [Act.put, List.getElem_toArray, List.getElem_cons_zero, List.getElem_cons_succ, List.setIfInBounds_toArray, List.set_cons_zero, List.set_cons_succ]
    refine wpAnyH_take (i := 7) (v := ?_) rfl (by kernel_rfl) (by kernel_rfl) (by kernel_rfl) (fun _ _ _ h => h) (Or.inl ⟨by rfl, ?hy6⟩) hHeld ?_
    case hy6 => (intro w hSw; (try dsimp only at hSw); go_simp; try with_reducible rfl)
    try simp only [Act.put, List.getElem_toArray, List.getElem_cons_zero, List.getElem_cons_succ, List.setIfInBounds_toArray, List.set_cons_zero, List.set_cons_succ]
    refine wpAnyH_take (i := 8) (v := ?_) rfl (by kernel_rfl) (by kernel_rfl) (by kernel_rfl) (fun _ _ _ h => h) (Or.inl ⟨by rfl, ?hy7⟩) hHeld ?_
    case hy7 => (intro W hSw; have q1 : W.cell? ⟨w.heap.size, 1, none⟩ = some (.int .i64 C) := cell_row hSw.1 1; go_simp; try with_reducible rfl)
    try simp only [Act.put, List.getElem_toArray, List.getElem_cons_zero, List.getElem_cons_succ, List.setIfInBounds_toArray, List.set_cons_zero, List.set_cons_succ]
    refine wpAnyH_ready (rs := [4, 6]) (by kernel_rfl) (by simp) ?_
    refine (AllReadyH.cons rfl (fun K hK => ?_) (AllReadyH.cons rfl (fun K hK => ?_) AllReadyH.nil))
    · go_simp
      refine hK.out _ _ (hHeld) (fun hHeld2 => ?_)
      clear hHeld hK K
      have hHeld := hHeld2
      clear hHeld2
      try simp only [Act.put, List.getElem_toArray, List.getElem_cons_zero, List.getElem_cons_succ, List.setIfInBounds_toArray, List.set_cons_zero, List.set_cons_succ]
      refine wpAnyH_ready (rs := [6]) (by kernel_rfl) (by simp) ?_
      refine AllReadyH.cons rfl (fun K hK => ?_) AllReadyH.nil
      go_simp
      refine hK.out _ _ (hHeld.below (below1 _ _)) (fun hHeld2 => ?_)
      clear hHeld hK K
      have hHeld := hHeld2
      clear hHeld2
      try simp only [Act.put, List.getElem_toArray, List.getElem_cons_zero, List.getElem_cons_succ, List.setIfInBounds_toArray, List.set_cons_zero, List.set_cons_succ]
      refine wpAnyH_ready (rs := [9]) (by kernel_rfl) (by simp) ?_
      refine AllReadyH.cons rfl (fun K hK => ?_) AllReadyH.nil
      go_simp
      go_at_call 75
      refine (repeat_any _ 4 x C hm3 hm4 _ HRN.out).mono ?_
      rintro e w3 ⟨g, rfl, hg3, hr3, hb3⟩
      have HB3 := Lib.hid hb3
      have HG3 := Lib.hid hg3
      have HR3 := Lib.hid hr3
      have c3 := HC3.out w3 hb3
      have c4 := HC4.out w3 (.slice (some ⟨g, 0, none⟩) C C) hb3
      clear hb3 hg3 hr3
      go_wp2_with fail
      refine hK.out _ _ (hHeld.below HB3.out) (fun hHeld2 => ?_)
      clear hHeld hK K
      have hHeld := hHeld2
      clear hHeld2
      try simp only [Act.put, List.getElem_toArray, List.getElem_cons_zero, List.getElem_cons_succ, List.setIfInBounds_toArray, List.set_cons_zero, List.set_cons_succ]
      refine wpAnyH_ready (rs := [10]) (by kernel_rfl) (by simp) ?_
      refine AllReadyH.cons rfl (fun K hK => ?_) AllReadyH.nil
      go_simp
      refine hK.out _ _ (hHeld.below (below1 _ _)) (fun hHeld2 => ?_)
      clear hHeld hK K
      have hHeld := hHeld2
      clear hHeld2
      try simp only [Act.put, List.getElem_toArray, List.getElem_cons_zero, List.getElem_cons_succ, List.setIfInBounds_toArray, List.set_cons_zero, List.set_cons_succ]
      refine wpAnyH_ready (rs := [11]) (by kernel_rfl) (by simp) ?_
      refine AllReadyH.cons rfl (fun K hK => ?_) AllReadyH.nil
      rw [if_pos (by rfl)]
      refine wp_append_own _ (.tmp 23) (.tmp 29) 52 rfl w.heap.size 54 i0 (.slice none 0 0) 1 24 Tryz.underlying52 hi hz0 hz1 hz2 rfl (by decide) _ _ _ rfl (HOWN.out _ _ HB3.out) ⟨w3.heap.size, 0, none⟩ 1 1 [.slice (some ⟨g, 0, none⟩) C C] rfl rfl (cell_one_new _ _ _) (by intro u hu; obtain rfl := List.mem_singleton.1 hu; rfl) (by unfold maxLen; omega) (by omega) (HSZ.out _ _ HB3.out) ?_
      intro v' w5 hown' hgrow _
      obtain ⟨g', cap', rfl⟩ := own_succ hown'
      obtain ⟨hbx5, hbox5, hN⟩ := HI.out.step (m := 1) rfl HB3.out HG3.out HR3.out hgrow hown'
      have HN5 := Lib.hid hN
      have f5 : w5.frozen? ⟨w.heap.size + 1 + 1 + 1, 0, none⟩ = false := frozen_row hbox5 0
      have c5 : w5.cell? ⟨w.heap.size + 1 + 1 + 1, 0, none⟩ = some v := cell_row hbox5 0
      clear hN hown' hgrow
      refine hK.out _ _ (hbx5) (fun hHeld2 => ?_)
      clear hHeld hK K
      have hHeld := hHeld2
      clear hHeld2
      try simp only [Act.put, List.getElem_toArray, List.getElem_cons_zero, List.getElem_cons_succ, List.setIfInBounds_toArray, List.set_cons_zero, List.set_cons_succ]
      refine wpAnyH_take (i := 12) (v := ?_) rfl (by kernel_rfl) (by kernel_rfl) (by kernel_rfl) (fun _ _ _ h => h) (Or.inl ⟨by rfl, ?hy8⟩) hHeld ?_
      case hy8 => (intro w hSw; (try dsimp only at hSw); go_simp; try with_reducible rfl)
      try simp only [Act.put, List.getElem_toArray, List.getElem_cons_zero, List.getElem_cons_succ, List.setIfInBounds_toArray, List.set_cons_zero, List.set_cons_succ]
      refine wpAnyH_take (i := 13) (v := ?_) rfl (by kernel_rfl) (by kernel_rfl) (by kernel_rfl) (fun _ _ _ h => h) (Or.inl ⟨by rfl, ?hy9⟩) hHeld ?_
      case hy9 => (intro w hSw; (try dsimp only at hSw); go_simp; try with_reducible rfl)
      try simp only [Act.put, List.getElem_toArray, List.getElem_cons_zero, List.getElem_cons_succ, List.setIfInBounds_toArray, List.set_cons_zero, List.set_cons_succ]
      refine wpAnyH_ready (rs := [14]) (by kernel_rfl) (by simp) ?_
      refine AllReadyH.cons rfl (fun K hK => ?_) AllReadyH.nil
      go_simp
      refine hK.out _ _ (⟨HN5.out.b0, HN5.out.b1⟩) (fun hHeld2 => ?_)
      clear hHeld hK K
      have hHeld := hHeld2
      clear hHeld2
      try simp only [Act.put, List.getElem_toArray, List.getElem_cons_zero, List.getElem_cons_succ, List.setIfInBounds_toArray, List.set_cons_zero, List.set_cons_succ]
      refine wpAnyH_done (by kernel_rfl) ?_ _
      refine NoPanic.normal ?_
      go_wp2_with fail
      exact ⟨⟨k + 1, _, _, by omega, by go_num, HN5.out⟩, by simp [intOf]; omega⟩
    · go_simp
      refine hK.out _ _ (hHeld.below (below1 _ _)) (fun hHeld2 => ?_)
      clear hHeld hK K
      have hHeld := hHeld2
      clear hHeld2
      try simp only [Act.put, List.getElem_toArray, List.getElem_cons_zero, List.getElem_cons_succ, List.setIfInBounds_toArray, List.set_cons_zero, List.set_cons_succ]
      refine wpAnyH_ready (rs := [4, 9]) (by kernel_rfl) (by simp) ?_
      refine (AllReadyH.cons rfl (fun K hK => ?_) (AllReadyH.cons rfl (fun K hK => ?_) AllReadyH.nil))
      · go_simp
        refine hK.out _ _ (hHeld) (fun hHeld2 => ?_)
        clear hHeld hK K
        have hHeld := hHeld2
        clear hHeld2
        try simp only [Act.put, List.getElem_toArray, List.getElem_cons_zero, List.getElem_cons_succ, List.setIfInBounds_toArray, List.set_cons_zero, List.set_cons_succ]
        refine wpAnyH_ready (rs := [9]) (by kernel_rfl) (by simp) ?_
        refine AllReadyH.cons rfl (fun K hK => ?_) AllReadyH.nil
        go_simp
        go_at_call 75
        refine (repeat_any _ 4 x C hm3 hm4 _ HRN.out).mono ?_
        rintro e w3 ⟨g, rfl, hg3, hr3, hb3⟩
        have HB3 := Lib.hid hb3
        have HG3 := Lib.hid hg3
        have HR3 := Lib.hid hr3
        have c3 := HC3.out w3 hb3
        have c4 := HC4.out w3 (.slice (some ⟨g, 0, none⟩) C C) hb3
        clear hb3 hg3 hr3
        go_wp2_with fail
        refine hK.out _ _ (hHeld.below HB3.out) (fun hHeld2 => ?_)
        clear hHeld hK K
        have hHeld := hHeld2
        clear hHeld2
        try simp only [Act.put, List.getElem_toArray, List.getElem_cons_zero, List.getElem_cons_succ, List.setIfInBounds_toArray, List.set_cons_zero, List.set_cons_succ]
        refine wpAnyH_ready (rs := [10]) (by kernel_rfl) (by simp) ?_
        refine AllReadyH.cons rfl (fun K hK => ?_) AllReadyH.nil
        go_simp
        refine hK.out _ _ (hHeld.below (below1 _ _)) (fun hHeld2 => ?_)
        clear hHeld hK K
        have hHeld := hHeld2
        clear hHeld2
        try simp only [Act.put, List.getElem_toArray, List.getElem_cons_zero, List.getElem_cons_succ, List.setIfInBounds_toArray, List.set_cons_zero, List.set_cons_succ]
        refine wpAnyH_ready (rs := [11]) (by kernel_rfl) (by simp) ?_
        refine AllReadyH.cons rfl (fun K hK => ?_) AllReadyH.nil
        rw [if_pos (by rfl)]
        refine wp_append_own _ (.tmp 23) (.tmp 29) 52 rfl w.heap.size 54 i0 (.slice none 0 0) 1 24 Tryz.underlying52 hi hz0 hz1 hz2 rfl (by decide) _ _ _ rfl (HOWN.out _ _ HB3.out) ⟨w3.heap.size, 0, none⟩ 1 1 [.slice (some ⟨g, 0, none⟩) C C] rfl rfl (cell_one_new _ _ _) (by intro u hu; obtain rfl := List.mem_singleton.1 hu; rfl) (by unfold maxLen; omega) (by omega) (HSZ.out _ _ HB3.out) ?_
        intro v' w5 hown' hgrow _
        obtain ⟨g', cap', rfl⟩ := own_succ hown'
        obtain ⟨hbx5, hbox5, hN⟩ := HI.out.step (m := 1) rfl HB3.out HG3.out HR3.out hgrow hown'
        have HN5 := Lib.hid hN
        have f5 : w5.frozen? ⟨w.heap.size + 1 + 1 + 1, 0, none⟩ = false := frozen_row hbox5 0
        have c5 : w5.cell? ⟨w.heap.size + 1 + 1 + 1, 0, none⟩ = some v := cell_row hbox5 0
        clear hN hown' hgrow
        refine hK.out _ _ (hbx5) (fun hHeld2 => ?_)
        clear hHeld hK K
        have hHeld := hHeld2
        clear hHeld2
        try simp only [Act.put, List.getElem_toArray, List.getElem_cons_zero, List.getElem_cons_succ, List.setIfInBounds_toArray, List.set_cons_zero, List.set_cons_succ]
        refine wpAnyH_take (i := 12) (v := ?_) rfl (by kernel_rfl) (by kernel_rfl) (by kernel_rfl) (fun _ _ _ h => h) (Or.inl ⟨by rfl, ?hy10⟩) hHeld ?_
        case hy10 => (intro w hSw; (try dsimp only at hSw); go_simp; try with_reducible rfl)
        try simp only [Act.put, List.getElem_toArray, List.getElem_cons_zero, List.getElem_cons_succ, List.setIfInBounds_toArray, List.set_cons_zero, List.set_cons_succ]
        refine wpAnyH_take (i := 13) (v := ?_) rfl (by kernel_rfl) (by kernel_rfl) (by kernel_rfl) (fun _ _ _ h => h) (Or.inl ⟨by rfl, ?hy11⟩) hHeld ?_
        case hy11 => (intro w hSw; (try dsimp only at hSw); go_simp; try with_reducible rfl)
        try simp only [Act.put, List.getElem_toArray, List.getElem_cons_zero, List.getElem_cons_succ, List.setIfInBounds_toArray, List.set_cons_zero, List.set_cons_succ]
        refine wpAnyH_ready (rs := [14]) (by kernel_rfl) (by simp) ?_
        refine AllReadyH.cons rfl (fun K hK => ?_) AllReadyH.nil
        go_simp
        refine hK.out _ _ (⟨HN5.out.b0, HN5.out.b1⟩) (fun hHeld2 => ?_)
        clear hHeld hK K
        have hHeld := hHeld2
        clear hHeld2
        try simp only [Act.put, List.getElem_toArray, List.getElem_cons_zero, List.getElem_cons_succ, List.setIfInBounds_toArray, List.set_cons_zero, List.set_cons_succ]
        refine wpAnyH_done (by kernel_rfl) ?_ _
        refine NoPanic.normal ?_
        go_wp2_with fail
        exact ⟨⟨k + 1, _, _, by omega, by go_num, HN5.out⟩, by simp [intOf]; omega⟩
      · go_simp
        go_at_call 75
        refine (repeat_any _ 4 x C hm3 hm4 _ HRN.out).mono ?_
        rintro e w3 ⟨g, rfl, hg3, hr3, hb3⟩
        have HB3 := Lib.hid hb3
        have HG3 := Lib.hid hg3
        have HR3 := Lib.hid hr3
        have c3 := HC3.out w3 hb3
        have c4 := HC4.out w3 (.slice (some ⟨g, 0, none⟩) C C) hb3
        clear hb3 hg3 hr3
        go_wp2_with fail
        refine hK.out _ _ (hHeld.below HB3.out) (fun hHeld2 => ?_)
        clear hHeld hK K
        have hHeld := hHeld2
        clear hHeld2
        try simp only [Act.put, List.getElem_toArray, List.getElem_cons_zero, List.getElem_cons_succ, List.setIfInBounds_toArray, List.set_cons_zero, List.set_cons_succ]
        refine wpAnyH_ready (rs := [4, 10]) (by kernel_rfl) (by simp) ?_
        refine (AllReadyH.cons rfl (fun K hK => ?_) (AllReadyH.cons rfl (fun K hK => ?_) AllReadyH.nil))
        · go_simp
          refine hK.out _ _ (hHeld) (fun hHeld2 => ?_)
          clear hHeld hK K
          have hHeld := hHeld2
          clear hHeld2
          try simp only [Act.put, List.getElem_toArray, List.getElem_cons_zero, List.getElem_cons_succ, List.setIfInBounds_toArray, List.set_cons_zero, List.set_cons_succ]
          refine wpAnyH_ready (rs := [10]) (by kernel_rfl) (by simp) ?_
          refine AllReadyH.cons rfl (fun K hK => ?_) AllReadyH.nil
          go_simp
          refine hK.out _ _ (hHeld.below (below1 _ _)) (fun hHeld2 => ?_)
          clear hHeld hK K
          have hHeld := hHeld2
          clear hHeld2
          try simp only [Act.put, List.getElem_toArray, List.getElem_cons_zero, List.getElem_cons_succ, List.setIfInBounds_toArray, List.set_cons_zero, List.set_cons_succ]
          refine wpAnyH_ready (rs := [11]) (by kernel_rfl) (by simp) ?_
          refine AllReadyH.cons rfl (fun K hK => ?_) AllReadyH.nil
          rw [if_pos (by rfl)]
          refine wp_append_own _ (.tmp 23) (.tmp 29) 52 rfl w.heap.size 54 i0 (.slice none 0 0) 1 24 Tryz.underlying52 hi hz0 hz1 hz2 rfl (by decide) _ _ _ rfl (HOWN.out _ _ HB3.out) ⟨w3.heap.size, 0, none⟩ 1 1 [.slice (some ⟨g, 0, none⟩) C C] rfl rfl (cell_one_new _ _ _) (by intro u hu; obtain rfl := List.mem_singleton.1 hu; rfl) (by unfold maxLen; omega) (by omega) (HSZ.out _ _ HB3.out) ?_
          intro v' w5 hown' hgrow _
          obtain ⟨g', cap', rfl⟩ := own_succ hown'
          obtain ⟨hbx5, hbox5, hN⟩ := HI.out.step (m := 1) rfl HB3.out HG3.out HR3.out hgrow hown'
          have HN5 := Lib.hid hN
          have f5 : w5.frozen? ⟨w.heap.size + 1 + 1 + 1, 0, none⟩ = false := frozen_row hbox5 0
          have c5 : w5.cell? ⟨w.heap.size + 1 + 1 + 1, 0, none⟩ = some v := cell_row hbox5 0
          clear hN hown' hgrow
          refine hK.out _ _ (hbx5) (fun hHeld2 => ?_)
          clear hHeld hK K
          have hHeld := hHeld2
          clear hHeld2
          try simp only [Act.put, List.getElem_toArray, List.getElem_cons_zero, List.getElem_cons_succ, List.setIfInBounds_toArray, List.set_cons_zero, List.set_cons_succ]
          refine wpAnyH_take (i := 12) (v := ?_) rfl (by kernel_rfl) (by kernel_rfl) (by kernel_rfl) (fun _ _ _ h => h) (Or.inl ⟨by rfl, ?hy12⟩) hHeld ?_
          case hy12 => (intro w hSw; (try dsimp only at hSw); go_simp; try with_reducible rfl)
          try simp only [Act.put, List.getElem_toArray, List.getElem_cons_zero, List.getElem_cons_succ, List.setIfInBounds_toArray, List.set_cons_zero, List.set_cons_succ]
          refine wpAnyH_take (i := 13) (v := ?_) rfl (by kernel_rfl) (by kernel_rfl) (by kernel_rfl) (fun _ _ _ h => h) (Or.inl ⟨by rfl, ?hy13⟩) hHeld ?_
          case hy13 => (intro w hSw; (try dsimp only at hSw); go_simp; try with_reducible rfl)
          try simp only [Act.put, List.getElem_toArray, List.getElem_cons_zero, List.getElem_cons_succ, List.setIfInBounds_toArray, List.set_cons_zero, List.set_cons_succ]
          refine wpAnyH_ready (rs := [14]) (by kernel_rfl) (by simp) ?_
          refine AllReadyH.cons rfl (fun K hK => ?_) AllReadyH.nil
          go_simp
          refine hK.out _ _ (⟨HN5.out.b0, HN5.out.b1⟩) (fun hHeld2 => ?_)
          clear hHeld hK K
          have hHeld := hHeld2
          clear hHeld2
          try simp only [Act.put, List.getElem_toArray, List.getElem_cons_zero, List.getElem_cons_succ, List.setIfInBounds_toArray, List.set_cons_zero, List.set_cons_succ]
          refine wpAnyH_done (by kernel_rfl) ?_ _
          refine NoPanic.normal ?_
          go_wp2_with fail
          exact ⟨⟨k + 1, _, _, by omega, by go_num, HN5.out⟩, by simp [intOf]; omega⟩
        · go_simp
          refine hK.out _ _ (hHeld.below (below1 _ _)) (fun hHeld2 => ?_)
          clear hHeld hK K
          have hHeld := hHeld2
          clear hHeld2
          try simp only [Act.put, List.getElem_toArray, List.getElem_cons_zero, List.getElem_cons_succ, List.setIfInBounds_toArray, List.set_cons_zero, List.set_cons_succ]
          refine wpAnyH_ready (rs := [4]) (by kernel_rfl) (by simp) ?_
          refine AllReadyH.cons rfl (fun K hK => ?_) AllReadyH.nil
          go_simp
          refine hK.out _ _ (hHeld) (fun hHeld2 => ?_)
          clear hHeld hK K
          have hHeld := hHeld2
          clear hHeld2
          try simp only [Act.put, List.getElem_toArray, List.getElem_cons_zero, List.getElem_cons_succ, List.setIfInBounds_toArray, List.set_cons_zero, List.set_cons_succ]
          refine wpAnyH_ready (rs := [11]) (by kernel_rfl) (by simp) ?_
          refine AllReadyH.cons rfl (fun K hK => ?_) AllReadyH.nil
          rw [if_pos (by rfl)]
          refine wp_append_own _ (.tmp 23) (.tmp 29) 52 rfl w.heap.size 54 i0 (.slice none 0 0) 1 24 Tryz.underlying52 hi hz0 hz1 hz2 rfl (by decide) _ _ _ rfl (HOWN.out _ _ HB3.out) ⟨w3.heap.size, 0, none⟩ 1 1 [.slice (some ⟨g, 0, none⟩) C C] rfl rfl (cell_one_new _ _ _) (by intro u hu; obtain rfl := List.mem_singleton.1 hu; rfl) (by unfold maxLen; omega) (by omega) (HSZ.out _ _ HB3.out) ?_
          intro v' w5 hown' hgrow _
          obtain ⟨g', cap', rfl⟩ := own_succ hown'
          obtain ⟨hbx5, hbox5, hN⟩ := HI.out.step (m := 1) rfl HB3.out HG3.out HR3.out hgrow hown'
          have HN5 := Lib.hid hN
          have f5 : w5.frozen? ⟨w.heap.size + 1 + 1 + 1, 0, none⟩ = false := frozen_row hbox5 0
          have c5 : w5.cell? ⟨w.heap.size + 1 + 1 + 1, 0, none⟩ = some v := cell_row hbox5 0
          clear hN hown' hgrow
          refine hK.out _ _ (hbx5) (fun hHeld2 => ?_)
          clear hHeld hK K
          have hHeld := hHeld2
          clear hHeld2
          try simp only [Act.put, List.getElem_toArray, List.getElem_cons_zero, List.getElem_cons_succ, List.setIfInBounds_toArray, List.set_cons_zero, List.set_cons_succ]
          refine wpAnyH_take (i := 12) (v := ?_) rfl (by kernel_rfl) (by kernel_rfl) (by kernel_rfl) (fun _ _ _ h => h) (Or.inl ⟨by rfl, ?hy14⟩) hHeld ?_
          case hy14 => (intro w hSw; (try dsimp only at hSw); go_simp; try with_reducible rfl)
          try simp only [Act.put, List.getElem_toArray, List.getElem_cons_zero, List.getElem_cons_succ, List.setIfInBounds_toArray, List.set_cons_zero, List.set_cons_succ]
          refine wpAnyH_take (i := 13) (v := ?_) rfl (by kernel_rfl) (by kernel_rfl) (by kernel_rfl) (fun _ _ _ h => h) (Or.inl ⟨by rfl, ?hy15⟩) hHeld ?_
          case hy15 => (intro w hSw; (try dsimp only at hSw); go_simp; try with_reducible rfl)
          try simp only [Act.put, List.getElem_toArray, List.getElem_cons_zero, List.getElem_cons_succ, List.setIfInBounds_toArray, List.set_cons_zero, List.set_cons_succ]
          refine wpAnyH_ready (rs := [14]) (by kernel_rfl) (by simp) ?_
          refine AllReadyH.cons rfl (fun K hK => ?_) AllReadyH.nil
          go_simp
          refine hK.out _ _ (⟨HN5.out.b0, HN5.out.b1⟩) (fun hHeld2 => ?_)
          clear hHeld hK K
          have hHeld := hHeld2
          clear hHeld2
          try simp only [Act.put, List.getElem_toArray, List.getElem_cons_zero, List.getElem_cons_succ, List.setIfInBounds_toArray, List.set_cons_zero, List.set_cons_succ]
          refine wpAnyH_done (by kernel_rfl) ?_ _
          refine NoPanic.normal ?_
          go_wp2_with fail
          exact ⟨⟨k + 1, _, _, by omega, by go_num, HN5.out⟩, by simp [intOf]; omega⟩
  · obtain rfl : k = R := by omega
    clear hI
    have HDN := Lib.hid (HI.out.done (x := x) ⟨hm1, hm2, hm3, hm4⟩)
    have HLE := Lib.hid HI.out.le
    go_wp2_with fail
    go_ret2
    obtain ⟨F, hF, hge⟩ := HDN.out
    exact ⟨_, F, rfl, hF, hge, HLE.out⟩
end
section
theorem frozen_alloc_some (w : World) (a : Addr) (o : Obj) (h : (w.cell? a).isSome = true) : (w.alloc o).frozen? a = w.frozen? a := by
 obtain ⟨u, hu⟩ := Option.isSome_iff_exists.1 h
 exact World.frozen?_alloc_old w o a (Nat.ne_of_lt (World.block_lt_of_cell? w a hu))
attribute [local go_sem] alloc_drewN setCell_drewN World.cell?_alloc_some frozen_alloc_some
theorem gsize_ok (gp : Nat) (F : Nat → Prop) (D : Vz.Gd) (w : World) (h : Grid w gp F D) : Calls Tryz.prog 60 #[.pointer (some ⟨gp, 0, none⟩)] w fun e w' => e = .returned (.agg #[.int .i64 D.R, .int .i64 D.C]) ∧ Below w.heap.size w w' := by
 obtain ⟨B, cap, G, K, h, hF⟩ := h
 obtain ⟨m1, m2, m3, m4⟩ := h.may
 have c0 : w.cell? ⟨gp, 0, none⟩ = some (.slice (some ⟨B, 0, none⟩) D.R cap) := cell_row h.box 0
 have c1 : w.cell? ⟨B, 0, none⟩ = some (.slice (some ⟨G 0, 0, none⟩) D.C (K 0)) := h.outer.cell (i := 0) m1
 have H := Lib.hid h
 clear h
 go_enter Tryz.func60, Tryz.ntmps60
 have hi0 : (0 : Int) < (D.R : Int) := by omega
 have hi1 : 0 < D.R := m1
 go_upto_region 3 with fail
 refine region_tail 13 (by kernel_rfl) (by kernel_rfl) ?_
 simp only [List.take_succ_cons, List.take_zero, List.drop_succ_cons, List.drop_zero]
 repeat still_step
 try refine wpStill_nil ?_
 go_wp2_with fail
 refine bodyPost_ret (v := .agg #[.int .i64 D.R, .int .i64 D.C]) (by simp [results, Tryz.results60, go_sem]) rfl ⟨rfl, Grows.below ?_⟩
 repeat (first | exact Grows.refl _ | refine Grows.drewN ?_ _ | refine Grows.alloc ?_ _)
theorem there_yes (gp b : Nat) (F : Nat → Prop) (D : Vz.Gd) (n : Nat) (P : Nat → Vz.Ps) (w : World) (h : Grid w gp F D) (hn : n ≤ 2) (hP : ∀ j, j < n → (P j).inS D.R D.C) (hl : ∀ j, j < n → w.cell? ⟨b, j * 2, none⟩ = some (.int .i64 (P j).row) ∧ w.cell? ⟨b, j * 2 + 1, none⟩ = some (.int .i64 (P j).col)) :
 Calls Tryz.prog 63 #[.pointer (some ⟨gp, 0, none⟩), .slice (some ⟨b, 0, none⟩) n n] w fun e w' => e = .returned (.int .i64 0) ∧ Below w.heap.size w w' := by
 obtain ⟨m1, m2, m3, m4⟩ := h.may
 have H := Lib.hid h
 have HP := Lib.hid hP
 have HLL := Lib.hid hl
 clear h hP hl
 go_enter Tryz.func63, Tryz.ntmps63
 go_wp2_with (go_at_call 60; refine (gsize_ok _ _ _ _ (H.out.below (Grows.below (by repeat (first | exact Grows.refl _ | refine Grows.drewN ?_ _ | refine Grows.alloc ?_ _))))).mono ?_; rintro e w1 ⟨rfl, hb1⟩)
 have HS0 : Hid (Below w.heap.size w w1) := hb1
 have HHD : Hid (∀ W, Below w.heap.size w W → ∀ j, j < n → W.cell? ⟨b, j * 2, none⟩ = some (.int .i64 (P j).row) ∧ W.cell? ⟨b, j * 2 + 1, none⟩ = some (.int .i64 (P j).col)) := fun W hb j hj => by
  obtain ⟨h1, h2⟩ := HLL.out j hj
  have hlt : b < w.heap.size := World.block_lt_of_cell? w _ h1
  exact ⟨(hb.cell (p := ⟨b, j * 2, none⟩) hlt).trans h1, (hb.cell (p := ⟨b, j * 2 + 1, none⟩) hlt).trans h2⟩
 have hsz := hb1.size
 clear hb1
 go_loopw [14] (fun i wr => ∃ k : Nat, k ≤ n ∧ i = .int .i64 k ∧ wr.heap[w1.heap.size]? = some (.cells #[.int .i64 D.R, .int .i64 D.C] 23 (0, 0)) ∧ Below w1.heap.size w1 wr) (fun i _ => n - (intOf i).toNat)
 case atStart => exact ⟨0, Nat.zero_le _, rfl, heap_alloc_new _ _, below1 _ _⟩
 case round =>
  obtain ⟨k, hk, rfl, hbx, hB⟩ := hrel
  have s0 : wr.cell? ⟨w1.heap.size, 0, none⟩ = some (.int .i64 D.R) := cell_row hbx 0
  have s1 : wr.cell? ⟨w1.heap.size, 1, none⟩ = some (.int .i64 D.C) := cell_row hbx 1
  have HBX := Lib.hid hbx
  have HB := Lib.hid hB
  clear hbx hB
  by_cases hlt : k < n
  · obtain ⟨p0, p1⟩ := HHD.out wr (Below.later HS0.out HB.out hsz) k hlt
    obtain ⟨q0, q1, q2, q3⟩ := HP.out k hlt
    generalize (P k).row = pr at *
    generalize (P k).col = pc at *
    go_wp2_with fail
    exact ⟨⟨k + 1, by omega, by go_num, (Below.heap_alloc _ _ _ (block_lt HBX.out)).trans HBX.out, HB.out.alloc HB.out.size _⟩, by simp [intOf]; omega⟩
  · obtain rfl : k = n := by omega
    go_wp2_with fail
    go_ret
    exact ⟨rfl, Below.later HS0.out HB.out hsz⟩
theorem not_in {p : Vz.Ps} {r c : Int} (h : ¬ p.inS r c) : p.row < 0 ∨ (0 ≤ p.row ∧ r ≤ p.row) ∨ (0 ≤ p.row ∧ p.row < r ∧ p.col < 0) ∨ (0 ≤ p.row ∧ p.row < r ∧ 0 ≤ p.col ∧ c ≤ p.col) := by
 unfold Vz.Ps.inS at h
 omega
theorem there_no (gp b : Nat) (F : Nat → Prop) (D : Vz.Gd) (p : Vz.Ps) (w : World) (h : Grid w gp F D) (hP : ¬ p.inS D.R D.C) (hl : w.cell? ⟨b, 0, none⟩ = some (.int .i64 p.row) ∧ w.cell? ⟨b, 1, none⟩ = some (.int .i64 p.col)) :
 Calls Tryz.prog 63 #[.pointer (some ⟨gp, 0, none⟩), .slice (some ⟨b, 0, none⟩) 1 1] w fun e w' => e = .returned (.int .i64 11) ∧ Below w.heap.size w w' := by
 obtain ⟨m1, m2, m3, m4⟩ := h.may
 have H := Lib.hid h
 have HLL := Lib.hid hl
 have hno := not_in hP
 clear h hl hP
 generalize p.row = pr at *
 generalize p.col = pc at *
 go_enter Tryz.func63, Tryz.ntmps63
 go_wp2_with (go_at_call 60; refine (gsize_ok _ _ _ _ (H.out.below (Grows.below (by repeat (first | exact Grows.refl _ | refine Grows.drewN ?_ _ | refine Grows.alloc ?_ _))))).mono ?_; rintro e w1 ⟨rfl, hb1⟩)
 have HS0 : Hid (Below w.heap.size w w1) := hb1
 have HHD : Hid (∀ W, Below w.heap.size w W → W.cell? ⟨b, 0, none⟩ = some (.int .i64 pr) ∧ W.cell? ⟨b, 1, none⟩ = some (.int .i64 pc)) := fun W hb => by
  obtain ⟨h1, h2⟩ := HLL.out
  have hlt : b < w.heap.size := World.block_lt_of_cell? w _ h1
  exact ⟨(hb.cell (p := ⟨b, 0, none⟩) hlt).trans h1, (hb.cell (p := ⟨b, 1, none⟩) hlt).trans h2⟩
 have hsz := hb1.size
 clear hb1
 go_loopw [14] (fun i wr => i = .int .i64 0 ∧ wr.heap[w1.heap.size]? = some (.cells #[.int .i64 D.R, .int .i64 D.C] 23 (0, 0)) ∧ Below w1.heap.size w1 wr) (fun i _ => 0)
 case atStart => exact ⟨rfl, heap_alloc_new _ _, below1 _ _⟩
 case round =>
  obtain ⟨rfl, hbx, hB⟩ := hrel
  have s0 : wr.cell? ⟨w1.heap.size, 0, none⟩ = some (.int .i64 D.R) := cell_row hbx 0
  have s1 : wr.cell? ⟨w1.heap.size, 1, none⟩ = some (.int .i64 D.C) := cell_row hbx 1
  have HB := Lib.hid hB
  clear hbx hB
  obtain ⟨p0, p1⟩ := HHD.out wr (Below.later HS0.out HB.out hsz)
  rcases hno with e0 | ⟨e0, e1⟩ | ⟨e0, e1, e2⟩ | ⟨e0, e1, e2, e3⟩
  all_goals (
   go_wp2_with fail
   go_ret
   exact ⟨rfl, Below.later HS0.out (HB.out.alloc HB.out.size _) hsz⟩)
end
section
theorem box1 {w w1 : World} {a : Obj} (hb : Below (w.alloc a).heap.size (w.alloc a) w1) : w1.heap[w.heap.size]? = some a ∧ Below w.heap.size w w1 :=
 ⟨(hb.block _ (by simp)).trans (heap_alloc_new w a), Below.later (below1 w a) hb (by simp)⟩
theorem box2 {w w1 : World} {a b : Obj} (hb : Below ((w.alloc a).alloc b).heap.size ((w.alloc a).alloc b) w1) : w1.heap[w.heap.size]? = some a ∧ w1.heap[w.heap.size + 1]? = some b ∧ Below w.heap.size w w1 := by
 obtain ⟨h1, h2⟩ := box1 hb
 obtain ⟨h3, h4⟩ := box1 h2
 rw [World.size_alloc] at h1
 exact ⟨h3, h1, h4⟩
theorem box3 {w w1 : World} {a b c : Obj} (hb : Below (((w.alloc a).alloc b).alloc c).heap.size (((w.alloc a).alloc b).alloc c) w1) : w1.heap[w.heap.size]? = some a ∧ w1.heap[w.heap.size + 1]? = some b ∧ w1.heap[w.heap.size + 1 + 1]? = some c ∧ Below w.heap.size w w1 := by
 obtain ⟨h1, h2⟩ := box1 hb
 obtain ⟨h3, h4, h5⟩ := box2 h2
 simp only [World.size_alloc] at h1
 exact ⟨h3, h4, h1, h5⟩
theorem box4 {w w1 : World} {a b c d : Obj} (hb : Below ((((w.alloc a).alloc b).alloc c).alloc d).heap.size ((((w.alloc a).alloc b).alloc c).alloc d) w1) : w1.heap[w.heap.size]? = some a ∧ w1.heap[w.heap.size + 1]? = some b ∧ w1.heap[w.heap.size + 1 + 1]? = some c ∧ w1.heap[w.heap.size + 1 + 1 + 1]? = some d ∧ Below w.heap.size w w1 := by
 obtain ⟨h1, h2⟩ := box1 hb
 obtain ⟨h3, h4, h6, h5⟩ := box3 h2
 simp only [World.size_alloc] at h1
 exact ⟨h3, h4, h6, h1, h5⟩
theorem row2 {W : World} {g : Nat} {a b : Value} {t : TypeId} (h : W.heap[g]? = some (.cells #[a, b] t (0, 0))) : W.cell? ⟨g, 0, none⟩ = some a ∧ W.cell? ⟨g, 1, none⟩ = some b ∧ W.frozen? ⟨g, 0, none⟩ = false ∧ W.frozen? ⟨g, 1, none⟩ = false :=
 ⟨cell_row h 0, cell_row h 1, frozen_row h 0, frozen_row h 1⟩
theorem row3 {W : World} {g : Nat} {a b c : Value} {t : TypeId} (h : W.heap[g]? = some (.cells #[a, b, c] t (0, 0))) : W.cell? ⟨g, 0, none⟩ = some a ∧ W.cell? ⟨g, 1, none⟩ = some b ∧ W.cell? ⟨g, 2, none⟩ = some c ∧ W.frozen? ⟨g, 0, none⟩ = false ∧ W.frozen? ⟨g, 1, none⟩ = false ∧ W.frozen? ⟨g, 2, none⟩ = false :=
 ⟨cell_row h 0, cell_row h 1, cell_row h 2, frozen_row h 0, frozen_row h 1, frozen_row h 2⟩
theorem row4 {W : World} {g : Nat} {a b c d : Value} {t : TypeId} (h : W.heap[g]? = some (.cells #[a, b, c, d] t (0, 0))) : W.cell? ⟨g, 0, none⟩ = some a ∧ W.cell? ⟨g, 1, none⟩ = some b ∧ W.cell? ⟨g, 2, none⟩ = some c ∧ W.cell? ⟨g, 3, none⟩ = some d ∧ W.frozen? ⟨g, 0, none⟩ = false ∧ W.frozen? ⟨g, 1, none⟩ = false ∧ W.frozen? ⟨g, 2, none⟩ = false ∧ W.frozen? ⟨g, 3, none⟩ = false :=
 ⟨cell_row h 0, cell_row h 1, cell_row h 2, cell_row h 3, frozen_row h 0, frozen_row h 1, frozen_row h 2, frozen_row h 3⟩
theorem row5 {W : World} {g : Nat} {a b c d e : Value} {t : TypeId} (h : W.heap[g]? = some (.cells #[a, b, c, d, e] t (0, 0))) : W.cell? ⟨g, 0, none⟩ = some a ∧ W.cell? ⟨g, 1, none⟩ = some b ∧ W.cell? ⟨g, 2, none⟩ = some c ∧ W.cell? ⟨g, 3, none⟩ = some d ∧ W.cell? ⟨g, 4, none⟩ = some e ∧ W.frozen? ⟨g, 0, none⟩ = false ∧ W.frozen? ⟨g, 1, none⟩ = false ∧ W.frozen? ⟨g, 2, none⟩ = false ∧ W.frozen? ⟨g, 3, none⟩ = false ∧ W.frozen? ⟨g, 4, none⟩ = false :=
 ⟨cell_row h 0, cell_row h 1, cell_row h 2, cell_row h 3, cell_row h 4, frozen_row h 0, frozen_row h 1, frozen_row h 2, frozen_row h 3, frozen_row h 4⟩
theorem set_four {W : World} {g : Nat} {a b c d : Value} {t : TypeId} (h : W.heap[g]? = some (.cells #[a, b, c, d] t (0, 0))) (u0 u1 u2 u3 : Value) :
 ((((W.setCell ⟨g, 0, none⟩ u0).setCell ⟨g, 1, none⟩ u1).setCell ⟨g, 2, none⟩ u2).setCell ⟨g, 3, none⟩ u3).heap[g]? = some (.cells #[u0, u1, u2, u3] t (0, 0)) := by
 have h0 := heap_set_same h 0 u0
 have h1 := heap_set_same h0 1 u1
 have h2 := heap_set_same h1 2 u2
 have h3 := heap_set_same h2 3 u3
 exact h3
theorem Below.set4 {B : Nat} {w W : World} (h : Below B w W) {g : Nat} (hg : B ≤ g) (u0 u1 u2 u3 : Value) : Below B w ((((W.setCell ⟨g, 0, none⟩ u0).setCell ⟨g, 1, none⟩ u1).setCell ⟨g, 2, none⟩ u2).setCell ⟨g, 3, none⟩ u3) :=
 (((h.setCell (p := ⟨g, 0, none⟩) hg u0).setCell (p := ⟨g, 1, none⟩) hg u1).setCell (p := ⟨g, 2, none⟩) hg u2).setCell (p := ⟨g, 3, none⟩) hg u3
theorem Below.draws {B : Nat} {w W : World} (h : Below B w W) (q : Nat) : Below B w (W.drewN q) := ⟨h.os, h.tape, h.output, h.size, h.block⟩
theorem new1 (w : World) (u v : Value) (t : TypeId) : (w.alloc (.cells #[u, v] t)).cell? ⟨w.heap.size, 0, none⟩ = some u ∧ (w.alloc (.cells #[u, v] t)).cell? ⟨w.heap.size, 1, none⟩ = some v :=
 ⟨cell_row (heap_alloc_new w _) 0, cell_row (heap_alloc_new w _) 1⟩
theorem new3 (w : World) (a b : Obj) (u v : Value) (t : TypeId) : (((w.alloc a).alloc b).alloc (.cells #[u, v] t)).cell? ⟨w.heap.size + 1 + 1, 0, none⟩ = some u ∧ (((w.alloc a).alloc b).alloc (.cells #[u, v] t)).cell? ⟨w.heap.size + 1 + 1, 1, none⟩ = some v := by
 have := new1 ((w.alloc a).alloc b) u v t
 simpa only [World.size_alloc] using this
theorem GridAt.cells {W : World} {gp B cap : Nat} {G K : Nat → Nat} {D : Vz.Gd} (h : GridAt W gp B cap G K D) {i j : Nat} (hi : i < D.R) (hj : j < D.C) :
 W.cell? ⟨G i, j * 4, none⟩ = some (.int .i32 (D.X i j).g) ∧ W.cell? ⟨G i, j * 4 + 1, none⟩ = some (.int .i64 (D.X i j).a) ∧ W.cell? ⟨G i, j * 4 + 2, none⟩ = some (.bool (D.X i j).gd) ∧ W.cell? ⟨G i, j * 4 + 3, none⟩ = some (.int .i64 (D.X i j).m) := by
 have hr := h.row i hi
 have e : j * 4 = 4 * j := Nat.mul_comm _ _
 rw [e]
 exact ⟨(hr.cell (by omega)).trans (by rw [Vz.flatC_0]), (hr.cell (by omega)).trans (by rw [Vz.flatC_1]), (hr.cell (by omega)).trans (by rw [Vz.flatC_2]), (hr.cell (by omega)).trans (by rw [Vz.flatC_3])⟩
theorem GridAt.head {W : World} {gp B cap : Nat} {G K : Nat → Nat} {D : Vz.Gd} (h : GridAt W gp B cap G K D) : W.cell? ⟨gp, 0, none⟩ = some (.slice (some ⟨B, 0, none⟩) D.R cap) := cell_row h.box 0
theorem GridAt.line {W : World} {gp B cap : Nat} {G K : Nat → Nat} {D : Vz.Gd} (h : GridAt W gp B cap G K D) {i : Nat} (hi : i < D.R) : W.cell? ⟨B, i, none⟩ = some (.slice (some ⟨G i, 0, none⟩) D.C (K i)) := h.outer.cell hi
theorem Ps.nats {p : Vz.Ps} {r c : Nat} (h : p.inS r c) : ∃ i j : Nat, p = ⟨i, j⟩ ∧ i < r ∧ j < c := by
 obtain ⟨h1, h2, h3, h4⟩ := h
 obtain ⟨a, b⟩ := p
 simp only at *
 exact ⟨a.toNat, b.toNat, by rw [Int.toNat_of_nonneg h1, Int.toNat_of_nonneg h3], by omega, by omega⟩
def set4 (W : World) (g o : Nat) (x : Vz.Cl) : World := (((W.setCell ⟨g, o, none⟩ (.int .i32 x.g)).setCell ⟨g, o + 1, none⟩ (.int .i64 x.a)).setCell ⟨g, o + 2, none⟩ (.bool x.gd)).setCell ⟨g, o + 3, none⟩ (.int .i64 x.m)
theorem set4_size (W : World) (g o : Nat) (x : Vz.Cl) : (set4 W g o x).heap.size = W.heap.size := by
 unfold set4
 rw [World.size_setCell, World.size_setCell, World.size_setCell, World.size_setCell]
theorem set4_other (W : World) (g o : Nat) (x : Vz.Cl) {b : Nat} (h : b ≠ g) : (set4 W g o x).heap[b]? = W.heap[b]? :=
 (Below.heap_setCell _ _ _ _ h).trans ((Below.heap_setCell _ _ _ _ h).trans ((Below.heap_setCell _ _ _ _ h).trans (Below.heap_setCell _ _ _ _ h)))
theorem RowC.set4 {W : World} {g : Nat} {cap C : Nat} {f : Nat → Vz.Cl} (h : RowC W g 56 cap (C * 4) (Vz.flatC f)) (j : Nat) (x : Vz.Cl) : RowC (set4 W g (j * 4) x) g 56 cap (C * 4) (Vz.flatC fun k => if k = j then x else f k) := by
 refine ((((h.set (j * 4) _).set (j * 4 + 1) _).set (j * 4 + 2) _).set (j * 4 + 3) _).congr fun q hq => ?_
 by_cases hj : q / 4 = j
 · have hr : q % 4 = 0 ∨ q % 4 = 1 ∨ q % 4 = 2 ∨ q % 4 = 3 := by omega
   unfold Vz.flatC
   simp only [hj, if_true]
   rcases hr with hr | hr | hr | hr
   · obtain rfl : q = j * 4 := by omega
     simp [hr, Vz.cellK]
   · obtain rfl : q = j * 4 + 1 := by omega
     simp [hr, Vz.cellK]
   · obtain rfl : q = j * 4 + 2 := by omega
     simp [hr, Vz.cellK]
   · obtain rfl : q = j * 4 + 3 := by omega
     simp [hr, Vz.cellK]
 · rw [if_neg (by omega), if_neg (by omega), if_neg (by omega), if_neg (by omega)]
   unfold Vz.flatC
   simp only [if_neg hj]
theorem Keeps.set4 {F : Nat → Prop} {W : World} {g : Nat} (hg : F g) (o : Nat) (x : Vz.Cl) : Keeps F W (set4 W g o x) :=
 ⟨rfl, rfl, rfl, Nat.le_of_eq (set4_size W g o x).symm, fun k hk hn => set4_other W g o x (fun e => hn (e ▸ hg))⟩
theorem Grid.setAt {W : World} {gp : Nat} {F : Nat → Prop} {D : Vz.Gd} (h : Grid W gp F D) {i j : Nat} (hi : i < D.R) (hj : j < D.C) (x : Vz.Cl) :
 ∃ B cap g K, W.cell? ⟨gp, 0, none⟩ = some (.slice (some ⟨B, 0, none⟩) D.R cap) ∧ W.cell? ⟨B, i, none⟩ = some (.slice (some ⟨g, 0, none⟩) D.C K) ∧ g < W.heap.size ∧ (∀ k, W.frozen? ⟨g, k, none⟩ = false) ∧
   (∃ c0 c1 c2 c3, W.cell? ⟨g, j * 4, none⟩ = some c0 ∧ W.cell? ⟨g, j * 4 + 1, none⟩ = some c1 ∧ W.cell? ⟨g, j * 4 + 2, none⟩ = some c2 ∧ W.cell? ⟨g, j * 4 + 3, none⟩ = some c3) ∧
   Keeps F W (set4 W g (j * 4) x) ∧ Grid (set4 W g (j * 4) x) gp F (D.set i j x) := by
 obtain ⟨B, cap, G, K, hg, hF⟩ := h
 have hr := hg.row i hi
 obtain ⟨h1, h2, h3, h4⟩ := hg.cells hi hj
 refine ⟨B, cap, G i, K i, hg.head, hg.line hi, hr.lt, hr.frozen, ⟨_, _, _, _, h1, h2, h3, h4⟩, Keeps.set4 ((hF _).2 (.inr (.inr ⟨i, hi, rfl⟩))) _ _, B, cap, G, K, ?_, hF⟩
 have hne1 : gp ≠ G i := fun e => hr.ne_of hg.box (by decide) e.symm
 have hne2 : B ≠ G i := fun e => by
  obtain ⟨c, hc, _⟩ := hg.outer
  exact hr.ne_of hc (by decide) e.symm
 refine ⟨hg.may, (set4_other _ _ _ _ hne1).trans hg.box, hg.outer.of_block (set4_other _ _ _ _ hne2), fun k hk => ?_, hg.inj⟩
 by_cases e : k = i
 · subst e
   refine (hr.set4 j x).congr fun q hq => ?_
   unfold Vz.flatC Vz.Gd.set
   simp only [true_and]
 · refine ((hg.row k hk).of_block (set4_other _ _ _ _ (fun e' => e (hg.inj k i hk hi e')))).congr fun q hq => ?_
   unfold Vz.flatC Vz.Gd.set
   simp only [e, false_and, if_false]
end
section
attribute [local go_sem] alloc_drewN setCell_drewN World.cell?_alloc_some frozen_alloc_some
def atD (D : Vz.Gd) (p : Vz.Ps) : Vz.Cl := D.X p.row.toNat p.col.toNat
theorem gat_ok (gp : Nat) (F : Nat → Prop) (D : Vz.Gd) (p : Vz.Ps) (w : World) (h : Grid w gp F D) (hP : p.inS D.R D.C) :
 Calls Tryz.prog 39 #[.pointer (some ⟨gp, 0, none⟩), .agg #[.int .i64 p.row, .int .i64 p.col]] w fun e w' => e = .returned (.tuple #[.agg #[.int .i32 (atD D p).g, .int .i64 (atD D p).a, .bool (atD D p).gd, .int .i64 (atD D p).m], .int .i64 0]) ∧ Below w.heap.size w w' := by
 obtain ⟨i, j, rfl, hi, hj⟩ := Ps.nats hP
 have hX : Hid (atD D ⟨i, j⟩ = D.X i j) := rfl
 rw [hX.out]
 have HP := Lib.hid hP
 obtain ⟨m1, m2, m3, m4⟩ := h.may
 have hlt := block_lt h.choose_spec.choose_spec.choose_spec.choose_spec.1.box
 have HTH := Lib.hid (fun (W : World) (hb : Below w.heap.size w W) (b : Nat) (hl : W.cell? ⟨b, 0, none⟩ = some (.int .i64 (i : Int)) ∧ W.cell? ⟨b, 1, none⟩ = some (.int .i64 (j : Int))) =>
  there_yes gp b F D 1 (fun _ => ⟨i, j⟩) W (h.below hb) (by decide) (fun _ _ => hP) (fun k hk => by obtain rfl : k = 0 := (by omega); exact ⟨by simpa using hl.1, by simpa using hl.2⟩))
 have HAT : Hid (∀ W, Below w.heap.size w W → ∃ B cap G K, W.cell? ⟨gp, 0, none⟩ = some (.slice (some ⟨B, 0, none⟩) D.R cap) ∧ W.cell? ⟨B, i, none⟩ = some (.slice (some ⟨G, 0, none⟩) D.C K) ∧ W.cell? ⟨G, j * 4, none⟩ = some (.int .i32 (D.X i j).g) ∧ W.cell? ⟨G, j * 4 + 1, none⟩ = some (.int .i64 (D.X i j).a) ∧ W.cell? ⟨G, j * 4 + 2, none⟩ = some (.bool (D.X i j).gd) ∧ W.cell? ⟨G, j * 4 + 3, none⟩ = some (.int .i64 (D.X i j).m)) := fun W hb => by
  obtain ⟨B, cap, G, K, hg, _⟩ := h.below hb
  exact ⟨B, cap, G i, K i, hg.head, hg.line hi, hg.cells hi hj⟩
 clear h hP hX
 generalize D.X i j = x at *
 go_enter Tryz.func39, Tryz.ntmps39
 go_wp2_with (go_at_call 63; refine (HTH.out _ (Grows.below ((((Grows.refl _).alloc _).alloc _).alloc _)) _ (new3 _ _ _ _ _ _)).mono ?_; rintro e w1 ⟨rfl, hb1⟩; obtain ⟨x0, x1, x2, hb⟩ := box3 hb1; obtain ⟨B, cap, G, K, d0, d1, d2, d3, d4, d5⟩ := HAT.out _ hb; obtain ⟨e0, e1, _, _⟩ := row2 x0; obtain ⟨y0, y1, y2, y3, z0, z1, z2, z3⟩ := row4 x1; have HB1 := Lib.hid hb; have X1 := Lib.hid x1; clear hb1 hb x0 x1 x2)
 have hiR : (i : Int) < (D.R : Int) := by omega
 have hjC : (j : Int) < (D.C : Int) := by omega
 refine region_tail 12 (by kernel_rfl) (by kernel_rfl) ?_
 simp only [List.take_succ_cons, List.take_zero, List.drop_succ_cons, List.drop_zero]
 repeat still_step
 try refine wpStill_nil ?_
 go_wp2_with fail
 obtain ⟨q0, q1, q2, q3, _⟩ := row4 (set_four X1.out (.int .i32 x.g) (.int .i64 x.a) (.bool x.gd) (.int .i64 x.m))
 refine bodyPost_ret (v := .tuple #[.agg #[.int .i32 x.g, .int .i64 x.a, .bool x.gd, .int .i64 x.m], .int .i64 0]) (by simp [results, Tryz.results39, go_sem, q0, q1, q2, q3]) rfl ⟨rfl, ?_⟩
 exact Below.draws (Below.set4 HB1.out (Nat.le_succ _) _ _ _ _) _
theorem gat_no (gp : Nat) (F : Nat → Prop) (D : Vz.Gd) (p : Vz.Ps) (w : World) (h : Grid w gp F D) (hP : ¬ p.inS D.R D.C) :
 Calls Tryz.prog 39 #[.pointer (some ⟨gp, 0, none⟩), .agg #[.int .i64 p.row, .int .i64 p.col]] w fun e w' => e = .returned (.tuple #[.agg #[.int .i32 0, .int .i64 0, .bool false, .int .i64 0], .int .i64 11]) ∧ Below w.heap.size w w' := by
 have HTH := Lib.hid (fun (W : World) (hb : Below w.heap.size w W) (b : Nat) (hl : W.cell? ⟨b, 0, none⟩ = some (.int .i64 p.row) ∧ W.cell? ⟨b, 1, none⟩ = some (.int .i64 p.col)) =>
  there_no gp b F D p W (h.below hb) hP hl)
 clear h hP
 generalize p.row = pr at *
 generalize p.col = pc at *
 go_enter Tryz.func39, Tryz.ntmps39
 go_wp2_with (go_at_call 63; refine (HTH.out _ (Grows.below ((((Grows.refl _).alloc _).alloc _).alloc _)) _ (new3 _ _ _ _ _ _)).mono ?_; rintro e w1 ⟨rfl, hb1⟩; obtain ⟨x0, x1, x2, hb⟩ := box3 hb1; obtain ⟨e0, e1, _, _⟩ := row2 x0; obtain ⟨y0, y1, y2, y3, z0, z1, z2, z3⟩ := row4 x1; have HB1 := Lib.hid hb; have X1 := Lib.hid x1; clear hb1 hb x0 x1 x2)
 obtain ⟨q0, q1, q2, q3, _⟩ := row4 (set_four X1.out (.int .i32 0) (.int .i64 0) (.bool false) (.int .i64 0))
 refine bodyPost_ret (v := .tuple #[.agg #[.int .i32 0, .int .i64 0, .bool false, .int .i64 0], .int .i64 11]) (by simp [results, Tryz.results39, go_sem, q0, q1, q2, q3]) rfl ⟨rfl, ?_⟩
 exact Below.set4 HB1.out (Nat.le_succ _) _ _ _ _
theorem gset_ok (gp : Nat) (F : Nat → Prop) (D : Vz.Gd) (p : Vz.Ps) (x : Vz.Cl) (w : World) (h : Grid w gp F D) (hP : p.inS D.R D.C) :
 Calls Tryz.prog 126 #[.pointer (some ⟨gp, 0, none⟩), .agg #[.int .i64 p.row, .int .i64 p.col], .agg #[.int .i32 x.g, .int .i64 x.a, .bool x.gd, .int .i64 x.m]] w fun e w' => e = .returned (.int .i64 0) ∧ Grid w' gp F (D.set p.row.toNat p.col.toNat x) ∧ Keeps F w w' := by
 obtain ⟨i, j, rfl, hi, hj⟩ := Ps.nats hP
 have HP := Lib.hid hP
 obtain ⟨m1, m2, m3, m4⟩ := h.may
 have hlt := block_lt h.choose_spec.choose_spec.choose_spec.choose_spec.1.box
 have HTH := Lib.hid (fun (W : World) (hb : Below w.heap.size w W) (b : Nat) (hl : W.cell? ⟨b, 0, none⟩ = some (.int .i64 (i : Int)) ∧ W.cell? ⟨b, 1, none⟩ = some (.int .i64 (j : Int))) =>
  there_yes gp b F D 1 (fun _ => ⟨i, j⟩) W (h.below hb) (by decide) (fun _ _ => hP) (fun k hk => by obtain rfl : k = 0 := (by omega); exact ⟨by simpa using hl.1, by simpa using hl.2⟩))
 have HAT := Lib.hid (fun (W : World) (hb : Below w.heap.size w W) => (h.below hb).setAt hi hj x)
 clear h hP
 go_enter Tryz.func126, Tryz.ntmps126
 go_wp2_with (go_at_call 63; refine (HTH.out _ (Grows.below ((((Grows.refl _).alloc _).alloc _).alloc _)) _ (new3 _ _ _ _ _ _)).mono ?_; rintro e w1 ⟨rfl, hb1⟩; obtain ⟨x0, x1, x2, hb⟩ := box3 hb1; obtain ⟨B, cap, g, K, d0, d1, d6, d8, ⟨k0, k1, k2, k3, d2, d3, d4, d5⟩, HFK, HFG⟩ := HAT.out _ hb; have HFK := Lib.hid HFK; have HFG := Lib.hid HFG; obtain ⟨e0, e1, _, _⟩ := row2 x0; obtain ⟨y0, y1, y2, y3, z0, z1, z2, z3⟩ := row4 x1; have HB1 := Lib.hid hb; clear hb1 hb x0 x2)
 have hiR : (i : Int) < (D.R : Int) := by omega
 have hjC : (j : Int) < (D.C : Int) := by omega
 refine region_tail 12 (by kernel_rfl) (by kernel_rfl) ?_
 simp only [List.take_succ_cons, List.take_zero, List.drop_succ_cons, List.drop_zero]
 repeat still_step
 try refine wpStill_nil ?_
 go_wp2_with fail
 go_ret
 exact ⟨rfl, HFG.out.of_blocks (fun _ _ => rfl), ((Keeps.of_below HB1.out).trans HFK.out fun k hk => .inl hk).draws 1⟩
end
end Go.Proofs.YtncgigapgklhcaaGreatDoor
