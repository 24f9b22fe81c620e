import Derived.Test.YtliacdaddncmaaaGreatDoorSnPrB
import Derived.Test.YtliacdaddncmaaaGreatDoorSnNil
import Derived.Test.YtliacdaddncmaaaGreatDoorLF

/- Walks: two shots of one screen are the same, and look nowhere unlike. -/
namespace Go.Proofs.YtliacdaddncmaaaGreatDoor
open Go.RowKit
set_option linter.unusedSimpArgs false
set_option linter.unusedVariables false
attribute [local go_sem] alloc_drewN setCell_drewN World.cell?_alloc_some frozen_alloc_some size_f0 size_f1

theorem run_neqc_self (g a m : Int) (d : Bool) (w : World) : Sem.run Tryz.prog (binOp .neq 47 (.agg #[.int .i32 g, .int .i64 a, .bool d, .int .i64 m]) (.agg #[.int .i32 g, .int .i64 a, .bool d, .int .i64 m])) w = .ok (.bool false) w := by
  have h := run_neq_cell ⟨g, a, d, m⟩ ⟨g, a, d, m⟩ w
  rw [eqC_iff.2 rfl] at h
  exact h
theorem run_eqlp_self (a b : Int) (w : World) : Sem.run Tryz.prog (binOp .eql 25 (.agg #[.int .i64 a, .int .i64 b]) (.agg #[.int .i64 a, .int .i64 b])) w = .ok (.bool true) w := by
  have h := run_eql_ps ⟨a, b⟩ ⟨a, b⟩ w
  rw [eqP_iff.2 rfl] at h
  exact h
theorem run_eqlz (x y : Vz.Ps) (w : World) : Sem.run Tryz.prog (binOp .eql 23 (.agg #[.int .i64 x.row, .int .i64 x.col]) (.agg #[.int .i64 y.row, .int .i64 y.col])) w = .ok (.bool (eqP x y)) w := by
  rw [eqP_cells]
  have u1 := Tryz.underlying3
  have hS : Tryz.prog.underlying 23 = some (.struct (Tryz.prog.fieldsOf 23)) := by kernel_rfl
  have hp : Tryz.prog.stoodInHeld 23 = false := by kernel_rfl
  rw [run_eql_struct, show (10000 : Nat) = 9999 + 1 from rfl, run_equalIn_agg w 9999 23 _ _ hS hp]
  simp only [Program.fieldsOf, Tryz.underlying23]
  go_simp
  by_cases h1 : x.row = y.row <;> by_cases h2 : x.col = y.col <;> simp [h1, h2]
theorem run_neqz (x y : Vz.Ps) (w : World) : Sem.run Tryz.prog (binOp .neq 23 (.agg #[.int .i64 x.row, .int .i64 x.col]) (.agg #[.int .i64 y.row, .int .i64 y.col])) w = .ok (.bool (!eqP x y)) w := by
  have h := run_eqlz x y w
  rw [run_eql_struct] at h
  rw [run_neq_struct]
  revert h
  generalize Sem.run Tryz.prog (Op.equalIn 10000 23 (.agg #[.int .i64 x.row, .int .i64 x.col]) (.agg #[.int .i64 y.row, .int .i64 y.col])) w = r
  cases r with
  | ok b w1 =>
    intro h
    simp only [Result.andThen_ok, Result.ok.injEq, Value.bool.injEq] at h ⊢
    obtain ⟨h1, h2⟩ := h
    exact ⟨by rw [h1], h2⟩
  | halt e w1 => intro h; cases h
theorem run_eqlz_self (a b : Int) (w : World) : Sem.run Tryz.prog (binOp .eql 23 (.agg #[.int .i64 a, .int .i64 b]) (.agg #[.int .i64 a, .int .i64 b])) w = .ok (.bool true) w := by
  have h := run_eqlz ⟨a, b⟩ ⟨a, b⟩ w
  rw [eqP_iff.2 rfl] at h
  exact h
theorem run_neqz_self (a b : Int) (w : World) : Sem.run Tryz.prog (binOp .neq 23 (.agg #[.int .i64 a, .int .i64 b]) (.agg #[.int .i64 a, .int .i64 b])) w = .ok (.bool false) w := by
  have h := run_neqz ⟨a, b⟩ ⟨a, b⟩ w
  rw [eqP_iff.2 rfl] at h
  exact h
attribute [local go_sem 3000] run_neqc_self run_eqlp_self run_eqlz_self run_neqz_self
set_option maxRecDepth 100000 in
set_option maxHeartbeats 8000000 in
theorem equalI_yes (A1 A2 : Option Addr) (n c1 c2 : Nat) (f : Nat → Int) (hn : n ≤ 255) (w : World)
    (h1 : ∀ k, k < n → ∃ g, A1 = some ⟨g, 0, none⟩ ∧ w.cell? ⟨g, k, none⟩ = some (.int .i64 (f k))) (h2 : ∀ k, k < n → ∃ g, A2 = some ⟨g, 0, none⟩ ∧ w.cell? ⟨g, k, none⟩ = some (.int .i64 (f k))) :
    Calls Tryz.prog 32 #[.slice A1 n c1, .slice A2 n c2] w fun e w' => e = .returned (.bool true) ∧ Below w.heap.size w w' := by
  have H1 := Lib.hid h1
  have H2 := Lib.hid h2
  have HB0 : Hid (Below w.heap.size w w) := Below.refl _ _
  clear h1 h2
  go_enter Tryz.func32, Tryz.ntmps32
  go_wp2_with fail
  go_loopw [13] (fun i wr => ∃ k : Nat, k ≤ n ∧ i = .int .i64 (k : Int) ∧ Below w.heap.size w wr) (fun i _ => n - (intOf i).toNat)
  case atStart => exact ⟨0, Nat.zero_le _, rfl, HB0.out⟩
  case round =>
    obtain ⟨k, hk, rfl, hbr⟩ := hrel
    have HBR := Lib.hid hbr
    have HBD : Hid (Below w.heap.size w wr.drew) := hbr.drew
    clear hbr
    by_cases hlt : k < n
    · have hkz : (k : Int) < (n : Int) := by omega
      have hwk : IntKind.i64.wrap ((k : Int) + 1) = ((k + 1 : Nat) : Int) := by rw [wrap_in (by omega) (by omega)]; rfl
      obtain ⟨g1, rfl, hg1⟩ := H1.out k hlt
      obtain ⟨g2, rfl, hg2⟩ := H2.out k hlt
      have HD1 : Hid (∀ W, Below w.heap.size w W → W.cell? ⟨g1, k, none⟩ = some (.int .i64 (f k))) := fun W hb => (hb.cell (World.block_lt_of_cell? _ _ hg1)).trans hg1
      have HD2 : Hid (∀ W, Below w.heap.size w W → W.cell? ⟨g2, k, none⟩ = some (.int .i64 (f k))) := fun W hb => (hb.cell (World.block_lt_of_cell? _ _ hg2)).trans hg2
      clear hg1 hg2
      go_upto_region 6 with fail
      refine wp_region_noPanic ?_
      refine wp_region_k (S := fun W : World => Below w.heap.size w W) 999 (by kernel_rfl) (HBD.out) (fun hHeld => ?_)
      refine kSK 0 hHeld ?_
      refine kSK 1 hHeld ?_
      refine kSK 2 hHeld ?_
      refine kHK (v := ?_) 3 hHeld ?y4 ?_
      case y4 => (intro W hSw; have d1 := HD1.out _ hSw; have d2 := HD2.out _ hSw; go_simp; try with_reducible rfl)
      refine kSK 4 hHeld ?_
      try refine kNK ?_
      refine kSK 5 hHeld ?_
      refine kSK 6 hHeld ?_
      refine kHK (v := ?_) 7 hHeld ?y8 ?_
      case y8 => (intro W hSw; have d1 := HD1.out _ hSw; have d2 := HD2.out _ hSw; go_simp; try with_reducible rfl)
      refine kSK 8 hHeld ?_
      try refine kNK ?_
      refine wpAnyK_done (by kernel_rfl) ?_ _
      refine NoPanic.normal ?_
      go_wp2_with fail
      exact ⟨⟨k + 1, by omega, rfl, HBD.out⟩, by simp [intOf]; omega⟩
    · obtain rfl : k = n := by omega
      go_wp2_with fail
      go_ret
      exact ⟨rfl, HBR.out⟩
set_option maxRecDepth 100000 in
set_option maxHeartbeats 8000000 in
theorem equalC_yes (g1 g2 n c1 c2 : Nat) (x : Nat → Vz.Cl) (hn : n ≤ 255) (w : World) (h1 : CellsIn w g1 n x) (h2 : CellsIn w g2 n x) (l1 : g1 < w.heap.size) (l2 : g2 < w.heap.size) :
    Calls Tryz.prog 54 #[.slice (some ⟨g1, 0, none⟩) n c1, .slice (some ⟨g2, 0, none⟩) n c2] w fun e w' => e = .returned (.bool true) ∧ Below w.heap.size w w' := by
  have H1 : Hid (∀ W, Below w.heap.size w W → ∀ j, j < n → _) := fun W hb j hj => (let ⟨a, b, c, d⟩ := h1 j hj; ⟨(hb.cell l1).trans a, (hb.cell l1).trans b, (hb.cell l1).trans c, (hb.cell l1).trans d⟩ : W.cell? ⟨g1, j * 4, none⟩ = some (.int .i32 (x j).g) ∧ W.cell? ⟨g1, j * 4 + 1, none⟩ = some (.int .i64 (x j).a) ∧ W.cell? ⟨g1, j * 4 + 2, none⟩ = some (.bool (x j).gd) ∧ W.cell? ⟨g1, j * 4 + 3, none⟩ = some (.int .i64 (x j).m))
  have H2 : Hid (∀ W, Below w.heap.size w W → ∀ j, j < n → _) := fun W hb j hj => (let ⟨a, b, c, d⟩ := h2 j hj; ⟨(hb.cell l2).trans a, (hb.cell l2).trans b, (hb.cell l2).trans c, (hb.cell l2).trans d⟩ : W.cell? ⟨g2, j * 4, none⟩ = some (.int .i32 (x j).g) ∧ W.cell? ⟨g2, j * 4 + 1, none⟩ = some (.int .i64 (x j).a) ∧ W.cell? ⟨g2, j * 4 + 2, none⟩ = some (.bool (x j).gd) ∧ W.cell? ⟨g2, j * 4 + 3, none⟩ = some (.int .i64 (x j).m))
  have HB0 : Hid (Below w.heap.size w w) := Below.refl _ _
  clear h1 h2
  go_enter Tryz.func54, Tryz.ntmps54
  go_wp2_with fail
  go_loopw [13] (fun i wr => ∃ k : Nat, k ≤ n ∧ i = .int .i64 (k : Int) ∧ Below w.heap.size w wr) (fun i _ => n - (intOf i).toNat)
  case atStart => exact ⟨0, Nat.zero_le _, rfl, HB0.out⟩
  case round =>
    obtain ⟨k, hk, rfl, hbr⟩ := hrel
    have HBR := Lib.hid hbr
    have HBD : Hid (Below w.heap.size w wr.drew) := hbr.drew
    clear hbr
    by_cases hlt : k < n
    · have hkz : (k : Int) < (n : Int) := by omega
      have hwk : IntKind.i64.wrap ((k : Int) + 1) = ((k + 1 : Nat) : Int) := by rw [wrap_in (by omega) (by omega)]; rfl
      go_upto_region 6 with fail
      refine wp_region_noPanic ?_
      refine wp_region_k (S := fun W : World => Below w.heap.size w W) 999 (by kernel_rfl) (HBD.out) (fun hHeld => ?_)
      refine kSK 0 hHeld ?_
      refine kSK 1 hHeld ?_
      refine kSK 2 hHeld ?_
      refine kHK (v := ?_) 3 hHeld ?y4 ?_
      case y4 => (intro W hSw; obtain ⟨d0, d1, d2, d3⟩ := H1.out _ hSw k hlt; obtain ⟨e0, e1, e2, e3⟩ := H2.out _ hSw k hlt; go_simp; try with_reducible rfl)
      refine kSK 4 hHeld ?_
      try refine kNK ?_
      refine kSK 5 hHeld ?_
      refine kSK 6 hHeld ?_
      refine kHK (v := ?_) 7 hHeld ?y8 ?_
      case y8 => (intro W hSw; obtain ⟨d0, d1, d2, d3⟩ := H1.out _ hSw k hlt; obtain ⟨e0, e1, e2, e3⟩ := H2.out _ hSw k hlt; go_simp; try with_reducible rfl)
      refine kSK 8 hHeld ?_
      try refine kNK ?_
      refine wpAnyK_done (by kernel_rfl) ?_ _
      refine NoPanic.normal ?_
      go_wp2_with fail
      exact ⟨⟨k + 1, by omega, rfl, HBD.out⟩, by simp [intOf]; omega⟩
    · obtain rfl : k = n := by omega
      go_wp2_with fail
      go_ret
      exact ⟨rfl, HBR.out⟩
theorem stopsI_le2 (C : Nat) (T : Nat → Bool) : (stopsI C T).length ≤ C := by
  unfold stopsI Vz.stopsL
  rw [List.length_map]
  exact Nat.le_trans (List.length_filter_le _ _) (by simp)
theorem CellsIn.keep {W W' : World} {g n : Nat} {x : Nat → Vz.Cl} (h : CellsIn W g n x) (hl : g < W.heap.size) (hb : Below W.heap.size W W') : CellsIn W' g n x := fun j hj => by
  obtain ⟨a, b, c, d⟩ := h j hj
  exact ⟨(hb.cell hl).trans a, (hb.cell hl).trans b, (hb.cell hl).trans c, (hb.cell hl).trans d⟩
set_option maxRecDepth 100000 in
set_option maxHeartbeats 8000000 in
theorem alikeC_yes (B1 B2 OB1 OB2 : Nat) (D : Vz.Gd) (G1 K1 G2 K2 : Nat → Nat) (hm : D.may) (w : World) (h1 : RowsAt B1 w OB1 D G1 K1) (h2 : RowsAt B2 w OB2 D G2 K2) :
    Calls Tryz.prog 30 #[.slice (some ⟨OB1, 0, none⟩) D.R D.R, .slice (some ⟨OB2, 0, none⟩) D.R D.R] w fun e w' => e = .returned (.bool true) ∧ Below w.heap.size w w' := by
  obtain ⟨m1, m2, m3, m4⟩ := hm
  have HE : Hid (∀ W, Below w.heap.size w W → Calls Tryz.prog 53 #[.slice (some ⟨OB1, 0, none⟩) D.R D.R, .slice (some ⟨OB2, 0, none⟩) D.R D.R, .func (.func 54) #[] #[]] W fun e w' => e = .returned (.bool true) ∧ Below w.heap.size w w') := fun W hbW => by
    have HB0 := Lib.hid hbW
    have H1 : Hid (∀ A, Below w.heap.size w A → RowsAt B1 A OB1 D G1 K1) := fun A hb => h1.below hb
    have H2 : Hid (∀ A, Below w.heap.size w A → RowsAt B2 A OB2 D G2 K2) := fun A hb => h2.below hb
    have heg := enters_of Tryz.func54 (by kernel_rfl) rfl
    clear h1 h2 hbW
    go_enter Tryz.func53, Tryz.ntmps53
    go_wp2_with fail
    go_loopw [17] (fun i wr => ∃ k : Nat, k ≤ D.R ∧ i = .int .i64 (k : Int) ∧ Below w.heap.size w wr) (fun i _ => D.R - (intOf i).toNat)
    case atStart => exact ⟨0, Nat.zero_le _, rfl, HB0.out⟩
    case round =>
      obtain ⟨k, hk, rfl, hbr⟩ := hrel
      have HBR := Lib.hid hbr
      by_cases hlt : k < D.R
      · have hkz : (k : Int) < (D.R : Int) := by omega
        have hwk : IntKind.i64.wrap ((k : Int) + 1) = ((k + 1 : Nat) : Int) := by rw [wrap_in (by omega) (by omega)]; rfl
        have o1 : wr.cell? ⟨OB1, k, none⟩ = some (.slice (some ⟨G1 k, 0, none⟩) D.C (K1 k)) := (H1.out _ hbr).outer.cell hlt
        have o2 : wr.cell? ⟨OB2, k, none⟩ = some (.slice (some ⟨G2 k, 0, none⟩) D.C (K2 k)) := (H2.out _ hbr).outer.cell hlt
        clear hbr
        go_wp2_with fail
        refine (equalC_yes (G1 k) (G2 k) D.C (K1 k) (K2 k) (D.X k) m4 wr ((H1.out _ HBR.out).cellsIn hlt) ((H2.out _ HBR.out).cellsIn hlt) ((H1.out _ HBR.out).row k hlt).lt ((H2.out _ HBR.out).row k hlt).lt).mono ?_
        rintro e w1 ⟨rfl, hb1⟩
        have HB1 := Lib.hid (Below.later HBR.out hb1 HBR.out.size)
        clear hb1 o1 o2
        dsimp only
        go_wp2_with fail
        exact ⟨⟨k + 1, by omega, rfl, HB1.out⟩, by simp [intOf]; omega⟩
      · obtain rfl : k = D.R := by omega
        clear hbr
        go_wp2_with fail
        go_ret
        exact ⟨rfl, HBR.out⟩
  clear h1 h2
  go_enter Tryz.func30, Tryz.ntmps30
  go_wp2_with (go_at_call 53; refine (HE.out _ (Below.refl _ _)).mono ?_; rintro e w1 ⟨rfl, hb⟩)
  go_ret
  exact ⟨rfl, hb⟩
set_option maxRecDepth 100000 in
set_option maxHeartbeats 8000000 in
theorem alikeI_yes (B1 B2 g1 g2 R C c1 c2 : Nat) (L : Nat → Nat → Int) (G1 G2 : Nat → Nat) (hR : R ≤ 255) (hC : C ≤ 255) (w : World) (h1 : LooksAt B1 w g1 R C L G1) (h2 : LooksAt B2 w g2 R C L G2) :
    Calls Tryz.prog 31 #[.slice (some ⟨g1, 0, none⟩) R c1, .slice (some ⟨g2, 0, none⟩) R c2] w fun e w' => e = .returned (.bool true) ∧ Below w.heap.size w w' := by
  have HE : Hid (∀ W, Below w.heap.size w W → Calls Tryz.prog 55 #[.slice (some ⟨g1, 0, none⟩) R c1, .slice (some ⟨g2, 0, none⟩) R c2, .func (.func 32) #[] #[]] W fun e w' => e = .returned (.bool true) ∧ Below w.heap.size w w') := fun W hbW => by
    have HB0 := Lib.hid hbW
    have H1 : Hid (∀ A, Below w.heap.size w A → LooksAt B1 A g1 R C L G1) := fun A hb => h1.below hb
    have H2 : Hid (∀ A, Below w.heap.size w A → LooksAt B2 A g2 R C L G2) := fun A hb => h2.below hb
    have heg := enters_of Tryz.func32 (by kernel_rfl) rfl
    clear h1 h2 hbW
    go_enter Tryz.func55, Tryz.ntmps55
    go_wp2_with fail
    go_loopw [17] (fun i wr => ∃ k : Nat, k ≤ R ∧ i = .int .i64 (k : Int) ∧ Below w.heap.size w wr) (fun i _ => R - (intOf i).toNat)
    case atStart => exact ⟨0, Nat.zero_le _, rfl, HB0.out⟩
    case round =>
      obtain ⟨k, hk, rfl, hbr⟩ := hrel
      have HBR := Lib.hid hbr
      by_cases hlt : k < R
      · have hkz : (k : Int) < (R : Int) := by omega
        have hwk : IntKind.i64.wrap ((k : Int) + 1) = ((k + 1 : Nat) : Int) := by rw [wrap_in (by omega) (by omega)]; rfl
        have o1 := (H1.out _ hbr).outer k hlt
        have o2 := (H2.out _ hbr).outer k hlt
        clear hbr
        go_wp2_with fail
        refine (equalI_yes _ _ C C C (L k) hC wr (fun j hj => ⟨_, rfl, ((H1.out _ HBR.out).cell hlt hj).1⟩) (fun j hj => ⟨_, rfl, ((H2.out _ HBR.out).cell hlt hj).1⟩)).mono ?_
        rintro e w1 ⟨rfl, hb1⟩
        have HB1 := Lib.hid (Below.later HBR.out hb1 HBR.out.size)
        clear hb1 o1 o2
        dsimp only
        go_wp2_with fail
        exact ⟨⟨k + 1, by omega, rfl, HB1.out⟩, by simp [intOf]; omega⟩
      · obtain rfl : k = R := by omega
        clear hbr
        go_wp2_with fail
        go_ret
        exact ⟨rfl, HBR.out⟩
  clear h1 h2
  go_enter Tryz.func31, Tryz.ntmps31
  go_wp2_with (go_at_call 55; refine (HE.out _ (Below.refl _ _)).mono ?_; rintro e w1 ⟨rfl, hb⟩)
  go_ret
  exact ⟨rfl, hb⟩
set_option maxRecDepth 100000 in
set_option maxHeartbeats 8000000 in
theorem same_yes (x : Sh) (hm : x.S.D.may) (B1 OB1 g1 cap1 : Nat) (sv1 : Value) (G1 K1 H1 : Nat → Nat) (B2 OB2 g2 cap2 : Nat) (sv2 : Value) (G2 K2 H2 : Nat → Nat) (w : World) (h1 : ShP B1 w x OB1 g1 cap1 sv1 G1 K1 H1) (h2 : ShP B2 w x OB2 g2 cap2 sv2 G2 K2 H2) :
    Calls Tryz.prog 10 #[.agg (shV x OB1 g1 cap1 sv1), .agg (shV x OB2 g2 cap2 sv2)] w fun e w' => e = .returned (.bool true) ∧ Below w.heap.size w w' := by
  obtain ⟨a1, c1, rfl, hs1⟩ := stops_cell h1.stops
  obtain ⟨a2, c2, rfl, hs2⟩ := stops_cell h2.stops
  have hn : (stopsI x.S.D.C x.S.T).length ≤ 255 := Nat.le_trans (stopsI_le2 _ _) hm.2.2.2
  have HC := Lib.hid (fun W (hb : Below w.heap.size w W) => alikeC_yes B1 B2 OB1 OB2 x.S.D G1 K1 G2 K2 hm W (h1.rows.below hb) (h2.rows.below hb))
  have HI := Lib.hid (fun W (hb : Below w.heap.size w W) => alikeI_yes B1 B2 g1 g2 x.S.D.R x.S.D.C cap1 cap2 (lookS x.p x.S.D) H1 H2 hm.2.1 hm.2.2.2 W (h1.looks.below hb) (h2.looks.below hb))
  have HE := Lib.hid (fun W (hb : Below w.heap.size w W) => equalI_yes a1 a2 (stopsI x.S.D.C x.S.T).length c1 c2 (fun k => (stopsI x.S.D.C x.S.T)[k]?.getD 0) hn W (hs1 W hb) (hs2 W hb))
  clear h1 h2 hs1 hs2 hm hn
  obtain ⟨n0, n1, nb⟩ := box2 (Below.refl ((w.alloc (.cells (shV x OB1 g1 cap1 (.slice a1 (stopsI x.S.D.C x.S.T).length c1)) 30)).alloc (.cells (shV x OB2 g2 cap2 (.slice a2 (stopsI x.S.D.C x.S.T).length c2)) 30)).heap.size ((w.alloc (.cells (shV x OB1 g1 cap1 (.slice a1 (stopsI x.S.D.C x.S.T).length c1)) 30)).alloc (.cells (shV x OB2 g2 cap2 (.slice a2 (stopsI x.S.D.C x.S.T).length c2)) 30)))
  have HB0 := Lib.hid nb
  have H0 := Lib.hid n0
  have H9 := Lib.hid n1
  clear n0 n1 nb
  unfold shV at *
  generalize (stopsI x.S.D.C x.S.T).length = nl at *
  go_enter Tryz.func10, Tryz.ntmps10
  go_wp2_with (first
    | (go_at_call 30; refine (HC.out _ HB0.out).mono ?_; rintro e w1 ⟨rfl, hb1⟩; have HB1 := Lib.hid (Below.later HB0.out hb1 HB0.out.size); obtain ⟨⟨x0, x1, x2, x3, x4, x5, x6, x7, x8⟩, _⟩ := row9 ((hb1.block _ (block_lt H0.out)).trans H0.out); obtain ⟨⟨y0, y1, y2, y3, y4, y5, y6, y7, y8⟩, _⟩ := row9 ((hb1.block _ (block_lt H9.out)).trans H9.out); have H01 := Lib.hid ((hb1.block _ (block_lt H0.out)).trans H0.out); have H11 := Lib.hid ((hb1.block _ (block_lt H9.out)).trans H9.out); clear hb1)
    | (go_at_call 31; refine (HI.out _ HB1.out).mono ?_; rintro e w2 ⟨rfl, hb2⟩; have HB2 := Lib.hid (Below.later HB1.out hb2 HB1.out.size); clear x0 x1 x2 x3 x4 x5 x6 x7 x8 y0 y1 y2 y3 y4 y5 y6 y7 y8; obtain ⟨⟨x0, x1, x2, x3, x4, x5, x6, x7, x8⟩, _⟩ := row9 ((hb2.block _ (block_lt H01.out)).trans H01.out); obtain ⟨⟨y0, y1, y2, y3, y4, y5, y6, y7, y8⟩, _⟩ := row9 ((hb2.block _ (block_lt H11.out)).trans H11.out); clear hb2)
    | (go_at_call 32; refine (HE.out _ HB2.out).mono ?_; rintro e w3 ⟨rfl, hb3⟩; have HB3 := Lib.hid (Below.later HB2.out hb3 HB2.out.size); clear hb3))
  go_ret
  exact ⟨rfl, HB3.out⟩
end Go.Proofs.YtliacdaddncmaaaGreatDoor
