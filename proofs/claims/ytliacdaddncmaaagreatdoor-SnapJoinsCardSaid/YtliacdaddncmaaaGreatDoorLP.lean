import Derived.Test.YtliacdaddncmaaaGreatDoorLE
import Derived.Test.YtliacdaddncmaaaGreatDoorLK
import Derived.Test.YtliacdaddncmaaaGreatDoorLA
import Derived.Test.YtliacdaddncmaaaGreatDoorLH
import Derived.Test.YtliacdaddncmaaaGreatDoorLO

/- Walks: the grid's Resize. -/
namespace Go.Proofs.YtliacdaddncmaaaGreatDoor
open Go.RowKit
set_option linter.unusedSimpArgs false
set_option linter.unusedVariables false
attribute [local go_sem] alloc_drewN setCell_drewN World.cell?_alloc_some frozen_alloc_some size_f0 size_f1
attribute [local go_sem 3000] run_min_z run_max_z

/-- A grid of another size: the first k rows keep what has room, the rest is x. -/
def resK (D : Vz.Gd) (R C : Nat) (x : Vz.Cl) (k : Nat) : Vz.Gd := ⟨R, C, fun i j => if i < k ∧ j < D.C then D.X i j else x⟩
def resD (D : Vz.Gd) (R C : Nat) (x : Vz.Cl) : Vz.Gd := resK D R C x D.R
theorem res_flat (D : Vz.Gd) (R C : Nat) (x : Vz.Cl) (k i : Nat) (hi : i < C * 4) :
    Vz.flatC ((resK D R C x (k + 1)).X k) i = if 0 ≤ i ∧ i < 0 + (cellsL (D.X k) (min D.C C)).length then (cellsL (D.X k) (min D.C C)).getD (i - 0) undef else Vz.flatC ((resK D R C x k).X k) i := by
  rw [cellsL_len, Nat.zero_add, Nat.sub_zero]
  split
  · rename_i h
    rw [cellsL_getD _ _ _ (by omega)]
    unfold Vz.flatC
    congr 1
    show (if k < k + 1 ∧ i / 4 < D.C then _ else _) = _
    rw [if_pos ⟨Nat.lt_succ_self k, by omega⟩]
  · rename_i h
    unfold Vz.flatC
    congr 1
    show (if k < k + 1 ∧ i / 4 < D.C then _ else _) = if k < k ∧ i / 4 < D.C then _ else _
    rw [if_neg (by omega), if_neg (by omega)]
theorem resK_other (D : Vz.Gd) (R C : Nat) (x : Vz.Cl) (k i : Nat) (h : i ≠ k) : (resK D R C x (k + 1)).X i = (resK D R C x k).X i := by
  funext j
  show (if i < k + 1 ∧ j < D.C then _ else _) = if i < k ∧ j < D.C then _ else _
  have : (i < k + 1 ∧ j < D.C) ↔ (i < k ∧ j < D.C) := ⟨fun h' => ⟨by omega, h'.2⟩, fun h' => ⟨by omega, h'.2⟩⟩
  simp only [this]
theorem resK_zero {W : World} {gp : Nat} {F : Nat → Prop} {D : Vz.Gd} {R C : Nat} {x : Vz.Cl} (h : Grid W gp F (Vz.Gd.new R C x)) : Grid W gp F (resK D R C x 0) :=
  h.congr rfl rfl fun i j _ _ => by
    show (if i < 0 ∧ j < D.C then D.X i j else x) = x
    rw [if_neg (by omega)]
theorem resK_done {W : World} {gp : Nat} {F : Nat → Prop} {D : Vz.Gd} {R C : Nat} {x : Vz.Cl} (h : Grid W gp F (resK D R C x (min R D.R))) : Grid W gp F (resD D R C x) :=
  h.congr rfl rfl fun i j hi _ => by
    have hi' : i < R := hi
    show (if i < D.R ∧ j < D.C then _ else _) = if i < min R D.R ∧ j < D.C then _ else _
    have : (i < min R D.R ∧ j < D.C) ↔ (i < D.R ∧ j < D.C) := ⟨fun h' => ⟨by omega, h'.2⟩, fun h' => ⟨by omega, h'.2⟩⟩
    simp only [this]
theorem row_src {W : World} {b cap m n : Nat} {f : Nat → Vz.Cl} (h : RowC W b 47 cap (n * 4) (Vz.flatC f)) (hm : m ≤ n) : ∀ (j : Nat) (v : Value), (cellsL f m)[j]? = some v → W.cell? ((⟨b, 0, none⟩ : Addr).add j) = some v := by
  intro j v hj
  have hlt : j < m * 4 := by
    have := (List.getElem?_eq_some_iff.1 hj).1
    rwa [cellsL_len] at this
  rw [add_none, Nat.zero_add, h.cell (by omega), ← cellsL_getD f m j hlt]
  simp only [List.getD, hj, Option.getD_some]
/-- The old grid's pointer takes the new rows. -/
theorem Grid.moved {W : World} {gp gp2 : Nat} {F2 : Nat → Prop} {D : Vz.Gd} (h : Grid W gp2 F2 D) (hn : ¬ F2 gp) {v0 : Value} (hb : W.heap[gp]? = some (.cells #[v0] 126 (0, 0))) :
    ∃ B cap, W.cell? ⟨gp2, 0, none⟩ = some (.slice (some ⟨B, 0, none⟩) D.R cap) ∧ ∃ F', Grid (W.setCell ⟨gp, 0, none⟩ (.slice (some ⟨B, 0, none⟩) D.R cap)) gp F' D ∧ ∀ k, F' k → k = gp ∨ F2 k := by
  obtain ⟨B, cap, G, K, hA, hF⟩ := h
  have ho : ∀ k, F2 k → (W.setCell ⟨gp, 0, none⟩ (.slice (some ⟨B, 0, none⟩) D.R cap)).heap[k]? = W.heap[k]? := fun k hk => heap_setCell_other _ _ _ _ (by show k ≠ gp; exact fun e => hn (e ▸ hk))
  refine ⟨B, cap, hA.head, footG gp B G D.R, ⟨B, cap, G, K, ⟨hA.may, set_one hb _, hA.outer.of_block (ho B ((hF B).2 (.inr (.inl rfl)))), fun i hi => (hA.row i hi).of_block (ho _ ((hF _).2 (.inr (.inr ⟨i, hi, rfl⟩)))), hA.inj⟩, fun k => Iff.rfl⟩, ?_⟩
  rintro k (rfl | rfl | ⟨i, hi, rfl⟩)
  · exact .inl rfl
  · exact .inr ((hF _).2 (.inr (.inl rfl)))
  · exact .inr ((hF _).2 (.inr (.inr ⟨i, hi, rfl⟩)))
set_option maxRecDepth 100000 in
set_option maxHeartbeats 4000000 in
theorem gresize_ok (gp : Nat) (F : Nat → Prop) (D : Vz.Gd) (R C : Nat) (x : Vz.Cl) (w : World) (h : Grid w gp F D) (hm : Vz.mayS R C = true) :
    Calls Tryz.prog 62 #[.pointer (some ⟨gp, 0, none⟩), .agg #[.int .i64 R, .int .i64 C], .agg #[.int .i32 x.g, .int .i64 x.a, .bool x.gd, .int .i64 x.m]] w fun e w' => e = .returned (.int .i64 0) ∧ GridTo w w' gp F (resD D R C x) := by
  obtain ⟨m1, m2, m3, m4⟩ := h.may
  have hmm := (Vz.mayS_iff R C).1 hm
  have HB0 : Hid (Below w.heap.size w ((w.alloc (.cells #[.int .i64 R, .int .i64 C] 23)).alloc (.cells (cellB x) 47))) := Grows.below (((Grows.refl w).alloc _).alloc _)
  obtain ⟨hn0, hn1, _⟩ := box2 (Below.refl ((w.alloc (.cells #[.int .i64 R, .int .i64 C] 23)).alloc (.cells (cellB x) 47)).heap.size ((w.alloc (.cells #[.int .i64 R, .int .i64 C] 23)).alloc (.cells (cellB x) 47)))
  unfold cellB at HB0 hn0 hn1
  obtain ⟨p0, p1, _⟩ := row2 hn0
  obtain ⟨x0, x1, x2, x3, _⟩ := row4 hn1
  have HN := Lib.hid (gnew_ok R C x hm ((w.alloc (.cells #[.int .i64 R, .int .i64 C] 23)).alloc (.cells #[.int .i32 x.g, .int .i64 x.a, .bool x.gd, .int .i64 x.m] 47)))
  have H := Lib.hid h
  have HMM := Lib.hid hmm
  clear h hn0 hn1 hm hmm
  go_enter Tryz.func62, Tryz.ntmps62
  go_upto_region 6 with (go_at_call 56; refine HN.out.mono ?_; rintro e w1 ⟨gp2, F2, rfl, hG2, hF2, hb1⟩; have HG2 := Lib.hid hG2; have HF2 : Hid (∀ k, F2 k → w.heap.size ≤ k) := (fun k hk => Nat.le_trans HB0.out.size (hF2 k hk)); have HB1 := Lib.hid (Below.later HB0.out hb1 HB0.out.size); clear hG2 hF2 hb1 p0 p1 x0 x1 x2 x3)
  have hmz : minZ (R : Int) (D.R : Int) = ((min R D.R : Nat) : Int) := by unfold minZ; omega
  have HC : Hid (∀ W, Below w1.heap.size w1 W → ∃ B cap B2 cap2, W.cell? ⟨gp, 0, none⟩ = some (.slice (some ⟨B, 0, none⟩) D.R cap) ∧ W.cell? ⟨gp2, 0, none⟩ = some (.slice (some ⟨B2, 0, none⟩) R cap2)) := fun W hb => by
    obtain ⟨B, cap, G, K, hA, hF⟩ := (H.out.below HB1.out).below hb
    obtain ⟨B2, cap2, G2, K2, hA2, hF2⟩ := HG2.out.below hb
    exact ⟨B, cap, B2, cap2, hA.head, hA2.head⟩
  obtain ⟨B, cap, B2, cap2, c0, c1⟩ := HC.out w1 (Below.refl _ _)
  have hbig : D.R ≤ 255 ∧ R ≤ 255 := ⟨m2, by have := HMM.out; omega⟩
  refine wp_region_noPanic ?_
  refine wp_region_k (S := fun W' : World => W'.cell? ⟨gp, 0, none⟩ = some (.slice (some ⟨B, 0, none⟩) D.R cap) ∧ W'.cell? ⟨gp2, 0, none⟩ = some (.slice (some ⟨B2, 0, none⟩) R cap2)) 999 (by kernel_rfl) (⟨c0, c1⟩) (fun hHeld => ?_)
  refine kSK 0 hHeld ?_
  refine kSK 1 hHeld ?_
  refine kSK 2 hHeld ?_
  refine kHK (v := ?_) 3 hHeld ?y4 ?_
  case y4 => (intro W hSw; obtain ⟨c0, c1⟩ := hSw; go_simp; try with_reducible rfl)
  refine kSK 4 hHeld ?_
  try refine kNK ?_
  refine kSK 5 hHeld ?_
  refine kSK 6 hHeld ?_
  refine kSK 7 hHeld ?_
  refine kHK (v := ?_) 8 hHeld ?y9 ?_
  case y9 => (intro W hSw; obtain ⟨c0, c1⟩ := hSw; go_simp; try with_reducible rfl)
  refine kSK 9 hHeld ?_
  try refine kNK ?_
  refine kSK 10 hHeld ?_
  refine kSK 11 hHeld ?_
  try refine kNK ?_
  refine wpAnyK_done (by kernel_rfl) ?_ _
  refine NoPanic.normal ?_
  clear c0 c1 hHeld
  have HK0 : Hid (Keeps F w w1.drew) := Keeps.of_below (Below.later HB1.out (Below.refl _ _).drew HB1.out.size)
  have HOF : Hid (∀ k, F k → ¬ F2 k) := fun k hk hf => by
    have h1 := H.out.lt k hk
    have h2 := HF2.out k hf
    omega
  go_wp2_with fail
  go_loopw [32] (fun i wr => ∃ k : Nat, k ≤ min R D.R ∧ i = .int .i64 (k : Int) ∧ Grid wr gp2 F2 (resK D R C x k) ∧ Keeps F2 w1 wr) (fun i _ => min R D.R - (intOf i).toNat)
  case atStart => exact ⟨0, Nat.zero_le _, rfl, resK_zero (HG2.out.below (Below.refl _ _).drew), Keeps.of_below (Below.refl _ _).drew⟩
  case round =>
    obtain ⟨k, hk, rfl, hg2, hkp⟩ := hrel
    have hgo : Grid wr gp F D := (H.out.below HB1.out).of_blocks fun j hj => hkp.block j ((H.out.below HB1.out).lt j hj) (HOF.out j hj)
    have HG := Lib.hid hg2
    have HKP := Lib.hid hkp
    by_cases hlt : k < min R D.R
    · obtain ⟨B, cap, G, K, hA, hF⟩ := hgo
      obtain ⟨B2, cap2, G2, K2, hA2, hFF2⟩ := hg2
      have hk1 : k < R := by omega
      have hk2 : k < D.R := by omega
      have hkz : (k : Int) < ((min R D.R : Nat) : Int) := by omega
      have hkR : (k : Int) < (R : Int) := by omega
      have hkD : (k : Int) < (D.R : Int) := by omega
      have HCC : Hid (∀ W, Below wr.heap.size wr W → W.cell? ⟨gp, 0, none⟩ = some (.slice (some ⟨B, 0, none⟩) D.R cap) ∧ W.cell? ⟨B, k, none⟩ = some (.slice (some ⟨G k, 0, none⟩) D.C (K k)) ∧ W.cell? ⟨gp2, 0, none⟩ = some (.slice (some ⟨B2, 0, none⟩) R cap2) ∧ W.cell? ⟨B2, k, none⟩ = some (.slice (some ⟨G2 k, 0, none⟩) C (K2 k))) := fun W hb =>
        ⟨(hb.cell (p := ⟨gp, 0, none⟩) (block_lt hA.box)).trans hA.head, (hb.cell (p := ⟨B, k, none⟩) hA.outer.lt).trans (hA.line hk2), (hb.cell (p := ⟨gp2, 0, none⟩) (block_lt hA2.box)).trans hA2.head, (hb.cell (p := ⟨B2, k, none⟩) hA2.outer.lt).trans (hA2.line hk1)⟩
      have HA := Lib.hid hA
      have HA2 := Lib.hid hA2
      have HFF := Lib.hid hFF2
      have HKK := Lib.hid (And.intro hk1 hk2)
      have hwk : IntKind.i64.wrap ((k : Int) + 1) = ((k + 1 : Nat) : Int) := by rw [wrap_in (by omega) (by omega)]; rfl
      have HMQ : Hid (Nat.min D.C C = min D.C C) := rfl
      have HMC : Hid (min D.C C ≤ D.C ∧ min D.C C ≤ C) := ⟨Nat.min_le_left _ _, Nat.min_le_right _ _⟩
      have hKC : C * 4 ≤ K2 k * 4 := (hA2.row k hk1).le
      have HKC := Lib.hid hKC
      have HS0 : Hid (Below wr.heap.size wr wr.drew) := (Below.refl _ _).drew
      clear hA hA2 hF hFF2 hkp hKC
      go_upto_region 9 with fail
      refine wp_region_noPanic ?_
      refine wp_region_k (S := fun W' : World => Below wr.heap.size wr W') 14 (by kernel_rfl) (HS0.out) (fun hHeld => ?_)
      refine kSK 0 hHeld ?_
      refine kSK 1 hHeld ?_
      refine kSK 2 hHeld ?_
      refine kTK (v := ?_) 3 [6, 5] hHeld ?y4 ?_
      case y4 => (intro W hSw; obtain ⟨q0, q1, q2, q3⟩ := HCC.out _ hSw; go_simp; try with_reducible rfl)
      refine kSK 4 hHeld ?_
      try refine kNK ?_
      refine kSK 5 hHeld ?_
      refine kTK (v := ?_) 6 [] hHeld ?y7 ?_
      case y7 => (intro W hSw; obtain ⟨q0, q1, q2, q3⟩ := HCC.out _ hSw; go_simp; try with_reducible rfl)
      refine kSK 7 hHeld ?_
      refine kSK 8 hHeld ?_
      refine kSK 9 hHeld ?_
      try refine kNK ?_
      refine kTK (v := ?_) 10 [13, 12] hHeld ?y11 ?_
      case y11 => (intro W hSw; obtain ⟨q0, q1, q2, q3⟩ := HCC.out _ hSw; go_simp; try with_reducible rfl)
      refine kSK 11 hHeld ?_
      refine kSK 12 hHeld ?_
      refine kTK (v := ?_) 13 [] hHeld ?y14 ?_
      case y14 => (intro W hSw; obtain ⟨q0, q1, q2, q3⟩ := HCC.out _ hSw; go_simp; try with_reducible rfl)
      try refine kNK ?_
      refine kPK 14 fun KQ hKQ => ?_
      refine wp_copy_rowC (.tmp 41) (.tmp 48) 67 67 rfl 47 4 Tryz.underlying67 cellSize (G2 k) 0 C (K2 k) ⟨G k, 0, none⟩ D.C (K k) rfl rfl (min D.C C) HMQ.out 47 (K2 k * 4) (C * 4) (Vz.flatC ((resK D R C x k).X k)) ((HA2.out.row k HKK.out.1).of_block rfl) (cellsL (D.X k) (min D.C C)) (cellsL_len _ _) (row_src ((HA.out.row k HKK.out.2).of_block rfl) HMC.out.1) (cellsL_one _ _) (Nat.zero_le _) (by have := HMC.out.2; have := HKC.out; rw [cellsL_len]; omega) (C * 4) (.inl (Nat.le_refl _)) HKC.out _ (fun i hi => res_flat D R C x k i hi) ?_
      intro w3 hr3 ho3 hb3 hz3
      have HR3 := Lib.hid hr3
      have HO3 := Lib.hid ho3
      have HBB3 := Lib.hid hb3
      clear hr3 ho3 hb3
      refine hKQ.out _ _ ?_
      clear hKQ KQ
      try refine kNK ?_
      refine wpAnyK_done (by kernel_rfl) ?_ _
      refine NoPanic.normal ?_
      go_wp2_with fail
      have hK3 : Keeps F2 wr w3 := ⟨HBB3.out.os, HBB3.out.tape, HBB3.out.output, HBB3.out.size, fun j hj hn => HO3.out j (fun e => hn ((HFF.out j).2 (.inr (.inr ⟨k, hk1, e⟩))))⟩
      exact ⟨⟨k + 1, by omega, rfl, Grid.slid (w2 := wr.drew) (HA2.out.of_blocks fun _ _ => rfl) HFF.out HKK.out.1 rfl rfl (fun i hi => resK_other D R C x k i hi) HR3.out HO3.out, HKP.out.trans hK3 (fun k hk => .inl hk)⟩, by simp [intOf]; omega⟩
    · have hke : k = min R D.R := by omega
      subst hke
      have hnl : ¬ ((min R D.R : Nat) : Int) < ((min R D.R : Nat) : Int) := by omega
      obtain ⟨B, cap, G, K, hA, hF⟩ := hgo
      have hFg : F gp := (hF gp).2 (.inl rfl)
      obtain ⟨B2, cap2, hv, F', hG', hF'⟩ := Grid.moved (resK_done hg2) (HOF.out gp hFg) hA.box
      have f0 := frozen_row hA.box 0
      have c0 : wr.cell? ⟨gp, 0, none⟩ = _ := hA.head
      have hRr : (resD D R C x).R = R := rfl
      rw [hRr] at hv hG'
      have HE : Hid (GridTo w (wr.setCell ⟨gp, 0, none⟩ (.slice (some ⟨B2, 0, none⟩) R cap2)) gp F (resD D R C x)) :=
        ⟨⟨F', hG', fun k hk => (hF' k hk).elim (fun e => .inl (e ▸ hFg)) (fun hf => .inr (HF2.out k hf))⟩, ((Keeps.of_below HB1.out : Keeps F w w1).trans HKP.out (fun k hk => .inr (HF2.out k hk))).trans (Keeps.setCell F wr (p := ⟨gp, 0, none⟩) hFg _) (fun k hk => .inl hk)⟩
      clear hA hF hg2 hkp hG' hF' hFg HG HKP
      go_wp2_with fail
      go_ret
      exact ⟨rfl, HE.out⟩
set_option maxRecDepth 100000 in
set_option maxHeartbeats 4000000 in
theorem gresize_no (gp : Nat) (R C : Int) (x : Vz.Cl) (w : World) (hm : Vz.mayS R C = false) :
    Calls Tryz.prog 62 #[.pointer (some ⟨gp, 0, none⟩), .agg #[.int .i64 R, .int .i64 C], .agg #[.int .i32 x.g, .int .i64 x.a, .bool x.gd, .int .i64 x.m]] w fun e w' => e = .returned (.int .i64 10) ∧ Below w.heap.size w w' := by
  have HB0 : Hid (Below w.heap.size w ((w.alloc (.cells #[.int .i64 R, .int .i64 C] 23)).alloc (.cells (cellB x) 47))) := Grows.below (((Grows.refl w).alloc _).alloc _)
  obtain ⟨hn0, hn1, _⟩ := box2 (Below.refl ((w.alloc (.cells #[.int .i64 R, .int .i64 C] 23)).alloc (.cells (cellB x) 47)).heap.size ((w.alloc (.cells #[.int .i64 R, .int .i64 C] 23)).alloc (.cells (cellB x) 47)))
  unfold cellB at HB0 hn0 hn1
  obtain ⟨p0, p1, _⟩ := row2 hn0
  obtain ⟨x0, x1, x2, x3, _⟩ := row4 hn1
  have HN := Lib.hid (gnew_no R C x hm ((w.alloc (.cells #[.int .i64 R, .int .i64 C] 23)).alloc (.cells #[.int .i32 x.g, .int .i64 x.a, .bool x.gd, .int .i64 x.m] 47)))
  clear hn0 hn1 hm
  go_enter Tryz.func62, Tryz.ntmps62
  go_wp2_with (go_at_call 56; refine HN.out.mono ?_; rintro e w1 ⟨rfl, hb1⟩; have HB1 := Lib.hid (Below.later HB0.out hb1 HB0.out.size); clear hb1)
  go_ret
  exact ⟨rfl, HB1.out⟩
end Go.Proofs.YtliacdaddncmaaaGreatDoor

/- Walks: the screen's Resize. -/
namespace Go.Proofs.YtliacdaddncmaaaGreatDoor
open Go.RowKit
set_option linter.unusedSimpArgs false
set_option linter.unusedVariables false
attribute [local go_sem] alloc_drewN setCell_drewN World.cell?_alloc_some frozen_alloc_some size_f0 size_f1

set_option maxRecDepth 10000 in
set_option maxHeartbeats 2000000 in
theorem ssize_p (sp gp tp : Nat) (FG : Nat → Prop) (D : Vz.Gd) (pl : Vz.Pl) (w : World) (hbox : w.heap[sp]? = some (.cells (scrB pl gp tp) 93 (0, 0))) (hg : Grid w gp FG D) : Calls Tryz.prog 21 #[.pointer (some ⟨sp, 0, none⟩)] w fun e w' => e = .returned (.agg #[.int .i64 D.R, .int .i64 D.C]) ∧ Below w.heap.size w w' := by
  obtain ⟨c0, c1, c2, c3, c4, f0, f1, f2, _⟩ := row5' hbox
  have HB : Hid (Below w.heap.size w (w.alloc (.cells #[.int .i64 0, .int .i64 0] 23))) := below1 _ _
  have HC := Lib.hid (gsize_ok gp FG D _ (hg.below HB.out))
  have HN := Lib.hid (heap_alloc_new w (.cells #[.int .i64 0, .int .i64 0] 23))
  clear hg hbox
  go_enter Tryz.func21, Tryz.ntmps21
  go_wp2_with (go_at_call 46; refine HC.out.mono ?_; rintro e w1 ⟨rfl, hb1⟩; have HN1 := Lib.hid ((hb1.block _ (block_lt HN.out)).trans HN.out); obtain ⟨b0, b1, g0, g1⟩ := row2 HN1.out; have HB1 := Lib.hid (Below.later HB.out hb1 HB.out.size); clear hb1)
  obtain ⟨r0, r1, _⟩ := row2 (set_two HN1.out (.int .i64 D.R) (.int .i64 D.C))
  refine bodyPost_ret (v := .agg #[.int .i64 D.R, .int .i64 D.C]) (by simp [results, Tryz.results21, go_sem, r0, r1]) rfl ⟨rfl, ?_⟩
  exact (HB1.out.setCell (p := ⟨w.heap.size, 0, none⟩) (Nat.le_refl _) _).setCell (p := ⟨w.heap.size, 1, none⟩) (Nat.le_refl _) _
set_option maxRecDepth 10000 in
set_option maxHeartbeats 2000000 in
/-- Move on a screen whose cursor may be anywhere, as a deferred call. -/
theorem smove_d (sp gp tp : Nat) (FG : Nat → Prop) (D : Vz.Gd) (pl : Vz.Pl) (p : Vz.Ps) (u : FrameMode) (w : World) (hbox : w.heap[sp]? = some (.cells (scrB pl gp tp) 93 (0, 0))) (hg : Grid w gp FG D) :
    CallsD Tryz.prog 16 #[.pointer (some ⟨sp, 0, none⟩), .agg #[.int .i64 p.row, .int .i64 p.col]] u w fun e u' w' => u' = u ∧ e = .returned (.tuple #[]) ∧ ∃ w0, Below w.heap.size w w0 ∧ w' = ((w0.setCell ⟨sp, 0, none⟩ (.int .i64 (Vz.nearP D.R D.C p).row)).setCell ⟨sp, 1, none⟩ (.int .i64 (Vz.nearP D.R D.C p).col)).setCell ⟨sp, 2, none⟩ (.bool false) := by
  have HSZ := Lib.hid (fun W (hb : Below w.heap.size w W) => ssize_p sp gp tp FG D pl W ((hb.block _ (block_lt hbox)).trans hbox) (hg.below hb))
  have HP := Lib.hid (near_pos D.R D.C p.row p.col)
  have HX := Lib.hid (fun W (hb : Below w.heap.size w W) => (hb.block _ (block_lt hbox)).trans hbox)
  clear hg hbox
  generalize hq : Vz.nearP D.R D.C p = q at *
  clear hq
  generalize p.row = pr at *
  generalize p.col = pc at *
  have HB : Hid (Below w.heap.size w (w.alloc (.cells #[.int .i64 pr, .int .i64 pc] 25)).drew) := (below1 _ _).drew
  have HN0 := Lib.hid (heap_alloc_new w (.cells #[.int .i64 pr, .int .i64 pc] 25))
  go_enter_d Tryz.func16, Tryz.ntmps16
  go_upto_region 2 with fail
  refine wp_region_noPanic ?_
  refine wp_region_k (S := fun W : World => Below w.heap.size w W ∧ W.heap[w.heap.size]? = some (.cells #[.int .i64 pr, .int .i64 pc] 25 (0, 0))) 4 (by kernel_rfl) (⟨HB.out, HN0.out⟩) (fun hHeld => ?_)
  refine kSK 0 hHeld ?_
  refine kSK 1 hHeld ?_
  refine kTK (v := ?_) 3 [] hHeld ?y3 ?_
  case y3 => (intro W hSw; obtain ⟨p0, p1, _⟩ := row2 hSw.2; go_simp; try with_reducible rfl)
  try refine kNK ?_
  refine kOK 2 fun KQ hKQ => ?_
  go_simp
  go_at_call 21
  refine (HSZ.out _ HB.out).mono ?_
  rintro e w1 ⟨rfl, hb1⟩
  have HB1 := Lib.hid (Below.later HB.out hb1 HB.out.size)
  have HX1 : Hid (w1.heap[w.heap.size]? = some (.cells #[.int .i64 pr, .int .i64 pc] 25 (0, 0))) := (hb1.block _ (block_lt HN0.out)).trans HN0.out
  go_wp2_with fail
  refine hKQ.out _ _ (⟨HB1.out, HX1.out⟩) ?_
  clear hHeld hKQ KQ
  intro hHeld
  try refine kNK ?_
  refine kPK 4 fun KQ hKQ => ?_
  go_simp
  go_at_call 42
  refine (HP.out _).mono ?_
  rintro e w2 ⟨rfl, hg2⟩
  have HB2 := Lib.hid (Below.later HB1.out hg2.below HB1.out.size)
  go_wp2_with fail
  refine hKQ.out _ _ ?_
  clear hKQ KQ
  try refine kNK ?_
  obtain ⟨c0, c1, c2, c3, c4, f0, f1, f2, _⟩ := row5' (HX.out _ HB2.out)
  refine kBK 5 ?_
  refine kBK 6 ?_
  refine kBK 7 ?_
  try refine kNK ?_
  refine kPK 8 fun KQ hKQ => ?_
  go_simp
  refine hKQ.out _ _ ?_
  clear hKQ KQ
  try refine kNK ?_
  refine wpAnyK_done (by kernel_rfl) ?_ _
  refine NoPanic.normal ?_
  go_wp2_with fail
  go_end0
  exact ⟨rfl, w2, HB2.out, rfl⟩
/-- The screen of another size. -/
def resizeS (S : Vz.Sr) (R C : Nat) : Vz.Sr := ⟨resD S.D R C Vz.Cl.blank, ⟨Vz.nearP R C S.pl.at_, false⟩, cutT C S.T⟩
theorem cutT_lt {z c : Nat} {T : Nat → Bool} (h : cutT z T c = true) : c < z := by
  unfold cutT at h
  rw [Bool.and_eq_true] at h
  exact of_decide_eq_true h.2
theorem Scr.mid {w w0 w1 w2 : World} {sp gp tp mb : Nat} {FG : Nat → Prop} {S : Vz.Sr} {D' : Vz.Gd} {C : Nat} {T' : Nat → Bool} (hA : ScrAt w sp gp tp mb FG S)
    (hb0 : Below w.heap.size w w0) (hg : GridTo w0 w1 gp FG D') (ht : TabsTo w1 w2 tp mb C T') : w2.heap[sp]? = some (.cells (scrB S.pl gp tp) 93 (0, 0)) ∧ ∃ FG', Grid w2 gp FG' D' := by
  obtain ⟨⟨FG', hg1, hFG⟩, hK1⟩ := hg
  obtain ⟨ht1, hK2⟩ := ht
  have hA0 := hA.below hb0
  have hs0 := hA0.lt (.inl rfl)
  have ht0 := hA0.lt (.inr (.inl rfl))
  have hm0 := hA0.lt (.inr (.inr (.inl rfl)))
  have hno : ∀ k, k < w0.heap.size → ¬ FG k → ¬ FG' k := fun k hk hn hf => by
    rcases hFG k hf with h | h
    · exact hn h
    · omega
  have hspT : ¬ (sp = tp ∨ sp = mb) := fun e => e.elim hA.spt hA.spm
  have hsz1 : w0.heap.size ≤ w1.heap.size := hK1.size
  have hgT : ∀ k, FG' k → ¬ (k = tp ∨ k = mb) := fun k hk e => e.elim (fun e => hno tp ht0 hA.ntp (e ▸ hk)) (fun e => hno mb hm0 hA.nmb (e ▸ hk))
  exact ⟨(hK2.block _ (by omega) hspT).trans ((hK1.block _ hs0 hA.nsp).trans hA0.box), FG', hg1.of_blocks fun k hk => hK2.block k (hg1.lt k hk) (hgT k hk)⟩
/-- The parts together: the grid, the stops and the cursor of another size. -/
theorem Scr.resized {w w0 w1 w2 w3 w4 : World} {sp gp tp mb : Nat} {FG F : Nat → Prop} {S : Vz.Sr} {R C : Nat} (hA : ScrAt w sp gp tp mb FG S) (hF : ∀ k, F k ↔ footS sp tp mb FG k) (hm : Vz.mayS R C = true)
    (hb0 : Below w.heap.size w w0) (hg : GridTo w0 w1 gp FG (resD S.D R C Vz.Cl.blank)) (ht : TabsTo w1 w2 tp mb C (cutT C S.T)) (hb3 : Below w2.heap.size w2 w3)
    (hw4 : w4 = ((w3.setCell ⟨sp, 0, none⟩ (.int .i64 (Vz.nearP R C S.pl.at_).row)).setCell ⟨sp, 1, none⟩ (.int .i64 (Vz.nearP R C S.pl.at_).col)).setCell ⟨sp, 2, none⟩ (.bool false)) : ScrTo w w4 sp F (resizeS S R C) := by
  obtain ⟨⟨FG', hg1, hFG⟩, hK1⟩ := hg
  obtain ⟨ht1, hK2⟩ := ht
  have hA0 := hA.below hb0
  have hs0 := hA0.lt (.inl rfl)
  have ht0 := hA0.lt (.inr (.inl rfl))
  have hm0 := hA0.lt (.inr (.inr (.inl rfl)))
  have hbl0 := hA0.blk.lt
  have hno : ∀ k, k < w0.heap.size → ¬ FG k → ¬ FG' k := fun k hk hn hf => by
    rcases hFG k hf with h | h
    · exact hn h
    · omega
  have hgb : ¬ FG 0 := fun hf => hA.nbl _ (.inr (.inr (.inr hf))) rfl
  have hspT : ¬ (sp = tp ∨ sp = mb) := fun e => e.elim hA.spt hA.spm
  have hsz1 : w0.heap.size ≤ w1.heap.size := hK1.size
  have hsz2 : w1.heap.size ≤ w2.heap.size := hK2.size
  have hbox2 : w2.heap[sp]? = some (.cells (scrB S.pl gp tp) 93 (0, 0)) := (hK2.block _ (by omega) hspT).trans ((hK1.block _ hs0 hA.nsp).trans hA0.box)
  have hbox3 := (hb3.block _ (by omega)).trans hbox2
  have hgT : ∀ k, FG' k → ¬ (k = tp ∨ k = mb) := fun k hk e => e.elim (fun e => hno tp ht0 hA.ntp (e ▸ hk)) (fun e => hno mb hm0 hA.nmb (e ▸ hk))
  have hg2 : Grid w2 gp FG' (resD S.D R C Vz.Cl.blank) := hg1.of_blocks fun k hk => hK2.block k (hg1.lt k hk) (hgT k hk)
  have hg3 := hg2.below hb3
  have ht3 : TabsAt w3 tp mb C (cutT C S.T) := ht1.below hb3
  have hblk : w3.heap[0]? = w0.heap[0]? := (hb3.block _ (by omega)).trans ((hK2.block _ (by omega) (fun e => e.elim (fun e => hA.nbl tp (.inr (.inl rfl)) e.symm) (fun e => hA.nbl mb (.inr (.inr (.inl rfl))) e.symm))).trans (hK1.block _ hbl0 hgb))
  have ho : ∀ k, k ≠ sp → w4.heap[k]? = w3.heap[k]? := fun k hk => by rw [hw4]; exact set_three_other _ _ _ _ _ hk
  have hin := Vz.nearP_in R C S.pl.at_ hm
  have hspG : ¬ FG' sp := hno _ hs0 hA.nsp
  have h4 : ScrAt w4 sp gp tp mb FG' (resizeS S R C) := by
    refine ⟨?_, hg3.of_blocks fun k hk => ho k (fun e => hspG (e ▸ hk)), ht3.of_blocks (ho _ hA.spt.symm) (ho _ hA.spm.symm), hin, hspG, hno _ ht0 hA.ntp, hno _ hm0 hA.nmb, hA.spt, hA.spm, hA.tpm, ?_, ?_⟩
    · rw [hw4]
      have h0 := heap_set_same hbox3 0 (.int .i64 (Vz.nearP R C S.pl.at_).row)
      have h1 := heap_set_same h0 1 (.int .i64 (Vz.nearP R C S.pl.at_).col)
      exact heap_set_same h1 2 (.bool false)
    · exact hA0.blk.of_block ((ho _ (hA.nbl sp (.inl rfl)).symm).trans hblk)
    · intro k hk
      rcases hk with rfl | rfl | rfl | hk
      · exact hA.nbl _ (.inl rfl)
      · exact hA.nbl _ (.inr (.inl rfl))
      · exact hA.nbl _ (.inr (.inr (.inl rfl)))
      · rcases hFG k hk with hk | hk
        · exact hA.nbl _ (.inr (.inr (.inr hk)))
        · omega
  have hFs : F sp := (hF sp).2 (.inl rfl)
  refine ⟨⟨footS sp tp mb FG', ⟨gp, tp, mb, FG', h4, fun k => Iff.rfl⟩, ?_⟩, ?_⟩
  · rintro k (rfl | rfl | rfl | hk)
    · exact .inl hFs
    · exact .inl ((hF _).2 (.inr (.inl rfl)))
    · exact .inl ((hF _).2 (.inr (.inr (.inl rfl))))
    · rcases hFG k hk with h | h
      · exact .inl ((hF _).2 (.inr (.inr (.inr h))))
      · exact .inr (Nat.le_trans hb0.size h)
  · have k0 : Keeps F w w0 := Keeps.of_below hb0
    have k1 : Keeps F w w1 := k0.trans hK1 fun k hk => .inl ((hF _).2 (.inr (.inr (.inr hk))))
    have k2 : Keeps F w w2 := k1.trans hK2 fun k hk => .inl (by rcases hk with rfl | rfl; exact (hF _).2 (.inr (.inl rfl)); exact (hF _).2 (.inr (.inr (.inl rfl))))
    have k3 : Keeps F w w3 := k2.trans (Keeps.of_below hb3 : Keeps F w2 w3) fun k hk => .inl hk
    rw [hw4]
    exact ((k3.setCell' (p := ⟨sp, 0, none⟩) hFs _).setCell' (p := ⟨sp, 1, none⟩) hFs _).setCell' (p := ⟨sp, 2, none⟩) hFs _
set_option maxRecDepth 100000 in
set_option maxHeartbeats 4000000 in
theorem scr_resize (sp : Nat) (F : Nat → Prop) (S : Vz.Sr) (R C : Nat) (w : World) (h : Scr w sp F S) (hm : Vz.mayS R C = true) : Calls Tryz.prog 37 #[.pointer (some ⟨sp, 0, none⟩), .agg #[.int .i64 R, .int .i64 C]] w fun e w' => e = .returned (.int .i64 0) ∧ ScrTo w w' sp F (resizeS S R C) := by
  obtain ⟨gp, tp, mb, FG, hA, hF, HC, hlt⟩ := h.held
  have hmm := (Vz.mayS_iff R C).1 hm
  have hC1 : 1 ≤ C ∧ C ≤ 255 := by omega
  have HGR := Lib.hid (fun W (hb : Below w.heap.size w W) => gresize_ok gp FG S.D R C Vz.Cl.blank W (hA.grid.below hb) hm)
  have HBL : Hid (∀ W, Below w.heap.size w W → _) := fun W (hb : Below w.heap.size w W) => ((hA.below hb).blk).cells
  have HA := Lib.hid hA
  have HF := Lib.hid hF
  have HM := Lib.hid hm
  have HC1 := Lib.hid hC1
  have HB0 : Hid (Below w.heap.size w (w.alloc (.cells #[.int .i64 R, .int .i64 C] 23)).drew) := (below1 _ _).drew
  have HN0 := Lib.hid (heap_alloc_new w (.cells #[.int .i64 R, .int .i64 C] 23))
  clear hA hF h hm hmm hC1
  go_enter_defers Tryz.func37, Tryz.ntmps37
  go_upto_region 3 with fail
  refine wp_region_noPanic ?_
  refine wp_region_k (S := fun W : World => Below w.heap.size w W ∧ W.heap[w.heap.size]? = some (.cells #[.int .i64 R, .int .i64 C] 23 (0, 0))) 6 (by kernel_rfl) (⟨HB0.out, HN0.out⟩) (fun hHeld => ?_)
  refine kSK 0 hHeld ?_
  refine kSK 1 hHeld ?_
  refine kSK 2 hHeld ?_
  refine kTK (v := ?_) 3 [] hHeld ?y4 ?_
  case y4 => (intro W hSw; obtain ⟨c0, c1, c2, c3, c4, _⟩ := HC.out _ hSw.1; obtain ⟨p0, p1, _⟩ := row2 hSw.2; obtain ⟨g0, g1, g2, g3⟩ := HBL.out _ hSw.1; go_simp; try with_reducible rfl)
  refine kTK (v := ?_) 4 [] hHeld ?y5 ?_
  case y5 => (intro W hSw; obtain ⟨c0, c1, c2, c3, c4, _⟩ := HC.out _ hSw.1; obtain ⟨p0, p1, _⟩ := row2 hSw.2; obtain ⟨g0, g1, g2, g3⟩ := HBL.out _ hSw.1; go_simp; try with_reducible rfl)
  try refine kNK ?_
  refine kTK (v := ?_) 5 [] hHeld ?y6 ?_
  case y6 => (intro W hSw; obtain ⟨c0, c1, c2, c3, c4, _⟩ := HC.out _ hSw.1; obtain ⟨p0, p1, _⟩ := row2 hSw.2; obtain ⟨g0, g1, g2, g3⟩ := HBL.out _ hSw.1; go_simp; try with_reducible rfl)
  try refine kNK ?_
  refine kPK 6 fun KQ hKQ => ?_
  go_simp
  go_at_call 62
  refine (HGR.out _ HB0.out).mono ?_
  rintro e w1 ⟨rfl, hg⟩
  have HG := Lib.hid hg
  clear hg
  go_wp2_with fail
  refine hKQ.out _ _ ?_
  clear hKQ KQ
  try refine kNK ?_
  refine kBK 7 ?_
  try refine kNK ?_
  refine wpAnyK_done (by kernel_rfl) ?_ _
  refine NoPanic.normal ?_
  have hA0 := HA.out.below HB0.out
  have hX1 : w1.heap[w.heap.size]? = some (.cells #[.int .i64 R, .int .i64 C] 23 (0, 0)) := (HG.out.out (block_lt HN0.out) (fun hk => by have := HA.out.grid.lt _ hk; omega)).trans HN0.out
  have hbox1 : w1.heap[sp]? = some (.cells (scrB S.pl gp tp) 93 (0, 0)) := (HG.out.out (hA0.lt (.inl rfl)) HA.out.nsp).trans hA0.box
  have htab1 : TabsAt w1 tp mb S.D.C S.T := hA0.tabs.of_blocks (HG.out.out (hA0.lt (.inr (.inl rfl))) HA.out.ntp) (HG.out.out (hA0.lt (.inr (.inr (.inl rfl)))) HA.out.nmb)
  have HX1 := Lib.hid hX1
  have HBX := Lib.hid hbox1
  have HTR := Lib.hid (fun W (hb : Below w1.heap.size w1 W) => tresize_ok tp mb S.D.C C S.T W (htab1.below hb) HC1.out)
  obtain ⟨c0, c1, c2, c3, c4, _⟩ := row5' hbox1
  clear hA0 hX1 hbox1 htab1
  go_upto_region 7 with fail
  clear c0 c1 c2 c3 c4
  have HSD : Hid (Below w1.heap.size w1 w1.drew) := (Below.refl _ _).drew
  refine wp_region_noPanic ?_
  refine wp_region_k (S := fun W : World => Below w1.heap.size w1 W) 6 (by kernel_rfl) (HSD.out) (fun hHeld => ?_)
  refine kSK 0 hHeld ?_
  refine kSK 1 hHeld ?_
  refine kSK 2 hHeld ?_
  refine kTK (v := ?_) 3 [] hHeld ?y4 ?_
  case y4 => (intro W hSw; obtain ⟨c0, c1, c2, c3, c4, _⟩ := row5' ((hSw.block _ (block_lt HBX.out)).trans HBX.out); obtain ⟨p0, p1, _⟩ := row2 ((hSw.block _ (block_lt HX1.out)).trans HX1.out); go_simp; try with_reducible rfl)
  refine kSK 4 hHeld ?_
  try refine kNK ?_
  refine kTK (v := ?_) 5 [] hHeld ?y6 ?_
  case y6 => (intro W hSw; obtain ⟨c0, c1, c2, c3, c4, _⟩ := row5' ((hSw.block _ (block_lt HBX.out)).trans HBX.out); obtain ⟨p0, p1, _⟩ := row2 ((hSw.block _ (block_lt HX1.out)).trans HX1.out); go_simp; try with_reducible rfl)
  try refine kNK ?_
  refine kPK 6 fun KQ hKQ => ?_
  go_simp
  go_at_call 63
  refine (HTR.out _ HSD.out).mono ?_
  rintro e w2 ⟨rfl, ht⟩
  have HT := Lib.hid ht
  clear ht
  go_wp2_with fail
  refine hKQ.out _ _ ?_
  clear hKQ KQ
  try refine kNK ?_
  refine kBK 7 ?_
  try refine kNK ?_
  refine wpAnyK_done (by kernel_rfl) ?_ _
  refine NoPanic.normal ?_
  go_wp2_with fail
  have hgd : GridTo (w.alloc (.cells #[.int .i64 R, .int .i64 C] 23)).drew w1.drew gp FG (resD S.D R C Vz.Cl.blank) := HG.out.later HSD.out
  obtain ⟨hbox2, FG', hg2⟩ := Scr.mid HA.out HB0.out hgd HT.out
  refine leaves_cons (f := 16) (args := #[.pointer (some ⟨sp, 0, none⟩), .agg #[.int .i64 S.pl.at_.row, .int .i64 S.pl.at_.col]]) (by simp) (by simp [go_sem]) ?_
  refine (smove_d sp gp tp FG' (resD S.D R C Vz.Cl.blank) S.pl S.pl.at_ .returning w2 hbox2 hg2).mono ?_
  rintro e u' w'' ⟨rfl, rfl, w3, hb3, hw⟩
  exact ⟨.int .i64 0, by simp [results, Tryz.results37, go_sem], rfl, Scr.resized HA.out HF.out HM.out HB0.out hgd HT.out hb3 hw⟩
set_option maxRecDepth 100000 in
set_option maxHeartbeats 4000000 in
theorem scr_resize_no (sp : Nat) (F : Nat → Prop) (S : Vz.Sr) (R C : Int) (w : World) (h : Scr w sp F S) (hm : Vz.mayS R C = false) : Calls Tryz.prog 37 #[.pointer (some ⟨sp, 0, none⟩), .agg #[.int .i64 R, .int .i64 C]] w fun e w' => e = .returned (.int .i64 10) ∧ Below w.heap.size w w' := by
  obtain ⟨gp, tp, mb, FG, hA, hF, HC, hlt⟩ := h.held
  have HGR := Lib.hid (fun W (hb : Below w.heap.size w W) => gresize_no gp R C Vz.Cl.blank W hm)
  have HBL : Hid (∀ W, Below w.heap.size w W → _) := fun W (hb : Below w.heap.size w W) => ((hA.below hb).blk).cells
  have HB0 : Hid (Below w.heap.size w (w.alloc (.cells #[.int .i64 R, .int .i64 C] 23)).drew) := (below1 _ _).drew
  have HN0 := Lib.hid (heap_alloc_new w (.cells #[.int .i64 R, .int .i64 C] 23))
  clear hA hF h hm
  go_enter_defers Tryz.func37, Tryz.ntmps37
  go_upto_region 3 with fail
  refine wp_region_noPanic ?_
  refine wp_region_k (S := fun W : World => Below w.heap.size w W ∧ W.heap[w.heap.size]? = some (.cells #[.int .i64 R, .int .i64 C] 23 (0, 0))) 6 (by kernel_rfl) (⟨HB0.out, HN0.out⟩) (fun hHeld => ?_)
  refine kSK 0 hHeld ?_
  refine kSK 1 hHeld ?_
  refine kSK 2 hHeld ?_
  refine kTK (v := ?_) 3 [] hHeld ?y4 ?_
  case y4 => (intro W hSw; obtain ⟨c0, c1, c2, c3, c4, _⟩ := HC.out _ hSw.1; obtain ⟨p0, p1, _⟩ := row2 hSw.2; obtain ⟨g0, g1, g2, g3⟩ := HBL.out _ hSw.1; go_simp; try with_reducible rfl)
  refine kTK (v := ?_) 4 [] hHeld ?y5 ?_
  case y5 => (intro W hSw; obtain ⟨c0, c1, c2, c3, c4, _⟩ := HC.out _ hSw.1; obtain ⟨p0, p1, _⟩ := row2 hSw.2; obtain ⟨g0, g1, g2, g3⟩ := HBL.out _ hSw.1; go_simp; try with_reducible rfl)
  try refine kNK ?_
  refine kTK (v := ?_) 5 [] hHeld ?y6 ?_
  case y6 => (intro W hSw; obtain ⟨c0, c1, c2, c3, c4, _⟩ := HC.out _ hSw.1; obtain ⟨p0, p1, _⟩ := row2 hSw.2; obtain ⟨g0, g1, g2, g3⟩ := HBL.out _ hSw.1; go_simp; try with_reducible rfl)
  try refine kNK ?_
  refine kPK 6 fun KQ hKQ => ?_
  go_simp
  go_at_call 62
  refine (HGR.out _ HB0.out).mono ?_
  rintro e w1 ⟨rfl, hb1⟩
  have HB1 := Lib.hid (Below.later HB0.out hb1 HB0.out.size)
  clear hb1
  go_wp2_with fail
  refine hKQ.out _ _ ?_
  clear hKQ KQ
  try refine kNK ?_
  refine kBK 7 ?_
  try refine kNK ?_
  refine wpAnyK_done (by kernel_rfl) ?_ _
  refine NoPanic.normal ?_
  go_wp2_with fail
  exact ⟨.int .i64 10, by simp [results, Tryz.results37, go_sem], rfl, HB1.out⟩
end Go.Proofs.YtliacdaddncmaaaGreatDoor
