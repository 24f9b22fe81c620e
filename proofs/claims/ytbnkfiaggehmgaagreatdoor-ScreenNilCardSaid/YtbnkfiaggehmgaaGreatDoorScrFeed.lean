/- Walks: a screen's Feed. -/
import Derived.Test.YtbnkfiaggehmgaaGreatDoorScrPut
import Derived.Test.YtbnkfiaggehmgaaGreatDoorMinMax
namespace Vz
def cutF (n : Int) : Int := max (-510) (min n 510)
/-- By how many the lines move when the cursor goes n lines on from a row. -/
def overF (R : Nat) (row n : Int) : Int := row + n - max 0 (min (row + n) ((R : Int) - 1))
end Vz
namespace Go.Proofs.YtbnkfiaggehmgaaGreatDoor
open Go.RowKit
set_option linter.unusedSimpArgs false
set_option linter.unusedVariables false
attribute [local go_sem] alloc_drewN setCell_drewN World.cell?_alloc_some frozen_alloc_some size_f0 size_f1
attribute [local go_sem 3000] run_min_z run_max_z

/-- A screen behind Feed. -/
def feedS (S : Vz.Sr) (n : Int) : Vz.Sr := { S with D := S.D.roll 0 (S.D.R - 1) (Vz.overF S.D.R S.pl.at_.row (Vz.cutF n)) Vz.Cl.blank, pl := Vz.stepP S.D.R S.D.C S.pl (Vz.cutF n) 0 }
theorem cutF_in (n : Int) : -510 ≤ Vz.cutF n ∧ Vz.cutF n ≤ 510 := by unfold Vz.cutF; omega
theorem overF_in (R : Nat) (row n : Int) (h1 : 1 ≤ R ∧ R ≤ 255) (h2 : 0 ≤ row ∧ row < R) (h3 : -510 ≤ n ∧ n ≤ 510) : -1000 ≤ Vz.overF R row n ∧ Vz.overF R row n ≤ 1000 := by unfold Vz.overF; omega
set_option maxRecDepth 100000 in
set_option maxHeartbeats 4000000 in
theorem scr_feed (sp : Nat) (F : Nat → Prop) (S : Vz.Sr) (n : Int) (w : World) (h : Scr w sp F S) : Calls Tryz.prog 31 #[.pointer (some ⟨sp, 0, none⟩), .int .i64 n] w fun e w' => e = .returned (.tuple #[]) ∧ ScrTo w w' sp F (feedS S n) := by
  obtain ⟨gp, tp, mb, FG, hA, hF, HC, hlt⟩ := h.held
  have hcn := cutF_in n
  have hh := hA.here
  obtain ⟨m1, m2, m3, m4⟩ := hA.grid.may
  have ho := overF_in S.D.R S.pl.at_.row (Vz.cutF n) ⟨m1, m2⟩ ⟨hh.1, hh.2.1⟩ hcn
  have hr1 : 0 ≤ S.pl.at_.row := hh.1
  have hr2 : S.pl.at_.row ≤ 254 := by have := hh.2.1; omega
  have hm1 : -510 ≤ Vz.cutF n := hcn.1
  have hm2 : Vz.cutF n ≤ 510 := hcn.2
  have w2 : IntKind.i64.wrap ((S.D.R : Int) - 1) = (S.D.R : Int) - 1 := wrap_in (by omega) (by omega)
  have w3 : IntKind.i64.wrap (S.pl.at_.row + Vz.cutF n - maxZ 0 (minZ (S.pl.at_.row + Vz.cutF n) ((S.D.R : Int) - 1))) = Vz.overF S.D.R S.pl.at_.row (Vz.cutF n) := wrap_in (by show -9223372036854775808 ≤ Vz.overF S.D.R S.pl.at_.row (Vz.cutF n); omega) (by show Vz.overF S.D.R S.pl.at_.row (Vz.cutF n) < 9223372036854775808; omega)
  have hcut : maxZ (-510) (minZ n 510) = Vz.cutF n := rfl
  have HSZ := Lib.hid (scr_size sp F S w h)
  have HUP := Lib.hid (fun W (hb : Below w.heap.size w W) => up_ok gp FG S.D (Vz.overF S.D.R S.pl.at_.row (Vz.cutF n)) Vz.Cl.blank W (hA.grid.below hb) (by omega))
  have HBL : Hid (∀ W, Below w.heap.size w W → _) := fun W (hb : Below w.heap.size w W) => ((hA.below hb).blk).cells
  have HA := Lib.hid (fun W (hb : Below w.heap.size w W) => hA.below hb)
  have HF := Lib.hid hF
  have HE : Hid (feedS S n = { S with D := S.D.roll 0 (S.D.R - 1) (Vz.overF S.D.R S.pl.at_.row (Vz.cutF n)) Vz.Cl.blank, pl := Vz.stepP S.D.R S.D.C S.pl (Vz.cutF n) 0 }) := rfl
  obtain ⟨c0, c1, c2, c3, c4, f0, f1, f2⟩ := HC.out _ (Below.refl _ w)
  clear hA hF h hcn hh ho m1 m2 m3 m4
  rw [HE.out]
  clear HE
  generalize Vz.overF S.D.R S.pl.at_.row (Vz.cutF n) = k at *
  generalize Vz.cutF n = m at *
  go_enter_defers Tryz.func31, Tryz.ntmps31
  go_upto_region 5 with (go_at_call 16; refine HSZ.out.mono ?_; rintro e w1 ⟨rfl, hb1⟩; have HB1 := Lib.hid hb1; clear hb1; have HBD : Hid (Below w.heap.size w w1.drew) := HB1.out.drew)
  clear c0 c1 c2 c3 c4 f0 f1 f2
  refine wp_region_noPanic ?_
  refine wp_region_k (S := fun W : World => Below w.heap.size w W) 11 (by kernel_rfl) (HBD.out) (fun hHeld => ?_)
  refine wpAnyK_pure (i := 0) (v := ?_) rfl rfl (by kernel_rfl) (by kernel_rfl) (by kernel_rfl) (by kernel_rfl) (fun _ _ _ h => h) (Or.inl ⟨by rfl, ?hy1⟩) (fun _ => hHeld) ?_
  case hy1 => (intro W hSw; refine Or.inl ?_; go_simp; try with_reducible rfl)
  try simp only [Act.put, List.getElem_toArray, List.getElem_cons_zero, List.getElem_cons_succ, List.setIfInBounds_toArray, List.set_cons_zero, List.set_cons_succ]
  refine wpAnyK_pure (i := 1) (v := ?_) rfl rfl (by kernel_rfl) (by kernel_rfl) (by kernel_rfl) (by kernel_rfl) (fun _ _ _ h => h) (Or.inl ⟨by rfl, ?hy2⟩) (fun _ => hHeld) ?_
  case hy2 => (intro W hSw; refine Or.inl ?_; go_simp; try with_reducible rfl)
  try simp only [Act.put, List.getElem_toArray, List.getElem_cons_zero, List.getElem_cons_succ, List.setIfInBounds_toArray, List.set_cons_zero, List.set_cons_succ]
  refine wpAnyK_pure (i := 2) (v := ?_) rfl rfl (by kernel_rfl) (by kernel_rfl) (by kernel_rfl) (by kernel_rfl) (fun _ _ _ h => h) (Or.inl ⟨by rfl, ?hy3⟩) (fun _ => hHeld) ?_
  case hy3 => (intro W hSw; refine Or.inl ?_; go_simp; try with_reducible rfl)
  try simp only [Act.put, List.getElem_toArray, List.getElem_cons_zero, List.getElem_cons_succ, List.setIfInBounds_toArray, List.set_cons_zero, List.set_cons_succ]
  refine wpAnyK_take (i := 3) (v := ?_) [] rfl (by kernel_rfl) rfl (by kernel_rfl) (by kernel_rfl) (by kernel_rfl) (by kernel_rfl) (fun _ _ _ h => h) (Or.inl ⟨by rfl, ?hy4⟩) hHeld ?_
  case hy4 => (intro W hSw; refine Or.inl ?_; obtain ⟨c0, c1, c2, c3, c4, _⟩ := HC.out _ hSw; obtain ⟨g0, g1, g2, g3⟩ := HBL.out _ hSw; go_simp; try with_reducible rfl)
  try simp only [Act.put, List.getElem_toArray, List.getElem_cons_zero, List.getElem_cons_succ, List.setIfInBounds_toArray, List.set_cons_zero, List.set_cons_succ]
  refine wpAnyK_pure (i := 4) (v := ?_) rfl rfl (by kernel_rfl) (by kernel_rfl) (by kernel_rfl) (by kernel_rfl) (fun _ _ _ h => h) (Or.inl ⟨by rfl, ?hy5⟩) (fun _ => hHeld) ?_
  case hy5 => (intro W hSw; refine Or.inl ?_; go_simp; try with_reducible rfl)
  try simp only [Act.put, List.getElem_toArray, List.getElem_cons_zero, List.getElem_cons_succ, List.setIfInBounds_toArray, List.set_cons_zero, List.set_cons_succ]
  refine wpAnyK_pure (i := 5) (v := ?_) rfl rfl (by kernel_rfl) (by kernel_rfl) (by kernel_rfl) (by kernel_rfl) (fun _ _ _ h => h) (Or.inl ⟨by rfl, ?hy6⟩) (fun _ => hHeld) ?_
  case hy6 => (intro W hSw; refine Or.inl ?_; go_simp; try with_reducible rfl)
  try simp only [Act.put, List.getElem_toArray, List.getElem_cons_zero, List.getElem_cons_succ, List.setIfInBounds_toArray, List.set_cons_zero, List.set_cons_succ]
  refine wpAnyK_pure (i := 6) (v := ?_) rfl rfl (by kernel_rfl) (by kernel_rfl) (by kernel_rfl) (by kernel_rfl) (fun _ _ _ h => h) (Or.inl ⟨by rfl, ?hy7⟩) (fun _ => hHeld) ?_
  case hy7 => (intro W hSw; refine Or.inl ?_; go_simp; try with_reducible rfl)
  try simp only [Act.put, List.getElem_toArray, List.getElem_cons_zero, List.getElem_cons_succ, List.setIfInBounds_toArray, List.set_cons_zero, List.set_cons_succ]
  refine wpAnyK_pure (i := 7) (v := ?_) rfl rfl (by kernel_rfl) (by kernel_rfl) (by kernel_rfl) (by kernel_rfl) (fun _ _ _ h => h) (Or.inl ⟨by rfl, ?hy8⟩) (fun _ => hHeld) ?_
  case hy8 => (intro W hSw; refine Or.inl ?_; go_simp; try with_reducible rfl)
  try simp only [Act.put, List.getElem_toArray, List.getElem_cons_zero, List.getElem_cons_succ, List.setIfInBounds_toArray, List.set_cons_zero, List.set_cons_succ]
  refine wpAnyK_pure (i := 8) (v := ?_) rfl rfl (by kernel_rfl) (by kernel_rfl) (by kernel_rfl) (by kernel_rfl) (fun _ _ _ h => h) (Or.inl ⟨by rfl, ?hy9⟩) (fun _ => hHeld) ?_
  case hy9 => (intro W hSw; refine Or.inl ?_; go_simp; try with_reducible rfl)
  try simp only [Act.put, List.getElem_toArray, List.getElem_cons_zero, List.getElem_cons_succ, List.setIfInBounds_toArray, List.set_cons_zero, List.set_cons_succ]
  refine wpAnyK_pure (i := 9) (v := ?_) rfl rfl (by kernel_rfl) (by kernel_rfl) (by kernel_rfl) (by kernel_rfl) (fun _ _ _ h => h) (Or.inl ⟨by rfl, ?hy10⟩) (fun _ => hHeld) ?_
  case hy10 => (intro W hSw; refine Or.inl ?_; go_simp; try with_reducible rfl)
  try simp only [Act.put, List.getElem_toArray, List.getElem_cons_zero, List.getElem_cons_succ, List.setIfInBounds_toArray, List.set_cons_zero, List.set_cons_succ]
  refine wpAnyK_take (i := 10) (v := ?_) [] rfl (by kernel_rfl) rfl (by kernel_rfl) (by kernel_rfl) (by kernel_rfl) (by kernel_rfl) (fun _ _ _ h => h) (Or.inl ⟨by rfl, ?hy11⟩) hHeld ?_
  case hy11 => (intro W hSw; refine Or.inl ?_; obtain ⟨c0, c1, c2, c3, c4, _⟩ := HC.out _ hSw; obtain ⟨g0, g1, g2, g3⟩ := HBL.out _ hSw; go_simp; try with_reducible rfl)
  try simp only [Act.put, List.getElem_toArray, List.getElem_cons_zero, List.getElem_cons_succ, List.setIfInBounds_toArray, List.set_cons_zero, List.set_cons_succ]
  refine wpAnyK_ready (rs := [11]) (by kernel_rfl) (by simp) ?_
  refine AllReadyK.free rfl (by kernel_rfl) (fun KQ hKQ => ?_) AllReadyK.nil
  go_simp
  go_at_call 69
  refine (HUP.out _ HBD.out).mono ?_
  rintro e w6 ⟨rfl, hg⟩
  have HG := Lib.hid hg
  clear hg
  go_wp2_with fail
  refine hKQ.out _ _ ?_
  clear hKQ KQ
  try simp only [Act.put, List.getElem_toArray, List.getElem_cons_zero, List.getElem_cons_succ, List.setIfInBounds_toArray, List.set_cons_zero, List.set_cons_succ]
  refine wpAnyK_done (by kernel_rfl) ?_ _
  refine NoPanic.normal ?_
  go_wp2_with fail
  have hto : ScrTo w w6 sp F { S with D := S.D.roll 0 (S.D.R - 1) k Vz.Cl.blank } := ScrTo.after HBD.out (Scr.gridTo (HA.out _ HBD.out) HF.out HG.out rfl rfl)
  obtain ⟨⟨F6, h6, hF6⟩, hK6⟩ := hto
  refine leaves_cons (f := 34) (args := #[.pointer (some ⟨sp, 0, none⟩), .int .i64 m, .int .i64 0]) (by simp) (by simp [go_sem]) ?_
  refine (scr_step_d sp F6 _ m 0 .returning w6 h6).mono ?_
  rintro e u' w'' ⟨rfl, rfl, h⟩
  exact ⟨_, results_none rfl _ _ _, rfl, ScrTo.link hF6 hK6 h⟩
end Go.Proofs.YtbnkfiaggehmgaaGreatDoor
