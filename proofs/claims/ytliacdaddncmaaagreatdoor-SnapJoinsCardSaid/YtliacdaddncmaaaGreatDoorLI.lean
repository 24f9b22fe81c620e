import Derived.Test.YtliacdaddncmaaaGreatDoorLH
import Derived.Test.YtliacdaddncmaaaGreatDoorLA
import Derived.Carry

/- Walks: a screen's Feed. -/
namespace Vz
def cutF (n : Int) : Int := max (-510) (min n 510)
/-- By how many the lines move when the cursor goes n lines on from a row. -/
def overF (R : Nat) (row n : Int) : Int := row + n - max 0 (min (row + n) ((R : Int) - 1))
end Vz
namespace Go.Proofs.YtliacdaddncmaaaGreatDoor
open Go.RowKit
set_option linter.unusedSimpArgs false
set_option linter.unusedVariables false
attribute [local go_sem] alloc_drewN setCell_drewN World.cell?_alloc_some frozen_alloc_some size_f0 size_f1
attribute [local go_sem 3000] run_min_z run_max_z

/-- A screen behind Feed. -/
def feedS (S : Vz.Sr) (n : Int) : Vz.Sr := { S with D := S.D.roll 0 (S.D.R - 1) (Vz.overF S.D.R S.pl.at_.row (Vz.cutF n)) Vz.Cl.blank, pl := Vz.stepP S.D.R S.D.C S.pl (Vz.cutF n) 0 }
theorem cutF_in (n : Int) : -510 ≤ Vz.cutF n ∧ Vz.cutF n ≤ 510 := by unfold Vz.cutF; omega
theorem overF_in (R : Nat) (row n : Int) (h1 : 1 ≤ R ∧ R ≤ 255) (h2 : 0 ≤ row ∧ row < R) (h3 : -510 ≤ n ∧ n ≤ 510) : -1000 ≤ Vz.overF R row n ∧ Vz.overF R row n ≤ 1000 := by unfold Vz.overF; omega
end Go.Proofs.YtliacdaddncmaaaGreatDoor

/- Walks: tabs.New, screen.New. -/
namespace Go.Proofs.YtliacdaddncmaaaGreatDoor
open Go.RowKit
set_option linter.unusedSimpArgs false
set_option linter.unusedVariables false
attribute [local go_sem] alloc_drewN setCell_drewN World.cell?_alloc_some frozen_alloc_some size_f0 size_f1

def noStops : Nat → Bool := fun _ => false
theorem stops_none (C : Nat) : stopsD C noStops = .map [] := by
  unfold stopsD Vz.stopsL noStops
  simp
set_option maxRecDepth 10000 in
set_option maxHeartbeats 2000000 in
theorem tnew_ok (C : Nat) (h1 : 1 ≤ C) (h2 : C ≤ 255) (w : World) : Calls Tryz.prog 57 #[.int .i64 C] w fun e w' => e = .returned (.tuple #[.pointer (some ⟨w.heap.size + 1, 0, none⟩), .int .i64 0]) ∧ (w.alloc (.map #[] 0)).alloc (.cells #[.int .i64 C, .map (some w.heap.size)] 130) = w' := by
  have hmm := @run_makeMap Tryz.prog
  have hc1 : (1 : Int) ≤ (C : Int) := by omega
  have hc2 : (C : Int) ≤ 255 := by omega
  go_enter Tryz.func57, Tryz.ntmps57
  go_wp2_with fail
  go_ret2
  exact ⟨rfl, rfl⟩
theorem tabs_new (w : World) (C : Nat) : TabsAt ((w.alloc (.map #[] 0)).alloc (.cells #[.int .i64 C, .map (some w.heap.size)] 130)) (w.heap.size + 1) w.heap.size C noStops := by
  refine ⟨?_, ?_, fun c hc => by cases hc⟩
  · have := heap_alloc_new (w.alloc (.map #[] 0)) (.cells #[.int .i64 C, .map (some w.heap.size)] 130)
    rwa [World.size_alloc] at this
  · rw [stops_none]
    exact ((World.ownsMap_made w _ _ _).alloc _).mono (Nat.zero_le _)
/-- A new screen. -/
def newS (R C : Nat) : Vz.Sr := ⟨Vz.Gd.new R C Vz.Cl.blank, Vz.Pl.nil, noStops⟩
theorem scr_new_at {w w1 : World} {gp R C : Nat} {FG : Nat → Prop} (hm : (Vz.Gd.new R C Vz.Cl.blank).may) (hb : Blanked w) (hG : Grid w1 gp FG (Vz.Gd.new R C Vz.Cl.blank)) (hge : ∀ k, FG k → w.heap.size ≤ k) (hB : Below w.heap.size w w1) :
    ScrAt (((w1.alloc (.map #[] 0)).alloc (.cells #[.int .i64 C, .map (some w1.heap.size)] 130)).alloc (.cells (scrB Vz.Pl.nil gp (w1.heap.size + 1)) 93)) (w1.heap.size + 1 + 1) gp (w1.heap.size + 1) w1.heap.size FG (newS R C) := by
  have hlt := hG.lt
  have hB1 := hB.size
  have hB3 : Below w1.heap.size w1 (((w1.alloc (.map #[] 0)).alloc (.cells #[.int .i64 C, .map (some w1.heap.size)] 130)).alloc (.cells (scrB Vz.Pl.nil gp (w1.heap.size + 1)) 93)) := Grows.below ((((Grows.refl _).alloc _).alloc _).alloc _)
  have hbl := hb.lt
  have hT := tabs_new w1 C
  refine ⟨?_, hG.below hB3, hT.of_blocks (Below.heap_alloc _ _ _ hT.lt.1) (Below.heap_alloc _ _ _ hT.lt.2), ?_, fun h => by have := hlt _ h; omega, fun h => by have := hlt _ h; omega, fun h => by have := hlt _ h; omega, by omega, by omega, by omega, (hb.below hB).below hB3, fun k hk => ?_⟩
  · have := heap_alloc_new ((w1.alloc (.map #[] 0)).alloc (.cells #[.int .i64 C, .map (some w1.heap.size)] 130)) (.cells (scrB Vz.Pl.nil gp (w1.heap.size + 1)) 93)
    simp only [World.size_alloc] at this
    exact this
  · obtain ⟨a1, a2, a3, a4⟩ := hm
    have b1 : 1 ≤ R := a1
    have b3 : 1 ≤ C := a3
    exact ⟨Int.le_refl _, by show (0 : Int) < (R : Int); omega, Int.le_refl _, by show (0 : Int) < (C : Int); omega⟩
  · rcases hk with rfl | rfl | rfl | hk
    · omega
    · omega
    · omega
    · have := hge k hk
      omega
/-- A screen that the call has made: its blocks are new ones. -/
def NewScr (w w' : World) (sp : Nat) (S : Vz.Sr) : Prop := (∃ F, Scr w' sp F S ∧ ∀ k, F k → w.heap.size ≤ k) ∧ Below w.heap.size w w'
set_option maxRecDepth 10000 in
set_option maxHeartbeats 2000000 in
theorem scr_new (R C : Nat) (h : Vz.mayS R C = true) (w : World) (hbl : Blanked w) : Calls Tryz.prog 33 #[.agg #[.int .i64 R, .int .i64 C]] w fun e w' => ∃ sp, e = .returned (.tuple #[.pointer (some ⟨sp, 0, none⟩), .int .i64 0]) ∧ NewScr w w' sp (newS R C) := by
  have hm := (Vz.mayS_iff R C).1 h
  have hmay : (Vz.Gd.new R C Vz.Cl.blank).may := by unfold Vz.Gd.may Vz.Gd.new; simp only; omega
  have HM := Lib.hid hmay
  have HBK := Lib.hid hbl
  have HB0 : Hid (Below w.heap.size w (w.alloc (.cells #[.int .i64 R, .int .i64 C] 23))) := below1 _ _
  have HN := Lib.hid (gnew_ok R C Vz.Cl.blank h (w.alloc (.cells #[.int .i64 R, .int .i64 C] 23)))
  have HTN := Lib.hid (tnew_ok C (by omega) (by omega))
  obtain ⟨g0, g1, g2, g3⟩ := (hbl.below HB0.out).cells
  have HX := Lib.hid (heap_alloc_new w (.cells #[.int .i64 R, .int .i64 C] 23))
  have hlt0 : w.heap.size < (w.alloc (.cells #[.int .i64 R, .int .i64 C] 23)).heap.size := block_lt HX.out
  clear h hbl hmay hm
  go_enter Tryz.func33, Tryz.ntmps33
  go_wp2_with (first
    | (go_at_call 56; refine HN.out.mono ?_; rintro e w1 ⟨gp, FG, rfl, hG, hge, hb1⟩; obtain ⟨s0, s1, _⟩ := row2 ((hb1.block _ hlt0).trans HX.out); have HG := Lib.hid hG; have HGE : Hid (∀ k, FG k → w.heap.size ≤ k) := (fun k hk => Nat.le_trans (Nat.le_of_lt hlt0) (hge k hk)); have HB1 := Lib.hid (Below.later HB0.out hb1 HB0.out.size); clear hG hge hb1 g0 g1 g2 g3)
    | (go_at_call 57; refine (HTN.out _).mono ?_; rintro e w2 ⟨rfl, rfl⟩))
  go_ret2
  refine ⟨_, rfl, ⟨_, ⟨gp, _, _, FG, scr_new_at HM.out HBK.out HG.out HGE.out HB1.out, fun k => Iff.rfl⟩, fun k hk => ?_⟩, ?_⟩
  · have := HB1.out.size
    rcases hk with rfl | rfl | rfl | hk
    · omega
    · omega
    · omega
    · exact HGE.out k hk
  · exact Below.later HB1.out (Grows.below ((((Grows.refl _).alloc _).alloc _).alloc _)) HB1.out.size
set_option maxRecDepth 10000 in
set_option maxHeartbeats 2000000 in
theorem scr_new_no (r c : Int) (h : Vz.mayS r c = false) (w : World) (hbl : Blanked w) : Calls Tryz.prog 33 #[.agg #[.int .i64 r, .int .i64 c]] w fun e w' => e = .returned (.tuple #[.pointer none, .int .i64 10]) ∧ Below w.heap.size w w' := by
  have HB0 : Hid (Below w.heap.size w (w.alloc (.cells #[.int .i64 r, .int .i64 c] 23))) := below1 _ _
  have HN := Lib.hid (gnew_no r c Vz.Cl.blank h (w.alloc (.cells #[.int .i64 r, .int .i64 c] 23)))
  obtain ⟨g0, g1, g2, g3⟩ := (hbl.below HB0.out).cells
  clear h hbl
  go_enter Tryz.func33, Tryz.ntmps33
  go_wp2_with (go_at_call 56; refine HN.out.mono ?_; rintro e w1 ⟨rfl, hb1⟩)
  go_ret2
  exact ⟨rfl, Below.later HB0.out hb1 HB0.out.size⟩
end Go.Proofs.YtliacdaddncmaaaGreatDoor

/- What a screen that is new is behind calls; a put without guard. -/
namespace Go.Proofs.YtliacdaddncmaaaGreatDoor
open Go.RowKit
set_option linter.unusedSimpArgs false
set_option linter.unusedVariables false
attribute [local go_sem] alloc_drewN setCell_drewN World.cell?_alloc_some frozen_alloc_some size_f0 size_f1

/-- A screen behind a put without guard. -/
def putS (S : Vz.Sr) (c : Vz.Cl) (wrap : Int) : Vz.Sr := { S with D := (putD S.D S.pl c wrap Vz.Cl.blank).1, pl := (putD S.D S.pl c wrap Vz.Cl.blank).2 }
theorem NewScr.next {w w1 w2 : World} {sp : Nat} {S S' : Vz.Sr} (h : NewScr w w1 sp S) (h' : ∀ F, Scr w1 sp F S → ScrTo w1 w2 sp F S') : NewScr w w2 sp S' := by
  obtain ⟨⟨F, h1, h2⟩, h3⟩ := h
  obtain ⟨⟨F', h4, h5⟩, h6⟩ := h' F h1
  have hF' : ∀ k, F' k → w.heap.size ≤ k := fun k hk => by
    rcases h5 k hk with h | h
    · exact h2 k h
    · have := h3.size
      omega
  exact ⟨⟨F', h4, hF'⟩, h3.trans (h6.below h2 h3.size)⟩
theorem NewScr.below {w w1 w2 : World} {sp : Nat} {S : Vz.Sr} (h : NewScr w w1 sp S) (hb : Below w1.heap.size w1 w2) : NewScr w w2 sp S := by
  obtain ⟨⟨F, h1, h2⟩, h3⟩ := h
  exact ⟨⟨F, h1.below hb, h2⟩, Below.later h3 hb h3.size⟩
theorem NewScr.link {w w1 w2 : World} {sp : Nat} {F : Nat → Prop} {S' : Vz.Sr} (h2 : ∀ k, F k → w.heap.size ≤ k) (h3 : Below w.heap.size w w1) (h : ScrTo w1 w2 sp F S') : NewScr w w2 sp S' := by
  obtain ⟨⟨F', h4, h5⟩, h6⟩ := h
  refine ⟨⟨F', h4, fun k hk => ?_⟩, h3.trans (h6.below h2 h3.size)⟩
  rcases h5 k hk with h | h
  · exact h2 k h
  · have := h3.size
    omega
end Go.Proofs.YtliacdaddncmaaaGreatDoor
