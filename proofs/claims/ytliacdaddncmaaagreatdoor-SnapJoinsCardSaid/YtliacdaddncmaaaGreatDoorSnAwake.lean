import Derived.Test.YtliacdaddncmaaaGreatDoorSnAwP
import Derived.Test.YtliacdaddncmaaaGreatDoorSnTake
import Derived.Test.YtliacdaddncmaaaGreatDoorSnPrB

/- Walks: the chapter's example (awake), over Print's contract. -/
namespace Go.Proofs.YtliacdaddncmaaaGreatDoor
open Go.RowKit
set_option linter.unusedSimpArgs false
set_option linter.unusedVariables false
attribute [local go_sem] alloc_drewN setCell_drewN World.cell?_alloc_some frozen_alloc_some size_f0 size_f1

theorem new_put {w w1 : World} {sp : Nat} {S : Vz.Sr} (c : Vz.Cl) (wrap : Int) (h : NewScr w w1 sp S) : Calls Tryz.prog 34 #[.pointer (some ⟨sp, 0, none⟩), .agg #[.int .i32 c.g, .int .i64 c.a, .bool c.gd, .int .i64 c.m], .int .i64 wrap, .bool false] w1 fun e w2 => e = .returned (.tuple #[]) ∧ NewScr w w2 sp (putS S c wrap) := by
  obtain ⟨⟨F, h1, h2⟩, h3⟩ := h
  exact (scr_put sp F S c wrap w1 h1).mono fun e w2 h' => ⟨h'.1, NewScr.link h2 h3 h'.2⟩
theorem new_take {w w1 : World} {sp : Nat} {S : Vz.Sr} (p : Int) (hp : nameB p ≠ []) (hx : ∀ i j, CellOk (S.D.X i j)) (h : NewScr w w1 sp S) : Calls Tryz.prog 6 #[.int .i64 p, .pointer (some ⟨sp, 0, none⟩)] w1 fun e w' => ∃ OB g cap sv G K G', e = .returned (.tuple #[.agg (shV ⟨p, S⟩ OB g cap sv), .int .i64 0]) ∧ ShP w1.heap.size w' ⟨p, S⟩ OB g cap sv G K G' ∧ Below w1.heap.size w1 w' := by
  obtain ⟨⟨F, h1, h2⟩, h3⟩ := h
  exact take_ok p hp sp F S hx w1 h1
set_option maxRecDepth 100000 in
set_option maxHeartbeats 4000000 in
theorem awake_of (hpr : PrintOk) (w : World) (hbl : Blanked w) (t : TypeId) (fr : Nat × Nat) (hg : w.heap[1]? = some (.cells names12a t fr)) : Calls Tryz.prog 11 #[] w fun e w' => e = .returned (.bool true) ∧ Below w.heap.size w w' := by
  have HN := Lib.hid (scr_new 1 3 (by decide) w hbl)
  have HPR := Lib.hid hpr
  have HG := Lib.hid (fun W (hb : Below w.heap.size w W) => (hb.block _ (block_lt hg)).trans hg)
  clear hpr hbl hg
  go_enter Tryz.func11, Tryz.ntmps11
  go_wp2_with (first
    | (go_at_call 34; refine (new_put ⟨98, 0, false, 0⟩ 1 HS2.out).mono ?_; rintro e w3 ⟨rfl, hs⟩; have HS3 : Hid (NewScr w w3 sp awS) := Lib.hid hs; clear hs)
    | (go_at_call 34; refine (new_put ⟨97, 0, false, 0⟩ 1 HS1.out).mono ?_; rintro e w2 ⟨rfl, hs⟩; have HS2 := Lib.hid hs; clear hs)
    | (go_at_call 33; refine HN.out.mono ?_; rintro e w1 ⟨sp, rfl, hs⟩; have HS1 := Lib.hid hs; clear hs))
  refine (new_take (S := awS) 1 (by decide) awS_ok HS3.out).mono ?_
  rintro e w4 ⟨OB, g, cap, sv, G, K, G', rfl, hsh, hb4⟩
  obtain ⟨sa, sc, hsv, -⟩ := stops_cell hsh.stops
  subst hsv
  generalize (stopsI (⟨1, awS⟩ : Sh).S.D.C (⟨1, awS⟩ : Sh).S.T).length = nl at *
  have HB4 := Lib.hid (Below.later HS3.out.2 hb4 HS3.out.2.size)
  have HB5 := Lib.hid (HB4.out.alloc HB4.out.size (.cells (shV ⟨1, awS⟩ OB g cap (.slice sa nl sc)) 30))
  have hp6 := HPR.out ⟨1, awS⟩ OB g cap _ G K G' w3.heap.size (w4.alloc (.cells (shV ⟨1, awS⟩ OB g cap (.slice sa nl sc)) 30)) (hsh.below (below1 _ _)) (by unfold Vz.Gd.may; decide) (by decide) (by decide) (by unfold Vz.Ps.inS; decide) awS_ok t fr (HG.out _ HB5.out)
  rw [awS_print] at hp6
  have HP6 := Lib.hid hp6
  clear hsh hb4 hp6
  unfold shV at *
  obtain ⟨⟨x0, x1, x2, x3, x4, x5, x6, x7, x8⟩, _⟩ := row9 (heap_alloc_new w4 (.cells (shV ⟨1, awS⟩ OB g cap (.slice sa nl sc)) 30))
  go_wp2_with (go_at_call 14; refine HP6.out.mono ?_; rintro e w6 ⟨rfl, hb6⟩; have HB6 := Lib.hid (Below.later HB5.out hb6 HB5.out.size); clear hb6)
  trace_state
  go_ret
  exact ⟨rfl, HB6.out⟩
end Go.Proofs.YtliacdaddncmaaaGreatDoor
