/- Walks: the chapter's example (awake). -/
import Derived.Test.YtbnkfiaggehmgaaGreatDoorScrNew
namespace Go.Proofs.YtbnkfiaggehmgaaGreatDoor
open Go.RowKit
set_option linter.unusedSimpArgs false
set_option linter.unusedVariables false
attribute [local go_sem] alloc_drewN setCell_drewN World.cell?_alloc_some frozen_alloc_some size_f0 size_f1

/-- A screen behind a put without guard. -/
def putS (S : Vz.Sr) (c : Vz.Cl) (wrap : Int) : Vz.Sr := { S with D := (putD S.D S.pl c wrap Vz.Cl.blank).1, pl := (putD S.D S.pl c wrap Vz.Cl.blank).2 }
/-- The example's screen behind so many glyphs. -/
def wakeS : Nat → Vz.Sr
  | 0 => newS 2 3
  | k + 1 => putS (wakeS k) ⟨97 + k, 0, false, 0⟩ 2
theorem wake_at : (wakeS 4).pl.at_ = ⟨1, 1⟩ := by decide +kernel
theorem wake_b : (feedS (wakeS 4) 1).pl.at_ = ⟨1, 1⟩ := by decide +kernel
theorem wake_c : atD (feedS (wakeS 4) 1).D ⟨0, 0⟩ = ⟨100, 0, false, 0⟩ := by decide +kernel
theorem wake_in : (⟨0, 0⟩ : Vz.Ps).inS (feedS (wakeS 4) 1).D.R (feedS (wakeS 4) 1).D.C := by
  unfold Vz.Ps.inS
  decide +kernel
theorem NewScr.next {w w1 w2 : World} {sp : Nat} {S S' : Vz.Sr} (h : NewScr w w1 sp S) (h' : ∀ F, Scr w1 sp F S → ScrTo w1 w2 sp F S') : NewScr w w2 sp S' := by
  obtain ⟨⟨F, h1, h2⟩, h3⟩ := h
  obtain ⟨⟨F', h4, h5⟩, h6⟩ := h' F h1
  have hF' : ∀ k, F' k → w.heap.size ≤ k := fun k hk => by
    rcases h5 k hk with h | h
    · exact h2 k h
    · have := h3.size
      omega
  exact ⟨⟨F', h4, hF'⟩, h3.trans (h6.below h2 h3.size)⟩
theorem NewScr.below {w w1 w2 : World} {sp : Nat} {S : Vz.Sr} (h : NewScr w w1 sp S) (hb : Below w1.heap.size w1 w2) : NewScr w w2 sp S := by
  obtain ⟨⟨F, h1, h2⟩, h3⟩ := h
  exact ⟨⟨F, h1.below hb, h2⟩, Below.later h3 hb h3.size⟩
theorem NewScr.link {w w1 w2 : World} {sp : Nat} {F : Nat → Prop} {S' : Vz.Sr} (h2 : ∀ k, F k → w.heap.size ≤ k) (h3 : Below w.heap.size w w1) (h : ScrTo w1 w2 sp F S') : NewScr w w2 sp S' := by
  obtain ⟨⟨F', h4, h5⟩, h6⟩ := h
  refine ⟨⟨F', h4, fun k hk => ?_⟩, h3.trans (h6.below h2 h3.size)⟩
  rcases h5 k hk with h | h
  · exact h2 k h
  · have := h3.size
    omega
theorem cur_a (sp : Nat) (F : Nat → Prop) (w : World) (h : Scr w sp F (wakeS 4)) : Calls Tryz.prog 15 #[.pointer (some ⟨sp, 0, none⟩)] w fun e w' => e = .returned (.tuple #[.agg #[.int .i64 1, .int .i64 1], .bool (wakeS 4).pl.pend]) ∧ Below w.heap.size w w' := by
  have := scr_cursor sp F (wakeS 4) w h
  rw [wake_at] at this
  exact this
theorem cur_b (sp : Nat) (F : Nat → Prop) (w : World) (h : Scr w sp F (feedS (wakeS 4) 1)) : Calls Tryz.prog 15 #[.pointer (some ⟨sp, 0, none⟩)] w fun e w' => e = .returned (.tuple #[.agg #[.int .i64 1, .int .i64 1], .bool (feedS (wakeS 4) 1).pl.pend]) ∧ Below w.heap.size w w' := by
  have := scr_cursor sp F (feedS (wakeS 4) 1) w h
  rw [wake_b] at this
  exact this
theorem at_c (sp : Nat) (F : Nat → Prop) (w : World) (h : Scr w sp F (feedS (wakeS 4) 1)) : Calls Tryz.prog 18 #[.pointer (some ⟨sp, 0, none⟩), .agg #[.int .i64 0, .int .i64 0]] w fun e w' => e = .returned (.tuple #[.agg #[.int .i32 100, .int .i64 0, .bool false, .int .i64 0], .int .i64 0]) ∧ Below w.heap.size w w' := by
  have := scr_at sp F (feedS (wakeS 4) 1) ⟨0, 0⟩ w h wake_in
  rw [wake_c] at this
  exact this
set_option maxRecDepth 10000 in
set_option maxHeartbeats 4000000 in
theorem awake_any (w : World) (hbl : Blanked w) : Calls Tryz.prog 12 #[] w fun e w' => e = .returned (.bool true) ∧ Below w.heap.size w w' := by
  have HN := Lib.hid (scr_new 2 3 (by decide) w hbl)
  have HCA := Lib.hid cur_a
  have HCB := Lib.hid cur_b
  have HAC := Lib.hid at_c
  clear hbl
  go_enter Tryz.func12, Tryz.ntmps12
  go_wp2_with (go_at_call 20; refine HN.out.mono ?_; rintro e w1 ⟨sp, rfl, hn⟩; have HS := Lib.hid hn; clear hn)
  go_loopw [3] (fun i wr => ∃ k : Nat, k ≤ 4 ∧ i = .int .i64 k ∧ NewScr w wr sp (wakeS k)) (fun i _ => 4 - (intOf i).toNat)
  case atStart => exact ⟨0, by decide, rfl, HS.out⟩
  case round =>
    obtain ⟨k, hk, rfl, hI⟩ := hrel
    have HI := Lib.hid hI
    clear hI
    obtain ⟨⟨F, h1, h2⟩, h3⟩ := HI.out
    have H1 := Lib.hid h1
    have H2 := Lib.hid h2
    have H3 := Lib.hid h3
    clear h1 h2 h3
    by_cases hlt : k < 4
    · have hk4 : (k : Int) < 4 := by omega
      go_wp2_with (go_at_call 17; refine (scr_put sp F (wakeS k) ⟨97 + k, 0, false, 0⟩ 2 wr H1.out).mono ?_; rintro e w2 ⟨rfl, ht⟩; have HT : Hid (NewScr w w2 sp (wakeS (k + 1))) := NewScr.link H2.out H3.out ht; clear ht)
      exact ⟨⟨k + 1, by omega, by go_num, HT.out⟩, by simp [intOf]; omega⟩
    · obtain rfl : k = 4 := by omega
      go_wp2_with (first
        | (go_at_call 18; refine (HAC.out sp F4 _ H5.out).mono ?_; rintro e w6 ⟨rfl, hb6⟩; have HSC := Lib.hid (((HSB.out.below hb6).alloc (Nat.le_trans HZ5.out hb6.size) (.cells #[.int .i32 100, .int .i64 0, .bool false, .int .i64 0] 24))); have HB6 := Lib.hid (Below.later HB5.out hb6 HB5.out.size); clear hb6; obtain ⟨x0, x1, x2, x3, _⟩ := row4 (HSC.out.nth 0 rfl); obtain ⟨y0, y1, _⟩ := row2 (HSC.out.nth 1 rfl); obtain ⟨z0, z1, _⟩ := row2 (HSC.out.nth 2 rfl))
        | (go_at_call 15; refine (HCB.out sp F4 _ HF4.out).mono ?_; rintro e w5 ⟨rfl, hb5⟩; have HSB := Lib.hid (((HSA.out.below hb5).alloc (Nat.le_trans HZ4.out hb5.size) (.cells #[.int .i64 1, .int .i64 1] 30))); have HZ5 : Hid (wr.heap.size ≤ (w5.alloc (.cells #[.int .i64 1, .int .i64 1] 30)).heap.size) := (by show _ ≤ _; rw [World.size_alloc]; have := HZ4.out; have := hb5.size; omega); have HB5 := Lib.hid (Below.later HB4.out (Below.later hb5 (below1 w5 (.cells #[.int .i64 1, .int .i64 1] 30)) hb5.size) HB4.out.size); have H5 := Lib.hid (HF4.out.below (Below.later hb5 (below1 w5 (.cells #[.int .i64 1, .int .i64 1] 30)) hb5.size)); clear hb5)
        | (go_at_call 31; refine (scr_feed sp F (wakeS 4) 1 _ H3A.out).mono ?_; rintro e w4 ⟨rfl, ht⟩; obtain ⟨⟨F4, hf4, hF4⟩, hK4⟩ := ht; have HSA := Lib.hid (HS2.out.keeps hK4 (fun k hk => .inl (H1.out.lt k hk))); have HF4 := Lib.hid hf4; have HB4 := Lib.hid (HB2.out.trans (hK4.below H2.out HB2.out.size)); have HZ4 : Hid (wr.heap.size ≤ w4.heap.size) := (by show _ ≤ _; have := HZ2.out; have := hK4.size; rw [World.size_alloc] at this; omega); clear hf4 hF4 hK4)
        | (go_at_call 15; refine (HCA.out sp F _ H1.out).mono ?_; rintro e w2 ⟨rfl, hb2⟩; have HZ2 : Hid (wr.heap.size ≤ w2.heap.size) := hb2.size; have HS2 := Lib.hid (((Has.nil wr.heap.size 0 w2).alloc hb2.size (.cells #[.int .i64 1, .int .i64 1] 30))); have H3A := Lib.hid (H1.out.below (Below.later hb2 (below1 w2 (.cells #[.int .i64 1, .int .i64 1] 30)) hb2.size)); have HB2 := Lib.hid (Below.later H3.out (Below.later hb2 (below1 w2 (.cells #[.int .i64 1, .int .i64 1] 30)) hb2.size) H3.out.size); clear hb2))
      go_ret
      exact ⟨rfl, HB6.out.alloc HB6.out.size _⟩
end Go.Proofs.YtbnkfiaggehmgaaGreatDoor
