import Derived.Test.YtmgeghoalmonoaaGreatDoorAnA
import Derived.Test.YtmgeghoalmonoaaGreatDoorRK

/- Walks of ANSI.SYS: put, plain: a byte outside of sequences. -/
namespace Go.Proofs.YtmgeghoalmonoaaGreatDoor
open Go.RowKit
set_option linter.unusedSimpArgs false
set_option linter.unusedVariables false
set_option maxRecDepth 100000
attribute [local go_sem] alloc_drewN setCell_drewN World.cell?_alloc_some frozen_alloc_some pos_f1

section
variable {w : World} {P : Pt} {G : Nat → Prop} {A : An}
set_option maxHeartbeats 4000000 in
theorem an_put (h : AnW w P G A) (b : UInt8) : Calls Tryz.prog 53 #[.pointer (some ⟨P.tp, 0, none⟩), .int .u8 b.toNat] w fun e w' => e = .returned (.tuple #[]) ∧ AnTo w w' P G (putC A b) := by
  have HA := Lib.hid (fun W (hb : Below w.heap.size w W) => h.below hb)
  have HB0 : Hid (Below w.heap.size w w.drew) := (Below.refl _ _).drew
  have HGL := Lib.hid (fun W => glyph_of of_cp b.toNat b.toNat_lt W)
  have HPU : Hid (∀ n, (if A.wrap = true then (2 : Int) else 1) = n → putC A b = { A with S := putS A.S ⟨cpG b.toNat, A.attr, false, 0⟩ n }) := fun n e => by subst e; rfl
  obtain ⟨⟨_, _, _, _, t4, _⟩, _⟩ := h.cells
  clear h
  obtain ⟨wr, hwr⟩ : ∃ wr, A.wrap = wr := ⟨_, rfl⟩
  rw [hwr] at t4
  have HWR := Lib.hid hwr
  clear hwr
  cases wr
  all_goals (
    go_enter Tryz.func53, Tryz.ntmps53
    go_upto_region 3 with fail
    clear t4
    refine wp_region_noPanic ?_
    refine wp_region_k (S := fun W : World => Below w.heap.size w W) 13 (by kernel_rfl) (HB0.out) (fun hHeld => ?_)
    refine kSK 0 hHeld ?_
    refine kSK 1 hHeld ?_
    refine kSK 2 hHeld ?_
    refine kTK (v := ?_) 3 [] hHeld ?y4 ?_
    case y4 => (intro W hSw; obtain ⟨⟨y0, y1, y2, y3, _⟩, _⟩ := (HA.out _ hSw).cells; go_simp; try with_reducible rfl)
    refine kSK 4 hHeld ?_
    try refine kNK ?_
    refine kSK 6 hHeld ?_
    refine kSK 7 hHeld ?_
    refine kSK 8 hHeld ?_
    refine kSK 9 hHeld ?_
    refine kTK (v := ?_) 10 [11] hHeld ?y10 ?_
    case y10 => (intro W hSw; obtain ⟨⟨y0, y1, y2, y3, _⟩, _⟩ := (HA.out _ hSw).cells; go_simp; try with_reducible rfl)
    try refine kNK ?_
    refine kSK 12 hHeld ?_
    try refine kNK ?_
    refine kOK 5 fun KQ hKQ => ?_
    go_simp
    go_at_call 79
    refine (HGL.out _).mono ?_
    rintro e w1 ⟨rfl, hb1⟩
    go_wp2_with fail
    refine hKQ.out _ _ (hHeld.trans (hb1.mono hHeld.size)) ?_
    clear hHeld hKQ KQ
    intro hHeld
    try refine kNK ?_
    refine kSK 11 hHeld ?_
    try refine kNK ?_
    refine kPK 13 fun KQ hKQ => ?_
    go_simp
    go_at_call 78
    obtain ⟨F, hs, hto⟩ := (HA.out _ hHeld).scrTo
    refine (scr_put P.sp F A.S ⟨cpG b.toNat, A.attr, false, 0⟩ _ _ hs).mono ?_
    rintro e w2 ⟨rfl, ht⟩
    have HT := Lib.hid (AnTo.after hHeld (hto _ _ ht))
    clear ht hto hs
    go_wp2_with fail
    refine hKQ.out _ _ ?_
    clear hKQ KQ
    try refine kNK ?_
    refine wpAnyK_done (by kernel_rfl) ?_ _
    refine NoPanic.normal ?_
    go_wp2_with fail
    go_end0
    first
      | exact ⟨rfl, by rw [HPU.out 1 (by rw [HWR.out]; rfl)]; exact HT.out⟩
      | exact ⟨rfl, by rw [HPU.out 2 (by rw [HWR.out]; rfl)]; exact HT.out⟩)
/-- The place that plain has read. -/
def AtB (w : World) (p : Vz.Ps) (x : Nat) (W : World) : Prop := Below w.heap.size w W ∧ W.heap[x]? = some (.cells #[.int .i64 p.row, .int .i64 p.col] 39 (0, 0)) ∧ w.heap.size ≤ x
theorem AtB.below {w W W' : World} {p : Vz.Ps} {x : Nat} (h : AtB w p x W) (hb : Below W.heap.size W W') : AtB w p x W' := ⟨h.1.trans (hb.mono h.1.size), (hb.block _ (block_lt h.2.1)).trans h.2.1, h.2.2⟩
set_option maxHeartbeats 8000000 in
theorem an_plain (h : AnW w P G A) (b : UInt8) : Calls Tryz.prog 28 #[.pointer (some ⟨P.tp, 0, none⟩), .int .u8 b.toNat] w fun e w' => e = .returned (.tuple #[]) ∧ AnTo w w' P G (plainN A b) := by
  have HA := Lib.hid (fun W (hb : Below w.heap.size w W) => h.below hb)
  have HAT := Lib.hid (an_at h)
  have HM := Lib.hid h.here
  clear h
  have hcase : b = 7 ∨ b = 8 ∨ b = 9 ∨ b = 10 ∨ b = 13 ∨ b = 27 ∨ (¬ b = 7 ∧ ¬ b = 8 ∧ ¬ b = 9 ∧ ¬ b = 10 ∧ ¬ b = 13 ∧ ¬ b = 27) := by
    by_cases h1 : b = 7; · exact .inl h1
    by_cases h2 : b = 8; · exact .inr (.inl h2)
    by_cases h3 : b = 9; · exact .inr (.inr (.inl h3))
    by_cases h4 : b = 10; · exact .inr (.inr (.inr (.inl h4)))
    by_cases h5 : b = 13; · exact .inr (.inr (.inr (.inr (.inl h5))))
    by_cases h6 : b = 27; · exact .inr (.inr (.inr (.inr (.inr (.inl h6)))))
    exact .inr (.inr (.inr (.inr (.inr (.inr ⟨h1, h2, h3, h4, h5, h6⟩)))))
  go_enter Tryz.func28, Tryz.ntmps28
  go_upto_region 1 with (go_at_call 50; refine HAT.out.mono ?_; rintro e w1 ⟨rfl, hb1⟩; have HB1 := Lib.hid hb1; clear hb1)
  have HX : Hid (AtB w A.S.pl.at_ w1.heap.size (w1.alloc (.cells #[.int .i64 A.S.pl.at_.row, .int .i64 A.S.pl.at_.col] 39))) := ⟨HB1.out.alloc HB1.out.size _, heap_alloc_new w1 _, HB1.out.size⟩
  generalize w1.alloc (.cells #[.int .i64 A.S.pl.at_.row, .int .i64 A.S.pl.at_.col] 39) = W2 at HX ⊢
  generalize w1.heap.size = x at HX ⊢
  have HA2 := Lib.hid (HA.out W2 HX.out.1)
  obtain ⟨⟨t0, _⟩, _, _, _, _, t7, _⟩ := HA2.out.cells
  obtain ⟨p0, p1, _⟩ := row2 HX.out.2.1
  rcases hcase with rfl | rfl | rfl | rfl | rfl | rfl | ⟨h1, h2, h3, h4, h5, h6⟩
  case' inl =>
    go_wp2_with fail
    go_end0
    exact ⟨rfl, AnTo.after HX.out.1 (AnTo.refl HA2.out)⟩
  case' inr.inl =>
    obtain ⟨F, hs, hto⟩ := HA2.out.scrTo
    have HTO := Lib.hid hto
    have HST := Lib.hid (scr_step P.sp F A.S 0 (-1) W2 hs)
    clear hto hs p0 p1
    go_wp2_with (go_at_call 51; refine HST.out.mono ?_; rintro e w3 ⟨rfl, ht⟩; have HT := Lib.hid (HTO.out _ _ ht); clear ht)
    go_end0
    exact ⟨rfl, AnTo.after HX.out.1 (show AnTo W2 w3 P G (stepN A 0 (-1)) from HT.out)⟩
  case' inr.inr.inl =>
    have hc : 0 ≤ A.S.pl.at_.col ∧ A.S.pl.at_.col < 100000 := by
      have h1 := HM.out.1
      have h2 := HM.out.2
      unfold Vz.Gd.may at h2
      unfold Vz.Ps.inS at h1
      omega
    have hr := Int.tmod_nonneg 8 hc.1
    have hr2 := Int.tmod_lt_of_pos A.S.pl.at_.col (show (0 : Int) < 8 by decide)
    have e1 : IntKind.i64.wrap (A.S.pl.at_.col - A.S.pl.at_.col.tmod 8) = A.S.pl.at_.col - A.S.pl.at_.col.tmod 8 := wrap_in (by omega) (by omega)
    have e2 : IntKind.i64.wrap (A.S.pl.at_.col - A.S.pl.at_.col.tmod 8 + 8) = A.S.pl.at_.col - A.S.pl.at_.col.tmod 8 + 8 := wrap_in (by omega) (by omega)
    have hb8 : A.S.pl.at_.col - A.S.pl.at_.col.tmod 8 + 8 ≤ 200000 := by omega
    have HTB : Hid (tabI A = min (A.S.pl.at_.col - A.S.pl.at_.col.tmod 8 + 8) (endP A).col) := rfl
    go_upto_region 7 with fail
    clear t0 p0 p1 t7
    have HXD : Hid (AtB w A.S.pl.at_ x W2.drew) := HX.out.below (Below.refl _ _).drew
    refine wp_region_noPanic ?_
    refine wp_region_k (S := fun W : World => AtB w A.S.pl.at_ x W) 18 (by kernel_rfl) (HXD.out) (fun hHeld => ?_)
    refine kSK 0 hHeld ?_
    refine kSK 1 hHeld ?_
    refine kSK 2 hHeld ?_
    refine kTK (v := ?_) 3 [] hHeld ?y4 ?_
    case y4 => (intro W hSw; obtain ⟨⟨y0, _⟩, _⟩ := (HA.out _ hSw.1).cells; obtain ⟨p0, p1, _⟩ := row2 hSw.2.1; go_simp; try with_reducible rfl)
    refine kSK 4 hHeld ?_
    try refine kNK ?_
    refine kTK (v := ?_) 5 [17] hHeld ?y6 ?_
    case y6 => (intro W hSw; obtain ⟨⟨y0, _⟩, _⟩ := (HA.out _ hSw.1).cells; obtain ⟨p0, p1, _⟩ := row2 hSw.2.1; go_simp; try with_reducible rfl)
    refine kSK 6 hHeld ?_
    refine kTK (v := ?_) 7 [17, 16, 12, 11] hHeld ?y8 ?_
    case y8 => (intro W hSw; obtain ⟨⟨y0, _⟩, _⟩ := (HA.out _ hSw.1).cells; obtain ⟨p0, p1, _⟩ := row2 hSw.2.1; go_simp; try with_reducible rfl)
    refine kSK 8 hHeld ?_
    refine kTK (v := ?_) 9 [17, 16, 12, 11, 10] hHeld ?y10 ?_
    case y10 => (intro W hSw; obtain ⟨⟨y0, _⟩, _⟩ := (HA.out _ hSw.1).cells; obtain ⟨p0, p1, _⟩ := row2 hSw.2.1; go_simp; try with_reducible rfl)
    try refine kNK ?_
    refine kSK 10 hHeld ?_
    refine kSK 11 hHeld ?_
    refine kSK 12 hHeld ?_
    refine kSK 13 hHeld ?_
    try refine kNK ?_
    refine kOK 14 fun KQ hKQ => ?_
    go_simp
    go_at_call 39
    refine (an_end (HA.out _ hHeld.1)).mono ?_
    rintro e w3 ⟨rfl, hb3⟩
    go_wp2_with fail
    refine hKQ.out _ _ (hHeld.below hb3) ?_
    clear hHeld hKQ KQ
    intro hHeld
    try refine kNK ?_
    refine kSK 15 hHeld ?_
    refine kSK 16 hHeld ?_
    refine kSK 17 hHeld ?_
    try refine kNK ?_
    refine kPK 18 fun KQ hKQ => ?_
    go_simp
    go_at_call 40
    obtain ⟨F, hs, hto⟩ := (HA.out _ hHeld.1).scrTo
    refine (scr_move P.sp F A.S ⟨A.S.pl.at_.row, tabI A⟩ _ hs).mono ?_
    rintro e w4 ⟨rfl, ht⟩
    have HT := Lib.hid (AnTo.after hHeld.1 (hto _ _ ht))
    clear ht hto hs
    go_wp2_with fail
    refine hKQ.out _ _ ?_
    clear hKQ KQ
    try refine kNK ?_
    refine wpAnyK_done (by kernel_rfl) ?_ _
    refine NoPanic.normal ?_
    go_wp2_with fail
    go_end0
    exact ⟨rfl, (show AnTo w w4 P G (moveN A ⟨A.S.pl.at_.row, tabI A⟩) from HT.out)⟩
  case' inr.inr.inr.inl =>
    obtain ⟨F, hs, hto⟩ := HA2.out.scrTo
    have HTO := Lib.hid hto
    have HST := Lib.hid (scr_feed P.sp F A.S 1 W2 hs)
    clear hto hs p0 p1
    go_wp2_with (go_at_call 52; refine HST.out.mono ?_; rintro e w3 ⟨rfl, ht⟩; have HT := Lib.hid (HTO.out _ _ ht); clear ht)
    go_end0
    exact ⟨rfl, AnTo.after HX.out.1 (show AnTo W2 w3 P G { A with S := feedS A.S 1 } from HT.out)⟩
  case' inr.inr.inr.inr.inl =>
    go_upto_region 11 with fail
    clear t0 p0 p1 t7
    have HXD : Hid (AtB w A.S.pl.at_ x W2.drew) := HX.out.below (Below.refl _ _).drew
    refine wp_region_noPanic ?_
    refine wp_region_k (S := fun W : World => AtB w A.S.pl.at_ x W) 7 (by kernel_rfl) (HXD.out) (fun hHeld => ?_)
    refine kSK 0 hHeld ?_
    refine kSK 1 hHeld ?_
    refine kSK 2 hHeld ?_
    refine kTK (v := ?_) 3 [] hHeld ?y4 ?_
    case y4 => (intro W hSw; obtain ⟨⟨y0, _⟩, _⟩ := (HA.out _ hSw.1).cells; obtain ⟨p0, p1, _⟩ := row2 hSw.2.1; go_simp; try with_reducible rfl)
    refine kSK 4 hHeld ?_
    try refine kNK ?_
    refine kTK (v := ?_) 5 [6] hHeld ?y6 ?_
    case y6 => (intro W hSw; obtain ⟨⟨y0, _⟩, _⟩ := (HA.out _ hSw.1).cells; obtain ⟨p0, p1, _⟩ := row2 hSw.2.1; go_simp; try with_reducible rfl)
    refine kSK 6 hHeld ?_
    try refine kNK ?_
    refine kPK 7 fun KQ hKQ => ?_
    go_simp
    go_at_call 40
    obtain ⟨F, hs, hto⟩ := (HA.out _ HXD.out.1).scrTo
    refine (scr_move P.sp F A.S ⟨A.S.pl.at_.row, 0⟩ _ hs).mono ?_
    rintro e w3 ⟨rfl, ht⟩
    have HT := Lib.hid (AnTo.after HXD.out.1 (hto _ _ ht))
    clear ht hto hs
    go_wp2_with fail
    refine hKQ.out _ _ ?_
    clear hKQ KQ
    try refine kNK ?_
    refine wpAnyK_done (by kernel_rfl) ?_ _
    refine NoPanic.normal ?_
    go_wp2_with fail
    go_end0
    exact ⟨rfl, (show AnTo w w3 P G (moveN A ⟨A.S.pl.at_.row, 0⟩) from HT.out)⟩
  case' inr.inr.inr.inr.inr.inl =>
    have HBX := Lib.hid (HA2.out.boxed (A' := { A with st := 1 }) rfl rfl rfl rfl rfl rfl (heap_set_same HA2.out.box 7 (.int .i64 1)) (Keeps.setCell (fun k => k = P.tp) W2 (p := ⟨P.tp, 7, none⟩) rfl (.int .i64 1)))
    obtain ⟨⟨_, _, _, _, _, _, _, s7, _⟩, _⟩ := HA2.out.cells
    go_wp2_with fail
    go_end0
    exact ⟨rfl, AnTo.after HX.out.1 (show AnTo W2 _ P G { A with st := 1 } from HBX.out)⟩
  case' inr.inr.inr.inr.inr.inr =>
    have key : ∀ n : Nat, n < 256 → ¬ b = UInt8.ofNat n → ∀ z : Int, z = (n : Int) → ((b.toNat : Int) == z) = false := fun n hn hne z hz => beq_eq_false_iff_ne.2 (fun e => hne (UInt8.toNat_inj.1 (by rw [UInt8.toNat_ofNat_of_lt' hn]; exact Int.ofNat_inj.1 (e.trans hz))))
    have k1 := key 7 (by decide) h1 7 rfl
    have k2 := key 8 (by decide) h2 8 rfl
    have k3 := key 9 (by decide) h3 9 rfl
    have k4 := key 10 (by decide) h4 10 rfl
    have k5 := key 13 (by decide) h5 13 rfl
    have k6 := key 27 (by decide) h6 27 rfl
    have HPL : Hid (plainN A b = putC A b) := by show plainN A b = _; unfold plainN; rw [if_neg h1, if_neg h2, if_neg h3, if_neg h4, if_neg h5, if_neg h6]
    have HPT := Lib.hid (an_put HA2.out b)
    clear key h1 h2 h3 h4 h5 h6
    go_wp2_with (go_at_call 53; refine HPT.out.mono ?_; rintro e w3 ⟨rfl, ht⟩; have HT := Lib.hid ht; clear ht)
    go_end0
    rw [HPL.out]
    exact ⟨rfl, AnTo.after HX.out.1 HT.out⟩
end
end Go.Proofs.YtmgeghoalmonoaaGreatDoor
