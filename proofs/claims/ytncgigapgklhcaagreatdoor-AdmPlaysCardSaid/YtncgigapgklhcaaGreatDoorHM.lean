import Derived.Test.YtncgigapgklhcaaGreatDoorHL

set_option maxRecDepth 100000
set_option maxHeartbeats 16000000
namespace Go.Proofs.YtncgigapgklhcaaGreatDoor
open Go.RowKit
set_option linter.unusedSimpArgs false
set_option linter.unusedVariables false
/- Walks: a screen's Part. -/
section
attribute [local go_sem] alloc_drewN setCell_drewN World.cell?_alloc_some frozen_alloc_some size_f0 size_f1
def Below.worldP {n : Nat} {a b : World} (_ : Below n a b) : World := b
def partD (S : Vz.Sr) (k : Int) (c : Vz.Cl) (gd : Bool) : Vz.Gd := if 1 ≤ k ∧ k ≤ 6 then wipeD S.D (Vz.nearP S.D.R S.D.C (partF k S.pl.at_)) (Vz.nearP S.D.R S.D.C (partT S.D.R S.D.C k S.pl.at_)) c gd else S.D
theorem scr_part (sp : Nat) (F : Nat → Prop) (S : Vz.Sr) (k : Int) (c : Vz.Cl) (gd : Bool) (w : World) (h : Scr w sp F S) : Calls Tryz.prog 58 #[.pointer (some ⟨sp, 0, none⟩), .int .i64 k, .agg #[.int .i32 c.g, .int .i64 c.a, .bool c.gd, .int .i64 c.m], .bool gd] w fun e w' => e = .returned (.tuple #[]) ∧ ScrTo w w' sp F { S with D := partD S k c gd } := by
 obtain ⟨gp, tp, mb, FG, hA, hF, HC, hlt⟩ := h.held
 have HSZ := Lib.hid (fun W (hb : Below w.heap.size w W) => scr_size sp F S W (h.below hb))
 have hmay := Vz.Gd.may_mayS hA.grid.may
 have hpt : ∃ (fr tt : Vz.Ps) (er : Int), (∀ W, Calls Tryz.prog 88 #[.agg #[.int .i64 S.D.R, .int .i64 S.D.C], .agg #[.int .i64 S.pl.at_.row, .int .i64 S.pl.at_.col], .int .i64 k] W fun e w' => e = .returned (.tuple #[.agg #[.int .i64 fr.row, .int .i64 fr.col], .agg #[.int .i64 tt.row, .int .i64 tt.col], .int .i64 er]) ∧ Below W.heap.size W w') ∧ ((er = 0 ∧ partD S k c gd = wipeD S.D (Vz.nearP S.D.R S.D.C fr) (Vz.nearP S.D.R S.D.C tt) c gd) ∨ (er = 12 ∧ partD S k c gd = S.D)) := by
  by_cases hk : 1 ≤ k ∧ k ≤ 6
  · exact ⟨_, _, 0, fun W => part_ok S.D.R S.D.C k S.pl.at_ W hmay h.here.1 hk, .inl ⟨rfl, by unfold partD; rw [if_pos hk]⟩⟩
  · exact ⟨⟨0, 0⟩, ⟨0, 0⟩, 12, fun W => part_no S.D.R S.D.C k S.pl.at_ W hmay h.here.1 (by omega), .inr ⟨rfl, by unfold partD; rw [if_neg hk]⟩⟩
 obtain ⟨fr, tt, er, hpt, hpd⟩ := hpt
 have HPT := Lib.hid hpt
 have HB : Hid (Below w.heap.size w (w.alloc (.cells (cellB c) 56))) := below1 _ _
 have HX1 : Hid (∀ W, Below (w.heap.size + 1) (w.alloc (.cells (cellB c) 56)) W → W.heap[w.heap.size]? = some (.cells (cellB c) 56 (0, 0)) ∧ Below w.heap.size w W) := fun W hb => ⟨(hb.block _ (by omega)).trans (heap_alloc_new w _), Below.later HB.out (hb.mono (by simp)) HB.out.size⟩
 have HLE : Hid (∀ W, Below (w.heap.size + 1) (w.alloc (.cells (cellB c) 56)) W → w.heap.size + 1 ≤ W.heap.size) := fun W hb => Nat.le_trans (by simp) hb.size
 have HD0 : Hid (Below (w.heap.size + 1) (w.alloc (.cells (cellB c) 56)) (w.alloc (.cells (cellB c) 56)).drew) := (Below.refl _ _).drew
 have HWI := Lib.hid (fun W (hb : Below w.heap.size w W) => scr_wipe sp F S fr tt c gd W (h.below hb))
 have H := Lib.hid h
 have HPD := Lib.hid hpd
 clear hA hF h hmay hpt hpd
 generalize partD S k c gd = D' at *
 unfold cellB at *
 go_enter Tryz.func58, Tryz.ntmps58
 go_upto_region 2 with fail
 refine wp_region_noPanic ?_
 refine wp_region_k (S := fun W : World => Below (w.heap.size + 1) (w.alloc (.cells #[.int .i32 c.g, .int .i64 c.a, .bool c.gd, .int .i64 c.m] 56)) W) 15 (by kernel_rfl) (HD0.out) (fun hHeld => ?_)
 refine kSK 0 hHeld ?_
 refine kSK 2 hHeld ?_
 refine kSK 3 hHeld ?_
 refine kSK 4 hHeld ?_
 refine kSK 5 hHeld ?_
 try refine kNK ?_
 refine kTK (v := ?_) 6 [] hHeld ?y6 ?_
 case y6 => (intro W hSw; obtain ⟨x0, x1⟩ := HX1.out _ hSw; obtain ⟨c0, c1, c2, c3, c4, _⟩ := HC.out _ x1; go_simp; try with_reducible rfl)
 refine kSK 7 hHeld ?_
 try refine kNK ?_
 refine wpAnyK_ready (rs := [1, 13, 14]) (by kernel_rfl) (by simp) ?_
 refine AllReadyK.cons rfl (fun KQ hKQ => ?_) (AllReadyK.cons rfl (fun KQ hKQ => ?_) (AllReadyK.cons rfl (fun KQ hKQ => ?_) AllReadyK.nil))
 focus
  obtain ⟨Wc, hWc⟩ : ∃ Wc, Wc = Below.worldP hHeld := ⟨_, rfl⟩
  simp only [Below.worldP] at hWc
  rw [← hWc] at hHeld ⊢
  try rw [← hWc] at HF
  try rw [← hWc] at HL
  clear hWc
  go_simp
  go_at_call 89
  refine (HSZ.out _ (HX1.out _ hHeld).2).mono ?_
  rintro e wa ⟨rfl, hba⟩
  try (have HFn := Lib.hid ((hba.block _ (block_lt HF.out)).trans HF.out); clear HF; have HF := HFn; clear HFn)
  try (have HLn := Lib.hid ((hba.block _ (block_lt HL.out)).trans HL.out); clear HL; have HL := HLn; clear HLn)
  have hHn := hHeld.trans (hba.mono (HLE.out _ hHeld))
  clear hba
  go_wp2_with fail
  refine hKQ.out _ _ (hHn) ?_
  clear hHeld hKQ KQ
  intro hHeld
  try refine kNK ?_
  refine wpAnyK_ready (rs := [8, 13, 14]) (by kernel_rfl) (by simp) ?_
  refine AllReadyK.cons rfl (fun KQ hKQ => ?_) (AllReadyK.cons rfl (fun KQ hKQ => ?_) (AllReadyK.cons rfl (fun KQ hKQ => ?_) AllReadyK.nil))
  focus
   obtain ⟨Wc, hWc⟩ : ∃ Wc, Wc = Below.worldP hHeld := ⟨_, rfl⟩
   simp only [Below.worldP] at hWc
   rw [← hWc] at hHeld ⊢
   try rw [← hWc] at HF
   try rw [← hWc] at HL
   clear hWc
   go_simp
   go_at_call 88
   refine (HPT.out _).mono ?_
   rintro e wb ⟨rfl, hba⟩
   try (have HFn := Lib.hid ((hba.block _ (block_lt HF.out)).trans HF.out); clear HF; have HF := HFn; clear HFn)
   try (have HLn := Lib.hid ((hba.block _ (block_lt HL.out)).trans HL.out); clear HL; have HL := HLn; clear HLn)
   have hHn := hHeld.trans (hba.mono (HLE.out _ hHeld))
   clear hba
   go_wp2_with fail
   refine hKQ.out _ _ (hHn) ?_
   clear hHeld hKQ KQ
   intro hHeld
   try refine kNK ?_
   refine kSK 9 hHeld ?_
   refine kSK 10 hHeld ?_
   refine kSK 11 hHeld ?_
   refine kSK 12 hHeld ?_
   try refine kNK ?_
   refine wpAnyK_ready (rs := [13, 14]) (by kernel_rfl) (by simp) ?_
   refine AllReadyK.cons rfl (fun KQ hKQ => ?_) (AllReadyK.cons rfl (fun KQ hKQ => ?_) AllReadyK.nil)
   focus
    obtain ⟨Wc, hWc⟩ : ∃ Wc, Wc = Below.worldP hHeld := ⟨_, rfl⟩
    simp only [Below.worldP] at hWc
    rw [← hWc] at hHeld ⊢
    try rw [← hWc] at HF
    try rw [← hWc] at HL
    clear hWc
    go_simp
    have hnew := heap_alloc_new Wc (.cells #[.int .i64 0, .int .i64 0] 36)
    have hbn := below1 Wc (.cells #[.int .i64 0, .int .i64 0] 36)
    have hnz : w.heap.size + 1 ≤ Wc.heap.size := HLE.out _ hHeld
    try have hfl : Wc.heap.size ≠ l := by have := block_lt HL.out; omega
    try (have HFn := Lib.hid ((hbn.block _ (block_lt HF.out)).trans HF.out); clear HF; have HF := HFn; clear HFn)
    try (have HLn := Lib.hid ((hbn.block _ (block_lt HL.out)).trans HL.out); clear HL; have HL := HLn; clear HLn)
    have HF := Lib.hid hnew
    have hHn := hHeld.trans (hbn.mono hnz)
    clear hnew hbn
    generalize Wc.alloc (.cells #[.int .i64 0, .int .i64 0] 36) = Wd at *
    generalize Wc.heap.size = f at *
    refine hKQ.out _ _ (hHn) ?_
    clear hHeld hKQ KQ
    intro hHeld
    try refine kNK ?_
    refine kOK 14 fun KQ hKQ => ?_
    obtain ⟨Wc, hWc⟩ : ∃ Wc, Wc = Below.worldP hHeld := ⟨_, rfl⟩
    simp only [Below.worldP] at hWc
    rw [← hWc] at hHeld ⊢
    try rw [← hWc] at HF
    try rw [← hWc] at HL
    clear hWc
    go_simp
    have hnew := heap_alloc_new Wc (.cells #[.int .i64 0, .int .i64 0] 36)
    have hbn := below1 Wc (.cells #[.int .i64 0, .int .i64 0] 36)
    have hnz : w.heap.size + 1 ≤ Wc.heap.size := HLE.out _ hHeld
    try have hfl : Wc.heap.size ≠ f := by have := block_lt HF.out; omega
    try (have HFn := Lib.hid ((hbn.block _ (block_lt HF.out)).trans HF.out); clear HF; have HF := HFn; clear HFn)
    try (have HLn := Lib.hid ((hbn.block _ (block_lt HL.out)).trans HL.out); clear HL; have HL := HLn; clear HLn)
    have HL := Lib.hid hnew
    have hHn := hHeld.trans (hbn.mono hnz)
    clear hnew hbn
    generalize Wc.alloc (.cells #[.int .i64 0, .int .i64 0] 36) = Wd at *
    generalize Wc.heap.size = l at *
    refine hKQ.out _ _ (hHn) ?_
    clear hHeld hKQ KQ
    intro hHeld
    try refine kNK ?_
   rotate_left 1
   focus
    obtain ⟨Wc, hWc⟩ : ∃ Wc, Wc = Below.worldP hHeld := ⟨_, rfl⟩
    simp only [Below.worldP] at hWc
    rw [← hWc] at hHeld ⊢
    try rw [← hWc] at HF
    try rw [← hWc] at HL
    clear hWc
    go_simp
    have hnew := heap_alloc_new Wc (.cells #[.int .i64 0, .int .i64 0] 36)
    have hbn := below1 Wc (.cells #[.int .i64 0, .int .i64 0] 36)
    have hnz : w.heap.size + 1 ≤ Wc.heap.size := HLE.out _ hHeld
    try have hfl : Wc.heap.size ≠ f := by have := block_lt HF.out; omega
    try (have HFn := Lib.hid ((hbn.block _ (block_lt HF.out)).trans HF.out); clear HF; have HF := HFn; clear HFn)
    try (have HLn := Lib.hid ((hbn.block _ (block_lt HL.out)).trans HL.out); clear HL; have HL := HLn; clear HLn)
    have HL := Lib.hid hnew
    have hHn := hHeld.trans (hbn.mono hnz)
    clear hnew hbn
    generalize Wc.alloc (.cells #[.int .i64 0, .int .i64 0] 36) = Wd at *
    generalize Wc.heap.size = l at *
    refine hKQ.out _ _ (hHn) ?_
    clear hHeld hKQ KQ
    intro hHeld
    try refine kNK ?_
    refine kOK 13 fun KQ hKQ => ?_
    obtain ⟨Wc, hWc⟩ : ∃ Wc, Wc = Below.worldP hHeld := ⟨_, rfl⟩
    simp only [Below.worldP] at hWc
    rw [← hWc] at hHeld ⊢
    try rw [← hWc] at HF
    try rw [← hWc] at HL
    clear hWc
    go_simp
    have hnew := heap_alloc_new Wc (.cells #[.int .i64 0, .int .i64 0] 36)
    have hbn := below1 Wc (.cells #[.int .i64 0, .int .i64 0] 36)
    have hnz : w.heap.size + 1 ≤ Wc.heap.size := HLE.out _ hHeld
    try have hfl : Wc.heap.size ≠ l := by have := block_lt HL.out; omega
    try (have HFn := Lib.hid ((hbn.block _ (block_lt HF.out)).trans HF.out); clear HF; have HF := HFn; clear HFn)
    try (have HLn := Lib.hid ((hbn.block _ (block_lt HL.out)).trans HL.out); clear HL; have HL := HLn; clear HLn)
    have HF := Lib.hid hnew
    have hHn := hHeld.trans (hbn.mono hnz)
    clear hnew hbn
    generalize Wc.alloc (.cells #[.int .i64 0, .int .i64 0] 36) = Wd at *
    generalize Wc.heap.size = f at *
    refine hKQ.out _ _ (hHn) ?_
    clear hHeld hKQ KQ
    intro hHeld
    try refine kNK ?_
   rotate_left 1
  rotate_left 2
  focus
   obtain ⟨Wc, hWc⟩ : ∃ Wc, Wc = Below.worldP hHeld := ⟨_, rfl⟩
   simp only [Below.worldP] at hWc
   rw [← hWc] at hHeld ⊢
   try rw [← hWc] at HF
   try rw [← hWc] at HL
   clear hWc
   go_simp
   have hnew := heap_alloc_new Wc (.cells #[.int .i64 0, .int .i64 0] 36)
   have hbn := below1 Wc (.cells #[.int .i64 0, .int .i64 0] 36)
   have hnz : w.heap.size + 1 ≤ Wc.heap.size := HLE.out _ hHeld
   try have hfl : Wc.heap.size ≠ l := by have := block_lt HL.out; omega
   try (have HFn := Lib.hid ((hbn.block _ (block_lt HF.out)).trans HF.out); clear HF; have HF := HFn; clear HFn)
   try (have HLn := Lib.hid ((hbn.block _ (block_lt HL.out)).trans HL.out); clear HL; have HL := HLn; clear HLn)
   have HF := Lib.hid hnew
   have hHn := hHeld.trans (hbn.mono hnz)
   clear hnew hbn
   generalize Wc.alloc (.cells #[.int .i64 0, .int .i64 0] 36) = Wd at *
   generalize Wc.heap.size = f at *
   refine hKQ.out _ _ (hHn) ?_
   clear hHeld hKQ KQ
   intro hHeld
   try refine kNK ?_
   refine wpAnyK_ready (rs := [8, 14]) (by kernel_rfl) (by simp) ?_
   refine AllReadyK.cons rfl (fun KQ hKQ => ?_) (AllReadyK.cons rfl (fun KQ hKQ => ?_) AllReadyK.nil)
   focus
    obtain ⟨Wc, hWc⟩ : ∃ Wc, Wc = Below.worldP hHeld := ⟨_, rfl⟩
    simp only [Below.worldP] at hWc
    rw [← hWc] at hHeld ⊢
    try rw [← hWc] at HF
    try rw [← hWc] at HL
    clear hWc
    go_simp
    go_at_call 88
    refine (HPT.out _).mono ?_
    rintro e wb ⟨rfl, hba⟩
    try (have HFn := Lib.hid ((hba.block _ (block_lt HF.out)).trans HF.out); clear HF; have HF := HFn; clear HFn)
    try (have HLn := Lib.hid ((hba.block _ (block_lt HL.out)).trans HL.out); clear HL; have HL := HLn; clear HLn)
    have hHn := hHeld.trans (hba.mono (HLE.out _ hHeld))
    clear hba
    go_wp2_with fail
    refine hKQ.out _ _ (hHn) ?_
    clear hHeld hKQ KQ
    intro hHeld
    try refine kNK ?_
    refine kSK 9 hHeld ?_
    refine kSK 10 hHeld ?_
    refine kSK 11 hHeld ?_
    refine kSK 12 hHeld ?_
    try refine kNK ?_
    refine kOK 14 fun KQ hKQ => ?_
    obtain ⟨Wc, hWc⟩ : ∃ Wc, Wc = Below.worldP hHeld := ⟨_, rfl⟩
    simp only [Below.worldP] at hWc
    rw [← hWc] at hHeld ⊢
    try rw [← hWc] at HF
    try rw [← hWc] at HL
    clear hWc
    go_simp
    have hnew := heap_alloc_new Wc (.cells #[.int .i64 0, .int .i64 0] 36)
    have hbn := below1 Wc (.cells #[.int .i64 0, .int .i64 0] 36)
    have hnz : w.heap.size + 1 ≤ Wc.heap.size := HLE.out _ hHeld
    try have hfl : Wc.heap.size ≠ f := by have := block_lt HF.out; omega
    try (have HFn := Lib.hid ((hbn.block _ (block_lt HF.out)).trans HF.out); clear HF; have HF := HFn; clear HFn)
    try (have HLn := Lib.hid ((hbn.block _ (block_lt HL.out)).trans HL.out); clear HL; have HL := HLn; clear HLn)
    have HL := Lib.hid hnew
    have hHn := hHeld.trans (hbn.mono hnz)
    clear hnew hbn
    generalize Wc.alloc (.cells #[.int .i64 0, .int .i64 0] 36) = Wd at *
    generalize Wc.heap.size = l at *
    refine hKQ.out _ _ (hHn) ?_
    clear hHeld hKQ KQ
    intro hHeld
    try refine kNK ?_
   rotate_left 1
   focus
    obtain ⟨Wc, hWc⟩ : ∃ Wc, Wc = Below.worldP hHeld := ⟨_, rfl⟩
    simp only [Below.worldP] at hWc
    rw [← hWc] at hHeld ⊢
    try rw [← hWc] at HF
    try rw [← hWc] at HL
    clear hWc
    go_simp
    have hnew := heap_alloc_new Wc (.cells #[.int .i64 0, .int .i64 0] 36)
    have hbn := below1 Wc (.cells #[.int .i64 0, .int .i64 0] 36)
    have hnz : w.heap.size + 1 ≤ Wc.heap.size := HLE.out _ hHeld
    try have hfl : Wc.heap.size ≠ f := by have := block_lt HF.out; omega
    try (have HFn := Lib.hid ((hbn.block _ (block_lt HF.out)).trans HF.out); clear HF; have HF := HFn; clear HFn)
    try (have HLn := Lib.hid ((hbn.block _ (block_lt HL.out)).trans HL.out); clear HL; have HL := HLn; clear HLn)
    have HL := Lib.hid hnew
    have hHn := hHeld.trans (hbn.mono hnz)
    clear hnew hbn
    generalize Wc.alloc (.cells #[.int .i64 0, .int .i64 0] 36) = Wd at *
    generalize Wc.heap.size = l at *
    refine hKQ.out _ _ (hHn) ?_
    clear hHeld hKQ KQ
    intro hHeld
    try refine kNK ?_
    refine kOK 8 fun KQ hKQ => ?_
    obtain ⟨Wc, hWc⟩ : ∃ Wc, Wc = Below.worldP hHeld := ⟨_, rfl⟩
    simp only [Below.worldP] at hWc
    rw [← hWc] at hHeld ⊢
    try rw [← hWc] at HF
    try rw [← hWc] at HL
    clear hWc
    go_simp
    go_at_call 88
    refine (HPT.out _).mono ?_
    rintro e wb ⟨rfl, hba⟩
    try (have HFn := Lib.hid ((hba.block _ (block_lt HF.out)).trans HF.out); clear HF; have HF := HFn; clear HFn)
    try (have HLn := Lib.hid ((hba.block _ (block_lt HL.out)).trans HL.out); clear HL; have HL := HLn; clear HLn)
    have hHn := hHeld.trans (hba.mono (HLE.out _ hHeld))
    clear hba
    go_wp2_with fail
    refine hKQ.out _ _ (hHn) ?_
    clear hHeld hKQ KQ
    intro hHeld
    try refine kNK ?_
    refine kSK 9 hHeld ?_
    refine kSK 10 hHeld ?_
    refine kSK 11 hHeld ?_
    refine kSK 12 hHeld ?_
    try refine kNK ?_
   rotate_left 1
  rotate_left 2
  focus
   obtain ⟨Wc, hWc⟩ : ∃ Wc, Wc = Below.worldP hHeld := ⟨_, rfl⟩
   simp only [Below.worldP] at hWc
   rw [← hWc] at hHeld ⊢
   try rw [← hWc] at HF
   try rw [← hWc] at HL
   clear hWc
   go_simp
   have hnew := heap_alloc_new Wc (.cells #[.int .i64 0, .int .i64 0] 36)
   have hbn := below1 Wc (.cells #[.int .i64 0, .int .i64 0] 36)
   have hnz : w.heap.size + 1 ≤ Wc.heap.size := HLE.out _ hHeld
   try have hfl : Wc.heap.size ≠ f := by have := block_lt HF.out; omega
   try (have HFn := Lib.hid ((hbn.block _ (block_lt HF.out)).trans HF.out); clear HF; have HF := HFn; clear HFn)
   try (have HLn := Lib.hid ((hbn.block _ (block_lt HL.out)).trans HL.out); clear HL; have HL := HLn; clear HLn)
   have HL := Lib.hid hnew
   have hHn := hHeld.trans (hbn.mono hnz)
   clear hnew hbn
   generalize Wc.alloc (.cells #[.int .i64 0, .int .i64 0] 36) = Wd at *
   generalize Wc.heap.size = l at *
   refine hKQ.out _ _ (hHn) ?_
   clear hHeld hKQ KQ
   intro hHeld
   try refine kNK ?_
   refine wpAnyK_ready (rs := [8, 13]) (by kernel_rfl) (by simp) ?_
   refine AllReadyK.cons rfl (fun KQ hKQ => ?_) (AllReadyK.cons rfl (fun KQ hKQ => ?_) AllReadyK.nil)
   focus
    obtain ⟨Wc, hWc⟩ : ∃ Wc, Wc = Below.worldP hHeld := ⟨_, rfl⟩
    simp only [Below.worldP] at hWc
    rw [← hWc] at hHeld ⊢
    try rw [← hWc] at HF
    try rw [← hWc] at HL
    clear hWc
    go_simp
    go_at_call 88
    refine (HPT.out _).mono ?_
    rintro e wb ⟨rfl, hba⟩
    try (have HFn := Lib.hid ((hba.block _ (block_lt HF.out)).trans HF.out); clear HF; have HF := HFn; clear HFn)
    try (have HLn := Lib.hid ((hba.block _ (block_lt HL.out)).trans HL.out); clear HL; have HL := HLn; clear HLn)
    have hHn := hHeld.trans (hba.mono (HLE.out _ hHeld))
    clear hba
    go_wp2_with fail
    refine hKQ.out _ _ (hHn) ?_
    clear hHeld hKQ KQ
    intro hHeld
    try refine kNK ?_
    refine kSK 9 hHeld ?_
    refine kSK 10 hHeld ?_
    refine kSK 11 hHeld ?_
    refine kSK 12 hHeld ?_
    try refine kNK ?_
    refine kOK 13 fun KQ hKQ => ?_
    obtain ⟨Wc, hWc⟩ : ∃ Wc, Wc = Below.worldP hHeld := ⟨_, rfl⟩
    simp only [Below.worldP] at hWc
    rw [← hWc] at hHeld ⊢
    try rw [← hWc] at HF
    try rw [← hWc] at HL
    clear hWc
    go_simp
    have hnew := heap_alloc_new Wc (.cells #[.int .i64 0, .int .i64 0] 36)
    have hbn := below1 Wc (.cells #[.int .i64 0, .int .i64 0] 36)
    have hnz : w.heap.size + 1 ≤ Wc.heap.size := HLE.out _ hHeld
    try have hfl : Wc.heap.size ≠ l := by have := block_lt HL.out; omega
    try (have HFn := Lib.hid ((hbn.block _ (block_lt HF.out)).trans HF.out); clear HF; have HF := HFn; clear HFn)
    try (have HLn := Lib.hid ((hbn.block _ (block_lt HL.out)).trans HL.out); clear HL; have HL := HLn; clear HLn)
    have HF := Lib.hid hnew
    have hHn := hHeld.trans (hbn.mono hnz)
    clear hnew hbn
    generalize Wc.alloc (.cells #[.int .i64 0, .int .i64 0] 36) = Wd at *
    generalize Wc.heap.size = f at *
    refine hKQ.out _ _ (hHn) ?_
    clear hHeld hKQ KQ
    intro hHeld
    try refine kNK ?_
   rotate_left 1
   focus
    obtain ⟨Wc, hWc⟩ : ∃ Wc, Wc = Below.worldP hHeld := ⟨_, rfl⟩
    simp only [Below.worldP] at hWc
    rw [← hWc] at hHeld ⊢
    try rw [← hWc] at HF
    try rw [← hWc] at HL
    clear hWc
    go_simp
    have hnew := heap_alloc_new Wc (.cells #[.int .i64 0, .int .i64 0] 36)
    have hbn := below1 Wc (.cells #[.int .i64 0, .int .i64 0] 36)
    have hnz : w.heap.size + 1 ≤ Wc.heap.size := HLE.out _ hHeld
    try have hfl : Wc.heap.size ≠ l := by have := block_lt HL.out; omega
    try (have HFn := Lib.hid ((hbn.block _ (block_lt HF.out)).trans HF.out); clear HF; have HF := HFn; clear HFn)
    try (have HLn := Lib.hid ((hbn.block _ (block_lt HL.out)).trans HL.out); clear HL; have HL := HLn; clear HLn)
    have HF := Lib.hid hnew
    have hHn := hHeld.trans (hbn.mono hnz)
    clear hnew hbn
    generalize Wc.alloc (.cells #[.int .i64 0, .int .i64 0] 36) = Wd at *
    generalize Wc.heap.size = f at *
    refine hKQ.out _ _ (hHn) ?_
    clear hHeld hKQ KQ
    intro hHeld
    try refine kNK ?_
    refine kOK 8 fun KQ hKQ => ?_
    obtain ⟨Wc, hWc⟩ : ∃ Wc, Wc = Below.worldP hHeld := ⟨_, rfl⟩
    simp only [Below.worldP] at hWc
    rw [← hWc] at hHeld ⊢
    try rw [← hWc] at HF
    try rw [← hWc] at HL
    clear hWc
    go_simp
    go_at_call 88
    refine (HPT.out _).mono ?_
    rintro e wb ⟨rfl, hba⟩
    try (have HFn := Lib.hid ((hba.block _ (block_lt HF.out)).trans HF.out); clear HF; have HF := HFn; clear HFn)
    try (have HLn := Lib.hid ((hba.block _ (block_lt HL.out)).trans HL.out); clear HL; have HL := HLn; clear HLn)
    have hHn := hHeld.trans (hba.mono (HLE.out _ hHeld))
    clear hba
    go_wp2_with fail
    refine hKQ.out _ _ (hHn) ?_
    clear hHeld hKQ KQ
    intro hHeld
    try refine kNK ?_
    refine kSK 9 hHeld ?_
    refine kSK 10 hHeld ?_
    refine kSK 11 hHeld ?_
    refine kSK 12 hHeld ?_
    try refine kNK ?_
   rotate_left 1
  rotate_left 2
 rotate_left 6
 focus
  obtain ⟨Wc, hWc⟩ : ∃ Wc, Wc = Below.worldP hHeld := ⟨_, rfl⟩
  simp only [Below.worldP] at hWc
  rw [← hWc] at hHeld ⊢
  try rw [← hWc] at HF
  try rw [← hWc] at HL
  clear hWc
  go_simp
  have hnew := heap_alloc_new Wc (.cells #[.int .i64 0, .int .i64 0] 36)
  have hbn := below1 Wc (.cells #[.int .i64 0, .int .i64 0] 36)
  have hnz : w.heap.size + 1 ≤ Wc.heap.size := HLE.out _ hHeld
  try have hfl : Wc.heap.size ≠ l := by have := block_lt HL.out; omega
  try (have HFn := Lib.hid ((hbn.block _ (block_lt HF.out)).trans HF.out); clear HF; have HF := HFn; clear HFn)
  try (have HLn := Lib.hid ((hbn.block _ (block_lt HL.out)).trans HL.out); clear HL; have HL := HLn; clear HLn)
  have HF := Lib.hid hnew
  have hHn := hHeld.trans (hbn.mono hnz)
  clear hnew hbn
  generalize Wc.alloc (.cells #[.int .i64 0, .int .i64 0] 36) = Wd at *
  generalize Wc.heap.size = f at *
  refine hKQ.out _ _ (hHn) ?_
  clear hHeld hKQ KQ
  intro hHeld
  try refine kNK ?_
  refine wpAnyK_ready (rs := [1, 14]) (by kernel_rfl) (by simp) ?_
  refine AllReadyK.cons rfl (fun KQ hKQ => ?_) (AllReadyK.cons rfl (fun KQ hKQ => ?_) AllReadyK.nil)
  focus
   obtain ⟨Wc, hWc⟩ : ∃ Wc, Wc = Below.worldP hHeld := ⟨_, rfl⟩
   simp only [Below.worldP] at hWc
   rw [← hWc] at hHeld ⊢
   try rw [← hWc] at HF
   try rw [← hWc] at HL
   clear hWc
   go_simp
   go_at_call 89
   refine (HSZ.out _ (HX1.out _ hHeld).2).mono ?_
   rintro e wa ⟨rfl, hba⟩
   try (have HFn := Lib.hid ((hba.block _ (block_lt HF.out)).trans HF.out); clear HF; have HF := HFn; clear HFn)
   try (have HLn := Lib.hid ((hba.block _ (block_lt HL.out)).trans HL.out); clear HL; have HL := HLn; clear HLn)
   have hHn := hHeld.trans (hba.mono (HLE.out _ hHeld))
   clear hba
   go_wp2_with fail
   refine hKQ.out _ _ (hHn) ?_
   clear hHeld hKQ KQ
   intro hHeld
   try refine kNK ?_
   refine wpAnyK_ready (rs := [8, 14]) (by kernel_rfl) (by simp) ?_
   refine AllReadyK.cons rfl (fun KQ hKQ => ?_) (AllReadyK.cons rfl (fun KQ hKQ => ?_) AllReadyK.nil)
   focus
    obtain ⟨Wc, hWc⟩ : ∃ Wc, Wc = Below.worldP hHeld := ⟨_, rfl⟩
    simp only [Below.worldP] at hWc
    rw [← hWc] at hHeld ⊢
    try rw [← hWc] at HF
    try rw [← hWc] at HL
    clear hWc
    go_simp
    go_at_call 88
    refine (HPT.out _).mono ?_
    rintro e wb ⟨rfl, hba⟩
    try (have HFn := Lib.hid ((hba.block _ (block_lt HF.out)).trans HF.out); clear HF; have HF := HFn; clear HFn)
    try (have HLn := Lib.hid ((hba.block _ (block_lt HL.out)).trans HL.out); clear HL; have HL := HLn; clear HLn)
    have hHn := hHeld.trans (hba.mono (HLE.out _ hHeld))
    clear hba
    go_wp2_with fail
    refine hKQ.out _ _ (hHn) ?_
    clear hHeld hKQ KQ
    intro hHeld
    try refine kNK ?_
    refine kSK 9 hHeld ?_
    refine kSK 10 hHeld ?_
    refine kSK 11 hHeld ?_
    refine kSK 12 hHeld ?_
    try refine kNK ?_
    refine kOK 14 fun KQ hKQ => ?_
    obtain ⟨Wc, hWc⟩ : ∃ Wc, Wc = Below.worldP hHeld := ⟨_, rfl⟩
    simp only [Below.worldP] at hWc
    rw [← hWc] at hHeld ⊢
    try rw [← hWc] at HF
    try rw [← hWc] at HL
    clear hWc
    go_simp
    have hnew := heap_alloc_new Wc (.cells #[.int .i64 0, .int .i64 0] 36)
    have hbn := below1 Wc (.cells #[.int .i64 0, .int .i64 0] 36)
    have hnz : w.heap.size + 1 ≤ Wc.heap.size := HLE.out _ hHeld
    try have hfl : Wc.heap.size ≠ f := by have := block_lt HF.out; omega
    try (have HFn := Lib.hid ((hbn.block _ (block_lt HF.out)).trans HF.out); clear HF; have HF := HFn; clear HFn)
    try (have HLn := Lib.hid ((hbn.block _ (block_lt HL.out)).trans HL.out); clear HL; have HL := HLn; clear HLn)
    have HL := Lib.hid hnew
    have hHn := hHeld.trans (hbn.mono hnz)
    clear hnew hbn
    generalize Wc.alloc (.cells #[.int .i64 0, .int .i64 0] 36) = Wd at *
    generalize Wc.heap.size = l at *
    refine hKQ.out _ _ (hHn) ?_
    clear hHeld hKQ KQ
    intro hHeld
    try refine kNK ?_
   rotate_left 1
   focus
    obtain ⟨Wc, hWc⟩ : ∃ Wc, Wc = Below.worldP hHeld := ⟨_, rfl⟩
    simp only [Below.worldP] at hWc
    rw [← hWc] at hHeld ⊢
    try rw [← hWc] at HF
    try rw [← hWc] at HL
    clear hWc
    go_simp
    have hnew := heap_alloc_new Wc (.cells #[.int .i64 0, .int .i64 0] 36)
    have hbn := below1 Wc (.cells #[.int .i64 0, .int .i64 0] 36)
    have hnz : w.heap.size + 1 ≤ Wc.heap.size := HLE.out _ hHeld
    try have hfl : Wc.heap.size ≠ f := by have := block_lt HF.out; omega
    try (have HFn := Lib.hid ((hbn.block _ (block_lt HF.out)).trans HF.out); clear HF; have HF := HFn; clear HFn)
    try (have HLn := Lib.hid ((hbn.block _ (block_lt HL.out)).trans HL.out); clear HL; have HL := HLn; clear HLn)
    have HL := Lib.hid hnew
    have hHn := hHeld.trans (hbn.mono hnz)
    clear hnew hbn
    generalize Wc.alloc (.cells #[.int .i64 0, .int .i64 0] 36) = Wd at *
    generalize Wc.heap.size = l at *
    refine hKQ.out _ _ (hHn) ?_
    clear hHeld hKQ KQ
    intro hHeld
    try refine kNK ?_
    refine kOK 8 fun KQ hKQ => ?_
    obtain ⟨Wc, hWc⟩ : ∃ Wc, Wc = Below.worldP hHeld := ⟨_, rfl⟩
    simp only [Below.worldP] at hWc
    rw [← hWc] at hHeld ⊢
    try rw [← hWc] at HF
    try rw [← hWc] at HL
    clear hWc
    go_simp
    go_at_call 88
    refine (HPT.out _).mono ?_
    rintro e wb ⟨rfl, hba⟩
    try (have HFn := Lib.hid ((hba.block _ (block_lt HF.out)).trans HF.out); clear HF; have HF := HFn; clear HFn)
    try (have HLn := Lib.hid ((hba.block _ (block_lt HL.out)).trans HL.out); clear HL; have HL := HLn; clear HLn)
    have hHn := hHeld.trans (hba.mono (HLE.out _ hHeld))
    clear hba
    go_wp2_with fail
    refine hKQ.out _ _ (hHn) ?_
    clear hHeld hKQ KQ
    intro hHeld
    try refine kNK ?_
    refine kSK 9 hHeld ?_
    refine kSK 10 hHeld ?_
    refine kSK 11 hHeld ?_
    refine kSK 12 hHeld ?_
    try refine kNK ?_
   rotate_left 1
  rotate_left 2
  focus
   obtain ⟨Wc, hWc⟩ : ∃ Wc, Wc = Below.worldP hHeld := ⟨_, rfl⟩
   simp only [Below.worldP] at hWc
   rw [← hWc] at hHeld ⊢
   try rw [← hWc] at HF
   try rw [← hWc] at HL
   clear hWc
   go_simp
   have hnew := heap_alloc_new Wc (.cells #[.int .i64 0, .int .i64 0] 36)
   have hbn := below1 Wc (.cells #[.int .i64 0, .int .i64 0] 36)
   have hnz : w.heap.size + 1 ≤ Wc.heap.size := HLE.out _ hHeld
   try have hfl : Wc.heap.size ≠ f := by have := block_lt HF.out; omega
   try (have HFn := Lib.hid ((hbn.block _ (block_lt HF.out)).trans HF.out); clear HF; have HF := HFn; clear HFn)
   try (have HLn := Lib.hid ((hbn.block _ (block_lt HL.out)).trans HL.out); clear HL; have HL := HLn; clear HLn)
   have HL := Lib.hid hnew
   have hHn := hHeld.trans (hbn.mono hnz)
   clear hnew hbn
   generalize Wc.alloc (.cells #[.int .i64 0, .int .i64 0] 36) = Wd at *
   generalize Wc.heap.size = l at *
   refine hKQ.out _ _ (hHn) ?_
   clear hHeld hKQ KQ
   intro hHeld
   try refine kNK ?_
   refine kOK 1 fun KQ hKQ => ?_
   obtain ⟨Wc, hWc⟩ : ∃ Wc, Wc = Below.worldP hHeld := ⟨_, rfl⟩
   simp only [Below.worldP] at hWc
   rw [← hWc] at hHeld ⊢
   try rw [← hWc] at HF
   try rw [← hWc] at HL
   clear hWc
   go_simp
   go_at_call 89
   refine (HSZ.out _ (HX1.out _ hHeld).2).mono ?_
   rintro e wa ⟨rfl, hba⟩
   try (have HFn := Lib.hid ((hba.block _ (block_lt HF.out)).trans HF.out); clear HF; have HF := HFn; clear HFn)
   try (have HLn := Lib.hid ((hba.block _ (block_lt HL.out)).trans HL.out); clear HL; have HL := HLn; clear HLn)
   have hHn := hHeld.trans (hba.mono (HLE.out _ hHeld))
   clear hba
   go_wp2_with fail
   refine hKQ.out _ _ (hHn) ?_
   clear hHeld hKQ KQ
   intro hHeld
   try refine kNK ?_
   refine kOK 8 fun KQ hKQ => ?_
   obtain ⟨Wc, hWc⟩ : ∃ Wc, Wc = Below.worldP hHeld := ⟨_, rfl⟩
   simp only [Below.worldP] at hWc
   rw [← hWc] at hHeld ⊢
   try rw [← hWc] at HF
   try rw [← hWc] at HL
   clear hWc
   go_simp
   go_at_call 88
   refine (HPT.out _).mono ?_
   rintro e wb ⟨rfl, hba⟩
   try (have HFn := Lib.hid ((hba.block _ (block_lt HF.out)).trans HF.out); clear HF; have HF := HFn; clear HFn)
   try (have HLn := Lib.hid ((hba.block _ (block_lt HL.out)).trans HL.out); clear HL; have HL := HLn; clear HLn)
   have hHn := hHeld.trans (hba.mono (HLE.out _ hHeld))
   clear hba
   go_wp2_with fail
   refine hKQ.out _ _ (hHn) ?_
   clear hHeld hKQ KQ
   intro hHeld
   try refine kNK ?_
   refine kSK 9 hHeld ?_
   refine kSK 10 hHeld ?_
   refine kSK 11 hHeld ?_
   refine kSK 12 hHeld ?_
   try refine kNK ?_
  rotate_left 1
 rotate_left 3
 focus
  obtain ⟨Wc, hWc⟩ : ∃ Wc, Wc = Below.worldP hHeld := ⟨_, rfl⟩
  simp only [Below.worldP] at hWc
  rw [← hWc] at hHeld ⊢
  try rw [← hWc] at HF
  try rw [← hWc] at HL
  clear hWc
  go_simp
  have hnew := heap_alloc_new Wc (.cells #[.int .i64 0, .int .i64 0] 36)
  have hbn := below1 Wc (.cells #[.int .i64 0, .int .i64 0] 36)
  have hnz : w.heap.size + 1 ≤ Wc.heap.size := HLE.out _ hHeld
  try have hfl : Wc.heap.size ≠ f := by have := block_lt HF.out; omega
  try (have HFn := Lib.hid ((hbn.block _ (block_lt HF.out)).trans HF.out); clear HF; have HF := HFn; clear HFn)
  try (have HLn := Lib.hid ((hbn.block _ (block_lt HL.out)).trans HL.out); clear HL; have HL := HLn; clear HLn)
  have HL := Lib.hid hnew
  have hHn := hHeld.trans (hbn.mono hnz)
  clear hnew hbn
  generalize Wc.alloc (.cells #[.int .i64 0, .int .i64 0] 36) = Wd at *
  generalize Wc.heap.size = l at *
  refine hKQ.out _ _ (hHn) ?_
  clear hHeld hKQ KQ
  intro hHeld
  try refine kNK ?_
  refine wpAnyK_ready (rs := [1, 13]) (by kernel_rfl) (by simp) ?_
  refine AllReadyK.cons rfl (fun KQ hKQ => ?_) (AllReadyK.cons rfl (fun KQ hKQ => ?_) AllReadyK.nil)
  focus
   obtain ⟨Wc, hWc⟩ : ∃ Wc, Wc = Below.worldP hHeld := ⟨_, rfl⟩
   simp only [Below.worldP] at hWc
   rw [← hWc] at hHeld ⊢
   try rw [← hWc] at HF
   try rw [← hWc] at HL
   clear hWc
   go_simp
   go_at_call 89
   refine (HSZ.out _ (HX1.out _ hHeld).2).mono ?_
   rintro e wa ⟨rfl, hba⟩
   try (have HFn := Lib.hid ((hba.block _ (block_lt HF.out)).trans HF.out); clear HF; have HF := HFn; clear HFn)
   try (have HLn := Lib.hid ((hba.block _ (block_lt HL.out)).trans HL.out); clear HL; have HL := HLn; clear HLn)
   have hHn := hHeld.trans (hba.mono (HLE.out _ hHeld))
   clear hba
   go_wp2_with fail
   refine hKQ.out _ _ (hHn) ?_
   clear hHeld hKQ KQ
   intro hHeld
   try refine kNK ?_
   refine wpAnyK_ready (rs := [8, 13]) (by kernel_rfl) (by simp) ?_
   refine AllReadyK.cons rfl (fun KQ hKQ => ?_) (AllReadyK.cons rfl (fun KQ hKQ => ?_) AllReadyK.nil)
   focus
    obtain ⟨Wc, hWc⟩ : ∃ Wc, Wc = Below.worldP hHeld := ⟨_, rfl⟩
    simp only [Below.worldP] at hWc
    rw [← hWc] at hHeld ⊢
    try rw [← hWc] at HF
    try rw [← hWc] at HL
    clear hWc
    go_simp
    go_at_call 88
    refine (HPT.out _).mono ?_
    rintro e wb ⟨rfl, hba⟩
    try (have HFn := Lib.hid ((hba.block _ (block_lt HF.out)).trans HF.out); clear HF; have HF := HFn; clear HFn)
    try (have HLn := Lib.hid ((hba.block _ (block_lt HL.out)).trans HL.out); clear HL; have HL := HLn; clear HLn)
    have hHn := hHeld.trans (hba.mono (HLE.out _ hHeld))
    clear hba
    go_wp2_with fail
    refine hKQ.out _ _ (hHn) ?_
    clear hHeld hKQ KQ
    intro hHeld
    try refine kNK ?_
    refine kSK 9 hHeld ?_
    refine kSK 10 hHeld ?_
    refine kSK 11 hHeld ?_
    refine kSK 12 hHeld ?_
    try refine kNK ?_
    refine kOK 13 fun KQ hKQ => ?_
    obtain ⟨Wc, hWc⟩ : ∃ Wc, Wc = Below.worldP hHeld := ⟨_, rfl⟩
    simp only [Below.worldP] at hWc
    rw [← hWc] at hHeld ⊢
    try rw [← hWc] at HF
    try rw [← hWc] at HL
    clear hWc
    go_simp
    have hnew := heap_alloc_new Wc (.cells #[.int .i64 0, .int .i64 0] 36)
    have hbn := below1 Wc (.cells #[.int .i64 0, .int .i64 0] 36)
    have hnz : w.heap.size + 1 ≤ Wc.heap.size := HLE.out _ hHeld
    try have hfl : Wc.heap.size ≠ l := by have := block_lt HL.out; omega
    try (have HFn := Lib.hid ((hbn.block _ (block_lt HF.out)).trans HF.out); clear HF; have HF := HFn; clear HFn)
    try (have HLn := Lib.hid ((hbn.block _ (block_lt HL.out)).trans HL.out); clear HL; have HL := HLn; clear HLn)
    have HF := Lib.hid hnew
    have hHn := hHeld.trans (hbn.mono hnz)
    clear hnew hbn
    generalize Wc.alloc (.cells #[.int .i64 0, .int .i64 0] 36) = Wd at *
    generalize Wc.heap.size = f at *
    refine hKQ.out _ _ (hHn) ?_
    clear hHeld hKQ KQ
    intro hHeld
    try refine kNK ?_
   rotate_left 1
   focus
    obtain ⟨Wc, hWc⟩ : ∃ Wc, Wc = Below.worldP hHeld := ⟨_, rfl⟩
    simp only [Below.worldP] at hWc
    rw [← hWc] at hHeld ⊢
    try rw [← hWc] at HF
    try rw [← hWc] at HL
    clear hWc
    go_simp
    have hnew := heap_alloc_new Wc (.cells #[.int .i64 0, .int .i64 0] 36)
    have hbn := below1 Wc (.cells #[.int .i64 0, .int .i64 0] 36)
    have hnz : w.heap.size + 1 ≤ Wc.heap.size := HLE.out _ hHeld
    try have hfl : Wc.heap.size ≠ l := by have := block_lt HL.out; omega
    try (have HFn := Lib.hid ((hbn.block _ (block_lt HF.out)).trans HF.out); clear HF; have HF := HFn; clear HFn)
    try (have HLn := Lib.hid ((hbn.block _ (block_lt HL.out)).trans HL.out); clear HL; have HL := HLn; clear HLn)
    have HF := Lib.hid hnew
    have hHn := hHeld.trans (hbn.mono hnz)
    clear hnew hbn
    generalize Wc.alloc (.cells #[.int .i64 0, .int .i64 0] 36) = Wd at *
    generalize Wc.heap.size = f at *
    refine hKQ.out _ _ (hHn) ?_
    clear hHeld hKQ KQ
    intro hHeld
    try refine kNK ?_
    refine kOK 8 fun KQ hKQ => ?_
    obtain ⟨Wc, hWc⟩ : ∃ Wc, Wc = Below.worldP hHeld := ⟨_, rfl⟩
    simp only [Below.worldP] at hWc
    rw [← hWc] at hHeld ⊢
    try rw [← hWc] at HF
    try rw [← hWc] at HL
    clear hWc
    go_simp
    go_at_call 88
    refine (HPT.out _).mono ?_
    rintro e wb ⟨rfl, hba⟩
    try (have HFn := Lib.hid ((hba.block _ (block_lt HF.out)).trans HF.out); clear HF; have HF := HFn; clear HFn)
    try (have HLn := Lib.hid ((hba.block _ (block_lt HL.out)).trans HL.out); clear HL; have HL := HLn; clear HLn)
    have hHn := hHeld.trans (hba.mono (HLE.out _ hHeld))
    clear hba
    go_wp2_with fail
    refine hKQ.out _ _ (hHn) ?_
    clear hHeld hKQ KQ
    intro hHeld
    try refine kNK ?_
    refine kSK 9 hHeld ?_
    refine kSK 10 hHeld ?_
    refine kSK 11 hHeld ?_
    refine kSK 12 hHeld ?_
    try refine kNK ?_
   rotate_left 1
  rotate_left 2
  focus
   obtain ⟨Wc, hWc⟩ : ∃ Wc, Wc = Below.worldP hHeld := ⟨_, rfl⟩
   simp only [Below.worldP] at hWc
   rw [← hWc] at hHeld ⊢
   try rw [← hWc] at HF
   try rw [← hWc] at HL
   clear hWc
   go_simp
   have hnew := heap_alloc_new Wc (.cells #[.int .i64 0, .int .i64 0] 36)
   have hbn := below1 Wc (.cells #[.int .i64 0, .int .i64 0] 36)
   have hnz : w.heap.size + 1 ≤ Wc.heap.size := HLE.out _ hHeld
   try have hfl : Wc.heap.size ≠ l := by have := block_lt HL.out; omega
   try (have HFn := Lib.hid ((hbn.block _ (block_lt HF.out)).trans HF.out); clear HF; have HF := HFn; clear HFn)
   try (have HLn := Lib.hid ((hbn.block _ (block_lt HL.out)).trans HL.out); clear HL; have HL := HLn; clear HLn)
   have HF := Lib.hid hnew
   have hHn := hHeld.trans (hbn.mono hnz)
   clear hnew hbn
   generalize Wc.alloc (.cells #[.int .i64 0, .int .i64 0] 36) = Wd at *
   generalize Wc.heap.size = f at *
   refine hKQ.out _ _ (hHn) ?_
   clear hHeld hKQ KQ
   intro hHeld
   try refine kNK ?_
   refine kOK 1 fun KQ hKQ => ?_
   obtain ⟨Wc, hWc⟩ : ∃ Wc, Wc = Below.worldP hHeld := ⟨_, rfl⟩
   simp only [Below.worldP] at hWc
   rw [← hWc] at hHeld ⊢
   try rw [← hWc] at HF
   try rw [← hWc] at HL
   clear hWc
   go_simp
   go_at_call 89
   refine (HSZ.out _ (HX1.out _ hHeld).2).mono ?_
   rintro e wa ⟨rfl, hba⟩
   try (have HFn := Lib.hid ((hba.block _ (block_lt HF.out)).trans HF.out); clear HF; have HF := HFn; clear HFn)
   try (have HLn := Lib.hid ((hba.block _ (block_lt HL.out)).trans HL.out); clear HL; have HL := HLn; clear HLn)
   have hHn := hHeld.trans (hba.mono (HLE.out _ hHeld))
   clear hba
   go_wp2_with fail
   refine hKQ.out _ _ (hHn) ?_
   clear hHeld hKQ KQ
   intro hHeld
   try refine kNK ?_
   refine kOK 8 fun KQ hKQ => ?_
   obtain ⟨Wc, hWc⟩ : ∃ Wc, Wc = Below.worldP hHeld := ⟨_, rfl⟩
   simp only [Below.worldP] at hWc
   rw [← hWc] at hHeld ⊢
   try rw [← hWc] at HF
   try rw [← hWc] at HL
   clear hWc
   go_simp
   go_at_call 88
   refine (HPT.out _).mono ?_
   rintro e wb ⟨rfl, hba⟩
   try (have HFn := Lib.hid ((hba.block _ (block_lt HF.out)).trans HF.out); clear HF; have HF := HFn; clear HFn)
   try (have HLn := Lib.hid ((hba.block _ (block_lt HL.out)).trans HL.out); clear HL; have HL := HLn; clear HLn)
   have hHn := hHeld.trans (hba.mono (HLE.out _ hHeld))
   clear hba
   go_wp2_with fail
   refine hKQ.out _ _ (hHn) ?_
   clear hHeld hKQ KQ
   intro hHeld
   try refine kNK ?_
   refine kSK 9 hHeld ?_
   refine kSK 10 hHeld ?_
   refine kSK 11 hHeld ?_
   refine kSK 12 hHeld ?_
   try refine kNK ?_
  rotate_left 1
 rotate_left 3
 all_goals (
  refine kPK 15 fun KQ hKQ => ?_
  obtain ⟨Wc, hWc⟩ : ∃ Wc, Wc = Below.worldP hHeld := ⟨_, rfl⟩
  simp only [Below.worldP] at hWc
  rw [← hWc] at hHeld ⊢
  try rw [← hWc] at HF
  try rw [← hWc] at HL
  clear hWc
  obtain ⟨d0, d1, g0, g1⟩ := row2 HF.out
  go_simp
  refine hKQ.out _ _ ?_
  clear hKQ KQ
  try refine kNK ?_
  refine kPK 16 fun KQ hKQ => ?_
  have hlf : l ≠ f := by omega
  obtain ⟨e0, e1, h0, h1⟩ := row2 ((set_two_other Wc f (.int .i64 fr.row) (.int .i64 fr.col) hlf).trans HL.out)
  go_simp
  refine hKQ.out _ _ ?_
  clear hKQ KQ
  try refine kNK ?_
  refine kBK 17 ?_
  try refine kNK ?_
  refine wpAnyK_done (by kernel_rfl) ?_ _
  refine NoPanic.normal ?_)
 all_goals (
  have hWE : Below (w.heap.size + 1) (w.alloc (.cells #[.int .i32 c.g, .int .i64 c.a, .bool c.gd, .int .i64 c.m] 56)) ((((Wc.setCell ⟨f, 0, none⟩ (.int .i64 fr.row)).setCell ⟨f, 1, none⟩ (.int .i64 fr.col)).setCell ⟨l, 0, none⟩ (.int .i64 tt.row)).setCell ⟨l, 1, none⟩ (.int .i64 tt.col)) := (((hHeld.setCell (p := ⟨f, 0, none⟩) (by show w.heap.size + 1 ≤ f; omega) _).setCell (p := ⟨f, 1, none⟩) (by show w.heap.size + 1 ≤ f; omega) _).setCell (p := ⟨l, 0, none⟩) (by show w.heap.size + 1 ≤ l; omega) _).setCell (p := ⟨l, 1, none⟩) (by show w.heap.size + 1 ≤ l; omega) _
  have hf5 := (set_two_other ((Wc.setCell ⟨f, 0, none⟩ (.int .i64 fr.row)).setCell ⟨f, 1, none⟩ (.int .i64 fr.col)) l (.int .i64 tt.row) (.int .i64 tt.col) (show f ≠ l by omega)).trans (set_two HF.out (.int .i64 fr.row) (.int .i64 fr.col))
  have hl5 := set_two ((set_two_other Wc f (.int .i64 fr.row) (.int .i64 fr.col) (show l ≠ f by omega)).trans HL.out) (.int .i64 tt.row) (.int .i64 tt.col)
  clear HF HL hHeld d0 d1 g0 g1 e0 e1 h0 h1
  generalize ((((Wc.setCell ⟨f, 0, none⟩ (.int .i64 fr.row)).setCell ⟨f, 1, none⟩ (.int .i64 fr.col)).setCell ⟨l, 0, none⟩ (.int .i64 tt.row)).setCell ⟨l, 1, none⟩ (.int .i64 tt.col)) = We at *
  obtain ⟨x0, x1⟩ := HX1.out _ hWE
  obtain ⟨q0, q1, q2, q3⟩ := cell4 x0
  obtain ⟨d0, d1, _⟩ := row2 hf5
  obtain ⟨e0, e1, _⟩ := row2 hl5
  have HW5 := Lib.hid x1
  clear hWE hf5 hl5 x0 x1
  rcases HPD.out with ⟨he, hd⟩ | ⟨he, hd⟩
  · subst he hd
    go_wp2_with (go_at_call 90; refine (HWI.out _ HW5.out).mono ?_; rintro e w6 ⟨rfl, hs⟩; have HS := Lib.hid (ScrTo.after HW5.out hs); clear hs)
    go_end0
    exact ⟨rfl, HS.out⟩
  · subst he hd
    go_wp2_with fail
    go_end0
    exact ⟨rfl, ScrTo.after HW5.out (ScrTo.refl (H.out.below HW5.out))⟩)
end
end Go.Proofs.YtncgigapgklhcaaGreatDoor
