import Derived.Test.YtncgigapgklhcaaGreatDoorJC

set_option maxRecDepth 100000
set_option maxHeartbeats 16000000
namespace Go.Proofs.YtncgigapgklhcaaGreatDoor
open Go.RowKit
set_option linter.unusedSimpArgs false
set_option linter.unusedVariables false
/- Walks of vizardref18: put. -/
section
set_option maxRecDepth 100000
attribute [local go_sem] alloc_drewN setCell_drewN World.cell?_alloc_some frozen_alloc_some size_f0 size_f1
section
variable {w : World} {rp lb cap sb : Nat} {r : Rf}
def foldB (b : Nat) : Nat := if 97 ≤ b ∧ b ≤ 122 then b - 32 else b
theorem foldB_G (b : Nat) : (foldB b : Int) = foldG b := by unfold foldB foldG; split <;> omega
theorem RfAt.colAt (h : RfAt w rp lb cap sb r) (c : Nat) : RfAt (w.setCell ⟨rp, 4, none⟩ (.int .i64 (c : Int))) rp lb cap sb { r with col := c } :=
 ⟨heap_set_same h.box 4 (.int .i64 (c : Int)), h.row.of_block (heap_setCell_other _ _ _ _ (fun e => h.n1 e.symm)), h.stops.of_block (heap_setCell_other _ _ _ _ (fun e => h.n2 e.symm)), h.n1, h.n2, h.n3⟩
theorem rf_put (h : RfAt w rp lb cap sb r) (hm : r.may) (b : Nat) (hb : 32 ≤ b ∧ b ≤ 126) : Calls Tryz.prog 69 #[.pointer (some ⟨rp, 0, none⟩), .int .u8 (b : Int)] w fun e w' => e = .returned (.tuple #[]) ∧ RfTo w w' rp lb sb (putR r b) := by
 have hn := hm.n
 have hl := hm.here_lt
 obtain ⟨n, hnn⟩ : ∃ n, r.R * r.C = n := ⟨_, rfl⟩
 obtain ⟨f, hf⟩ : ∃ f, r.here = f := ⟨_, rfl⟩
 obtain ⟨g, hg⟩ : ∃ g, foldB b = g := ⟨_, rfl⟩
 have hgl : g ≤ 126 := by rw [← hg]; unfold foldB; split <;> omega
 rw [hnn, hf] at hl
 rw [hnn] at hn
 have HN := Lib.hid hnn
 have HM := Lib.hid hm
 have H := Lib.hid (fun W (hb : Below w.heap.size w W) => h.below hb)
 obtain ⟨c, hc⟩ : ∃ c : Vz.Cl, c = cellR r b := ⟨_, rfl⟩
 have hcv : c.g = (g : Int) ∧ c.a = r.attr ∧ c.gd = r.gd ∧ c.m = 0 := by rw [hc, ← hg]; exact ⟨(foldB_G b).symm, rfl, rfl, rfl⟩
 have HPT : Hid (putR r b = if r.pr = true then (match freeR r f false with
  | none => r
  | some k => nextR (setR r k c) (freeR (setR r k c) ((k + 1) % n) false))
 else if r.col < r.C - 1 then { setR r f c with col := r.col + 1 }
 else feedR { setR r f c with col := 0 }) := by show _ = _; unfold putR; rw [hf, hnn, hc]; rfl
 have HER := Lib.hid (fun W (hb : Below w.heap.size w W) => rf_here (h.below hb) hm)
 have HFR := Lib.hid (fun W (hb : Below w.heap.size w W) => rf_free (h.below hb) hm f (by rw [hnn]; exact hl.1) false)
 rw [hf] at HER
 have e32 : IntKind.i32.wrap (g : Int) = (g : Int) := by simp [IntKind.wrap, IntKind.bits, IntKind.signed]; omega
 have e8 : IntKind.u8.wrap ((b : Int) - 32) = ((b : Int) - 32) := by simp [IntKind.wrap, IntKind.bits, IntKind.signed]; omega
 have eb : IntKind.i32.wrap ((b : Int) - 32) = ((b : Int) - 32) := by simp [IntKind.wrap, IntKind.bits, IntKind.signed]; omega
 have eb2 : IntKind.i32.wrap (b : Int) = (b : Int) := by simp [IntKind.wrap, IntKind.bits, IntKind.signed]; omega
 have hcase : (¬ 97 ≤ (b : Int) ∧ (g : Int) = (b : Int)) ∨ (97 ≤ (b : Int) ∧ ¬ (b : Int) ≤ 122 ∧ (g : Int) = (b : Int)) ∨ (97 ≤ (b : Int) ∧ (b : Int) ≤ 122 ∧ (g : Int) = (b : Int) - 32) := by
  rw [← hg]; unfold foldB
  by_cases h1 : 97 ≤ b
  · by_cases h2 : b ≤ 122
    · rw [if_pos ⟨h1, h2⟩]; omega
    · rw [if_neg (fun e => h2 e.2)]; omega
  · rw [if_neg (fun e => h1 e.1)]; omega
 have HB0 : Hid (Below w.heap.size w w.drew) := (Below.refl _ _).drew
 have HFN := Lib.hid hl.1
 clear h hm hnn hf hg hc hl
 obtain ⟨W0, hW0⟩ : ∃ W, (w.alloc (.cells #[.int .i32 c.g, .int .i64 r.attr, .bool r.gd, .int .i64 0] 56)).drew = W := ⟨_, rfl⟩
 have HW0 : Hid (Below w.heap.size w W0 ∧ W0.heap[w.heap.size]? = some (.cells #[.int .i32 c.g, .int .i64 c.a, .bool c.gd, .int .i64 c.m] 56 (0, 0))) := by
  show _ ∧ _
  rw [← hW0, hcv.2.1, hcv.2.2.1, hcv.2.2.2]
  exact ⟨(below1 w _).drew, heap_alloc_new w _⟩
 rcases hcase with ⟨q1, q3⟩ | ⟨q1, q2, q3⟩ | ⟨q1, q2, q3⟩
 all_goals (
  rw [q3] at hcv
  go_enter Tryz.func69, Tryz.ntmps69
  go_upto_region 2 with fail
  refine wp_region_noPanic ?_
  refine wp_region_k (S := fun W : World => Below w.heap.size w W) 12 (by kernel_rfl) (HB0.out) (fun hHeld => ?_)
  refine kSK 0 hHeld ?_
  refine kSK 1 hHeld ?_
  refine kSK 2 hHeld ?_
  refine kSK 3 hHeld ?_
  refine kSK 4 hHeld ?_
  try refine kNK ?_
  refine kTK (v := ?_) 5 [] hHeld ?y6 ?_
  case y6 => (intro W hSw; obtain ⟨⟨y0, y1, y2, y3, y4, y5, y6, y7, y8, y9, y10, y11, y12⟩, _⟩ := (H.out _ hSw).cellsN (n := n) HN.out; go_simp; try with_reducible rfl)
  refine kSK 6 hHeld ?_
  refine kSK 7 hHeld ?_
  refine kSK 8 hHeld ?_
  refine kTK (v := ?_) 9 [] hHeld ?y10 ?_
  case y10 => (intro W hSw; obtain ⟨⟨y0, y1, y2, y3, y4, y5, y6, y7, y8, y9, y10, y11, y12⟩, _⟩ := (H.out _ hSw).cellsN (n := n) HN.out; go_simp; try with_reducible rfl)
  try refine kNK ?_
  refine kSK 10 hHeld ?_
  try refine kNK ?_
  refine kOK 11 fun KQ hKQ => ?_
  go_simp
  skip
  refine hKQ.out _ _ (hHeld.alloc hHeld.size _) ?_
  clear hHeld hKQ KQ
  intro hHeld
  try refine kNK ?_
  refine kPK 12 fun KQ hKQ => ?_
  go_simp
  skip
  refine hKQ.out _ _ ?_
  clear hKQ KQ
  try refine kNK ?_
  refine wpAnyK_done (by kernel_rfl) ?_ _
  refine NoPanic.normal ?_
  rw [← hcv.1]
  rw [hW0]
  clear hW0 hHeld q1 q3 hcv e32 e8 eb eb2)
 all_goals (
  cases hp : r.pr with
  | true =>
    have HPR : Hid (∀ W, Below w.heap.size w W → W.cell? ⟨rp, 8, none⟩ = some (.bool true)) := fun W hb => by have := (H.out W hb).cells.1.2.2.2.2.2.2.2.2.1; rw [hp] at this; exact this
    have HPU := Lib.hid (HPT.out.trans (if_pos hp))
    clear hp HPT
    have y8 := HPR.out _ HW0.out.1
    cases hfr : freeR r f false with
    | none =>
      have HFR0 : Hid (∀ W, Below w.heap.size w W → Calls Tryz.prog 48 #[.pointer (some ⟨rp, 0, none⟩), .int .i64 (f : Int), .bool false] W fun e w' => e = .returned (.int .i64 (-1)) ∧ w' = W) := fun W hb => by have := HFR.out W hb; rw [hfr] at this; exact this
      have HPU2 : Hid (putR r b = r) := HPU.out.trans (by rw [hfr])
      clear hfr HPU HFR
      go_wp2_with (first
       | (go_at_call 47; refine (HER.out _ HW0.out.1).mono ?_; rintro e w2 ⟨rfl, hb2⟩; have HB2 := Lib.hid (Below.later HW0.out.1 hb2 HW0.out.1.size); clear hb2)
       | (go_at_call 48; refine (HFR0.out _ HB2.out).mono ?_; rintro e w3 ⟨rfl, rfl⟩))
      exact bodyPost_ret (results_none rfl _ _ _) rfl ⟨rfl, by rw [HPU2.out]; exact (RfTo.refl (H.out w (Below.refl _ _))).later HB2.out⟩
    | some k =>
      have hkn : k < n := by have := freeF_lt r f false (by rw [HN.out]; omega) _ _ _ hfr; rw [HN.out] at this; exact this
      have HFR0 : Hid (∀ W, Below w.heap.size w W → Calls Tryz.prog 48 #[.pointer (some ⟨rp, 0, none⟩), .int .i64 (f : Int), .bool false] W fun e w' => e = .returned (.int .i64 (k : Int)) ∧ w' = W) := fun W hb => by have := HFR.out W hb; rw [hfr] at this; exact this
      have HPU2 : Hid (putR r b = nextR (setR r k c) (freeR (setR r k c) ((k + 1) % n) false)) := HPU.out.trans (by rw [hfr])
      have hk0 : ¬ (k : Int) < 0 := by omega
      have hkz : (k : Int) < (n : Int) := by omega
      clear hfr HPU HFR
      go_upto_region 6 with (first
       | (go_at_call 47; refine (HER.out _ HW0.out.1).mono ?_; rintro e w2 ⟨rfl, hb2⟩; have HB2 := Lib.hid (Below.later HW0.out.1 hb2 HW0.out.1.size); have HC2 := Lib.hid ((hb2.block _ (block_lt HW0.out.2)).trans HW0.out.2); clear hb2)
       | (go_at_call 48; refine (HFR0.out _ HB2.out).mono ?_; rintro e w3 ⟨rfl, rfl⟩))
      have HD : Hid (Below w3.heap.size w3 w3.drew) := (Below.refl _ _).drew
      have HW : Hid (∀ W, Below w3.heap.size w3 W → RfAt W rp lb cap sb r ∧ W.heap[w.heap.size]? = some (.cells #[.int .i32 c.g, .int .i64 c.a, .bool c.gd, .int .i64 c.m] 56 (0, 0))) := fun W hW => ⟨H.out W (Below.later HB2.out hW HB2.out.size), (hW.block _ (block_lt HC2.out)).trans HC2.out⟩
      have HP : Hid (RfAt ((((w3.setCell ⟨lb, k * 4, none⟩ (.int .i32 c.g)).setCell ⟨lb, k * 4 + 1, none⟩ (.int .i64 c.a)).setCell ⟨lb, k * 4 + 2, none⟩ (.bool c.gd)).setCell ⟨lb, k * 4 + 3, none⟩ (.int .i64 c.m)).drew rp lb cap sb (setR r k c) ∧ Keeps (fun x => x = rp ∨ x = lb ∨ x = sb) w ((((w3.setCell ⟨lb, k * 4, none⟩ (.int .i32 c.g)).setCell ⟨lb, k * 4 + 1, none⟩ (.int .i64 c.a)).setCell ⟨lb, k * 4 + 2, none⟩ (.bool c.gd)).setCell ⟨lb, k * 4 + 3, none⟩ (.int .i64 c.m)).drew) := by
       have hp := (H.out _ HB2.out).put k c
       have hd := hp.1.below (Below.refl _ _).drew
       exact ⟨hd, ((Keeps.of_below HB2.out : Keeps (fun x => x = rp ∨ x = lb ∨ x = sb) w w3).trans hp.2 fun x e => .inl (.inr (.inl e))).trans (Keeps.of_below (Below.refl _ _).drew : Keeps (fun x => x = lb) _ _) fun x e => .inl (.inr (.inl e))⟩
      obtain ⟨⟨q0, q1', q2', q3'⟩, fr⟩ := (H.out _ HB2.out).at_ (k := k) (by rw [HN.out]; exact hkn)
      have fr0 := fr (k * 4)
      have fr1 := fr (k * 4 + 1)
      have fr2 := fr (k * 4 + 2)
      have fr3 := fr (k * 4 + 3)
      clear fr y8
      refine wp_region_noPanic ?_
      refine wp_region_k (S := fun W : World => Below w3.heap.size w3 W) 7 (by kernel_rfl) (HD.out) (fun hHeld => ?_)
      refine kSK 0 hHeld ?_
      refine kSK 1 hHeld ?_
      refine kSK 2 hHeld ?_
      refine kTK (v := ?_) 3 [] hHeld ?y4 ?_
      case y4 => (intro W hSw; obtain ⟨⟨y0, y1, y2, y3, y4, y5, y6, y7, y8, y9, y10, y11, y12⟩, _⟩ := (HW.out _ hSw).1.cellsN (n := n) HN.out; obtain ⟨p0, p1, p2, p3, _⟩ := row4 (HW.out _ hSw).2; go_simp; try with_reducible rfl)
      refine kSK 4 hHeld ?_
      try refine kNK ?_
      refine kTK (v := ?_) 5 [] hHeld ?y6 ?_
      case y6 => (intro W hSw; obtain ⟨⟨y0, y1, y2, y3, y4, y5, y6, y7, y8, y9, y10, y11, y12⟩, _⟩ := (HW.out _ hSw).1.cellsN (n := n) HN.out; obtain ⟨p0, p1, p2, p3, _⟩ := row4 (HW.out _ hSw).2; go_simp; try with_reducible rfl)
      refine kSK 6 hHeld ?_
      try refine kNK ?_
      refine kPK 7 fun KQ hKQ => ?_
      go_simp
      skip
      refine hKQ.out _ _ ?_
      clear hKQ KQ
      try refine kNK ?_
      refine wpAnyK_done (by kernel_rfl) ?_ _
      refine NoPanic.normal ?_
      clear hHeld q0 q1' q2' q3' fr0 fr1 fr2 fr3
      obtain ⟨w6, hw6⟩ : ∃ W, ((((w3.setCell ⟨lb, k * 4, none⟩ (.int .i32 c.g)).setCell ⟨lb, k * 4 + 1, none⟩ (.int .i64 c.a)).setCell ⟨lb, k * 4 + 2, none⟩ (.bool c.gd)).setCell ⟨lb, k * 4 + 3, none⟩ (.int .i64 c.m)).drew = W := ⟨_, rfl⟩
      rw [hw6] at HP ⊢
      clear hw6
      obtain ⟨m1, hm1⟩ : ∃ m, (k + 1) % n = m := ⟨_, rfl⟩
      have hm1n : m1 < n := by rw [← hm1]; exact Nat.mod_lt _ (by omega)
      have e9 : ((k : Int) + 1) % (n : Int) = (m1 : Int) := by rw [← hm1]; rfl
      have e10 : ((k : Int) + 1).tmod (n : Int) = (m1 : Int) := by rw [← hm1]; rfl
      have e11 : IntKind.i64.wrap ((k : Int) + 1) = (k : Int) + 1 := wrap_in (by omega) (by omega)
      have hn0 : (n : Int) ≠ 0 := by omega
      rw [hm1] at HPU2
      have HF1 := Lib.hid (rf_free HP.out.1 HM.out m1 (by show m1 < r.R * r.C; rw [HN.out]; exact hm1n) false)
      obtain ⟨⟨z0, z1, z2, z3, z4, z5, z6, z7, z8, z9, z10, z11, z12⟩, _⟩ := HP.out.1.cellsN (n := n) HN.out
      cases hfr : freeR (setR r k c) m1 false with
      | none =>
        have hf1 := HF1.out
        rw [hfr] at hf1
        have HF2 : Hid (Calls Tryz.prog 48 #[.pointer (some ⟨rp, 0, none⟩), .int .i64 (m1 : Int), .bool false] w6 fun e w' => e = .returned (.int .i64 (-1)) ∧ w' = w6) := hf1
        have HPU3 : Hid (putR r b = setR r k c) := HPU2.out.trans (by rw [hfr]; rfl)
        clear hf1 hfr hm1
        go_wp2_with (go_at_call 48; refine HF2.out.mono ?_; rintro e w7 ⟨rfl, hw⟩; have HW7 := Lib.hid hw; clear hw)
        exact bodyPost_ret (results_none rfl _ _ _) rfl ⟨rfl, by rw [HPU3.out, HW7.out]; exact ⟨⟨lb, cap, sb, HP.out.1, .inl rfl, .inl rfl⟩, HP.out.2⟩⟩
      | some q =>
        have hqn : q < r.R * r.C := freeF_lt (setR r k c) m1 false (by show 0 < r.R * r.C; rw [HN.out]; omega) _ _ _ hfr
        have hf1 := HF1.out
        rw [hfr] at hf1
        have HF2 : Hid (Calls Tryz.prog 48 #[.pointer (some ⟨rp, 0, none⟩), .int .i64 (m1 : Int), .bool false] w6 fun e w' => e = .returned (.int .i64 (q : Int)) ∧ w' = w6) := hf1
        have HPU3 : Hid (putR r b = goToR (setR r k c) q) := HPU2.out.trans (by rw [hfr]; rfl)
        have HG1 := Lib.hid (rf_goTo HP.out.1 HM.out q hqn)
        have hq0 : (0 : Int) ≤ (q : Int) := by omega
        clear hf1 hfr hm1
        go_wp2_with (first
         | (go_at_call 48; refine HF2.out.mono ?_; rintro e w7 ⟨rfl, hw⟩; subst hw)
         | (go_at_call 49; refine HG1.out.mono ?_; rintro e w8 ⟨rfl, ht⟩; have HT8 := Lib.hid (RfTo.link (.inl rfl) (.inl rfl) HP.out.2 ht); clear ht))
        exact bodyPost_ret (results_none rfl _ _ _) rfl ⟨rfl, by rw [HPU3.out]; exact HT8.out⟩
  | false =>
    have HPR : Hid (∀ W, Below w.heap.size w W → W.cell? ⟨rp, 8, none⟩ = some (.bool false)) := fun W hb => by have := (H.out W hb).cells.1.2.2.2.2.2.2.2.2.1; rw [hp] at this; exact this
    have HPU := Lib.hid (HPT.out.trans (if_neg (by rw [hp]; decide)))
    clear hp HPT HFR
    have y8 := HPR.out _ HW0.out.1
    have hfz : (f : Int) < (n : Int) := by have := HFN.out; omega
    have HD : Hid (Below W0.heap.size W0 W0.drew) := (Below.refl _ _).drew
    have HW : Hid (∀ W, Below W0.heap.size W0 W → Below w.heap.size w W ∧ RfAt W rp lb cap sb r ∧ W.heap[w.heap.size]? = some (.cells #[.int .i32 c.g, .int .i64 c.a, .bool c.gd, .int .i64 c.m] 56 (0, 0))) := fun W hW => ⟨Below.later HW0.out.1 hW HW0.out.1.size, H.out W (Below.later HW0.out.1 hW HW0.out.1.size), (hW.block _ (block_lt HW0.out.2)).trans HW0.out.2⟩
    go_upto_region 10 with fail
    clear y8
    refine wp_region_noPanic ?_
    refine wp_region_k (S := fun W : World => Below W0.heap.size W0 W) 8 (by kernel_rfl) (HD.out) (fun hHeld => ?_)
    refine kSK 0 hHeld ?_
    refine kSK 1 hHeld ?_
    refine kSK 2 hHeld ?_
    refine kTK (v := ?_) 3 [] hHeld ?y4 ?_
    case y4 => (intro W hSw; obtain ⟨⟨y0, y1, y2, y3, y4, y5, y6, y7, y8, y9, y10, y11, y12⟩, _⟩ := (HW.out _ hSw).2.1.cellsN (n := n) HN.out; obtain ⟨p0, p1, p2, p3, _⟩ := row4 (HW.out _ hSw).2.2; go_simp; try with_reducible rfl)
    refine kSK 4 hHeld ?_
    try refine kNK ?_
    refine kTK (v := ?_) 6 [] hHeld ?y6 ?_
    case y6 => (intro W hSw; obtain ⟨⟨y0, y1, y2, y3, y4, y5, y6, y7, y8, y9, y10, y11, y12⟩, _⟩ := (HW.out _ hSw).2.1.cellsN (n := n) HN.out; obtain ⟨p0, p1, p2, p3, _⟩ := row4 (HW.out _ hSw).2.2; go_simp; try with_reducible rfl)
    try refine kNK ?_
    refine kOK 5 fun KQ hKQ => ?_
    go_simp
    go_at_call 47
    refine (HER.out _ (HW.out _ hHeld).1).mono ?_
    rintro e w5 ⟨rfl, hb5⟩
    have hs5 := Below.later hHeld hb5 hHeld.size
    have HS5 := Lib.hid hs5
    obtain ⟨⟨q0, q1', q2', q3'⟩, fr⟩ := (HW.out _ hs5).2.1.at_ (k := f) (by rw [HN.out]; exact HFN.out)
    have fr0 := fr (f * 4)
    have fr1 := fr (f * 4 + 1)
    have fr2 := fr (f * 4 + 2)
    have fr3 := fr (f * 4 + 3)
    clear hb5 fr
    go_wp2_with fail
    refine hKQ.out _ _ (hs5) ?_
    clear hHeld hKQ KQ
    intro hHeld
    try refine kNK ?_
    clear hs5
    refine kSK 7 hHeld ?_
    try refine kNK ?_
    all_goals (
     refine kPK 8 fun KQ hKQ => ?_
     go_simp
     skip
     refine hKQ.out _ _ ?_
     clear hKQ KQ
     try refine kNK ?_
     refine wpAnyK_done (by kernel_rfl) ?_ _
     refine NoPanic.normal ?_)
    all_goals (
     clear q0 q1' q2' q3' fr0 fr1 fr2 fr3
     have HP : Hid (RfAt ((((w5.setCell ⟨lb, f * 4, none⟩ (.int .i32 c.g)).setCell ⟨lb, f * 4 + 1, none⟩ (.int .i64 c.a)).setCell ⟨lb, f * 4 + 2, none⟩ (.bool c.gd)).setCell ⟨lb, f * 4 + 3, none⟩ (.int .i64 c.m)) rp lb cap sb (setR r f c) ∧ Keeps (fun x => x = rp ∨ x = lb ∨ x = sb) w ((((w5.setCell ⟨lb, f * 4, none⟩ (.int .i32 c.g)).setCell ⟨lb, f * 4 + 1, none⟩ (.int .i64 c.a)).setCell ⟨lb, f * 4 + 2, none⟩ (.bool c.gd)).setCell ⟨lb, f * 4 + 3, none⟩ (.int .i64 c.m))) := by
      have hp := (HW.out _ HS5.out).2.1.put f c
      exact ⟨hp.1, (Keeps.of_below (HW.out _ HS5.out).1 : Keeps (fun x => x = rp ∨ x = lb ∨ x = sb) w w5).trans hp.2 fun x e => .inl (.inr (.inl e))⟩
     obtain ⟨w10, hw10⟩ : ∃ W, ((((w5.setCell ⟨lb, f * 4, none⟩ (.int .i32 c.g)).setCell ⟨lb, f * 4 + 1, none⟩ (.int .i64 c.a)).setCell ⟨lb, f * 4 + 2, none⟩ (.bool c.gd)).setCell ⟨lb, f * 4 + 3, none⟩ (.int .i64 c.m)) = W := ⟨_, rfl⟩
     rw [hw10] at HP ⊢
     clear hw10 HS5
     have HDD : Hid (Below w10.heap.size w10 w10.drew) := (Below.refl _ _).drew
     have HW10 : Hid (∀ W, Below w10.heap.size w10 W → W.cell? ⟨rp, 1, none⟩ = some (.int .i64 r.C) ∧ W.cell? ⟨rp, 4, none⟩ = some (.int .i64 r.col)) := fun W hW => ⟨(HP.out.1.below hW).cells.1.2.1, (HP.out.1.below hW).cells.1.2.2.2.2.1⟩
     have HL := Lib.hid (fun W r' (h' : RfTo w10 W rp lb sb r') => RfTo.link (.inl rfl) (.inl rfl) HP.out.2 h')
     have hd := HP.out.1.below HDD.out
     have hm := HM.out
     have hC := hm.2.2.2.1
     have hC1 := hm.2.2.1
     have hcl := hm.2.2.2.2.2
     have e13 : IntKind.i64.wrap ((r.C : Int) - 1) = (r.C : Int) - 1 := wrap_in (by omega) (by omega)
     have e14 : IntKind.i64.wrap ((r.col : Int) + 1) = ((r.col + 1 : Nat) : Int) := by rw [wrap_in (by omega) (by omega)]; rfl
     by_cases hcc : r.col < r.C - 1
     · have hcz : (r.col : Int) < (r.C : Int) - 1 := by omega
       have HPU3 : Hid (putR r b = { setR r f c with col := r.col + 1 }) := HPU.out.trans (if_pos hcc)
       have HT : Hid (RfTo w (w10.drew.setCell ⟨rp, 4, none⟩ (.int .i64 ((r.col + 1 : Nat) : Int))) rp lb sb { setR r f c with col := r.col + 1 }) := HL.out _ _ (RfTo.after HDD.out (hd.colTo _))
       obtain ⟨⟨z0, z1, z2, z3, z4, z5, z6, z7, z8, z9, z10, z11, z12⟩, g2, g3, g4, _⟩ := hd.cells
       have z1' : w10.drew.cell? ⟨rp, 1, none⟩ = some (.int .i64 r.C) := z1
       have z4' : w10.drew.cell? ⟨rp, 4, none⟩ = some (.int .i64 r.col) := z4
       clear hd hm z2 z1 z4
       go_upto_region 11 with fail
       refine wp_region_noPanic ?_
       refine wp_region_k (S := fun W : World => Below w10.heap.size w10 W) 999 (by kernel_rfl) (HDD.out) (fun hHeld => ?_)
       refine kSK 0 hHeld ?_
       refine kSK 1 hHeld ?_
       refine kSK 2 hHeld ?_
       refine kHK (v := ?_) 3 hHeld ?y4 ?_
       case y4 => (intro W hSw; obtain ⟨y1, y4⟩ := HW10.out _ hSw; go_simp; try with_reducible rfl)
       refine kSK 4 hHeld ?_
       try refine kNK ?_
       refine kSK 5 hHeld ?_
       refine kSK 6 hHeld ?_
       refine kHK (v := ?_) 7 hHeld ?y8 ?_
       case y8 => (intro W hSw; obtain ⟨y1, y4⟩ := HW10.out _ hSw; go_simp; try with_reducible rfl)
       refine kSK 8 hHeld ?_
       refine kSK 9 hHeld ?_
       try refine kNK ?_
       refine wpAnyK_done (by kernel_rfl) ?_ _
       refine NoPanic.normal ?_
       go_wp2_with fail
       exact bodyPost_ret (results_none rfl _ _ _) rfl ⟨rfl, by rw [HPU3.out]; exact HT.out⟩
     · have hcz : ¬ (r.col : Int) < (r.C : Int) - 1 := by omega
       have HPU3 : Hid (putR r b = feedR { setR r f c with col := 0 }) := HPU.out.trans (if_neg hcc)
       have HA := Lib.hid (hd.colAt 0)
       have HFE : Hid (Calls Tryz.prog 67 #[.pointer (some ⟨rp, 0, none⟩)] (w10.setCell ⟨rp, 4, none⟩ (.int .i64 0)).drew fun e w' => e = .returned (.tuple #[]) ∧ RfTo (w10.setCell ⟨rp, 4, none⟩ (.int .i64 0)).drew w' rp lb sb (feedR { setR r f c with col := 0 })) :=
        rf_feed (r := { setR r f c with col := 0 }) HA.out (by
         obtain ⟨h1, h2, h3, h4, h5, h6⟩ := hm
         exact ⟨h1, h2, h3, h4, h5, by show 0 < r.C; omega⟩)
       have HLK : Hid (∀ W r', RfTo (w10.setCell ⟨rp, 4, none⟩ (.int .i64 0)).drew W rp lb sb r' → RfTo w W rp lb sb r') := fun W r' h' => RfTo.link (.inl rfl) (.inl rfl) ((HP.out.2.trans (Keeps.setCell (fun k => k = rp) w10 (p := ⟨rp, 4, none⟩) rfl (.int .i64 0)) fun x e => .inl (.inl e)).trans (Keeps.of_below (Below.refl _ _).drew : Keeps (fun x => x = rp) _ _) fun x e => .inl (.inl e)) h'
       obtain ⟨⟨z0, z1, z2, z3, z4, z5, z6, z7, z8, z9, z10, z11, z12⟩, g2, g3, g4, _⟩ := hd.cells
       have z1' : w10.drew.cell? ⟨rp, 1, none⟩ = some (.int .i64 r.C) := z1
       have z4' : w10.drew.cell? ⟨rp, 4, none⟩ = some (.int .i64 r.col) := z4
       clear hd hm z2 z1 z4
       go_upto_region 11 with fail
       refine wp_region_noPanic ?_
       refine wp_region_k (S := fun W : World => Below w10.heap.size w10 W) 999 (by kernel_rfl) (HDD.out) (fun hHeld => ?_)
       refine kSK 0 hHeld ?_
       refine kSK 1 hHeld ?_
       refine kSK 2 hHeld ?_
       refine kHK (v := ?_) 3 hHeld ?y4 ?_
       case y4 => (intro W hSw; obtain ⟨y1, y4⟩ := HW10.out _ hSw; go_simp; try with_reducible rfl)
       refine kSK 4 hHeld ?_
       try refine kNK ?_
       refine kSK 5 hHeld ?_
       refine kSK 6 hHeld ?_
       refine kHK (v := ?_) 7 hHeld ?y8 ?_
       case y8 => (intro W hSw; obtain ⟨y1, y4⟩ := HW10.out _ hSw; go_simp; try with_reducible rfl)
       refine kSK 8 hHeld ?_
       refine kSK 9 hHeld ?_
       try refine kNK ?_
       refine wpAnyK_done (by kernel_rfl) ?_ _
       refine NoPanic.normal ?_
       go_wp2_with (go_at_call 67; refine HFE.out.mono ?_; rintro e w12 ⟨rfl, ht⟩; have HT := Lib.hid (HLK.out _ _ ht); clear ht)
       go_end0
       exact ⟨rfl, by rw [HPU3.out]; exact HT.out⟩))
end
end
section
set_option maxRecDepth 100000
attribute [local go_sem] alloc_drewN setCell_drewN World.cell?_alloc_some frozen_alloc_some size_f0 size_f1
section
variable {w : World} {rp lb cap sb : Nat} {r : Rf}
theorem RfAt.seqTo (h : RfAt w rp lb cap sb r) (s : List UInt8) : RfTo w (w.setCell ⟨rp, 9, none⟩ (.string ⟨s.toArray⟩)) rp lb sb { r with seq := s } :=
 h.boxed rfl rfl rfl rfl (heap_set_same h.box 9 (.string ⟨s.toArray⟩)) (Keeps.setCell (fun k => k = rp) w (p := ⟨rp, 9, none⟩) rfl _)
def GroundOk (w : World) (rp lb sb : Nat) (r : Rf) (b : Nat) : Prop := Calls Tryz.prog 44 #[.pointer (some ⟨rp, 0, none⟩), .int .u8 (b : Int)] w fun e w' => e = .returned (.bool (groundR r b).2) ∧ RfTo w w' rp lb sb (groundR r b).1
theorem rground_5 (h : RfAt w rp lb cap sb r) (hm : r.may) (hq : r.q.length ≤ 100) : GroundOk w rp lb sb r 5 := by
 have HC := Lib.hid (rf_say h [65, 68, 77, 13] (by decide) hq)
 unfold GroundOk
 clear h hm hq
 go_enter Tryz.func44, Tryz.ntmps44
 go_wp2_with (go_at_call 65; refine HC.out.mono ?_; rintro e w2 ⟨rfl, ht⟩; have HT := Lib.hid ht; clear ht)
 go_ret
 exact ⟨rfl, HT.out⟩
theorem rground_9 (h : RfAt w rp lb cap sb r) (hm : r.may) : GroundOk w rp lb sb r 9 := by
 have HC := Lib.hid (rf_tab h hm false)
 unfold GroundOk
 clear h hm
 go_enter Tryz.func44, Tryz.ntmps44
 go_wp2_with (go_at_call 66; refine HC.out.mono ?_; rintro e w2 ⟨rfl, ht⟩; have HT := Lib.hid ht; clear ht)
 go_ret
 exact ⟨rfl, HT.out⟩
theorem rground_10 (h : RfAt w rp lb cap sb r) (hm : r.may) : GroundOk w rp lb sb r 10 := by
 have HC := Lib.hid (rf_feed h hm)
 unfold GroundOk
 clear h hm
 go_enter Tryz.func44, Tryz.ntmps44
 go_wp2_with (go_at_call 67; refine HC.out.mono ?_; rintro e w2 ⟨rfl, ht⟩; have HT := Lib.hid ht; clear ht)
 go_ret
 exact ⟨rfl, HT.out⟩
theorem rground_26 (h : RfAt w rp lb cap sb r) (hm : r.may) : GroundOk w rp lb sb r 26 := by
 have HC := Lib.hid (rf_home h hm)
 unfold GroundOk
 clear h hm
 go_enter Tryz.func44, Tryz.ntmps44
 go_wp2_with (go_at_call 68; refine HC.out.mono ?_; rintro e w2 ⟨rfl, ht⟩; have HT := Lib.hid ht; clear ht)
 go_ret
 exact ⟨rfl, HT.out⟩
theorem rground_30 (h : RfAt w rp lb cap sb r) (hm : r.may) : GroundOk w rp lb sb r 30 := by
 have HC : Hid (Calls Tryz.prog 49 #[.pointer (some ⟨rp, 0, none⟩), .int .i64 0] w fun e w' => e = .returned (.tuple #[]) ∧ RfTo w w' rp lb sb (goToR r 0)) := rf_goTo h hm 0 (by have := hm.n; omega)
 unfold GroundOk
 clear h hm
 go_enter Tryz.func44, Tryz.ntmps44
 go_wp2_with (go_at_call 49; refine HC.out.mono ?_; rintro e w2 ⟨rfl, ht⟩; have HT := Lib.hid ht; clear ht)
 go_ret
 exact ⟨rfl, HT.out⟩
theorem rground_8 (h : RfAt w rp lb cap sb r) (hm : r.may) : GroundOk w rp lb sb r 8 := by
 have hc := hm.2.2.2.2.2
 have hC := hm.2.2.2.1
 have HT0 := Lib.hid (h.colTo (r.col - 1))
 obtain ⟨⟨y0, y1, y2, y3, y4, y5, y6, y7, y8, y9, y10, y11, y12⟩, f2, f3, f4, f5, f6, f7, f8, f9, f10, f12⟩ := h.cells
 unfold GroundOk
 clear h hm
 have HG : Hid (groundR r 8 = ({ r with col := r.col - 1 }, true)) := rfl
 rw [HG.out]
 cases hcol : r.col with
 | zero =>
   rw [hcol] at y4 HT0
   have HT : Hid (RfTo w (w.setCell ⟨rp, 4, none⟩ (.int .i64 0)) rp lb sb { r with col := 0 }) := HT0
   go_enter Tryz.func44, Tryz.ntmps44
   go_wp2_with fail
   go_ret
   exact ⟨rfl, HT.out⟩
 | succ c =>
   rw [hcol] at HT0
   have y4' : w.cell? ⟨rp, 4, none⟩ = some (.int .i64 ((c : Int) + 1)) := by rw [y4, hcol]; rfl
   have HT : Hid (RfTo w (w.setCell ⟨rp, 4, none⟩ (.int .i64 (c : Int))) rp lb sb { r with col := c }) := HT0
   have e1 : IntKind.i64.wrap ((c : Int) + 1 - 1) = (c : Int) := by rw [wrap_in (by omega) (by omega)]; omega
   have e2 : IntKind.i64.wrap (c : Int) = (c : Int) := wrap_in (by omega) (by omega)
   have e3 : max (c : Int) 0 = (c : Int) := by omega
   clear y4 hcol
   go_enter Tryz.func44, Tryz.ntmps44
   go_wp2_with fail
   go_ret
   exact ⟨rfl, HT.out⟩
theorem rground_11 (h : RfAt w rp lb cap sb r) (hm : r.may) : GroundOk w rp lb sb r 11 := by
 have hc := hm.2.2.2.2.1
 have hC := hm.2.1
 have HT0 := Lib.hid (h.rowTo (r.row - 1))
 obtain ⟨⟨y0, y1, y2, y3, y4, y5, y6, y7, y8, y9, y10, y11, y12⟩, f2, f3, f4, f5, f6, f7, f8, f9, f10, f12⟩ := h.cells
 unfold GroundOk
 clear h hm
 have HG : Hid (groundR r 11 = ({ r with row := r.row - 1 }, true)) := rfl
 rw [HG.out]
 cases hcol : r.row with
 | zero =>
   rw [hcol] at y3 HT0
   have HT : Hid (RfTo w (w.setCell ⟨rp, 3, none⟩ (.int .i64 0)) rp lb sb { r with row := 0 }) := HT0
   go_enter Tryz.func44, Tryz.ntmps44
   go_wp2_with fail
   go_ret
   exact ⟨rfl, HT.out⟩
 | succ c =>
   rw [hcol] at HT0
   have y3' : w.cell? ⟨rp, 3, none⟩ = some (.int .i64 ((c : Int) + 1)) := by rw [y3, hcol]; rfl
   have HT : Hid (RfTo w (w.setCell ⟨rp, 3, none⟩ (.int .i64 (c : Int))) rp lb sb { r with row := c }) := HT0
   have e1 : IntKind.i64.wrap ((c : Int) + 1 - 1) = (c : Int) := by rw [wrap_in (by omega) (by omega)]; omega
   have e2 : IntKind.i64.wrap (c : Int) = (c : Int) := wrap_in (by omega) (by omega)
   have e3 : max (c : Int) 0 = (c : Int) := by omega
   clear y3 hcol
   go_enter Tryz.func44, Tryz.ntmps44
   go_wp2_with fail
   go_ret
   exact ⟨rfl, HT.out⟩
theorem rground_13 (h : RfAt w rp lb cap sb r) (hm : r.may) : GroundOk w rp lb sb r 13 := by
 have HT0 := Lib.hid (h.colTo 0)
 obtain ⟨⟨y0, y1, y2, y3, y4, y5, y6, y7, y8, y9, y10, y11, y12⟩, f2, f3, f4, f5, f6, f7, f8, f9, f10, f12⟩ := h.cells
 have HT : Hid (RfTo w (w.setCell ⟨rp, 4, none⟩ (.int .i64 0)) rp lb sb { r with col := 0 }) := HT0
 unfold GroundOk
 clear h hm HT0
 go_enter Tryz.func44, Tryz.ntmps44
 go_wp2_with fail
 go_ret
 exact ⟨rfl, HT.out⟩
theorem rground_27 (h : RfAt w rp lb cap sb r) (hm : r.may) : GroundOk w rp lb sb r 27 := by
 have HT := Lib.hid (h.seqTo [27])
 obtain ⟨⟨y0, y1, y2, y3, y4, y5, y6, y7, y8, y9, y10, y11, y12⟩, f2, f3, f4, f5, f6, f7, f8, f9, f10, f12⟩ := h.cells
 unfold GroundOk
 clear h hm
 go_enter Tryz.func44, Tryz.ntmps44
 go_wp2_with fail
 go_ret
 exact ⟨rfl, HT.out⟩
theorem rground_31 (h : RfAt w rp lb cap sb r) (hm : r.may) : GroundOk w rp lb sb r 31 := by
 have HA := Lib.hid (h.colAt 0)
 have HC : Hid (Calls Tryz.prog 67 #[.pointer (some ⟨rp, 0, none⟩)] (w.setCell ⟨rp, 4, none⟩ (.int .i64 0)) fun e w' => e = .returned (.tuple #[]) ∧ RfTo (w.setCell ⟨rp, 4, none⟩ (.int .i64 0)) w' rp lb sb (feedR { r with col := 0 })) :=
  rf_feed (r := { r with col := 0 }) HA.out (by obtain ⟨h1, h2, h3, h4, h5, h6⟩ := hm; exact ⟨h1, h2, h3, h4, h5, by show 0 < r.C; omega⟩)
 have HL : Hid (∀ W r', RfTo (w.setCell ⟨rp, 4, none⟩ (.int .i64 0)) W rp lb sb r' → RfTo w W rp lb sb r') := fun W r' h' => RfTo.link (.inl rfl) (.inl rfl) ((Keeps.setCell (fun k => k = rp) w (p := ⟨rp, 4, none⟩) rfl (.int .i64 0)).mono fun x e => .inl e) h'
 obtain ⟨⟨y0, y1, y2, y3, y4, y5, y6, y7, y8, y9, y10, y11, y12⟩, f2, f3, f4, f5, f6, f7, f8, f9, f10, f12⟩ := h.cells
 unfold GroundOk
 clear h hm
 go_enter Tryz.func44, Tryz.ntmps44
 go_wp2_with (go_at_call 67; refine HC.out.mono ?_; rintro e w2 ⟨rfl, ht⟩; have HT := Lib.hid ht; clear ht)
 go_ret
 exact ⟨rfl, HL.out _ _ HT.out⟩
theorem rground_12 (h : RfAt w rp lb cap sb r) (hm : r.may) : GroundOk w rp lb sb r 12 := by
 have hc := hm.2.2.2.2.2
 have hC := hm.2.2.2.1
 have hC1 := hm.2.2.1
 have HB0 : Hid (Below w.heap.size w w.drew) := (Below.refl _ _).drew
 have hd := h.below HB0.out
 obtain ⟨v, hv⟩ : ∃ v, v = min (r.col + 1) (r.C - 1) := ⟨_, rfl⟩
 have HT : Hid (RfTo w (w.drew.setCell ⟨rp, 4, none⟩ (.int .i64 (v : Int))) rp lb sb { r with col := v }) := RfTo.after HB0.out (hd.colTo v)
 have HW : Hid (∀ W, Below w.heap.size w W → W.cell? ⟨rp, 1, none⟩ = some (.int .i64 r.C) ∧ W.cell? ⟨rp, 4, none⟩ = some (.int .i64 r.col)) := fun W hW => ⟨(h.below hW).cells.1.2.1, (h.below hW).cells.1.2.2.2.2.1⟩
 have e1 : IntKind.i64.wrap ((r.C : Int) - 1) = (r.C : Int) - 1 := wrap_in (by omega) (by omega)
 have e2 : IntKind.i64.wrap ((r.col : Int) + 1) = (r.col : Int) + 1 := wrap_in (by omega) (by omega)
 have e3 : min ((r.col : Int) + 1) ((r.C : Int) - 1) = (v : Int) := by omega
 have HG : Hid (groundR r 12 = ({ r with col := v }, false)) := by show _ = _; rw [hv]; rfl
 obtain ⟨⟨y0, y1, y2, y3, y4, y5, y6, y7, y8, y9, y10, y11, y12⟩, f2, f3, f4, f5, f6, f7, f8, f9, f10, f12⟩ := h.cells
 unfold GroundOk
 rw [HG.out]
 clear h hm hd hv
 go_enter Tryz.func44, Tryz.ntmps44
 go_upto_region 17 with fail
 refine wp_region_noPanic ?_
 refine wp_region_k (S := fun W : World => Below w.heap.size w W) 14 (by kernel_rfl) (HB0.out) (fun hHeld => ?_)
 refine kSK 0 hHeld ?_
 refine kSK 1 hHeld ?_
 refine kSK 2 hHeld ?_
 refine kSK 3 hHeld ?_
 refine kTK (v := ?_) 4 [] hHeld ?y5 ?_
 case y5 => (intro W hSw; obtain ⟨y1, y4⟩ := HW.out _ hSw; go_simp; try with_reducible rfl)
 try refine kNK ?_
 refine kSK 5 hHeld ?_
 refine kSK 6 hHeld ?_
 refine kSK 7 hHeld ?_
 refine kSK 8 hHeld ?_
 refine kTK (v := ?_) 9 [] hHeld ?y10 ?_
 case y10 => (intro W hSw; obtain ⟨y1, y4⟩ := HW.out _ hSw; go_simp; try with_reducible rfl)
 try refine kNK ?_
 refine kSK 10 hHeld ?_
 refine kSK 11 hHeld ?_
 refine kSK 12 hHeld ?_
 refine kSK 13 hHeld ?_
 try refine kNK ?_
 refine kPK 14 fun KQ hKQ => ?_
 go_simp
 skip
 refine hKQ.out _ _ ?_
 clear hKQ KQ
 try refine kNK ?_
 refine wpAnyK_done (by kernel_rfl) ?_ _
 refine NoPanic.normal ?_
 go_wp2_with fail
 go_ret
 exact ⟨rfl, HT.out⟩
theorem rf_ground (h : RfAt w rp lb cap sb r) (hm : r.may) (hq : r.q.length ≤ 100) (b : Nat) (hb : b < 128) : GroundOk w rp lb sb r b := by
 by_cases b5 : b = 5
 · subst b5; exact rground_5 h hm hq
 by_cases b8 : b = 8
 · subst b8; exact rground_8 h hm
 by_cases b9 : b = 9
 · subst b9; exact rground_9 h hm
 by_cases b10 : b = 10
 · subst b10; exact rground_10 h hm
 by_cases b11 : b = 11
 · subst b11; exact rground_11 h hm
 by_cases b12 : b = 12
 · subst b12; exact rground_12 h hm
 by_cases b13 : b = 13
 · subst b13; exact rground_13 h hm
 by_cases b26 : b = 26
 · subst b26; exact rground_26 h hm
 by_cases b27 : b = 27
 · subst b27; exact rground_27 h hm
 by_cases b30 : b = 30
 · subst b30; exact rground_30 h hm
 by_cases b31 : b = 31
 · subst b31; exact rground_31 h hm
 have c5 : ((b : Int) == 5) = false := beq_eq_false_iff_ne.2 (fun e => b5 (by omega))
 have c8 : ((b : Int) == 8) = false := beq_eq_false_iff_ne.2 (fun e => b8 (by omega))
 have c9 : ((b : Int) == 9) = false := beq_eq_false_iff_ne.2 (fun e => b9 (by omega))
 have c10 : ((b : Int) == 10) = false := beq_eq_false_iff_ne.2 (fun e => b10 (by omega))
 have c11 : ((b : Int) == 11) = false := beq_eq_false_iff_ne.2 (fun e => b11 (by omega))
 have c12 : ((b : Int) == 12) = false := beq_eq_false_iff_ne.2 (fun e => b12 (by omega))
 have c13 : ((b : Int) == 13) = false := beq_eq_false_iff_ne.2 (fun e => b13 (by omega))
 have c26 : ((b : Int) == 26) = false := beq_eq_false_iff_ne.2 (fun e => b26 (by omega))
 have c27 : ((b : Int) == 27) = false := beq_eq_false_iff_ne.2 (fun e => b27 (by omega))
 have c30 : ((b : Int) == 30) = false := beq_eq_false_iff_ne.2 (fun e => b30 (by omega))
 have c31 : ((b : Int) == 31) = false := beq_eq_false_iff_ne.2 (fun e => b31 (by omega))
 have HG : Hid (groundR r b = if 32 ≤ b ∧ b ≤ 126 then (putR r b, false) else (r, false)) := by
  show _ = _
  unfold groundR
  rw [if_neg b5 , if_neg b8 , if_neg b9 , if_neg b10 , if_neg b11 , if_neg b12 , if_neg b13 , if_neg b26 , if_neg b27 , if_neg b30 , if_neg b31]
 by_cases hp : 32 ≤ b ∧ b ≤ 126
 · have p1 : 32 ≤ (b : Int) := by omega
   have p2 : (b : Int) ≤ 126 := by omega
   have HC := Lib.hid (rf_put h hm b hp)
   unfold GroundOk
   rw [HG.out, if_pos hp]
   clear h hm hq HG hp b5 b8 b9 b10 b11 b12 b13 b26 b27 b30 b31
   go_enter Tryz.func44, Tryz.ntmps44
   go_wp2_with (go_at_call 69; refine HC.out.mono ?_; rintro e w2 ⟨rfl, ht⟩; have HT := Lib.hid ht; clear ht)
   go_ret
   exact ⟨rfl, HT.out⟩
 · have HT := Lib.hid (RfTo.refl h)
   unfold GroundOk
   rw [HG.out, if_neg hp]
   have hcase : ¬ 32 ≤ (b : Int) ∨ (32 ≤ (b : Int) ∧ ¬ (b : Int) ≤ 126) := by omega
   clear h hm hq HG hp b5 b8 b9 b10 b11 b12 b13 b26 b27 b30 b31
   rcases hcase with p1 | ⟨p1, p2⟩
   all_goals (
    go_enter Tryz.func44, Tryz.ntmps44
    go_wp2_with fail
    go_ret
    exact ⟨rfl, HT.out⟩)
end
end
section
set_option maxRecDepth 100000
attribute [local go_sem] alloc_drewN setCell_drewN World.cell?_alloc_some frozen_alloc_some size_f0 size_f1
section
variable {w : World} {rp lb cap sb : Nat} {r : Rf}
theorem RfAt.set_ {r' : Rf} (h : RfAt w rp lb cap sb r) (i : Nat) (v : Value) (hb : (rfC lb cap sb r).setIfInBounds i v = rfC lb cap sb r') (hR : r'.R = r.R) (hC : r'.C = r.C) (hF : r'.F = r.F) (hT : r'.T = r.T) : RfAt (w.setCell ⟨rp, i, none⟩ v) rp lb cap sb r' := by
 refine ⟨?_, ?_, ?_, h.n1, h.n2, h.n3⟩
 · rw [← hb]; exact heap_set_same h.box i v
 · rw [hR, hC, hF]; exact h.row.of_block (heap_setCell_other _ _ _ _ (fun e => h.n1 e.symm))
 · rw [hC, hT]; exact h.stops.of_block (heap_setCell_other _ _ _ _ (fun e => h.n2 e.symm))
theorem keeps_box (w : World) (rp : Nat) (i : Nat) (v : Value) : Keeps (fun x => x = rp) w (w.setCell ⟨rp, i, none⟩ v) := Keeps.setCell (fun k => k = rp) w (p := ⟨rp, i, none⟩) rfl v
theorem RfAt.to_ {w' : World} {r' : Rf} (h : RfAt w' rp lb cap sb r') (hk : Keeps (fun x => x = rp) w w') : RfTo w w' rp lb sb r' := ⟨⟨lb, cap, sb, h, .inl rfl, .inl rfl⟩, hk.mono fun x e => .inl e⟩
def WipesOk (w : World) (rp lb sb : Nat) (r : Rf) (b : Nat) : Prop := Calls Tryz.prog 71 #[.pointer (some ⟨rp, 0, none⟩), .int .u8 (b : Int)] w fun e w' => e = .returned (.tuple #[]) ∧ RfTo w w' rp lb sb (wipesR r b)
theorem wipes_all (h : RfAt w rp lb cap sb r) (hm : r.may) : WipesOk w rp lb sb r 42 := by
 have h1 := h.set_ (r' := { r with pr := false }) 8 (.bool false) rfl rfl rfl rfl rfl
 have h2 := h1.set_ (r' := { r with pr := false, gd := false }) 7 (.bool false) rfl rfl rfl rfl rfl
 have HC := Lib.hid (rf_home h2 (by exact hm))
 have HL := Lib.hid (fun W r' (h' : RfTo ((w.setCell ⟨rp, 8, none⟩ (.bool false)).setCell ⟨rp, 7, none⟩ (.bool false)) W rp lb sb r') => RfTo.link (.inl rfl) (.inl rfl) (((keeps_box w rp 8 (.bool false)).trans (keeps_box _ rp 7 (.bool false)) fun x e => .inl e).mono fun x e => .inl e) h')
 obtain ⟨⟨y0, y1, y2, y3, y4, y5, y6, y7, y8, y9, y10, y11, y12⟩, f2, f3, f4, f5, f6, f7, f8, f9, f10, f12⟩ := h.cells
 unfold WipesOk
 clear h hm h1 h2
 go_enter Tryz.func71, Tryz.ntmps71
 go_wp2_with (go_at_call 68; refine HC.out.mono ?_; rintro e w2 ⟨rfl, ht⟩; have HT := Lib.hid (HL.out _ _ ht); clear ht)
 go_end0
 exact ⟨rfl, HT.out⟩
theorem wipes_home (h : RfAt w rp lb cap sb r) (hm : r.may) (b : Nat) (hb : b = 43 ∨ b = 59 ∨ b = 58) : WipesOk w rp lb sb r b := by
 have HC := Lib.hid (rf_home h hm)
 clear h hm
 rcases hb with rfl | rfl | rfl
 all_goals (
  unfold WipesOk
  go_enter Tryz.func71, Tryz.ntmps71
  go_wp2_with (go_at_call 68; refine HC.out.mono ?_; rintro e w2 ⟨rfl, ht⟩; have HT := Lib.hid ht; clear ht)
  go_end0
  exact ⟨rfl, HT.out⟩)
theorem wipes_line (h : RfAt w rp lb cap sb r) (hm : r.may) (b : Nat) (hb : b = 84 ∨ b = 116) : WipesOk w rp lb sb r b := by
 have hn := hm.n
 have hl := hm.here_lt
 have hR6 := hm.2.1
 have hrow := hm.2.2.2.2.1
 have hcol := hm.2.2.2.2.2
 obtain ⟨n, hnn⟩ : ∃ n, r.R * r.C = n := ⟨_, rfl⟩
 obtain ⟨p, hpp⟩ : ∃ p, (r.row + 1) * r.C = p := ⟨_, rfl⟩
 obtain ⟨z, hzz⟩ : ∃ z, p - 1 = z := ⟨_, rfl⟩
 obtain ⟨f, hf⟩ : ∃ f, r.here = f := ⟨_, rfl⟩
 have HB0 : Hid (Below w.heap.size w w.drew) := (Below.refl _ _).drew
 have HER := Lib.hid (fun W (hb : Below w.heap.size w W) => rf_here (h.below hb) hm)
 have hfz : f ≤ z ∧ z < n := by unfold Rf.here at hf; omega
 have HCL := Lib.hid (fun W (hb : Below w.heap.size w W) => rf_clear (h.below hb) hm f z hfz.1 (by rw [hnn]; exact hfz.2))
 have H := Lib.hid (fun W (hb : Below w.heap.size w W) => (h.below hb).cells)
 have HW : Hid (wipesR r 84 = clearR r f z ∧ wipesR r 116 = clearR r f z) := by show _ ∧ _; rw [← hf, ← hzz, ← hpp]; exact ⟨rfl, rfl⟩
 have e1 : IntKind.i64.wrap ((r.row : Int) + 1) = ((r.row + 1 : Nat) : Int) := by rw [wrap_in (by omega) (by omega)]; rfl
 have e2 : IntKind.i64.wrap (((r.row : Int) + 1) * (r.C : Int)) = (p : Int) := by
  rw [show ((r.row : Int) + 1) * (r.C : Int) = (((r.row + 1) * r.C : Nat) : Int) from (Int.natCast_mul _ _).symm, hpp, wrap_in (by omega) (by omega)]
 have e3 : IntKind.i64.wrap ((p : Int) - 1) = (z : Int) := by rw [wrap_in (by omega) (by omega)]; omega
 rw [hf] at HER
 clear h hm hnn hpp hzz hf hl hn hR6 hrow hcol
 rcases hb with rfl | rfl
 all_goals (
  unfold WipesOk
  first | rw [HW.out.1] | rw [HW.out.2]
  go_enter Tryz.func71, Tryz.ntmps71
  go_upto_region 11 with fail
  refine wp_region_noPanic ?_
  refine wp_region_k (S := fun W : World => Below w.heap.size w W) 14 (by kernel_rfl) (HB0.out) (fun hHeld => ?_)
  refine kSK 0 hHeld ?_
  refine kSK 1 hHeld ?_
  refine kSK 3 hHeld ?_
  refine kSK 4 hHeld ?_
  refine kSK 5 hHeld ?_
  try refine kNK ?_
  refine kTK (v := ?_) 6 [13, 12, 7] hHeld ?y6 ?_
  case y6 => (intro W hSw; obtain ⟨⟨y0, y1, y2, y3, y4, y5, y6, y7, y8, y9, y10, y11, y12⟩, _⟩ := H.out _ hSw; go_simp; try with_reducible rfl)
  refine kSK 7 hHeld ?_
  refine kSK 8 hHeld ?_
  refine kSK 9 hHeld ?_
  refine kSK 10 hHeld ?_
  try refine kNK ?_
  refine kTK (v := ?_) 11 [13, 12] hHeld ?y11 ?_
  case y11 => (intro W hSw; obtain ⟨⟨y0, y1, y2, y3, y4, y5, y6, y7, y8, y9, y10, y11, y12⟩, _⟩ := H.out _ hSw; go_simp; try with_reducible rfl)
  refine kSK 12 hHeld ?_
  refine kSK 13 hHeld ?_
  try refine kNK ?_
  refine kOK 2 fun KQ hKQ => ?_
  go_simp
  go_at_call 47
  refine (HER.out _ hHeld).mono ?_
  rintro e w2 ⟨rfl, hb2⟩
  have hs2 := Below.later hHeld hb2 hHeld.size
  clear hb2
  go_wp2_with fail
  refine hKQ.out _ _ (hs2) ?_
  clear hHeld hKQ KQ
  intro hHeld
  try refine kNK ?_
  clear hs2
  refine kPK 14 fun KQ hKQ => ?_
  go_simp
  go_at_call 96
  refine (HCL.out _ hHeld).mono ?_
  rintro e w3 ⟨rfl, ht⟩
  have HT := Lib.hid (RfTo.after hHeld ht)
  clear ht
  go_wp2_with fail
  refine hKQ.out _ _ ?_
  clear hKQ KQ
  try refine kNK ?_
  refine wpAnyK_done (by kernel_rfl) ?_ _
  refine NoPanic.normal ?_
  go_wp2_with fail
  go_end0
  exact ⟨rfl, HT.out⟩)
theorem wipes_rest (h : RfAt w rp lb cap sb r) (hm : r.may) (b : Nat) (hb : b = 89 ∨ b = 121) : WipesOk w rp lb sb r b := by
 have hn := hm.n
 have hl := hm.here_lt
 obtain ⟨n, hnn⟩ : ∃ n, r.R * r.C = n := ⟨_, rfl⟩
 obtain ⟨z, hzz⟩ : ∃ z, n - 1 = z := ⟨_, rfl⟩
 obtain ⟨f, hf⟩ : ∃ f, r.here = f := ⟨_, rfl⟩
 have HB0 : Hid (Below w.heap.size w w.drew) := (Below.refl _ _).drew
 have HER := Lib.hid (fun W (hb : Below w.heap.size w W) => rf_here (h.below hb) hm)
 have hfz : f ≤ z ∧ z < n := by omega
 have HCL := Lib.hid (fun W (hb : Below w.heap.size w W) => rf_clear (h.below hb) hm f z hfz.1 (by rw [hnn]; exact hfz.2))
 have H := Lib.hid (fun W (hb : Below w.heap.size w W) => (h.below hb).cellsN hnn)
 have HW : Hid (wipesR r 89 = clearR r f z ∧ wipesR r 121 = clearR r f z) := by show _ ∧ _; rw [← hf, ← hzz, ← hnn]; exact ⟨rfl, rfl⟩
 have e3 : IntKind.i64.wrap ((n : Int) - 1) = (z : Int) := by rw [wrap_in (by omega) (by omega)]; omega
 rw [hf] at HER
 clear h hm hnn hzz hf hl hn
 rcases hb with rfl | rfl
 all_goals (
  unfold WipesOk
  first | rw [HW.out.1] | rw [HW.out.2]
  go_enter Tryz.func71, Tryz.ntmps71
  go_upto_region 14 with fail
  refine wp_region_noPanic ?_
  refine wp_region_k (S := fun W : World => Below w.heap.size w W) 9 (by kernel_rfl) (HB0.out) (fun hHeld => ?_)
  refine kSK 0 hHeld ?_
  refine kSK 1 hHeld ?_
  refine kSK 3 hHeld ?_
  refine kSK 4 hHeld ?_
  refine kSK 5 hHeld ?_
  try refine kNK ?_
  refine kTK (v := ?_) 6 [8, 7] hHeld ?y6 ?_
  case y6 => (intro W hSw; obtain ⟨⟨y0, y1, y2, y3, y4, y5, y6, y7, y8, y9, y10, y11, y12⟩, _⟩ := H.out _ hSw; go_simp; try with_reducible rfl)
  refine kSK 7 hHeld ?_
  refine kSK 8 hHeld ?_
  try refine kNK ?_
  refine kOK 2 fun KQ hKQ => ?_
  go_simp
  go_at_call 47
  refine (HER.out _ hHeld).mono ?_
  rintro e w2 ⟨rfl, hb2⟩
  have hs2 := Below.later hHeld hb2 hHeld.size
  clear hb2
  go_wp2_with fail
  refine hKQ.out _ _ (hs2) ?_
  clear hHeld hKQ KQ
  intro hHeld
  try refine kNK ?_
  clear hs2
  refine kPK 9 fun KQ hKQ => ?_
  go_simp
  go_at_call 96
  refine (HCL.out _ hHeld).mono ?_
  rintro e w3 ⟨rfl, ht⟩
  have HT := Lib.hid (RfTo.after hHeld ht)
  clear ht
  go_wp2_with fail
  refine hKQ.out _ _ ?_
  clear hKQ KQ
  try refine kNK ?_
  refine wpAnyK_done (by kernel_rfl) ?_ _
  refine NoPanic.normal ?_
  go_wp2_with fail
  go_end0
  exact ⟨rfl, HT.out⟩)
theorem rf_wipes (h : RfAt w rp lb cap sb r) (hm : r.may) (b : Nat) : WipesOk w rp lb sb r b := by
 by_cases b1 : b = 42
 · subst b1; exact wipes_all h hm
 by_cases b2 : b = 43 ∨ b = 59 ∨ b = 58
 · exact wipes_home h hm b b2
 by_cases b3 : b = 84 ∨ b = 116
 · exact wipes_line h hm b b3
 by_cases b4 : b = 89 ∨ b = 121
 · exact wipes_rest h hm b b4
 have HW : Hid (wipesR r b = r) := by show _ = _; unfold wipesR; rw [if_neg b1, if_neg b2, if_neg b3, if_neg b4]
 have HT := Lib.hid (RfTo.refl h)
 have c1 : ((b : Int) == 42) = false := beq_eq_false_iff_ne.2 (by omega)
 have c2 : ((b : Int) == 43) = false := beq_eq_false_iff_ne.2 (by omega)
 have c3 : ((b : Int) == 59) = false := beq_eq_false_iff_ne.2 (by omega)
 have c4 : ((b : Int) == 58) = false := beq_eq_false_iff_ne.2 (by omega)
 have c5 : ((b : Int) == 84) = false := beq_eq_false_iff_ne.2 (by omega)
 have c6 : ((b : Int) == 116) = false := beq_eq_false_iff_ne.2 (by omega)
 have c7 : ((b : Int) == 89) = false := beq_eq_false_iff_ne.2 (by omega)
 have c8 : ((b : Int) == 121) = false := beq_eq_false_iff_ne.2 (by omega)
 unfold WipesOk
 rw [HW.out]
 clear h hm b1 b2 b3 b4
 go_enter Tryz.func71, Tryz.ntmps71
 go_wp2_with fail
 go_end0
 exact ⟨rfl, HT.out⟩
end
end
section
set_option maxRecDepth 100000
attribute [local go_sem] alloc_drewN setCell_drewN World.cell?_alloc_some frozen_alloc_some size_f0 size_f1
section
variable {w : World} {rp lb cap sb : Nat} {r : Rf}
theorem conv_one {W : World} {g : Nat} (l : List UInt8) (h : W.heap[g]? = some (.cells (bytesV l).toArray 5 (0, 0))) : (convert 34 9 (.slice (some ⟨g, 0, none⟩) l.length l.length)).run Tryz.prog W = .ok (.string ⟨l.toArray⟩) W := by
 refine run_convert_bytes_back _ _ _ _ ⟨g, 0, none⟩ l.length l Tryz.underlying34 Tryz.underlying5 Tryz.underlying9 fun j hj => ?_
 rw [addr_add0, cell_row h]
 simp [bytesV, List.getElem?_eq_getElem hj]
def MoreOk (w : World) (rp lb sb : Nat) (r : Rf) (b : UInt8) : Prop := Calls Tryz.prog 45 #[.pointer (some ⟨rp, 0, none⟩), .int .u8 (b.toNat : Int)] w fun e w' => e = .returned (.tuple #[]) ∧ RfTo w w' rp lb sb (moreR r b)
theorem setCell_twice (W : World) (g i : Nat) (u v : Value) : (W.setCell ⟨g, i, none⟩ u).setCell ⟨g, i, none⟩ v = W.setCell ⟨g, i, none⟩ v := by
 unfold World.setCell
 congr 1
 apply Array.ext_getElem?
 intro k
 simp only [Array.getElem?_modify]
 by_cases e : g = k
 · subst e
   simp only [if_pos, Option.map_map]
   cases W.heap[g]? with
   | none => rfl
   | some o =>
     cases o <;> simp
 · simp only [e, if_false]
attribute [local go_sem 3000] setCell_twice
theorem more_dye (h : RfAt w rp lb cap sb r) (hs : r.seq = [27, 71]) (b : UInt8) : MoreOk w rp lb sb r b := by
 obtain ⟨⟨y0, y1, y2, y3, y4, y5, y6, y7, y8, y9, y10, y11, y12⟩, f2, f3, f4, f5, f6, f7, f8, f9, f10, f12⟩ := h.cells
 rw [hs] at y9
 have h1 := h.set_ (r' := { r with seq := [] }) 9 (.string ⟨#[]⟩) rfl rfl rfl rfl rfl
 have HT0 := Lib.hid (h1.to_ (keeps_box w rp 9 _))
 have HM : Hid (moreR r b = if b.toNat < 48 ∨ 63 < b.toNat then { r with seq := [] } else { r with seq := [], attr := dyesI (b.toNat - 48) }) := if_pos hs
 have HD : Hid (∀ a : Int, RfTo w ((w.setCell ⟨rp, 9, none⟩ (.string ⟨#[]⟩)).setCell ⟨rp, 6, none⟩ (.int .i64 a)) rp lb sb { r with seq := [], attr := a }) := fun a =>
  (h1.set_ (r' := { r with seq := [], attr := a }) 6 (.int .i64 a) rfl rfl rfl rfl rfl).to_ ((keeps_box w rp 9 _).trans (keeps_box _ rp 6 _) fun x e => .inl e)
 obtain ⟨n, hn⟩ : ∃ n, b.toNat = n := ⟨_, rfl⟩
 unfold MoreOk
 rw [HM.out, hn]
 clear h h1 hs HM
 have hlt : n < 256 := by rw [← hn]; exact b.toNat_lt
 clear hn
 by_cases c1 : n < 48
 · rw [if_pos (.inl c1)]
   have z1 : (n : Int) < 48 := by omega
   go_enter Tryz.func45, Tryz.ntmps45
   go_wp2_with fail
   exact bodyPost_ret (results_none rfl _ _ _) rfl ⟨rfl, HT0.out⟩
 by_cases c2 : 63 < n
 · rw [if_pos (.inr c2)]
   have z1 : ¬ (n : Int) < 48 := by omega
   have z2 : 63 < (n : Int) := by omega
   go_enter Tryz.func45, Tryz.ntmps45
   go_wp2_with fail
   exact bodyPost_ret (results_none rfl _ _ _) rfl ⟨rfl, HT0.out⟩
 rw [if_neg (fun e => e.elim c1 c2)]
 have hc : n = 48 ∨ n = 49 ∨ n = 50 ∨ n = 51 ∨ n = 52 ∨ n = 53 ∨ n = 54 ∨ n = 55 ∨ n = 56 ∨ n = 57 ∨ n = 58 ∨ n = 59 ∨ n = 60 ∨ n = 61 ∨ n = 62 ∨ n = 63 := by omega
 clear c1 c2 hlt HT0
 rcases hc with rfl | rfl | rfl | rfl | rfl | rfl | rfl | rfl | rfl | rfl | rfl | rfl | rfl | rfl | rfl | rfl
 all_goals (
  go_enter Tryz.func45, Tryz.ntmps45
  go_wp2_with fail
  exact bodyPost_ret (results_none rfl _ _ _) rfl ⟨rfl, HD.out _⟩)
end
end
section
set_option maxRecDepth 100000
attribute [local go_sem] alloc_drewN setCell_drewN World.cell?_alloc_some frozen_alloc_some size_f0 size_f1
section
variable {w : World} {rp lb cap sb : Nat} {r : Rf}
theorem more_two (h : RfAt w rp lb cap sb r) (hs : r.seq = [27, 61]) (b : UInt8) : MoreOk w rp lb sb r b := by
 have hx := heap_alloc_new w.drew (.cells #[.int .u8 (b.toNat : Int)] 5)
 have hcv : (convert 34 9 (.slice (some ⟨w.heap.size, 0, none⟩) 1 1)).run Tryz.prog (w.alloc (.cells #[.int .u8 (b.toNat : Int)] 5)).drew = .ok (.string ⟨[b].toArray⟩) (w.alloc (.cells #[.int .u8 (b.toNat : Int)] 5)).drew := conv_one [b] hx
 have HB0 : Hid (Below w.heap.size w w.drew) := (Below.refl _ _).drew
 have hb1 : Below w.heap.size w (w.alloc (.cells #[.int .u8 (b.toNat : Int)] 5)).drew := (below1 w _).drew
 have H := Lib.hid (fun W (hb : Below w.heap.size w W) => (h.below hb).cells)
 have h1 := h.below hb1
 obtain ⟨⟨y0, y1, y2, y3, y4, y5, y6, y7, y8, y9, y10, y11, y12⟩, f2, f3, f4, f5, f6, f7, f8, f9, f10, f12⟩ := h.cells
 rw [hs] at y9
 have HY : Hid (∀ W, Below w.heap.size w W → W.cell? ⟨rp, 9, none⟩ = some (.string ⟨#[27, 61]⟩)) := fun W hb => by have := (H.out W hb).1.2.2.2.2.2.2.2.2.2.1; rw [hs] at this; exact this
 have es : (⟨#[27, 61]⟩ : ByteArray) ++ ⟨[b].toArray⟩ = ⟨[27, 61, b].toArray⟩ := by apply ByteArray.ext; rw [ByteArray.data_append]; simp
 have HT : Hid (RfTo w ((w.alloc (.cells #[.int .u8 (b.toNat : Int)] 5)).drew.setCell ⟨rp, 9, none⟩ (.string (⟨#[27, 61]⟩ ++ ⟨[b].toArray⟩))) rp lb sb { r with seq := [27, 61, b] }) := by
  show RfTo _ _ _ _ _ _
  rw [es]
  exact RfTo.after hb1 (h1.seqTo [27, 61, b])
 have HM : Hid (moreR r b = { r with seq := [27, 61, b] }) := by
  show _ = _
  unfold moreR
  rw [if_neg (by rw [hs]; decide), if_pos (by rw [hs]; rfl), hs]
  rfl
 have hz1 : (⟨[b].toArray⟩ : ByteArray).size = 1 := rfl
 unfold MoreOk
 rw [HM.out]
 clear h hs h1 hx hb1 es
 go_enter Tryz.func45, Tryz.ntmps45
 go_upto_region 14 with fail
 refine wp_region_noPanic ?_
 refine wp_region_k (S := fun W : World => Below w.heap.size w W) 11 (by kernel_rfl) (HB0.out) (fun hHeld => ?_)
 refine kSK 0 hHeld ?_
 refine kSK 1 hHeld ?_
 refine kSK 2 hHeld ?_
 refine kSK 3 hHeld ?_
 refine kTK (v := ?_) 4 [] hHeld ?y5 ?_
 case y5 => (intro W hSw; have q9 := HY.out _ hSw; go_simp; try with_reducible rfl)
 try refine kNK ?_
 refine kSK 5 hHeld ?_
 try refine kNK ?_
 refine kOK 6 fun KQ hKQ => ?_
 go_simp
 skip
 refine hKQ.out _ _ (hHeld.alloc hHeld.size _) ?_
 clear hHeld hKQ KQ
 intro hHeld
 try refine kNK ?_
 refine kOK 7 fun KQ hKQ => ?_
 go_simp
 skip
 refine hKQ.out _ _ (hHeld) ?_
 clear hHeld hKQ KQ
 intro hHeld
 try refine kNK ?_
 refine kSK 8 hHeld ?_
 refine kSK 9 hHeld ?_
 refine kSK 10 hHeld ?_
 try refine kNK ?_
 refine kPK 11 fun KQ hKQ => ?_
 go_simp
 skip
 refine hKQ.out _ _ ?_
 clear hKQ KQ
 try refine kNK ?_
 refine wpAnyK_done (by kernel_rfl) ?_ _
 refine NoPanic.normal ?_
 go_wp2_with fail
 exact bodyPost_ret (results_none rfl _ _ _) rfl ⟨rfl, HT.out⟩
theorem more_three (h : RfAt w rp lb cap sb r) (hm : r.may) (x : UInt8) (hs : r.seq = [27, 61, x]) (b : UInt8) : MoreOk w rp lb sb r b := by
 obtain ⟨⟨y0, y1, y2, y3, y4, y5, y6, y7, y8, y9, y10, y11, y12⟩, f2, f3, f4, f5, f6, f7, f8, f9, f10, f12⟩ := h.cells
 rw [hs] at y9
 have h1 := h.set_ (r' := { r with seq := [] }) 9 (.string ⟨#[]⟩) rfl rfl rfl rfl rfl
 have HT0 := Lib.hid (h1.to_ (keeps_box w rp 9 _))
 obtain ⟨X, hX⟩ : ∃ X : Int, X = (x.toNat : Int) - 32 := ⟨_, rfl⟩
 obtain ⟨Y, hY⟩ : ∃ Y : Int, Y = (b.toNat : Int) - 32 := ⟨_, rfl⟩
 have hx := x.toNat_lt
 have hb := b.toNat_lt
 have e1 : IntKind.i64.wrap ((x.toNat : Int) - 32) = X := by rw [wrap_in (by omega) (by omega), hX]
 have e2 : IntKind.i64.wrap ((b.toNat : Int) - 32) = Y := by rw [wrap_in (by omega) (by omega), hY]
 have HD : Hid (0 ≤ X → 0 ≤ Y → RfTo w (((w.setCell ⟨rp, 9, none⟩ (.string ⟨#[]⟩)).setCell ⟨rp, 3, none⟩ (.int .i64 X)).setCell ⟨rp, 4, none⟩ (.int .i64 Y)) rp lb sb { r with seq := [], row := X.toNat, col := Y.toNat }) := fun h3 h4 => by
  have g1 := h1.set_ (r' := { r with seq := [], row := X.toNat }) 3 (.int .i64 X) (by show _ = rfC lb cap sb { r with seq := [], row := X.toNat }; unfold rfC; rw [show ((X.toNat : Nat) : Int) = X by omega]; rfl) rfl rfl rfl rfl
  have g2 := g1.set_ (r' := { r with seq := [], row := X.toNat, col := Y.toNat }) 4 (.int .i64 Y) (by show _ = rfC lb cap sb { r with seq := [], row := X.toNat, col := Y.toNat }; unfold rfC; rw [show ((Y.toNat : Nat) : Int) = Y by omega]; rfl) rfl rfl rfl rfl
  exact g2.to_ (((keeps_box w rp 9 _).trans (keeps_box _ rp 3 _) fun x e => .inl e).trans (keeps_box _ rp 4 _) fun x e => .inl e)
 have HM : Hid (moreR r b = if 0 ≤ X ∧ X < (r.R : Int) ∧ 0 ≤ Y ∧ Y < (r.C : Int) then { r with seq := [], row := X.toNat, col := Y.toNat } else { r with seq := [] }) := by
  show _ = _
  unfold moreR
  rw [if_neg (by rw [hs]; simp), if_neg (by rw [hs]; simp), hs, hX, hY]
  rfl
 have hix : (⟨#[27, 61, x]⟩ : ByteArray)[2]'(by show 2 < 3; decide) = x := rfl
 unfold MoreOk
 rw [HM.out]
 clear h hs h1 HM
 have hcase : (¬ 0 ≤ X) ∨ (0 ≤ X ∧ ¬ X < (r.R : Int)) ∨ (0 ≤ X ∧ X < (r.R : Int) ∧ ¬ 0 ≤ Y) ∨ (0 ≤ X ∧ X < (r.R : Int) ∧ 0 ≤ Y ∧ ¬ Y < (r.C : Int)) ∨ (0 ≤ X ∧ X < (r.R : Int) ∧ 0 ≤ Y ∧ Y < (r.C : Int)) := by omega
 clear hX hY
 rcases hcase with c1 | ⟨c1, c2⟩ | ⟨c1, c2, c3⟩ | ⟨c1, c2, c3, c4⟩ | ⟨c1, c2, c3, c4⟩
 case' inl => rw [if_neg (fun e => c1 e.1)]
 case' inr.inl => rw [if_neg (fun e => c2 e.2.1)]
 case' inr.inr.inl => rw [if_neg (fun e => c3 e.2.2.1)]
 case' inr.inr.inr.inl => rw [if_neg (fun e => c4 e.2.2.2)]
 case' inr.inr.inr.inr =>
  rw [if_pos ⟨c1, c2, c3, c4⟩]
  have HTD := Lib.hid (HD.out c1 c3)
  clear HT0
  have HT0 := HTD
  clear HTD
 all_goals (
  clear HD
  go_enter Tryz.func45, Tryz.ntmps45
  go_wp2_with fail
  go_end0
  exact ⟨rfl, HT0.out⟩)
end
end
end Go.Proofs.YtncgigapgklhcaaGreatDoor
