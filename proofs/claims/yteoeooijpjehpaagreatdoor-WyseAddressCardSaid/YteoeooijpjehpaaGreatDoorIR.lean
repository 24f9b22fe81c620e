import Derived.Test.YteoeooijpjehpaaGreatDoorIQ

set_option maxRecDepth 100000
set_option maxHeartbeats 16000000
namespace Go.Proofs.YteoeooijpjehpaaGreatDoor
open Go.RowKit
set_option linter.unusedSimpArgs false
set_option linter.unusedVariables false
/- Walks: a Wyse 60's take: a sequence that is at its end. -/
section
attribute [local go_sem] alloc_drewN setCell_drewN World.cell?_alloc_some frozen_alloc_some
theorem take_end {w : World} {tp sp qp lb fr : Nat} {F FT : Nat → Prop} {A : Wy} (h : WyAt w tp sp qp lb fr F A) (hF : ∀ k, FT k ↔ footY tp qp lb F k) (b a c : UInt8) (l : List UInt8) (hs : A.seq ++ [b] = a :: c :: l) (hne : A.seq ≠ []) (hb27 : b.toNat ≠ 27) (hw : waitsW c l = false) : Calls Tryz.prog 32 #[.pointer (some ⟨tp, 0, none⟩), .int .u8 b.toNat] w fun e w' => e = .returned (.tuple #[]) ∧ WTermTo w w' tp sp qp FT (restW (endW { A with seq := [] } c l).1 (endW { A with seq := [] } c l).2) := by
 have hlt : ∀ k, FT k → k < w.heap.size := fun k hk => h.lt ((hF k).1 hk)
 have HL := Lib.hid hlt
 have HLB := Lib.hid (fun k hk => h.lib.lt k hk)
 have hb1 := below1 w (.cells #[.bool false] 4)
 have HWA := Lib.hid (fun W (hb : Below (w.alloc (.cells #[.bool false] 4)).heap.size (w.alloc (.cells #[.bool false] 4)) W) => (h.below hb1).below hb)
 have HF := Lib.hid hF
 have hlen := h.len
 have HX := Lib.hid (heap_alloc_new w (.cells #[.bool false] 4))
 have t9 : (w.alloc (.cells #[.bool false] 4)).cell? ⟨tp, 9, none⟩ = some (.string ⟨A.seq.toArray⟩) := cell_row (h.below hb1).box 9
 have HPF : Hid (∀ W, Calls Tryz.prog 53 #[.string ⟨A.seq.toArray⟩, .string ⟨#[27, 70]⟩] W fun e w' => e = .returned (.bool (statusW A.seq)) ∧ w' = W) := fun W => st_prefix A.seq [27, 70] W
 have hslen : l.length + 2 = A.seq.length + 1 := by
  have := congrArg List.length hs
  simp at this
  omega
 have hcat := ba_snoc A.seq b
 rw [hs] at hcat
 have HBD : Hid (Below (w.alloc (.cells #[.bool false] 4)).heap.size (w.alloc (.cells #[.bool false] 4)) (w.alloc (.cells #[.bool false] 4)).drew) := (Below.refl _ _).drew
 have hq0 : A.seq.isEmpty = false := by simpa using hne
 have hsz : ¬ 9223372036854775807 < A.seq.length + 1 := by omega
 have HWT := Lib.hid (fun W (hb : Below (w.alloc (.cells #[.bool false] 4)).heap.size (w.alloc (.cells #[.bool false] 4)) W) => waits_ok a c l (by omega) W ((h.below hb1).below hb).lib)
 rw [hw] at HWT
 have eb : ((b.toNat : Int) == 27) = false := by simp; omega
 have hzz : (⟨(a :: c :: l).toArray⟩ : ByteArray).size = l.length + 2 := ba_sz _
 have i1 : ∀ W, Sem.run Tryz.prog (Instr.index 9 (.string ⟨(a :: c :: l).toArray⟩) (.int .i64 1)) W = .ok (.int .u8 c.toNat) W := fun W => run_ix _ 1 c (by omega) (ba_get1 a c l _) W
 have r2 : ∀ W, Sem.run Tryz.prog (Instr.slice 9 (.string ⟨(a :: c :: l).toArray⟩) (some (.int .i64 2)) none none) W = .ok (.string ⟨l.toArray⟩) W := fun W => run_rest2 a c l (by omega) W
 have HEN : Hid (∀ W, WyAt W tp sp qp lb fr F { A with seq := [] } → Calls Tryz.prog 56 #[.pointer (some ⟨tp, 0, none⟩), .int .u8 c.toNat, .string ⟨l.toArray⟩] W fun e w' => e = .returned (.bool (endW { A with seq := [] } c l).2) ∧ WTermTo W w' tp sp qp FT (endW { A with seq := [] } c l).1) := fun W h4 => wys_end h4 hF c l (by omega) hw
 clear h hF hlt hb1 hs hne hw
 generalize endW { A with seq := [] } c l = R at *
 obtain ⟨R1, back⟩ := R
 simp only at HEN ⊢
 generalize hbs : (⟨(a :: c :: l).toArray⟩ : ByteArray) = bs at *
 go_enter_defers Tryz.func32, Tryz.ntmps32
 go_upto_region 7 with (go_at_call 53; refine (HPF.out _).mono ?_; rintro e w1 ⟨rfl, rfl⟩)
 clear t9
 refine wp_region_noPanic ?_
 refine wp_region_k (S := fun W : World => Below (w.alloc (.cells #[.bool false] 4)).heap.size (w.alloc (.cells #[.bool false] 4)) W) 999 (by kernel_rfl) (HBD.out) (fun hHeld => ?_)
 refine kSK 0 hHeld ?_
 refine kSK 1 hHeld ?_
 refine kSK 2 hHeld ?_
 refine kHK (v := ?_) 3 hHeld ?y4 ?_
 case y4 => (intro W hSw; have t9 : W.cell? ⟨tp, 9, none⟩ = some (.string ⟨A.seq.toArray⟩) := cell_row (HWA.out _ hSw).box 9; go_simp; try with_reducible rfl)
 refine kSK 4 hHeld ?_
 try refine kNK ?_
 refine kOK 5 fun KQ hKQ => ?_
 go_simp
 refine hKQ.out _ _ (hHeld.alloc hHeld.size _) ?_
 clear hHeld hKQ KQ
 intro hHeld
 try refine kNK ?_
 have hcv := wconv_one (w.alloc (.cells #[.bool false] 4)) b
 rw [World.size_alloc] at hcv
 refine kOK 6 fun KQ hKQ => ?_
 go_simp
 skip
 refine hKQ.out _ _ (hHeld) ?_
 clear hHeld hKQ KQ
 intro hHeld
 try refine kNK ?_
 clear hcv
 refine kSK 7 hHeld ?_
 refine kSK 8 hHeld ?_
 try refine kNK ?_
 refine wpAnyK_done (by kernel_rfl) ?_ _
 refine NoPanic.normal ?_
 have HB2 := Lib.hid hHeld
 go_upto_region 13 with (go_at_call 55; refine (HWT.out _ HB2.out).mono ?_; rintro e w3 ⟨rfl, hb3⟩; have HB3 := Lib.hid (Below.later HB2.out hb3 HB2.out.size); have t93 : w3.cell? ⟨tp, 9, none⟩ = some (.string ⟨A.seq.toArray⟩) := cell_row (HWA.out _ HB3.out).box 9; have f93 := frozen_row (HWA.out _ HB3.out).box 9; have HX3 := Lib.hid ((HB3.out.block _ (block_lt HX.out)).trans HX.out); clear hb3)
 have HK4 : Hid (Keeps (fun k => k = tp) w3 (w3.setCell ⟨tp, 9, none⟩ (.string ⟨#[]⟩)).drew) := ((Keeps.refl (fun k => k = tp) w3).setCell' (p := ⟨tp, 9, none⟩) rfl _).trans (Keeps.of_below (Below.refl _ _).drew) (fun k hk => .inl hk)
 have H4 : Hid (WyAt (w3.setCell ⟨tp, 9, none⟩ (.string ⟨#[]⟩)).drew tp sp qp lb fr F { A with seq := [] }) := (HWA.out _ HB3.out).boxed rfl rfl rfl rfl (show (w3.setCell ⟨tp, 9, none⟩ (.string ⟨#[]⟩)).heap[tp]? = _ from heap_set_same (HWA.out _ HB3.out).box 9 _) (Nat.zero_le _) HK4.out
 clear t93 f93
 refine wp_region_noPanic ?_
 refine wp_region_k (S := fun W : World => W = (w3.setCell ⟨tp, 9, none⟩ (.string ⟨#[]⟩)).drew) 5 (by kernel_rfl) (rfl) (fun hHeld => ?_)
 refine kSK 0 hHeld ?_
 refine kSK 1 hHeld ?_
 refine kTK (v := ?_) 2 [] hHeld ?y3 ?_
 case y3 => (intro W hSw; go_simp; try with_reducible rfl)
 refine kSK 3 hHeld ?_
 refine kSK 4 hHeld ?_
 try refine kNK ?_
 refine kPK 5 fun KQ hKQ => ?_
 go_simp
 go_at_call 56
 refine (HEN.out _ H4.out).mono ?_
 rintro e w5 ⟨rfl, ht⟩
 have HT5 := Lib.hid (WTermTo.after HB3.out (WTermTo.link (fun k hk => .inl hk) (HK4.out.mono fun k e => (HF.out k).2 (.inl e)) ht))
 have HX5 := Lib.hid (back_cell HL.out HT5.out)
 have k0 := cell_row HX5.out 0
 have kf := frozen_row HX5.out 0
 clear ht
 go_wp2_with fail
 refine hKQ.out _ _ ?_
 clear hKQ KQ
 try refine kNK ?_
 refine kPK 6 fun KQ hKQ => ?_
 go_simp
 refine hKQ.out _ _ ?_
 clear hKQ KQ
 try refine kNK ?_
 refine wpAnyK_done (by kernel_rfl) ?_ _
 refine NoPanic.normal ?_
 go_wp2_with fail
 refine leaves_cons (f := 52) (args := #[.pointer (some ⟨tp, 0, none⟩), .pointer (some ⟨w.heap.size, 0, none⟩)]) (by simp) (by simp [go_sem]) ?_
 refine (rest_last HL.out HT5.out HLB.out ((Keeps.refl (fun k => k = w.heap.size) w5).setCell' (p := ⟨w.heap.size, 0, none⟩) rfl _) (heap_set_same HX5.out 0 (.bool back)) .returning).mono ?_
 rintro e u' w'' ⟨rfl, rfl, h⟩
 exact ⟨_, results_none rfl _ _ _, rfl, h⟩
theorem take_end_s {w : World} {tp sp qp lb fr : Nat} {F FT : Nat → Prop} {A : Wy} (h : WyAt w tp sp qp lb fr F A) (hF : ∀ k, FT k ↔ footY tp qp lb F k) (b a c : UInt8) (l : List UInt8) (hs : A.seq ++ [b] = a :: c :: l) (hne : A.seq ≠ []) (hb27 : b.toNat = 27) (hst : statusW A.seq = true) (hw : waitsW c l = false) : Calls Tryz.prog 32 #[.pointer (some ⟨tp, 0, none⟩), .int .u8 b.toNat] w fun e w' => e = .returned (.tuple #[]) ∧ WTermTo w w' tp sp qp FT (restW (endW { A with seq := [] } c l).1 (endW { A with seq := [] } c l).2) := by
 have hlt : ∀ k, FT k → k < w.heap.size := fun k hk => h.lt ((hF k).1 hk)
 have HL := Lib.hid hlt
 have HLB := Lib.hid (fun k hk => h.lib.lt k hk)
 have hb1 := below1 w (.cells #[.bool false] 4)
 have HWA := Lib.hid (fun W (hb : Below (w.alloc (.cells #[.bool false] 4)).heap.size (w.alloc (.cells #[.bool false] 4)) W) => (h.below hb1).below hb)
 have HF := Lib.hid hF
 have hlen := h.len
 have HX := Lib.hid (heap_alloc_new w (.cells #[.bool false] 4))
 have t9 : (w.alloc (.cells #[.bool false] 4)).cell? ⟨tp, 9, none⟩ = some (.string ⟨A.seq.toArray⟩) := cell_row (h.below hb1).box 9
 have HPF : Hid (∀ W, Calls Tryz.prog 53 #[.string ⟨A.seq.toArray⟩, .string ⟨#[27, 70]⟩] W fun e w' => e = .returned (.bool (statusW A.seq)) ∧ w' = W) := fun W => st_prefix A.seq [27, 70] W
 have hslen : l.length + 2 = A.seq.length + 1 := by
  have := congrArg List.length hs
  simp at this
  omega
 have hcat := ba_snoc A.seq b
 rw [hs] at hcat
 have HBD : Hid (Below (w.alloc (.cells #[.bool false] 4)).heap.size (w.alloc (.cells #[.bool false] 4)) (w.alloc (.cells #[.bool false] 4)).drew) := (Below.refl _ _).drew
 have hq0 : A.seq.isEmpty = false := by simpa using hne
 have hsz : ¬ 9223372036854775807 < A.seq.length + 1 := by omega
 have HWT := Lib.hid (fun W (hb : Below (w.alloc (.cells #[.bool false] 4)).heap.size (w.alloc (.cells #[.bool false] 4)) W) => waits_ok a c l (by omega) W ((h.below hb1).below hb).lib)
 rw [hw] at HWT
 rw [hst] at HPF
 have eb : ((b.toNat : Int) == 27) = true := by simp; omega
 have hzz : (⟨(a :: c :: l).toArray⟩ : ByteArray).size = l.length + 2 := ba_sz _
 have i1 : ∀ W, Sem.run Tryz.prog (Instr.index 9 (.string ⟨(a :: c :: l).toArray⟩) (.int .i64 1)) W = .ok (.int .u8 c.toNat) W := fun W => run_ix _ 1 c (by omega) (ba_get1 a c l _) W
 have r2 : ∀ W, Sem.run Tryz.prog (Instr.slice 9 (.string ⟨(a :: c :: l).toArray⟩) (some (.int .i64 2)) none none) W = .ok (.string ⟨l.toArray⟩) W := fun W => run_rest2 a c l (by omega) W
 have HEN : Hid (∀ W, WyAt W tp sp qp lb fr F { A with seq := [] } → Calls Tryz.prog 56 #[.pointer (some ⟨tp, 0, none⟩), .int .u8 c.toNat, .string ⟨l.toArray⟩] W fun e w' => e = .returned (.bool (endW { A with seq := [] } c l).2) ∧ WTermTo W w' tp sp qp FT (endW { A with seq := [] } c l).1) := fun W h4 => wys_end h4 hF c l (by omega) hw
 clear h hF hlt hb1 hs hne hw hst hb27
 generalize endW { A with seq := [] } c l = R at *
 obtain ⟨R1, back⟩ := R
 simp only at HEN ⊢
 generalize hbs : (⟨(a :: c :: l).toArray⟩ : ByteArray) = bs at *
 go_enter_defers Tryz.func32, Tryz.ntmps32
 go_upto_region 7 with (go_at_call 53; refine (HPF.out _).mono ?_; rintro e w1 ⟨rfl, rfl⟩)
 clear t9
 refine wp_region_noPanic ?_
 refine wp_region_k (S := fun W : World => Below (w.alloc (.cells #[.bool false] 4)).heap.size (w.alloc (.cells #[.bool false] 4)) W) 999 (by kernel_rfl) (HBD.out) (fun hHeld => ?_)
 refine kSK 0 hHeld ?_
 refine kSK 1 hHeld ?_
 refine kSK 2 hHeld ?_
 refine kHK (v := ?_) 3 hHeld ?y4 ?_
 case y4 => (intro W hSw; have t9 : W.cell? ⟨tp, 9, none⟩ = some (.string ⟨A.seq.toArray⟩) := cell_row (HWA.out _ hSw).box 9; go_simp; try with_reducible rfl)
 refine kSK 4 hHeld ?_
 try refine kNK ?_
 refine kOK 5 fun KQ hKQ => ?_
 go_simp
 refine hKQ.out _ _ (hHeld.alloc hHeld.size _) ?_
 clear hHeld hKQ KQ
 intro hHeld
 try refine kNK ?_
 have hcv := wconv_one (w.alloc (.cells #[.bool false] 4)) b
 rw [World.size_alloc] at hcv
 refine kOK 6 fun KQ hKQ => ?_
 go_simp
 skip
 refine hKQ.out _ _ (hHeld) ?_
 clear hHeld hKQ KQ
 intro hHeld
 try refine kNK ?_
 clear hcv
 refine kSK 7 hHeld ?_
 refine kSK 8 hHeld ?_
 try refine kNK ?_
 refine wpAnyK_done (by kernel_rfl) ?_ _
 refine NoPanic.normal ?_
 have HB2 := Lib.hid hHeld
 go_upto_region 13 with (go_at_call 55; refine (HWT.out _ HB2.out).mono ?_; rintro e w3 ⟨rfl, hb3⟩; have HB3 := Lib.hid (Below.later HB2.out hb3 HB2.out.size); have t93 : w3.cell? ⟨tp, 9, none⟩ = some (.string ⟨A.seq.toArray⟩) := cell_row (HWA.out _ HB3.out).box 9; have f93 := frozen_row (HWA.out _ HB3.out).box 9; have HX3 := Lib.hid ((HB3.out.block _ (block_lt HX.out)).trans HX.out); clear hb3)
 have HK4 : Hid (Keeps (fun k => k = tp) w3 (w3.setCell ⟨tp, 9, none⟩ (.string ⟨#[]⟩)).drew) := ((Keeps.refl (fun k => k = tp) w3).setCell' (p := ⟨tp, 9, none⟩) rfl _).trans (Keeps.of_below (Below.refl _ _).drew) (fun k hk => .inl hk)
 have H4 : Hid (WyAt (w3.setCell ⟨tp, 9, none⟩ (.string ⟨#[]⟩)).drew tp sp qp lb fr F { A with seq := [] }) := (HWA.out _ HB3.out).boxed rfl rfl rfl rfl (show (w3.setCell ⟨tp, 9, none⟩ (.string ⟨#[]⟩)).heap[tp]? = _ from heap_set_same (HWA.out _ HB3.out).box 9 _) (Nat.zero_le _) HK4.out
 clear t93 f93
 refine wp_region_noPanic ?_
 refine wp_region_k (S := fun W : World => W = (w3.setCell ⟨tp, 9, none⟩ (.string ⟨#[]⟩)).drew) 5 (by kernel_rfl) (rfl) (fun hHeld => ?_)
 refine kSK 0 hHeld ?_
 refine kSK 1 hHeld ?_
 refine kTK (v := ?_) 2 [] hHeld ?y3 ?_
 case y3 => (intro W hSw; go_simp; try with_reducible rfl)
 refine kSK 3 hHeld ?_
 refine kSK 4 hHeld ?_
 try refine kNK ?_
 refine kPK 5 fun KQ hKQ => ?_
 go_simp
 go_at_call 56
 refine (HEN.out _ H4.out).mono ?_
 rintro e w5 ⟨rfl, ht⟩
 have HT5 := Lib.hid (WTermTo.after HB3.out (WTermTo.link (fun k hk => .inl hk) (HK4.out.mono fun k e => (HF.out k).2 (.inl e)) ht))
 have HX5 := Lib.hid (back_cell HL.out HT5.out)
 have k0 := cell_row HX5.out 0
 have kf := frozen_row HX5.out 0
 clear ht
 go_wp2_with fail
 refine hKQ.out _ _ ?_
 clear hKQ KQ
 try refine kNK ?_
 refine kPK 6 fun KQ hKQ => ?_
 go_simp
 refine hKQ.out _ _ ?_
 clear hKQ KQ
 try refine kNK ?_
 refine wpAnyK_done (by kernel_rfl) ?_ _
 refine NoPanic.normal ?_
 go_wp2_with fail
 refine leaves_cons (f := 52) (args := #[.pointer (some ⟨tp, 0, none⟩), .pointer (some ⟨w.heap.size, 0, none⟩)]) (by simp) (by simp [go_sem]) ?_
 refine (rest_last HL.out HT5.out HLB.out ((Keeps.refl (fun k => k = w.heap.size) w5).setCell' (p := ⟨w.heap.size, 0, none⟩) rfl _) (heap_set_same HX5.out 0 (.bool back)) .returning).mono ?_
 rintro e u' w'' ⟨rfl, rfl, h⟩
 exact ⟨_, results_none rfl _ _ _, rfl, h⟩
theorem wterm_take {w : World} {tp sp qp : Nat} {FT : Nat → Prop} {A : Wy} (h : WTerm w tp sp qp FT A) (b : UInt8) : Calls Tryz.prog 32 #[.pointer (some ⟨tp, 0, none⟩), .int .u8 b.toNat] w fun e w' => e = .returned (.tuple #[]) ∧ WTermTo w w' tp sp qp FT (takeW A b) := by
 obtain ⟨lb, fr, F, h, hF⟩ := h
 unfold takeW takeD
 by_cases h27 : b = 27 ∧ statusW A.seq = false
 · rw [if_pos h27]
   obtain ⟨rfl, hs⟩ := h27
   exact take_escape h hF hs
 rw [if_neg h27]
 by_cases hne : A.seq = []
 · have hb : b.toNat ≠ 27 := fun e => h27 ⟨UInt8.toNat_inj.1 e, by rw [hne]; rfl⟩
   rw [hne]
   exact take_ground h hF b.toNat hb hne
 obtain ⟨a, c, l, hs⟩ : ∃ a c l, A.seq ++ [b] = a :: c :: l := by
  cases hq : A.seq with
  | nil => exact absurd hq hne
  | cons a t =>
    cases t with
    | nil => exact ⟨a, b, [], rfl⟩
    | cons c t => exact ⟨a, c, t ++ [b], rfl⟩
 rw [hs]
 have hst : b.toNat = 27 → statusW A.seq = true := fun e => by
  have : b = 27 := UInt8.toNat_inj.1 e
  cases hq : statusW A.seq
  · exact absurd ⟨this, hq⟩ h27
  · rfl
 simp only
 cases hw : waitsW c l
 · rw [if_neg (by decide)]
   by_cases e : b.toNat = 27
   · exact take_end_s h hF b a c l hs hne e (hst e) hw
   · exact take_end h hF b a c l hs hne e hw
 · rw [if_pos rfl]
   have hlen : (a :: c :: l).length = l.length + 2 := rfl
   rw [hlen]
   by_cases hgt : 64 < l.length + 2
   · rw [if_pos hgt]
     by_cases e : b.toNat = 27
     · exact take_wait_s_over h hF b a c l hs hne e (hst e) hw hgt
     · exact take_wait_over h hF b a c l hs hne e hw hgt
   · rw [if_neg hgt]
     by_cases e : b.toNat = 27
     · exact take_wait_s h hF b a c l hs hne e (hst e) hw hgt
     · exact take_wait h hF b a c l hs hne e hw hgt
theorem feedW_take (A : Wy) (l : List UInt8) {k : Nat} (hk : k < l.length) : feedW A (l.take (k + 1)) = takeW (feedW A (l.take k)) (l[k]?.getD 0) := by
 have e : l.take (k + 1) = l.take k ++ [l[k]?.getD 0] := by
  rw [List.take_add_one, List.getElem?_eq_getElem hk]
  rfl
 rw [e, feedW_append]
 rfl
theorem wterm_feed {w : World} {tp sp qp : Nat} {FT : Nat → Prop} {A : Wy} (h : WTerm w tp sp qp FT A) (l : List UInt8) (hl : l.length ≤ 100000) : Calls Tryz.prog 12 #[.pointer (some ⟨tp, 0, none⟩), .string ⟨l.toArray⟩] w fun e w' => e = .returned (.tuple #[]) ∧ WTermTo w w' tp sp qp FT (feedW A l) := by
 have H := Lib.hid h
 clear h
 go_enter Tryz.func12, Tryz.ntmps12
 go_wp2_with fail
 go_loopw [9] (fun i wr => ∃ k : Nat, k ≤ l.length ∧ i = .int .i64 k ∧ WTermTo w wr tp sp qp FT (feedW A (l.take k))) (fun i _ => l.length - (intOf i).toNat)
 case atStart => exact ⟨0, Nat.zero_le _, rfl, by rw [List.take_zero]; exact WTermTo.refl H.out⟩
 case round =>
  obtain ⟨k, hk, rfl, hT⟩ := hrel
  by_cases hlt : k < l.length
  · have hzk : (k : Int) < (l.length : Int) := by omega
    have hzn : k ≠ l.length := by omega
    have hz0 : (0 : Int) ≤ (k : Int) := by omega
    obtain ⟨⟨F1, h1, hs1⟩, hK1⟩ := hT
    have HTK := Lib.hid (wterm_take h1 (l[k]?.getD 0))
    have HS1 := Lib.hid hs1
    have HK1 := Lib.hid hK1
    have HGX : Hid ((⟨l.toArray⟩ : ByteArray)[k]'(by show k < l.toArray.size; simpa using hlt) = l[k]?.getD 0) := by
     show l.toArray[k]'(by simpa using hlt) = _
     simp [List.getElem?_eq_getElem hlt]
    clear h1 hs1 hK1
    go_wp2_with (go_at_call 32; rw [HGX.out]; refine HTK.out.mono ?_; rintro e w2 ⟨rfl, ht⟩; have HT2 := Lib.hid (WTermTo.link HS1.out HK1.out ht); clear ht)
    exact ⟨⟨k + 1, by omega, by go_num, by rw [feedW_take A l hlt]; exact HT2.out⟩, by simp [intOf]; omega⟩
  · obtain rfl : k = l.length := by omega
    have HT := Lib.hid hT
    clear hT
    go_wp2_with fail
    go_end0
    refine ⟨rfl, ?_⟩
    have := HT.out
    rwa [List.take_length] at this
end
end Go.Proofs.YteoeooijpjehpaaGreatDoor
