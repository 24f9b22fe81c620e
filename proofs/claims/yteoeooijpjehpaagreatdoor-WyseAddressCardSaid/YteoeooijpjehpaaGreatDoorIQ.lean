import Derived.Test.YteoeooijpjehpaaGreatDoorIP
import Derived.Test.YteoeooijpjehpaaGreatDoorIC

set_option maxRecDepth 100000
set_option maxHeartbeats 16000000
namespace Go.Proofs.YteoeooijpjehpaaGreatDoor
open Go.RowKit
set_option linter.unusedSimpArgs false
set_option linter.unusedVariables false
/- Walks: a Wyse 60's take: the rest that is put off; a byte in no sequence; an escape. -/
section
attribute [local go_sem] alloc_drewN setCell_drewN World.cell?_alloc_some frozen_alloc_some
theorem rest_last {w w2 w3 : World} {tp sp qp : Nat} {FT : Nat → Prop} {A1 : Wy} {back : Bool} (hlt : ∀ k, FT k → k < w.heap.size) (hT : WTermTo (w.alloc (.cells #[.bool false] 4)) w2 tp sp qp FT A1) (hlb : ∀ k, isLib k → k < w.heap.size) (hk3 : Keeps (fun k => k = w.heap.size) w2 w3) (hc3 : w3.heap[w.heap.size]? = some (.cells #[.bool back] 4 (0, 0))) (u : FrameMode) :
 CallsD Tryz.prog 52 #[.pointer (some ⟨tp, 0, none⟩), .pointer (some ⟨w.heap.size, 0, none⟩)] u w3 fun e u' w' => u' = u ∧ (e = .returned (.tuple #[]) ∧ WTermTo w w' tp sp qp FT (restW A1 back)) := by
 obtain ⟨⟨F', h2, hsub⟩, hK⟩ := hT
 have hbp : ∀ k, F' k → k ≠ w.heap.size := fun k hk e => by
  rcases hsub k hk with h | h
  · have := hlt k h
    omega
  · rw [World.size_alloc] at h
    omega
 have hbl : ¬ (0 = w.heap.size) := fun e => by
  have h1 := h2.blk.1
  obtain ⟨t, f, hb⟩ := h1
  have hx := hK.block w.heap.size (by simp) (fun hf => by have := hlt _ hf; omega)
  rw [heap_alloc_new] at hx
  rw [e] at hb
  rw [hx] at hb
  injection hb with hb
  injection hb with hb
  simp [cellB] at hb
 obtain ⟨lb, fr, F, h3, hF3⟩ := h2.keeps hk3 hbp hbl (fun k hl e => by have := hlb k hl; omega)
 refine (wys_rest_d h3.wys w.heap.size back hc3 u).mono ?_
 rintro e u' w' ⟨h, h', ht⟩
 refine ⟨h, h', ?_⟩
 rw [restW_eq]
 refine WTermTo.link (fun k hk => ?_) ?_ (WTerm.scrTo h3 hF3 ht)
 · rcases hsub k hk with h | h
   · exact .inl h
   · rw [World.size_alloc] at h
     exact .inr (by omega)
 · have hk1 : Keeps FT w w2 := (Keeps.of_below (below1 w _)).trans hK fun k hk => .inl hk
   exact ⟨hk3.os.trans hk1.os, hk3.tape.trans hk1.tape, hk3.output.trans hk1.output, Nat.le_trans hk1.size hk3.size, fun k hk hn => (hk3.block k (Nat.lt_of_lt_of_le hk hk1.size) (fun e => by omega)).trans (hk1.block k hk hn)⟩
theorem back_cell {w w2 : World} {tp sp qp : Nat} {FT : Nat → Prop} {A1 : Wy} (hlt : ∀ k, FT k → k < w.heap.size) (hT : WTermTo (w.alloc (.cells #[.bool false] 4)) w2 tp sp qp FT A1) : w2.heap[w.heap.size]? = some (.cells #[.bool false] 4 (0, 0)) :=
 (hT.2.block w.heap.size (by simp) (fun hf => by have := hlt _ hf; omega)).trans (heap_alloc_new w _)
theorem take_ground {w : World} {tp sp qp lb fr : Nat} {F FT : Nat → Prop} {A : Wy} (h : WyAt w tp sp qp lb fr F A) (hF : ∀ k, FT k ↔ footY tp qp lb F k) (b : Nat) (hb : b ≠ 27) (hs : A.seq = []) : Calls Tryz.prog 32 #[.pointer (some ⟨tp, 0, none⟩), .int .u8 b] w fun e w' => e = .returned (.tuple #[]) ∧ WTermTo w w' tp sp qp FT (restW (groundW A b).1 (groundW A b).2) := by
 have hlt : ∀ k, FT k → k < w.heap.size := fun k hk => h.lt ((hF k).1 hk)
 have HL := Lib.hid hlt
 have HLB := Lib.hid (fun k hk => h.lib.lt k hk)
 have hb1 := below1 w (.cells #[.bool false] 4)
 have HG := Lib.hid (wys_ground (h.below hb1) hF b)
 have t9 : (w.alloc (.cells #[.bool false] 4)).cell? ⟨tp, 9, none⟩ = some (.string ⟨A.seq.toArray⟩) := cell_row (h.below hb1).box 9
 rw [hs] at t9
 have HPF := Lib.hid (fun W => st_prefix [] [27, 70] W)
 have eb : ((b : Int) == 27) = false := by simp; omega
 clear h hF hlt hb1 hb hs
 generalize groundW A b = r at *
 obtain ⟨A1, back⟩ := r
 simp only at HG ⊢
 go_enter_defers Tryz.func32, Tryz.ntmps32
 go_wp2_with (first
  | (go_at_call 53; refine (HPF.out _).mono ?_; rintro e w1 ⟨rfl, rfl⟩)
  | (go_at_call 54; refine HG.out.mono ?_; rintro e w2 ⟨rfl, ht⟩; have HX := Lib.hid (back_cell HL.out ht); have k0 := cell_row HX.out 0; have kf := frozen_row HX.out 0; have HT := Lib.hid ht; clear ht))
 refine leaves_cons (f := 52) (args := #[.pointer (some ⟨tp, 0, none⟩), .pointer (some ⟨w.heap.size, 0, none⟩)]) (by simp) (by simp [go_sem]) ?_
 refine (rest_last HL.out HT.out HLB.out ((Keeps.refl (fun k => k = w.heap.size) w2).setCell' (p := ⟨w.heap.size, 0, none⟩) rfl _) (heap_set_same HX.out 0 (.bool back)) .returning).mono ?_
 rintro e u' w'' ⟨rfl, rfl, h⟩
 exact ⟨_, results_none rfl _ _ _, rfl, h⟩
theorem seqTo {w : World} {tp sp qp lb fr : Nat} {F FT : Nat → Prop} {A : Wy} (h : WyAt w tp sp qp lb fr F A) (hF : ∀ k, FT k ↔ footY tp qp lb F k) (l : List UInt8) (hl : l.length ≤ 64) : WTermTo w (w.setCell ⟨tp, 9, none⟩ (.string ⟨l.toArray⟩)) tp sp qp FT { A with seq := l } :=
 WTerm.boxed h hF rfl rfl rfl rfl (heap_set_same h.box 9 _) hl ((Keeps.refl (fun k => k = tp) _).setCell' (p := ⟨tp, 9, none⟩) rfl _)
theorem take_escape {w : World} {tp sp qp lb fr : Nat} {F FT : Nat → Prop} {A : Wy} (h : WyAt w tp sp qp lb fr F A) (hF : ∀ k, FT k ↔ footY tp qp lb F k) (hs : statusW A.seq = false) : Calls Tryz.prog 32 #[.pointer (some ⟨tp, 0, none⟩), .int .u8 27] w fun e w' => e = .returned (.tuple #[]) ∧ WTermTo w w' tp sp qp FT (restW { A with seq := [27] } false) := by
 have hlt : ∀ k, FT k → k < w.heap.size := fun k hk => h.lt ((hF k).1 hk)
 have HL := Lib.hid hlt
 have HLB := Lib.hid (fun k hk => h.lib.lt k hk)
 have hb1 := below1 w (.cells #[.bool false] 4)
 have HT := Lib.hid (seqTo (h.below hb1) hF [27] (by decide))
 have t9 : (w.alloc (.cells #[.bool false] 4)).cell? ⟨tp, 9, none⟩ = some (.string ⟨A.seq.toArray⟩) := cell_row (h.below hb1).box 9
 have f9 := frozen_row (h.below hb1).box 9
 have HX := Lib.hid (back_cell HL.out HT.out)
 have HPF : Hid (∀ W, Calls Tryz.prog 53 #[.string ⟨A.seq.toArray⟩, .string ⟨#[27, 70]⟩] W fun e w' => e = .returned (.bool false) ∧ w' = W) := fun W => by
  rw [← hs]
  exact st_prefix A.seq [27, 70] W
 clear h hF hlt hb1 hs
 go_enter_defers Tryz.func32, Tryz.ntmps32
 go_wp2_with (go_at_call 53; refine (HPF.out _).mono ?_; rintro e w1 ⟨rfl, rfl⟩)
 refine leaves_cons (f := 52) (args := #[.pointer (some ⟨tp, 0, none⟩), .pointer (some ⟨w.heap.size, 0, none⟩)]) (by simp) (by simp [go_sem]) ?_
 refine (rest_last HL.out HT.out HLB.out (Keeps.refl (fun k => k = w.heap.size) _) HX.out .returning).mono ?_
 rintro e u' w'' ⟨rfl, rfl, h⟩
 exact ⟨_, results_none rfl _ _ _, rfl, h⟩
theorem wconv_one (X : World) (a : UInt8) : (convert 56 9 (.slice (some ⟨X.heap.size, 0, none⟩) 1 1)).run Tryz.prog (X.alloc (.cells #[.int .u8 a.toNat] 5)).drew = .ok (.string ⟨#[a]⟩) (X.alloc (.cells #[.int .u8 a.toNat] 5)).drew := by
 refine run_convert_bytes_back _ _ _ _ ⟨X.heap.size, 0, none⟩ 1 [a] Tryz.underlying56 Tryz.underlying5 Tryz.underlying9 fun j hj => ?_
 rw [addr_add0]
 rw [cell_row (show (X.alloc (.cells #[.int .u8 a.toNat] 5)).drew.heap[X.heap.size]? = _ from heap_alloc_new X _)]
 have hj : j < 1 := hj
 obtain rfl : j = 0 := by omega
 rfl
theorem take_wait {w : World} {tp sp qp lb fr : Nat} {F FT : Nat → Prop} {A : Wy} (h : WyAt w tp sp qp lb fr F A) (hF : ∀ k, FT k ↔ footY tp qp lb F k) (b a c : UInt8) (l : List UInt8) (hs : A.seq ++ [b] = a :: c :: l) (hne : A.seq ≠ []) (hb27 : b.toNat ≠ 27) (hw : waitsW c l = true) (hgt : ¬ 64 < l.length + 2) : Calls Tryz.prog 32 #[.pointer (some ⟨tp, 0, none⟩), .int .u8 b.toNat] w fun e w' => e = .returned (.tuple #[]) ∧ WTermTo w w' tp sp qp FT (restW { A with seq := a :: c :: l } false) := by
 have hlt : ∀ k, FT k → k < w.heap.size := fun k hk => h.lt ((hF k).1 hk)
 have HL := Lib.hid hlt
 have HLB := Lib.hid (fun k hk => h.lib.lt k hk)
 have hb1 := below1 w (.cells #[.bool false] 4)
 have HWA := Lib.hid (fun W (hb : Below (w.alloc (.cells #[.bool false] 4)).heap.size (w.alloc (.cells #[.bool false] 4)) W) => (h.below hb1).below hb)
 have HF := Lib.hid hF
 have hlen := h.len
 have HX := Lib.hid (heap_alloc_new w (.cells #[.bool false] 4))
 have t9 : (w.alloc (.cells #[.bool false] 4)).cell? ⟨tp, 9, none⟩ = some (.string ⟨A.seq.toArray⟩) := cell_row (h.below hb1).box 9
 have HPF : Hid (∀ W, Calls Tryz.prog 53 #[.string ⟨A.seq.toArray⟩, .string ⟨#[27, 70]⟩] W fun e w' => e = .returned (.bool (statusW A.seq)) ∧ w' = W) := fun W => st_prefix A.seq [27, 70] W
 have hslen : l.length + 2 = A.seq.length + 1 := by
  have := congrArg List.length hs
  simp at this
  omega
 have hcat := ba_snoc A.seq b
 rw [hs] at hcat
 have HBD : Hid (Below (w.alloc (.cells #[.bool false] 4)).heap.size (w.alloc (.cells #[.bool false] 4)) (w.alloc (.cells #[.bool false] 4)).drew) := (Below.refl _ _).drew
 have hq0 : A.seq.isEmpty = false := by simpa using hne
 have hsz : ¬ 9223372036854775807 < A.seq.length + 1 := by omega
 have HWT := Lib.hid (fun W (hb : Below (w.alloc (.cells #[.bool false] 4)).heap.size (w.alloc (.cells #[.bool false] 4)) W) => waits_ok a c l (by omega) W ((h.below hb1).below hb).lib)
 rw [hw] at HWT
 have eb : ((b.toNat : Int) == 27) = false := by simp; omega
 have hgz : ¬ 64 < (l.length : Int) + 2 := by omega
 have hgz2 : ¬ 62 < (l.length : Int) := by omega
 have hzz : (⟨(a :: c :: l).toArray⟩ : ByteArray).size = l.length + 2 := ba_sz _
 have HGT := Lib.hid hgt
 clear h hF hlt hb1 hs hne hw
 generalize hbs : (⟨(a :: c :: l).toArray⟩ : ByteArray) = bs at *
 go_enter_defers Tryz.func32, Tryz.ntmps32
 go_upto_region 7 with (go_at_call 53; refine (HPF.out _).mono ?_; rintro e w1 ⟨rfl, rfl⟩)
 clear t9
 refine wp_region_noPanic ?_
 refine wp_region_k (S := fun W : World => Below (w.alloc (.cells #[.bool false] 4)).heap.size (w.alloc (.cells #[.bool false] 4)) W) 999 (by kernel_rfl) (HBD.out) (fun hHeld => ?_)
 refine kSK 0 hHeld ?_
 refine kSK 1 hHeld ?_
 refine kSK 2 hHeld ?_
 refine kHK (v := ?_) 3 hHeld ?y4 ?_
 case y4 => (intro W hSw; have t9 : W.cell? ⟨tp, 9, none⟩ = some (.string ⟨A.seq.toArray⟩) := cell_row (HWA.out _ hSw).box 9; go_simp; try with_reducible rfl)
 refine kSK 4 hHeld ?_
 try refine kNK ?_
 refine kOK 5 fun KQ hKQ => ?_
 go_simp
 refine hKQ.out _ _ (hHeld.alloc hHeld.size _) ?_
 clear hHeld hKQ KQ
 intro hHeld
 try refine kNK ?_
 have hcv := wconv_one (w.alloc (.cells #[.bool false] 4)) b
 rw [World.size_alloc] at hcv
 refine kOK 6 fun KQ hKQ => ?_
 go_simp
 skip
 refine hKQ.out _ _ (hHeld) ?_
 clear hHeld hKQ KQ
 intro hHeld
 try refine kNK ?_
 clear hcv
 refine kSK 7 hHeld ?_
 refine kSK 8 hHeld ?_
 try refine kNK ?_
 refine wpAnyK_done (by kernel_rfl) ?_ _
 refine NoPanic.normal ?_
 have HB2 := Lib.hid hHeld
 go_wp2_with (go_at_call 55; refine (HWT.out _ HB2.out).mono ?_; rintro e w3 ⟨rfl, hb3⟩; have HB3 := Lib.hid (Below.later HB2.out hb3 HB2.out.size); have t93 : w3.cell? ⟨tp, 9, none⟩ = some (.string ⟨A.seq.toArray⟩) := cell_row (HWA.out _ HB3.out).box 9; have f93 := frozen_row (HWA.out _ HB3.out).box 9; have HX3 := Lib.hid ((HB3.out.block _ (block_lt HX.out)).trans HX.out); clear hb3)
 refine leaves_cons (f := 52) (args := #[.pointer (some ⟨tp, 0, none⟩), .pointer (some ⟨w.heap.size, 0, none⟩)]) (by simp) (by simp [go_sem]) ?_
 have HT : WTermTo w3 (w3.setCell ⟨tp, 9, none⟩ (.string bs)) tp sp qp FT { A with seq := a :: c :: l } := by
  rw [← hbs]
  exact seqTo (HWA.out _ HB3.out) HF.out (a :: c :: l) (by have := HGT.out; simp only [List.length_cons]; omega)
 have HT2 := WTermTo.after HB3.out HT
 refine (rest_last HL.out HT2 HLB.out (Keeps.refl (fun k => k = w.heap.size) _) (back_cell HL.out HT2) .returning).mono ?_
 rintro e u' w'' ⟨rfl, rfl, h⟩
 exact ⟨_, results_none rfl _ _ _, rfl, h⟩
theorem take_wait_over {w : World} {tp sp qp lb fr : Nat} {F FT : Nat → Prop} {A : Wy} (h : WyAt w tp sp qp lb fr F A) (hF : ∀ k, FT k ↔ footY tp qp lb F k) (b a c : UInt8) (l : List UInt8) (hs : A.seq ++ [b] = a :: c :: l) (hne : A.seq ≠ []) (hb27 : b.toNat ≠ 27) (hw : waitsW c l = true) (hgt : 64 < l.length + 2) : Calls Tryz.prog 32 #[.pointer (some ⟨tp, 0, none⟩), .int .u8 b.toNat] w fun e w' => e = .returned (.tuple #[]) ∧ WTermTo w w' tp sp qp FT (restW { A with seq := [] } false) := by
 have hlt : ∀ k, FT k → k < w.heap.size := fun k hk => h.lt ((hF k).1 hk)
 have HL := Lib.hid hlt
 have HLB := Lib.hid (fun k hk => h.lib.lt k hk)
 have hb1 := below1 w (.cells #[.bool false] 4)
 have HWA := Lib.hid (fun W (hb : Below (w.alloc (.cells #[.bool false] 4)).heap.size (w.alloc (.cells #[.bool false] 4)) W) => (h.below hb1).below hb)
 have HF := Lib.hid hF
 have hlen := h.len
 have HX := Lib.hid (heap_alloc_new w (.cells #[.bool false] 4))
 have t9 : (w.alloc (.cells #[.bool false] 4)).cell? ⟨tp, 9, none⟩ = some (.string ⟨A.seq.toArray⟩) := cell_row (h.below hb1).box 9
 have HPF : Hid (∀ W, Calls Tryz.prog 53 #[.string ⟨A.seq.toArray⟩, .string ⟨#[27, 70]⟩] W fun e w' => e = .returned (.bool (statusW A.seq)) ∧ w' = W) := fun W => st_prefix A.seq [27, 70] W
 have hslen : l.length + 2 = A.seq.length + 1 := by
  have := congrArg List.length hs
  simp at this
  omega
 have hcat := ba_snoc A.seq b
 rw [hs] at hcat
 have HBD : Hid (Below (w.alloc (.cells #[.bool false] 4)).heap.size (w.alloc (.cells #[.bool false] 4)) (w.alloc (.cells #[.bool false] 4)).drew) := (Below.refl _ _).drew
 have hq0 : A.seq.isEmpty = false := by simpa using hne
 have hsz : ¬ 9223372036854775807 < A.seq.length + 1 := by omega
 have HWT := Lib.hid (fun W (hb : Below (w.alloc (.cells #[.bool false] 4)).heap.size (w.alloc (.cells #[.bool false] 4)) W) => waits_ok a c l (by omega) W ((h.below hb1).below hb).lib)
 rw [hw] at HWT
 have eb : ((b.toNat : Int) == 27) = false := by simp; omega
 have hgz : 64 < (l.length : Int) + 2 := by omega
 have hgz2 : 62 < (l.length : Int) := by omega
 have hzz : (⟨(a :: c :: l).toArray⟩ : ByteArray).size = l.length + 2 := ba_sz _
 have HGT := Lib.hid hgt
 clear h hF hlt hb1 hs hne hw
 generalize hbs : (⟨(a :: c :: l).toArray⟩ : ByteArray) = bs at *
 go_enter_defers Tryz.func32, Tryz.ntmps32
 go_upto_region 7 with (go_at_call 53; refine (HPF.out _).mono ?_; rintro e w1 ⟨rfl, rfl⟩)
 clear t9
 refine wp_region_noPanic ?_
 refine wp_region_k (S := fun W : World => Below (w.alloc (.cells #[.bool false] 4)).heap.size (w.alloc (.cells #[.bool false] 4)) W) 999 (by kernel_rfl) (HBD.out) (fun hHeld => ?_)
 refine kSK 0 hHeld ?_
 refine kSK 1 hHeld ?_
 refine kSK 2 hHeld ?_
 refine kHK (v := ?_) 3 hHeld ?y4 ?_
 case y4 => (intro W hSw; have t9 : W.cell? ⟨tp, 9, none⟩ = some (.string ⟨A.seq.toArray⟩) := cell_row (HWA.out _ hSw).box 9; go_simp; try with_reducible rfl)
 refine kSK 4 hHeld ?_
 try refine kNK ?_
 refine kOK 5 fun KQ hKQ => ?_
 go_simp
 refine hKQ.out _ _ (hHeld.alloc hHeld.size _) ?_
 clear hHeld hKQ KQ
 intro hHeld
 try refine kNK ?_
 have hcv := wconv_one (w.alloc (.cells #[.bool false] 4)) b
 rw [World.size_alloc] at hcv
 refine kOK 6 fun KQ hKQ => ?_
 go_simp
 skip
 refine hKQ.out _ _ (hHeld) ?_
 clear hHeld hKQ KQ
 intro hHeld
 try refine kNK ?_
 clear hcv
 refine kSK 7 hHeld ?_
 refine kSK 8 hHeld ?_
 try refine kNK ?_
 refine wpAnyK_done (by kernel_rfl) ?_ _
 refine NoPanic.normal ?_
 have HB2 := Lib.hid hHeld
 go_wp2_with (go_at_call 55; refine (HWT.out _ HB2.out).mono ?_; rintro e w3 ⟨rfl, hb3⟩; have HB3 := Lib.hid (Below.later HB2.out hb3 HB2.out.size); have t93 : w3.cell? ⟨tp, 9, none⟩ = some (.string ⟨A.seq.toArray⟩) := cell_row (HWA.out _ HB3.out).box 9; have f93 := frozen_row (HWA.out _ HB3.out).box 9; have HX3 := Lib.hid ((HB3.out.block _ (block_lt HX.out)).trans HX.out); clear hb3)
 refine leaves_cons (f := 52) (args := #[.pointer (some ⟨tp, 0, none⟩), .pointer (some ⟨w.heap.size, 0, none⟩)]) (by simp) (by simp [go_sem]) ?_
 have HT : WTermTo w3 ((w3.setCell ⟨tp, 9, none⟩ (.string bs)).setCell ⟨tp, 9, none⟩ (.string ⟨#[]⟩)) tp sp qp FT { A with seq := [] } := WTerm.boxed (HWA.out _ HB3.out) HF.out rfl rfl rfl rfl (heap_set_same (heap_set_same (HWA.out _ HB3.out).box 9 _) 9 _) (Nat.zero_le _) (((Keeps.refl (fun k => k = tp) _).setCell' (p := ⟨tp, 9, none⟩) rfl _).setCell' (p := ⟨tp, 9, none⟩) rfl _)
 have HT2 := WTermTo.after HB3.out HT
 refine (rest_last HL.out HT2 HLB.out (Keeps.refl (fun k => k = w.heap.size) _) (back_cell HL.out HT2) .returning).mono ?_
 rintro e u' w'' ⟨rfl, rfl, h⟩
 exact ⟨_, results_none rfl _ _ _, rfl, h⟩
theorem take_wait_s {w : World} {tp sp qp lb fr : Nat} {F FT : Nat → Prop} {A : Wy} (h : WyAt w tp sp qp lb fr F A) (hF : ∀ k, FT k ↔ footY tp qp lb F k) (b a c : UInt8) (l : List UInt8) (hs : A.seq ++ [b] = a :: c :: l) (hne : A.seq ≠ []) (hb27 : b.toNat = 27) (hst : statusW A.seq = true) (hw : waitsW c l = true) (hgt : ¬ 64 < l.length + 2) : Calls Tryz.prog 32 #[.pointer (some ⟨tp, 0, none⟩), .int .u8 b.toNat] w fun e w' => e = .returned (.tuple #[]) ∧ WTermTo w w' tp sp qp FT (restW { A with seq := a :: c :: l } false) := by
 have hlt : ∀ k, FT k → k < w.heap.size := fun k hk => h.lt ((hF k).1 hk)
 have HL := Lib.hid hlt
 have HLB := Lib.hid (fun k hk => h.lib.lt k hk)
 have hb1 := below1 w (.cells #[.bool false] 4)
 have HWA := Lib.hid (fun W (hb : Below (w.alloc (.cells #[.bool false] 4)).heap.size (w.alloc (.cells #[.bool false] 4)) W) => (h.below hb1).below hb)
 have HF := Lib.hid hF
 have hlen := h.len
 have HX := Lib.hid (heap_alloc_new w (.cells #[.bool false] 4))
 have t9 : (w.alloc (.cells #[.bool false] 4)).cell? ⟨tp, 9, none⟩ = some (.string ⟨A.seq.toArray⟩) := cell_row (h.below hb1).box 9
 have HPF : Hid (∀ W, Calls Tryz.prog 53 #[.string ⟨A.seq.toArray⟩, .string ⟨#[27, 70]⟩] W fun e w' => e = .returned (.bool (statusW A.seq)) ∧ w' = W) := fun W => st_prefix A.seq [27, 70] W
 have hslen : l.length + 2 = A.seq.length + 1 := by
  have := congrArg List.length hs
  simp at this
  omega
 have hcat := ba_snoc A.seq b
 rw [hs] at hcat
 have HBD : Hid (Below (w.alloc (.cells #[.bool false] 4)).heap.size (w.alloc (.cells #[.bool false] 4)) (w.alloc (.cells #[.bool false] 4)).drew) := (Below.refl _ _).drew
 have hq0 : A.seq.isEmpty = false := by simpa using hne
 have hsz : ¬ 9223372036854775807 < A.seq.length + 1 := by omega
 have HWT := Lib.hid (fun W (hb : Below (w.alloc (.cells #[.bool false] 4)).heap.size (w.alloc (.cells #[.bool false] 4)) W) => waits_ok a c l (by omega) W ((h.below hb1).below hb).lib)
 rw [hw] at HWT
 rw [hst] at HPF
 have eb : ((b.toNat : Int) == 27) = true := by simp; omega
 have hgz : ¬ 64 < (l.length : Int) + 2 := by omega
 have hgz2 : ¬ 62 < (l.length : Int) := by omega
 have hzz : (⟨(a :: c :: l).toArray⟩ : ByteArray).size = l.length + 2 := ba_sz _
 have HGT := Lib.hid hgt
 clear h hF hlt hb1 hs hne hw hst hb27
 generalize hbs : (⟨(a :: c :: l).toArray⟩ : ByteArray) = bs at *
 go_enter_defers Tryz.func32, Tryz.ntmps32
 go_upto_region 7 with (go_at_call 53; refine (HPF.out _).mono ?_; rintro e w1 ⟨rfl, rfl⟩)
 clear t9
 refine wp_region_noPanic ?_
 refine wp_region_k (S := fun W : World => Below (w.alloc (.cells #[.bool false] 4)).heap.size (w.alloc (.cells #[.bool false] 4)) W) 999 (by kernel_rfl) (HBD.out) (fun hHeld => ?_)
 refine kSK 0 hHeld ?_
 refine kSK 1 hHeld ?_
 refine kSK 2 hHeld ?_
 refine kHK (v := ?_) 3 hHeld ?y4 ?_
 case y4 => (intro W hSw; have t9 : W.cell? ⟨tp, 9, none⟩ = some (.string ⟨A.seq.toArray⟩) := cell_row (HWA.out _ hSw).box 9; go_simp; try with_reducible rfl)
 refine kSK 4 hHeld ?_
 try refine kNK ?_
 refine kOK 5 fun KQ hKQ => ?_
 go_simp
 refine hKQ.out _ _ (hHeld.alloc hHeld.size _) ?_
 clear hHeld hKQ KQ
 intro hHeld
 try refine kNK ?_
 have hcv := wconv_one (w.alloc (.cells #[.bool false] 4)) b
 rw [World.size_alloc] at hcv
 refine kOK 6 fun KQ hKQ => ?_
 go_simp
 skip
 refine hKQ.out _ _ (hHeld) ?_
 clear hHeld hKQ KQ
 intro hHeld
 try refine kNK ?_
 clear hcv
 refine kSK 7 hHeld ?_
 refine kSK 8 hHeld ?_
 try refine kNK ?_
 refine wpAnyK_done (by kernel_rfl) ?_ _
 refine NoPanic.normal ?_
 have HB2 := Lib.hid hHeld
 go_wp2_with (go_at_call 55; refine (HWT.out _ HB2.out).mono ?_; rintro e w3 ⟨rfl, hb3⟩; have HB3 := Lib.hid (Below.later HB2.out hb3 HB2.out.size); have t93 : w3.cell? ⟨tp, 9, none⟩ = some (.string ⟨A.seq.toArray⟩) := cell_row (HWA.out _ HB3.out).box 9; have f93 := frozen_row (HWA.out _ HB3.out).box 9; have HX3 := Lib.hid ((HB3.out.block _ (block_lt HX.out)).trans HX.out); clear hb3)
 refine leaves_cons (f := 52) (args := #[.pointer (some ⟨tp, 0, none⟩), .pointer (some ⟨w.heap.size, 0, none⟩)]) (by simp) (by simp [go_sem]) ?_
 have HT : WTermTo w3 (w3.setCell ⟨tp, 9, none⟩ (.string bs)) tp sp qp FT { A with seq := a :: c :: l } := by
  rw [← hbs]
  exact seqTo (HWA.out _ HB3.out) HF.out (a :: c :: l) (by have := HGT.out; simp only [List.length_cons]; omega)
 have HT2 := WTermTo.after HB3.out HT
 refine (rest_last HL.out HT2 HLB.out (Keeps.refl (fun k => k = w.heap.size) _) (back_cell HL.out HT2) .returning).mono ?_
 rintro e u' w'' ⟨rfl, rfl, h⟩
 exact ⟨_, results_none rfl _ _ _, rfl, h⟩
theorem take_wait_s_over {w : World} {tp sp qp lb fr : Nat} {F FT : Nat → Prop} {A : Wy} (h : WyAt w tp sp qp lb fr F A) (hF : ∀ k, FT k ↔ footY tp qp lb F k) (b a c : UInt8) (l : List UInt8) (hs : A.seq ++ [b] = a :: c :: l) (hne : A.seq ≠ []) (hb27 : b.toNat = 27) (hst : statusW A.seq = true) (hw : waitsW c l = true) (hgt : 64 < l.length + 2) : Calls Tryz.prog 32 #[.pointer (some ⟨tp, 0, none⟩), .int .u8 b.toNat] w fun e w' => e = .returned (.tuple #[]) ∧ WTermTo w w' tp sp qp FT (restW { A with seq := [] } false) := by
 have hlt : ∀ k, FT k → k < w.heap.size := fun k hk => h.lt ((hF k).1 hk)
 have HL := Lib.hid hlt
 have HLB := Lib.hid (fun k hk => h.lib.lt k hk)
 have hb1 := below1 w (.cells #[.bool false] 4)
 have HWA := Lib.hid (fun W (hb : Below (w.alloc (.cells #[.bool false] 4)).heap.size (w.alloc (.cells #[.bool false] 4)) W) => (h.below hb1).below hb)
 have HF := Lib.hid hF
 have hlen := h.len
 have HX := Lib.hid (heap_alloc_new w (.cells #[.bool false] 4))
 have t9 : (w.alloc (.cells #[.bool false] 4)).cell? ⟨tp, 9, none⟩ = some (.string ⟨A.seq.toArray⟩) := cell_row (h.below hb1).box 9
 have HPF : Hid (∀ W, Calls Tryz.prog 53 #[.string ⟨A.seq.toArray⟩, .string ⟨#[27, 70]⟩] W fun e w' => e = .returned (.bool (statusW A.seq)) ∧ w' = W) := fun W => st_prefix A.seq [27, 70] W
 have hslen : l.length + 2 = A.seq.length + 1 := by
  have := congrArg List.length hs
  simp at this
  omega
 have hcat := ba_snoc A.seq b
 rw [hs] at hcat
 have HBD : Hid (Below (w.alloc (.cells #[.bool false] 4)).heap.size (w.alloc (.cells #[.bool false] 4)) (w.alloc (.cells #[.bool false] 4)).drew) := (Below.refl _ _).drew
 have hq0 : A.seq.isEmpty = false := by simpa using hne
 have hsz : ¬ 9223372036854775807 < A.seq.length + 1 := by omega
 have HWT := Lib.hid (fun W (hb : Below (w.alloc (.cells #[.bool false] 4)).heap.size (w.alloc (.cells #[.bool false] 4)) W) => waits_ok a c l (by omega) W ((h.below hb1).below hb).lib)
 rw [hw] at HWT
 rw [hst] at HPF
 have eb : ((b.toNat : Int) == 27) = true := by simp; omega
 have hgz : 64 < (l.length : Int) + 2 := by omega
 have hgz2 : 62 < (l.length : Int) := by omega
 have hzz : (⟨(a :: c :: l).toArray⟩ : ByteArray).size = l.length + 2 := ba_sz _
 have HGT := Lib.hid hgt
 clear h hF hlt hb1 hs hne hw hst hb27
 generalize hbs : (⟨(a :: c :: l).toArray⟩ : ByteArray) = bs at *
 go_enter_defers Tryz.func32, Tryz.ntmps32
 go_upto_region 7 with (go_at_call 53; refine (HPF.out _).mono ?_; rintro e w1 ⟨rfl, rfl⟩)
 clear t9
 refine wp_region_noPanic ?_
 refine wp_region_k (S := fun W : World => Below (w.alloc (.cells #[.bool false] 4)).heap.size (w.alloc (.cells #[.bool false] 4)) W) 999 (by kernel_rfl) (HBD.out) (fun hHeld => ?_)
 refine kSK 0 hHeld ?_
 refine kSK 1 hHeld ?_
 refine kSK 2 hHeld ?_
 refine kHK (v := ?_) 3 hHeld ?y4 ?_
 case y4 => (intro W hSw; have t9 : W.cell? ⟨tp, 9, none⟩ = some (.string ⟨A.seq.toArray⟩) := cell_row (HWA.out _ hSw).box 9; go_simp; try with_reducible rfl)
 refine kSK 4 hHeld ?_
 try refine kNK ?_
 refine kOK 5 fun KQ hKQ => ?_
 go_simp
 refine hKQ.out _ _ (hHeld.alloc hHeld.size _) ?_
 clear hHeld hKQ KQ
 intro hHeld
 try refine kNK ?_
 have hcv := wconv_one (w.alloc (.cells #[.bool false] 4)) b
 rw [World.size_alloc] at hcv
 refine kOK 6 fun KQ hKQ => ?_
 go_simp
 skip
 refine hKQ.out _ _ (hHeld) ?_
 clear hHeld hKQ KQ
 intro hHeld
 try refine kNK ?_
 clear hcv
 refine kSK 7 hHeld ?_
 refine kSK 8 hHeld ?_
 try refine kNK ?_
 refine wpAnyK_done (by kernel_rfl) ?_ _
 refine NoPanic.normal ?_
 have HB2 := Lib.hid hHeld
 go_wp2_with (go_at_call 55; refine (HWT.out _ HB2.out).mono ?_; rintro e w3 ⟨rfl, hb3⟩; have HB3 := Lib.hid (Below.later HB2.out hb3 HB2.out.size); have t93 : w3.cell? ⟨tp, 9, none⟩ = some (.string ⟨A.seq.toArray⟩) := cell_row (HWA.out _ HB3.out).box 9; have f93 := frozen_row (HWA.out _ HB3.out).box 9; have HX3 := Lib.hid ((HB3.out.block _ (block_lt HX.out)).trans HX.out); clear hb3)
 refine leaves_cons (f := 52) (args := #[.pointer (some ⟨tp, 0, none⟩), .pointer (some ⟨w.heap.size, 0, none⟩)]) (by simp) (by simp [go_sem]) ?_
 have HT : WTermTo w3 ((w3.setCell ⟨tp, 9, none⟩ (.string bs)).setCell ⟨tp, 9, none⟩ (.string ⟨#[]⟩)) tp sp qp FT { A with seq := [] } := WTerm.boxed (HWA.out _ HB3.out) HF.out rfl rfl rfl rfl (heap_set_same (heap_set_same (HWA.out _ HB3.out).box 9 _) 9 _) (Nat.zero_le _) (((Keeps.refl (fun k => k = tp) _).setCell' (p := ⟨tp, 9, none⟩) rfl _).setCell' (p := ⟨tp, 9, none⟩) rfl _)
 have HT2 := WTermTo.after HB3.out HT
 refine (rest_last HL.out HT2 HLB.out (Keeps.refl (fun k => k = w.heap.size) _) (back_cell HL.out HT2) .returning).mono ?_
 rintro e u' w'' ⟨rfl, rfl, h⟩
 exact ⟨_, results_none rfl _ _ _, rfl, h⟩
end
end Go.Proofs.YteoeooijpjehpaaGreatDoor
