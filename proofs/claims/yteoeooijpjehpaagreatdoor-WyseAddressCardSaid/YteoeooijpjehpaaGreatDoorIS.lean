import Derived.Test.YteoeooijpjehpaaGreatDoorIR
import Derived.Test.YteoeooijpjehpaaGreatDoorHQ
import Derived.Test.YteoeooijpjehpaaGreatDoorHF
import Derived.SliceStrings

set_option maxRecDepth 100000
set_option maxHeartbeats 16000000
namespace Go.Proofs.YteoeooijpjehpaaGreatDoor
open Go.RowKit
set_option linter.unusedSimpArgs false
set_option linter.unusedVariables false
/- Walks: wyse.On, the law's made; what a world of the law's is behind calls. -/
section
attribute [local go_sem] alloc_drewN setCell_drewN World.cell?_alloc_some frozen_alloc_some size_f0 size_f1
def wyB0 (sp qp : Nat) : Array Value := #[.pointer (some ⟨sp, 0, none⟩), .pointer (some ⟨qp, 0, none⟩), .bool false, .bool false, .bool false, .bool false, .bool false, .int .i64 0, .string ⟨#[]⟩, .string ⟨#[]⟩]
theorem wy_on_ok (sp qp : Nat) (w : World) : Calls Tryz.prog 11 #[.pointer (some ⟨sp, 0, none⟩), .pointer (some ⟨qp, 0, none⟩)] w fun e w' => e = .returned (.tuple #[.pointer (some ⟨w.heap.size, 0, none⟩), .int .i64 0]) ∧ w.alloc (.cells (wyB0 sp qp) 75) = w' := by
 go_enter Tryz.func11, Tryz.ntmps11
 go_wp2_with fail
 go_ret2
 exact ⟨rfl, rfl⟩
def Made (w W : World) (wp tp sp qp : Nat) (A : Wy) : Prop :=
 W.heap[wp]? = some (.cells #[.pointer (some ⟨sp, 0, none⟩), .pointer (some ⟨qp, 0, none⟩), .pointer (some ⟨tp, 0, none⟩)] 34 (0, 0)) ∧ (∃ FT, WTerm W tp sp qp FT A ∧ (∀ k, FT k → w.heap.size ≤ k) ∧ ¬ FT wp) ∧ w.heap.size ≤ wp ∧ Below w.heap.size w W
theorem Made.below {w W W' : World} {wp tp sp qp : Nat} {A : Wy} (h : Made w W wp tp sp qp A) (hb : Below W.heap.size W W') : Made w W' wp tp sp qp A := by
 obtain ⟨h1, ⟨FT, h2, h3, h4⟩, h5, h6⟩ := h
 exact ⟨(hb.block _ (block_lt h1)).trans h1, ⟨FT, h2.below hb, h3, h4⟩, h5, Below.later h6 hb h6.size⟩
theorem Made.turn {w W W' : World} {wp tp sp qp : Nat} {A' : Wy} {FT : Nat → Prop} (h1 : W.heap[wp]? = some (.cells #[.pointer (some ⟨sp, 0, none⟩), .pointer (some ⟨qp, 0, none⟩), .pointer (some ⟨tp, 0, none⟩)] 34 (0, 0))) (h3 : ∀ k, FT k → w.heap.size ≤ k) (h4 : ¬ FT wp) (h5 : w.heap.size ≤ wp) (h6 : Below w.heap.size w W) (ht : WTermTo W W' tp sp qp FT A') : Made w W' wp tp sp qp A' := by
 obtain ⟨⟨F', t1, t2⟩, hK⟩ := ht
 have hs := h6.size
 refine ⟨(hK.block _ (block_lt h1) h4).trans h1, ⟨F', t1, fun k hk => ?_, fun hf => ?_⟩, h5, ?_⟩
 · rcases t2 k hk with h | h
   · exact h3 k h
   · omega
 · rcases t2 wp hf with h | h
   · exact h4 h
   · have := block_lt h1
     omega
 · exact h6.trans (hK.below h3 hs)
theorem made_ok (R C : Nat) (hm : Vz.mayS R C = true) (w : World) (hbl : BaseW w) : Calls Tryz.prog 10 #[.agg #[.int .i64 R, .int .i64 C]] w fun e w' => ∃ wp tp sp qp, e = .returned (.pointer (some ⟨wp, 0, none⟩)) ∧ Made w w' wp tp sp qp (newW 60 R C) := by
 have hb0 := below1 w (.cells #[.int .i64 R, .int .i64 C] 26)
 have HN := Lib.hid (scr_new R C hm _ (hbl.bl.below hb0))
 have HB0 := Lib.hid hb0
 have HQ := Lib.hid (que_new 60 (by decide) (by decide))
 have HO := Lib.hid wy_on_ok
 have HBL := Lib.hid hbl.bl.lt
 have HLIB := Lib.hid hbl.lib
 clear hbl hb0 hm
 go_enter Tryz.func10, Tryz.ntmps10
 go_wp2_with (first
  | (go_at_call 30; refine HN.out.mono ?_; rintro e w1 ⟨sp, rfl, hn⟩; have HS := Lib.hid hn; clear hn)
  | (go_at_call 31; refine (HQ.out _).mono ?_; rintro e w2 ⟨rfl, hq, hb2⟩; have HQ2 := Lib.hid hq; have HB2 := Lib.hid hb2; clear hq hb2)
  | (go_at_call 11; refine (HO.out _ _ _).mono ?_; rintro e w3 ⟨rfl, hw3⟩; have HW3 := Lib.hid hw3; clear hw3))
 go_ret
 refine ⟨w3.heap.size, w2.heap.size, sp, w1.heap.size + 1, rfl, ?_⟩
 obtain ⟨⟨F, hS, hn⟩, hb1⟩ := HS.out
 have hlt := hS.lt
 have hq2 := HQ2.out
 have hl2 := hq2.lt
 have hb2 := HB2.out
 have hw3 := HW3.out
 have hz3 : w3.heap.size = w2.heap.size + 1 := by rw [← hw3, World.size_alloc]
 have hb3 : Below w2.heap.size w2 w3 := by rw [← hw3]; exact below1 _ _
 have hb4 := below1 w3 (.cells #[.pointer (some ⟨sp, 0, none⟩), .pointer (some ⟨w1.heap.size + 1, 0, none⟩), .pointer (some ⟨w2.heap.size, 0, none⟩)] 34)
 have hbx : w3.heap[w2.heap.size]? = some (.cells (wyB0 sp (w1.heap.size + 1)) 75 (0, 0)) := by rw [← hw3]; exact heap_alloc_new _ _
 have hsz0 := HB0.out.size
 have hsz1 := hb1.size
 have hblk := HBL.out
 have hs0 : (w.alloc (.cells #[.int .i64 R, .int .i64 C] 26)).heap.size = w.heap.size + 1 := World.size_alloc _ _
 have hb03 : Below w.heap.size w w3 := Below.later (Below.later (Below.later HB0.out hb1 HB0.out.size) hb2 (by omega)) hb3 (by omega)
 have hT : WyAt w3 w2.heap.size sp (w1.heap.size + 1) w1.heap.size 0 F (newW 60 R C) :=
  ⟨hbx, (hS.below hb2).below hb3, hq2.below hb3, Nat.zero_le _, fun hf => by have := hlt _ hf; omega, fun hf => by have := hlt _ hf; omega, fun hf => by have := hlt _ hf; omega, by omega, by omega, by
   rintro k (rfl | rfl | rfl) <;> omega, HLIB.out.below hb03, fun k hk hl => by
   have h1 := HLIB.out.lt k hl
   rcases hk with rfl | rfl | rfl | hk
   · omega
   · omega
   · omega
   · have := hn k hk
     omega⟩
 refine ⟨heap_alloc_new _ _, ⟨footY w2.heap.size (w1.heap.size + 1) w1.heap.size F, ⟨_, _, F, hT.below hb4, fun k => Iff.rfl⟩, fun k hk => ?_, fun hf => ?_⟩, by omega, Below.later (Below.later (Below.later (Below.later HB0.out hb1 HB0.out.size) hb2 (by omega)) hb3 (by omega)) hb4 (by omega)⟩
 · rcases hk with rfl | rfl | rfl | hk
   · omega
   · omega
   · omega
   · have := hn k hk
     omega
 · rcases hf with e | e | e | hk
   · omega
   · omega
   · omega
   · have := hlt _ hk
     omega
section
variable {w W W1 W2 : World} {wp tp sp qp cp : Nat} {A : Wy}
theorem made_feed (h : Made w W wp tp sp qp A) (l : List UInt8) (hl : l.length ≤ 100000) : Calls Tryz.prog 12 #[.pointer (some ⟨tp, 0, none⟩), .string ⟨l.toArray⟩] W fun e w' => e = .returned (.tuple #[]) ∧ Made w w' wp tp sp qp (feedW A l) := by
 obtain ⟨h1, ⟨FT, h2, h3, h4⟩, h5, h6⟩ := h
 exact (wterm_feed h2 l hl).mono fun e w' h' => ⟨h'.1, Made.turn h1 h3 h4 h5 h6 h'.2⟩
theorem made_cursor (h : Made w W wp tp sp qp A) : Calls Tryz.prog 22 #[.pointer (some ⟨sp, 0, none⟩)] W fun e w' => e = .returned (.tuple #[.agg #[.int .i64 A.S.pl.at_.row, .int .i64 A.S.pl.at_.col], .bool A.S.pl.pend]) ∧ Below W.heap.size W w' := by
 obtain ⟨h1, ⟨FT, ⟨lb, fr, F, h2, hF⟩, h3, h4⟩, h5, h6⟩ := h
 exact scr_cursor sp F A.S W h2.scr
theorem Made.cells (h : Made w W wp tp sp qp A) : W.cell? ⟨wp, 0, none⟩ = some (.pointer (some ⟨sp, 0, none⟩)) ∧ W.cell? ⟨wp, 1, none⟩ = some (.pointer (some ⟨qp, 0, none⟩)) ∧ W.cell? ⟨wp, 2, none⟩ = some (.pointer (some ⟨tp, 0, none⟩)) := by
 obtain ⟨x0, x1, x2, _⟩ := row3 h.1
 exact ⟨x0, x1, x2⟩
end
end
section
attribute [local go_sem] alloc_drewN setCell_drewN World.cell?_alloc_some frozen_alloc_some size_f0 size_f1
def modesV (A : Wy) : Value := .agg #[.bool A.gd, .bool A.pr, .bool A.gr, .bool A.ins, .bool A.emb]
theorem row5b {W : World} {g : Nat} {a b c d e : Value} {t : TypeId} (h : W.heap[g]? = some (.cells #[a, b, c, d, e] t (0, 0))) : W.cell? ⟨g, 0, none⟩ = some a ∧ W.cell? ⟨g, 1, none⟩ = some b ∧ W.cell? ⟨g, 2, none⟩ = some c ∧ W.cell? ⟨g, 3, none⟩ = some d ∧ W.cell? ⟨g, 4, none⟩ = some e ∧ W.frozen? ⟨g, 0, none⟩ = false ∧ W.frozen? ⟨g, 1, none⟩ = false ∧ W.frozen? ⟨g, 2, none⟩ = false ∧ W.frozen? ⟨g, 3, none⟩ = false ∧ W.frozen? ⟨g, 4, none⟩ = false :=
 ⟨cell_row h 0, cell_row h 1, cell_row h 2, cell_row h 3, cell_row h 4, frozen_row h 0, frozen_row h 1, frozen_row h 2, frozen_row h 3, frozen_row h 4⟩
section
variable {w W : World} {wp tp sp qp : Nat} {FT : Nat → Prop} {A : Wy}
theorem wtm_attr (h : WTerm w tp sp qp FT A) : Calls Tryz.prog 16 #[.pointer (some ⟨tp, 0, none⟩)] w fun e w' => e = .returned (.int .i64 A.attr) ∧ w = w' := by
 obtain ⟨lb, fr, F, h, hF⟩ := h
 obtain ⟨t0, t1, t2, t3, t4, t5, t6, t7, t8, t9, _⟩ := row10 h.box
 clear h hF
 go_enter Tryz.func16, Tryz.ntmps16
 go_wp2_with fail
 go_ret
 exact ⟨rfl, rfl⟩
theorem wtm_status (h : WTerm w tp sp qp FT A) : Calls Tryz.prog 17 #[.pointer (some ⟨tp, 0, none⟩)] w fun e w' => e = .returned (.string ⟨A.status.toArray⟩) ∧ w = w' := by
 obtain ⟨lb, fr, F, h, hF⟩ := h
 obtain ⟨t0, t1, t2, t3, t4, t5, t6, t7, t8, t9, _⟩ := row10 h.box
 clear h hF
 go_enter Tryz.func17, Tryz.ntmps17
 go_wp2_with fail
 go_ret
 exact ⟨rfl, rfl⟩
theorem wtm_pending (h : WTerm w tp sp qp FT A) : Calls Tryz.prog 18 #[.pointer (some ⟨tp, 0, none⟩)] w fun e w' => e = .returned (.string ⟨A.seq.toArray⟩) ∧ w = w' := by
 obtain ⟨lb, fr, F, h, hF⟩ := h
 obtain ⟨t0, t1, t2, t3, t4, t5, t6, t7, t8, t9, _⟩ := row10 h.box
 clear h hF
 go_enter Tryz.func18, Tryz.ntmps18
 go_wp2_with fail
 go_ret
 exact ⟨rfl, rfl⟩
theorem wtm_modes (h : WTerm w tp sp qp FT A) : Calls Tryz.prog 15 #[.pointer (some ⟨tp, 0, none⟩)] w fun e w' => e = .returned (modesV A) ∧ Below w.heap.size w w' := by
 obtain ⟨lb, fr, F, h, hF⟩ := h
 have hx := heap_alloc_new w (.cells #[.bool false, .bool false, .bool false, .bool false, .bool false] 37)
 obtain ⟨x0, x1, x2, x3, x4, g0, g1, g2, g3, g4⟩ := row5b hx
 obtain ⟨t0, t1, t2, t3, t4, t5, t6, t7, t8, t9, _⟩ := row10 (h.below (below1 w (.cells #[.bool false, .bool false, .bool false, .bool false, .bool false] 37))).box
 clear hx h hF
 go_enter Tryz.func15, Tryz.ntmps15
 go_wp2_with fail
 exact bodyPost_ret (v := modesV A) (by simp [results, Tryz.results15, go_sem, x0, x1, modesV]) rfl ⟨rfl, below1 _ _⟩
theorem made_status (h : Made w W wp tp sp qp A) : Calls Tryz.prog 17 #[.pointer (some ⟨tp, 0, none⟩)] W fun e w' => e = .returned (.string ⟨A.status.toArray⟩) ∧ W = w' := by
 obtain ⟨h1, ⟨FT, h2, h3, h4⟩, h5, h6⟩ := h
 exact wtm_status h2
end
def wakeL : List UInt8 := [27, 97, 50, 82, 51, 67, 27, 70, 104, 105, 13]
theorem wake_pl : (feedW (newW 60 5 9) wakeL).S.pl.at_ = ⟨1, 2⟩ := by decide +kernel
theorem wake_st : (feedW (newW 60 5 9) wakeL).status = [104, 105] := by decide +kernel
theorem run_eql_12 (w : World) : Sem.run Tryz.prog (binOp .eql 49 (.agg #[.int .i64 1, .int .i64 2]) (.agg #[.int .i64 1, .int .i64 2])) w = .ok (.bool true) w := by
 have h := run_eql_ps ⟨1, 2⟩ ⟨1, 2⟩ w
 rw [eqP_iff.2 rfl] at h
 exact h
attribute [local go_sem 3000] run_eql_12
theorem awake_any (w : World) (hbl : BaseW w) : Calls Tryz.prog 9 #[] w fun e w' => e = .returned (.bool true) ∧ Below w.heap.size w w' := by
 have HN := Lib.hid (made_ok 5 9 (by decide) w hbl)
 clear hbl
 go_enter Tryz.func9, Tryz.ntmps9
 go_wp2_with (first
  | (go_at_call 10; refine HN.out.mono ?_; rintro e w1 ⟨wp, tp, sp, qp, rfl, hm⟩; obtain ⟨c0, c1, c2⟩ := hm.cells; have HM1 := Lib.hid hm; clear hm)
  | (go_at_call 12; refine (made_feed HM1.out wakeL (by decide)).mono ?_; rintro e w2 ⟨rfl, hm⟩; clear c0 c1 c2; obtain ⟨c0, c1, c2⟩ := hm.cells; have HM2 := Lib.hid hm; clear hm)
  | (go_at_call 22; have hcu := made_cursor HM2.out; rw [wake_pl] at hcu; refine hcu.mono ?_; clear hcu; rintro e w3 ⟨rfl, hb3⟩; have HM3 := Lib.hid ((HM2.out.below hb3).below (below1 w3 (.cells #[.int .i64 1, .int .i64 2] 49))); obtain ⟨p0, p1, _⟩ := row2 (heap_alloc_new w3 (.cells #[.int .i64 1, .int .i64 2] 49)); obtain ⟨d0, d1, d2⟩ := HM3.out.cells; clear hb3)
  | (go_at_call 17; have hdr := made_status HM3.out; rw [wake_st] at hdr; refine hdr.mono ?_; clear hdr; rintro e w4 ⟨rfl, rfl⟩))
 go_ret
 exact ⟨rfl, HM3.out.2.2.2⟩
end
section
attribute [local go_sem] alloc_drewN setCell_drewN World.cell?_alloc_some frozen_alloc_some
def fewS (r c : Int) : Bool := decide (1 ≤ r ∧ r ≤ 6 ∧ 1 ≤ c ∧ c ≤ 12)
theorem few_any (r c : Int) (w : World) : Calls Tryz.prog 19 #[.agg #[.int .i64 r, .int .i64 c]] w fun e w' => e = .returned (.bool (fewS r c)) ∧ Below w.heap.size w w' := by
 have hx := heap_alloc_new w (.cells #[.int .i64 r, .int .i64 c] 26)
 obtain ⟨x0, x1, g0, g1⟩ := row2 hx
 by_cases h1 : 1 ≤ r
 · by_cases h2 : r ≤ 6
   · by_cases h3 : 1 ≤ c
     · by_cases h4 : c ≤ 12
       · rw [show fewS r c = true by unfold fewS; simp; omega]
         clear hx
         go_enter Tryz.func19, Tryz.ntmps19
         go_wp2_with fail
         go_ret
         exact ⟨by simp [h1, h2, h3, h4], below1 _ _⟩
       · have h4' : 12 < c := by omega
         rw [show fewS r c = false by unfold fewS; simp; omega]
         clear hx
         go_enter Tryz.func19, Tryz.ntmps19
         go_wp2_with fail
         go_ret
         exact ⟨by simp [h1, h2, h3, h4], below1 _ _⟩
     · have h3' : c < 1 := by omega
       rw [show fewS r c = false by unfold fewS; simp; omega]
       clear hx
       go_enter Tryz.func19, Tryz.ntmps19
       go_wp2_with fail
       go_ret
       exact ⟨by simp [h1, h2, h3], below1 _ _⟩
   · have h2' : 6 < r := by omega
     rw [show fewS r c = false by unfold fewS; simp; omega]
     clear hx
     go_enter Tryz.func19, Tryz.ntmps19
     go_wp2_with fail
     go_ret
     exact ⟨by simp [h1, h2], below1 _ _⟩
 · have h1' : r < 1 := by omega
   rw [show fewS r c = false by unfold fewS; simp; omega]
   clear hx
   go_enter Tryz.func19, Tryz.ntmps19
   go_wp2_with fail
   go_ret
   exact ⟨by simp [h1], below1 _ _⟩
end
section
open Go.RowKit Go.ChangeShapes Go.WideShapes
def Strs (B : Nat) (W : World) (A : Option Addr) (n : Nat) (L : List (List UInt8)) : Prop :=
 0 < n → ∃ b o, A = some ⟨b, o, none⟩ ∧ b < B ∧ ∀ i, i < n → W.cell? ⟨b, o + i, none⟩ = some (.string ⟨(L.getD i []).toArray⟩)
theorem Strs.below {B B' : Nat} {W W' : World} {A : Option Addr} {n : Nat} {L : List (List UInt8)} (h : Strs B W A n L) (hb : Below B' W W') (hB : B ≤ B') : Strs B W' A n L := fun h0 => by
 obtain ⟨b, o, rfl, hlt, hi⟩ := h h0
 exact ⟨b, o, rfl, hlt, fun i hh => (hb.cell (show b < B' by omega)).trans (hi i hh)⟩
theorem Strs.at_ {B : Nat} {W : World} {A : Option Addr} {n : Nat} {L : List (List UInt8)} (h : Strs B W A n L) {k : Nat} (hk : k < n) : ∃ b o, A = some ⟨b, o, none⟩ ∧ b < B ∧ W.cell? ⟨b, o + k, none⟩ = some (.string ⟨(L.getD k []).toArray⟩) := by
 obtain ⟨b, o, rfl, hlt, hi⟩ := h (by omega)
 exact ⟨b, o, rfl, hlt, hi k hk⟩
section
variable {H : Type} {enc : TypeId × Value → H} {w : World} {base : Nat} {spare : Nat → Bool} {held : Bool}
end
end
section
attribute [local go_sem] alloc_drewN setCell_drewN World.cell?_alloc_some frozen_alloc_some size_f0 size_f1
def boxW (W : World) (wp tp sp qp : Nat) : Prop := W.heap[wp]? = some (.cells #[.pointer (some ⟨sp, 0, none⟩), .pointer (some ⟨qp, 0, none⟩), .pointer (some ⟨tp, 0, none⟩)] 34 (0, 0))
structure DuoAt (w W : World) (wa ta sa qa : Nat) (A : Wy) (wb tb sb qb : Nat) (B : Wy) (FA FB : Nat → Prop) : Prop where
 boxA : boxW W wa ta sa qa
 boxB : boxW W wb tb sb qb
 tA : WTerm W ta sa qa FA A
 tB : WTerm W tb sb qb FB B
 nA : ∀ k, FA k → w.heap.size ≤ k
 nB : ∀ k, FB k → w.heap.size ≤ k
 ab : ∀ k, FA k → ¬ FB k
 aa : ¬ FA wa
 awb : ¬ FA wb
 bb : ¬ FB wb
 bwa : ¬ FB wa
 la : w.heap.size ≤ wa
 lb : w.heap.size ≤ wb
 bel : Below w.heap.size w W
def Duo (w W : World) (wa ta sa qa : Nat) (A : Wy) (wb tb sb qb : Nat) (B : Wy) : Prop := ∃ FA FB, DuoAt w W wa ta sa qa A wb tb sb qb B FA FB
section
variable {w W W' : World} {wa ta sa qa wb tb sb qb : Nat} {A A' B B' : Wy} {FA FB : Nat → Prop}
theorem DuoAt.swap (h : DuoAt w W wa ta sa qa A wb tb sb qb B FA FB) : DuoAt w W wb tb sb qb B wa ta sa qa A FB FA :=
 ⟨h.boxB, h.boxA, h.tB, h.tA, h.nB, h.nA, fun k hk ha => h.ab k ha hk, h.bb, h.bwa, h.aa, h.awb, h.lb, h.la, h.bel⟩
theorem DuoAt.below (h : DuoAt w W wa ta sa qa A wb tb sb qb B FA FB) (hb : Below W.heap.size W W') : DuoAt w W' wa ta sa qa A wb tb sb qb B FA FB :=
 ⟨(hb.block _ (block_lt h.boxA)).trans h.boxA, (hb.block _ (block_lt h.boxB)).trans h.boxB, h.tA.below hb, h.tB.below hb, h.nA, h.nB, h.ab, h.aa, h.awb, h.bb, h.bwa, h.la, h.lb, Below.later h.bel hb h.bel.size⟩
theorem Duo.swap (h : Duo w W wa ta sa qa A wb tb sb qb B) : Duo w W wb tb sb qb B wa ta sa qa A := by
 obtain ⟨FA, FB, h⟩ := h
 exact ⟨FB, FA, h.swap⟩
theorem Duo.below (h : Duo w W wa ta sa qa A wb tb sb qb B) (hb : Below W.heap.size W W') : Duo w W' wa ta sa qa A wb tb sb qb B := by
 obtain ⟨FA, FB, h⟩ := h
 exact ⟨FA, FB, h.below hb⟩
theorem Duo.belowW (h : Duo w W wa ta sa qa A wb tb sb qb B) : Below w.heap.size w W := by
 obtain ⟨FA, FB, h⟩ := h
 exact h.bel
theorem DuoAt.left (h : DuoAt w W wa ta sa qa A wb tb sb qb B FA FB) (ht : WTermTo W W' ta sa qa FA A') : (∃ F', DuoAt w W' wa ta sa qa A' wb tb sb qb B F' FB ∧ ∀ k, F' k → FA k ∨ W.heap.size ≤ k) ∧ Keeps FA W W' := by
 obtain ⟨⟨F', t1, t2⟩, hK⟩ := ht
 have hs := h.bel.size
 have hltA := block_lt h.boxA
 have hltB := block_lt h.boxB
 refine ⟨⟨F', ⟨(hK.block _ hltA h.aa).trans h.boxA, (hK.block _ hltB h.awb).trans h.boxB, t1, h.tB.keeps hK (fun k hk ha => h.ab k ha hk) (fun hk => h.tA.blk.2 _ hk rfl) (fun k hl hk => h.tA.lib.2 k hk hl), fun k hk => ?_, h.nB, fun k hk hb => ?_, fun hf => ?_, fun hf => ?_, h.bb, h.bwa, h.la, h.lb, h.bel.trans (hK.below h.nA hs)⟩, t2⟩, hK⟩
 · rcases t2 k hk with h1 | h1
   · exact h.nA k h1
   · omega
 · rcases t2 k hk with h1 | h1
   · exact h.ab k h1 hb
   · have := h.tB.lt k hb
     omega
 · rcases t2 wa hf with h1 | h1
   · exact h.aa h1
   · omega
 · rcases t2 wb hf with h1 | h1
   · exact h.awb h1
   · omega
theorem Duo.of_made {w1 : World} (ha : Made w w1 wa ta sa qa A) (hb : Made w1 W wb tb sb qb B) : Duo w W wa ta sa qa A wb tb sb qb B := by
 obtain ⟨a1, ⟨FA, a2, a3, a4⟩, a5, a6⟩ := ha
 obtain ⟨b1, ⟨FB, b2, b3, b4⟩, b5, b6⟩ := hb
 have hs := a6.size
 have hla := block_lt a1
 have hlt := a2.lt
 refine ⟨FA, FB, ⟨(b6.block _ hla).trans a1, b1, a2.below b6, b2, a3, fun k hk => ?_, fun k hk hb => ?_, a4, fun hf => ?_, b4, fun hf => ?_, a5, by omega, Below.later a6 b6 hs⟩⟩
 · have := b3 k hk
   omega
 · have := b3 k hb
   have := hlt k hk
   omega
 · have := hlt _ hf
   omega
 · have := b3 _ hf
   omega
theorem Duo.cells (h : Duo w W wa ta sa qa A wb tb sb qb B) : W.cell? ⟨wa, 0, none⟩ = some (.pointer (some ⟨sa, 0, none⟩)) ∧ W.cell? ⟨wa, 1, none⟩ = some (.pointer (some ⟨qa, 0, none⟩)) ∧ W.cell? ⟨wa, 2, none⟩ = some (.pointer (some ⟨ta, 0, none⟩)) := by
 obtain ⟨FA, FB, h⟩ := h
 obtain ⟨x0, x1, x2, _⟩ := row3 h.boxA
 exact ⟨x0, x1, x2⟩
theorem duo_feed (h : Duo w W wa ta sa qa A wb tb sb qb B) (l : List UInt8) (hl : l.length ≤ 100000) : Calls Tryz.prog 12 #[.pointer (some ⟨ta, 0, none⟩), .string ⟨l.toArray⟩] W fun e w' => e = .returned (.tuple #[]) ∧ Duo w w' wa ta sa qa (feedW A l) wb tb sb qb B := by
 obtain ⟨FA, FB, h⟩ := h
 refine (wterm_feed h.tA l hl).mono fun e w' h' => ⟨h'.1, ?_⟩
 obtain ⟨⟨F', h1, -⟩, -⟩ := h.left h'.2
 exact ⟨F', FB, h1⟩
theorem tm_cursor {w : World} {tp sp qp : Nat} {FT : Nat → Prop} {A : Wy} (h : WTerm w tp sp qp FT A) : Calls Tryz.prog 22 #[.pointer (some ⟨sp, 0, none⟩)] w fun e w' => e = .returned (.tuple #[.agg #[.int .i64 A.S.pl.at_.row, .int .i64 A.S.pl.at_.col], .bool A.S.pl.pend]) ∧ Below w.heap.size w w' := by
 obtain ⟨lb, fr, F, h2, hF⟩ := h
 exact scr_cursor sp F A.S w h2.scr
theorem tm_drain {w : World} {tp sp qp : Nat} {FT : Nat → Prop} {A : Wy} (h : WTerm w tp sp qp FT A) : Calls Tryz.prog 25 #[.pointer (some ⟨qp, 0, none⟩)] w fun e w' => e = .returned (.string ⟨A.q.toArray⟩) ∧ WTermTo w w' tp sp qp FT { A with q := [], over := false } := by
 obtain ⟨lb, fr, F, h2, hF⟩ := h
 exact (que_drain qp lb fr A.most A.q A.over w h2.que).mono fun e w' h' => ⟨h'.1, WTerm.queTo h2 hF h'.2⟩
theorem tm_rows {w : World} {tp sp qp : Nat} {FT : Nat → Prop} {A : Wy} (h : WTerm w tp sp qp FT A) : Calls Tryz.prog 38 #[.pointer (some ⟨sp, 0, none⟩)] w fun e w' => ∃ OB G K, e = .returned (.slice (some ⟨OB, 0, none⟩) A.S.D.R A.S.D.R) ∧ RowsAt w.heap.size w' OB A.S.D G K ∧ Below w.heap.size w w' := by
 obtain ⟨lb, fr, F, h2, hF⟩ := h
 exact scr_rows sp F A.S w h2.scr
theorem tm_may {w : World} {tp sp qp : Nat} {FT : Nat → Prop} {A : Wy} (h : WTerm w tp sp qp FT A) : A.S.D.may ∧ A.S.pl.at_.inS A.S.D.R A.S.D.C ∧ A.seq.length ≤ 64 := by
 obtain ⟨lb, fr, F, h2, hF⟩ := h
 exact ⟨h2.scr.here.2, h2.scr.here.1, h2.len⟩
theorem duo_cursor (h : Duo w W wa ta sa qa A wb tb sb qb B) : Calls Tryz.prog 22 #[.pointer (some ⟨sa, 0, none⟩)] W fun e w' => e = .returned (.tuple #[.agg #[.int .i64 A.S.pl.at_.row, .int .i64 A.S.pl.at_.col], .bool A.S.pl.pend]) ∧ Below W.heap.size W w' := by
 obtain ⟨FA, FB, h⟩ := h
 exact tm_cursor h.tA
theorem duo_pending (h : Duo w W wa ta sa qa A wb tb sb qb B) : Calls Tryz.prog 18 #[.pointer (some ⟨ta, 0, none⟩)] W fun e w' => e = .returned (.string ⟨A.seq.toArray⟩) ∧ W = w' := by
 obtain ⟨FA, FB, h⟩ := h
 exact wtm_pending h.tA
end
end
end Go.Proofs.YteoeooijpjehpaaGreatDoor
