import Derived.Test.YtncgigapgklhcaaGreatDoorHX
import Derived.Test.YtncgigapgklhcaaGreatDoorHQ
import Derived.Test.YtncgigapgklhcaaGreatDoorHF

set_option maxRecDepth 100000
set_option maxHeartbeats 16000000
namespace Go.Proofs.YtncgigapgklhcaaGreatDoor
open Go.RowKit
set_option linter.unusedSimpArgs false
set_option linter.unusedVariables false
/- Walks: adm.On, the law's made; a terminal's Drop, Modes, Attr, Pending; a nil one. -/
section
attribute [local go_sem] alloc_drewN setCell_drewN World.cell?_alloc_some frozen_alloc_some size_f0 size_f1
theorem on_ok (sp qp : Nat) (w : World) : Calls Tryz.prog 16 #[.pointer (some ⟨sp, 0, none⟩), .pointer (some ⟨qp, 0, none⟩)] w fun e w' => e = .returned (.tuple #[.pointer (some ⟨w.heap.size, 0, none⟩), .int .i64 0]) ∧ w.alloc (.cells (termB sp qp false false 0 (.slice none 0 0)) 87) = w' := by
 go_enter Tryz.func16, Tryz.ntmps16
 go_wp2_with fail
 go_ret2
 exact ⟨rfl, rfl⟩
def Made (w W : World) (wp tp sp qp : Nat) (A : Ad) : Prop :=
 W.heap[wp]? = some (.cells #[.pointer (some ⟨sp, 0, none⟩), .pointer (some ⟨qp, 0, none⟩), .pointer (some ⟨tp, 0, none⟩)] 32 (0, 0)) ∧ (∃ FT, Term W tp sp qp FT A ∧ (∀ k, FT k → w.heap.size ≤ k) ∧ ¬ FT wp) ∧ w.heap.size ≤ wp ∧ Below w.heap.size w W
theorem Made.below {w W W' : World} {wp tp sp qp : Nat} {A : Ad} (h : Made w W wp tp sp qp A) (hb : Below W.heap.size W W') : Made w W' wp tp sp qp A := by
 obtain ⟨h1, ⟨FT, h2, h3, h4⟩, h5, h6⟩ := h
 exact ⟨(hb.block _ (block_lt h1)).trans h1, ⟨FT, h2.below hb, h3, h4⟩, h5, Below.later h6 hb h6.size⟩
theorem Made.turn {w W W' : World} {wp tp sp qp : Nat} {A' : Ad} {FT : Nat → Prop} (h1 : W.heap[wp]? = some (.cells #[.pointer (some ⟨sp, 0, none⟩), .pointer (some ⟨qp, 0, none⟩), .pointer (some ⟨tp, 0, none⟩)] 32 (0, 0))) (h3 : ∀ k, FT k → w.heap.size ≤ k) (h4 : ¬ FT wp) (h5 : w.heap.size ≤ wp) (h6 : Below w.heap.size w W) (ht : TermTo W W' tp sp qp FT A') : Made w W' wp tp sp qp A' := by
 obtain ⟨⟨F', t1, t2⟩, hK⟩ := ht
 have hs := h6.size
 refine ⟨(hK.block _ (block_lt h1) h4).trans h1, ⟨F', t1, fun k hk => ?_, fun hf => ?_⟩, h5, ?_⟩
 · rcases t2 k hk with h | h
   · exact h3 k h
   · omega
 · rcases t2 wp hf with h | h
   · exact h4 h
   · have := block_lt h1
     omega
 · exact h6.trans (hK.below h3 hs)
theorem made_ok (R C : Nat) (hm : Vz.mayS R C = true) (w : World) (hbl : Blanked w) : Calls Tryz.prog 12 #[.agg #[.int .i64 R, .int .i64 C]] w fun e w' => ∃ wp tp sp qp, e = .returned (.pointer (some ⟨wp, 0, none⟩)) ∧ Made w w' wp tp sp qp (newA R C) := by
 have hb0 := below1 w (.cells #[.int .i64 R, .int .i64 C] 23)
 have HN := Lib.hid (scr_new R C hm _ (hbl.below hb0))
 have HB0 := Lib.hid hb0
 have HQ := Lib.hid que_new
 have HO := Lib.hid on_ok
 have HBL := Lib.hid hbl.lt
 clear hbl hb0 hm
 go_enter Tryz.func12, Tryz.ntmps12
 go_wp2_with (first
  | (go_at_call 30; refine HN.out.mono ?_; rintro e w1 ⟨sp, rfl, hn⟩; have HS := Lib.hid hn; clear hn)
  | (go_at_call 31; refine (HQ.out _).mono ?_; rintro e w2 ⟨rfl, hq, hb2⟩; have HQ2 := Lib.hid hq; have HB2 := Lib.hid hb2; clear hq hb2)
  | (go_at_call 16; refine (HO.out _ _ _).mono ?_; rintro e w3 ⟨rfl, hw3⟩; have HW3 := Lib.hid hw3; clear hw3))
 go_ret
 refine ⟨w3.heap.size, w2.heap.size, sp, w1.heap.size + 1, rfl, ?_⟩
 obtain ⟨⟨F, hS, hn⟩, hb1⟩ := HS.out
 have hlt := hS.lt
 have hz1 : w2.heap.size = w2.heap.size := rfl
 have hq2 := HQ2.out
 have hl2 := hq2.lt
 have hb2 := HB2.out
 have hw3 := HW3.out
 have hz3 : w3.heap.size = w2.heap.size + 1 := by rw [← hw3, World.size_alloc]
 have hb3 : Below w2.heap.size w2 w3 := by rw [← hw3]; exact below1 _ _
 have hb4 := below1 w3 (.cells #[.pointer (some ⟨sp, 0, none⟩), .pointer (some ⟨w1.heap.size + 1, 0, none⟩), .pointer (some ⟨w2.heap.size, 0, none⟩)] 32)
 have hbx : w3.heap[w2.heap.size]? = some (.cells (termB sp (w1.heap.size + 1) false false 0 (.slice none 0 0)) 87 (0, 0)) := by rw [← hw3]; exact heap_alloc_new _ _
 have hsz0 := HB0.out.size
 have hsz1 := hb1.size
 have hblk := HBL.out
 have hs0 : (w.alloc (.cells #[.int .i64 R, .int .i64 C] 23)).heap.size = w.heap.size + 1 := World.size_alloc _ _
 have hnv : ∀ k, ¬ footV (.slice none 0 0) k := fun k hk => by cases hk
 have hnb : ∀ k, (k = w2.heap.size ∨ k = w1.heap.size + 1 ∨ k = w1.heap.size ∨ footV (.slice none 0 0) k) → k ≠ 0 := by
  rintro k (rfl | rfl | rfl | hk)
  · omega
  · omega
  · omega
  · exact absurd hk (hnv k)
 have hT : TermAt w3 w2.heap.size sp (w1.heap.size + 1) w1.heap.size 0 F (.slice none 0 0) (newA R C) :=
  ⟨hbx, World.ownsRow_nil _ _ _ _, (hS.below hb2).below hb3, hq2.below hb3, .inl rfl, fun hf => by have := hlt _ hf; omega, fun hf => by have := hlt _ hf; omega, fun hf => by have := hlt _ hf; omega, fun k hk => absurd hk (hnv k), by omega, by omega, hnb⟩
 refine ⟨heap_alloc_new _ _, ⟨footT w2.heap.size (w1.heap.size + 1) w1.heap.size F (.slice none 0 0), ⟨_, _, F, _, hT.below hb4, fun k => Iff.rfl⟩, fun k hk => ?_, fun hf => ?_⟩, by omega, Below.later (Below.later (Below.later (Below.later HB0.out hb1 HB0.out.size) hb2 (by omega)) hb3 (by omega)) hb4 (by omega)⟩
 · rcases hk with rfl | rfl | rfl | hk | hk
   · omega
   · omega
   · omega
   · exact absurd hk (hnv _)
   · have := hn k hk
     omega
 · rcases hf with e | e | e | hk | hk
   · omega
   · omega
   · omega
   · exact absurd hk (hnv _)
   · have := hlt _ hk
     omega
end
section
attribute [local go_sem] alloc_drewN setCell_drewN World.cell?_alloc_some frozen_alloc_some size_f0 size_f1
def wakeL : List UInt8 := [27, 61, 33, 34, 27, 63]
theorem wake_pl : (feedA (newA 5 9) wakeL).S.pl.at_ = ⟨1, 2⟩ := by decide +kernel
theorem wake_q : (feedA (newA 5 9) wakeL).q = [33, 34, 13] := by decide +kernel
theorem run_eql_12 (w : World) : Sem.run Tryz.prog (binOp .eql 36 (.agg #[.int .i64 1, .int .i64 2]) (.agg #[.int .i64 1, .int .i64 2])) w = .ok (.bool true) w := by
 have h := run_eql_ps ⟨1, 2⟩ ⟨1, 2⟩ w
 rw [eqP_iff.2 rfl] at h
 exact h
attribute [local go_sem 3000] run_eql_12
theorem made_drain {w W : World} {wp tp sp qp : Nat} {A : Ad} (h : Made w W wp tp sp qp A) : Calls Tryz.prog 15 #[.pointer (some ⟨qp, 0, none⟩)] W fun e w' => e = .returned (.string ⟨A.q.toArray⟩) ∧ Made w w' wp tp sp qp { A with q := [], over := false } := by
 obtain ⟨h1, ⟨FT, ⟨lb, fr, F, V, h2, hF⟩, h3, h4⟩, h5, h6⟩ := h
 exact (que_drain qp lb fr A.q A.over W h2.que).mono fun e w' h' => ⟨h'.1, Made.turn h1 h3 h4 h5 h6 (Term.queTo h2 hF h'.2)⟩
theorem made_feed {w W : World} {wp tp sp qp : Nat} {A : Ad} (h : Made w W wp tp sp qp A) (l : List UInt8) (hl : l.length ≤ 100000) : Calls Tryz.prog 13 #[.pointer (some ⟨tp, 0, none⟩), .string ⟨l.toArray⟩] W fun e w' => e = .returned (.tuple #[]) ∧ Made w w' wp tp sp qp (feedA A l) := by
 obtain ⟨h1, ⟨FT, h2, h3, h4⟩, h5, h6⟩ := h
 exact (term_feed h2 l hl).mono fun e w' h' => ⟨h'.1, Made.turn h1 h3 h4 h5 h6 h'.2⟩
theorem made_cursor {w W : World} {wp tp sp qp : Nat} {A : Ad} (h : Made w W wp tp sp qp A) : Calls Tryz.prog 14 #[.pointer (some ⟨sp, 0, none⟩)] W fun e w' => e = .returned (.tuple #[.agg #[.int .i64 A.S.pl.at_.row, .int .i64 A.S.pl.at_.col], .bool A.S.pl.pend]) ∧ Below W.heap.size W w' := by
 obtain ⟨h1, ⟨FT, ⟨lb, fr, F, V, h2, hF⟩, h3, h4⟩, h5, h6⟩ := h
 exact scr_cursor sp F A.S W h2.scr
theorem Made.cells {w W : World} {wp tp sp qp : Nat} {A : Ad} (h : Made w W wp tp sp qp A) : W.cell? ⟨wp, 0, none⟩ = some (.pointer (some ⟨sp, 0, none⟩)) ∧ W.cell? ⟨wp, 1, none⟩ = some (.pointer (some ⟨qp, 0, none⟩)) ∧ W.cell? ⟨wp, 2, none⟩ = some (.pointer (some ⟨tp, 0, none⟩)) := by
 obtain ⟨x0, x1, x2, _⟩ := row3 h.1
 exact ⟨x0, x1, x2⟩
theorem awake_any (w : World) (hbl : Blanked w) : Calls Tryz.prog 11 #[] w fun e w' => e = .returned (.bool true) ∧ Below w.heap.size w w' := by
 have HN := Lib.hid (made_ok 5 9 (by decide) w hbl)
 clear hbl
 go_enter Tryz.func11, Tryz.ntmps11
 go_wp2_with (first
  | (go_at_call 12; refine HN.out.mono ?_; rintro e w1 ⟨wp, tp, sp, qp, rfl, hm⟩; obtain ⟨c0, c1, c2⟩ := hm.cells; have HM1 := Lib.hid hm; clear hm)
  | (go_at_call 13; refine (made_feed HM1.out wakeL (by decide)).mono ?_; rintro e w2 ⟨rfl, hm⟩; clear c0 c1 c2; obtain ⟨c0, c1, c2⟩ := hm.cells; have HM2 := Lib.hid hm; clear hm)
  | (go_at_call 14; have hcu := made_cursor HM2.out; rw [wake_pl] at hcu; refine hcu.mono ?_; clear hcu; rintro e w3 ⟨rfl, hb3⟩; have HM3 := Lib.hid ((HM2.out.below hb3).below (below1 w3 (.cells #[.int .i64 1, .int .i64 2] 36))); obtain ⟨p0, p1, _⟩ := row2 (heap_alloc_new w3 (.cells #[.int .i64 1, .int .i64 2] 36)); obtain ⟨d0, d1, d2⟩ := HM3.out.cells; clear hb3)
  | (go_at_call 15; have hdr := made_drain HM3.out; rw [wake_q] at hdr; refine hdr.mono ?_; clear hdr; rintro e w4 ⟨rfl, hm⟩; have HM4 := Lib.hid hm; clear hm))
 go_ret
 exact ⟨rfl, HM4.out.2.2.2⟩
end
end Go.Proofs.YtncgigapgklhcaaGreatDoor
