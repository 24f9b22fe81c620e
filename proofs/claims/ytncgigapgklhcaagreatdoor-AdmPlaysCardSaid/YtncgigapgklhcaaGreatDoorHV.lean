import Derived.Test.YtncgigapgklhcaaGreatDoorHT
import Derived.Deep.CutBlock

set_option maxRecDepth 100000
set_option maxHeartbeats 16000000
namespace Go.Proofs.YtncgigapgklhcaaGreatDoor
open Go.RowKit
set_option linter.unusedSimpArgs false
set_option linter.unusedVariables false
/- Walks: an ADM-3A's bytes that end a sequence of two, arm by arm: parts, cells and stops. -/
section
attribute [local go_sem] alloc_drewN setCell_drewN World.cell?_alloc_some frozen_alloc_some size_f0 size_f1
theorem one_84 {w : World} {tp sp qp : Nat} {gd pr : Bool} {attr : Int} {V : Value} {F : Nat → Prop} {S : Vz.Sr} (h : Adm w tp sp qp gd pr attr V F S) : Calls Tryz.prog 85 #[.pointer (some ⟨tp, 0, none⟩), .int .u8 84] w fun e w' => e = .returned (.bool false) ∧ ScrTo w w' sp F (partS S 5 Vz.Cl.blank pr) := by
 have HA := Lib.hid (fun W (hb : Below w.heap.size w W) => h.below hb)
 obtain ⟨t0, t1, t2, t3, _⟩ := h.cells
 have HCU := Lib.hid (scr_cursor sp F S w h.scr)
 clear h
 go_enter Tryz.func85, Tryz.ntmps85
 go_upto_block 0 with (go_at_call 14; refine HCU.out.mono ?_; rintro e w1 ⟨rfl, hb1⟩; have HB1 := Lib.hid (hb1.alloc hb1.size (.cells #[.int .i64 S.pl.at_.row, .int .i64 S.pl.at_.col] 36)); have HX := Lib.hid (heap_alloc_new w1 (.cells #[.int .i64 S.pl.at_.row, .int .i64 S.pl.at_.col] 36)); obtain ⟨y0, y1, y2, y3, y4, y5, g2, g3, g4, g5⟩ := (HA.out _ HB1.out).cells; clear hb1)
 refine wp_block ?_
 refine wp_seq_k fun K hK => ?_
 clear hK
 refine wp_block ?_
 refine wp_seq_k fun K hK => ?_
 clear hK
 refine wp_block ?_
 refine wp_seq_k fun K hK => ?_
 clear hK
 refine wp_block ?_
 refine wp_seq_k fun K hK => ?_
 clear hK
 refine wp_block ?_
 refine wp_seq_k fun K hK => ?_
 clear hK
 refine wp_block ?_
 refine wp_seq_k fun K hK => ?_
 clear hK
 refine wp_block ?_
 refine wp_seq_k fun K hK => ?_
 clear hK
 refine wp_block ?_
 refine wp_seq_k fun K hK => ?_
 clear hK
 refine wp_block ?_
 refine wp_seq_k fun K hK => ?_
 clear hK
 refine wp_block ?_
 refine wp_seq_k fun K hK => ?_
 clear hK
 refine wp_block ?_
 refine wp_seq_k fun K hK => ?_
 clear hK
 refine wp_block ?_
 refine wp_seq_k fun K hK => ?_
 clear hK
 refine wp_block ?_
 refine wp_seq_k fun K hK => ?_
 clear hK
 refine wp_block ?_
 refine wp_seq_k fun K hK => ?_
 refine sw_sound _ _ _ { tmps := #[.pointer (some ⟨tp, 0, none⟩), .int .u8 84, undef, undef, .bool false, .pointer (some ⟨w1.heap.size, 0, none⟩), .bool S.pl.pend, .bool pr, .tuple #[.agg #[.int .i64 S.pl.at_.row, .int .i64 S.pl.at_.col], .bool S.pl.pend], .pointer (some ⟨tp, 0, none⟩), .pointer (some ⟨tp, 0, none⟩), .pointer (some ⟨tp, 0, none⟩), .pointer (some ⟨sp, 0, none⟩), .tuple #[.agg #[.int .i64 S.pl.at_.row, .int .i64 S.pl.at_.col], .bool S.pl.pend], .agg #[.int .i64 S.pl.at_.row, .int .i64 S.pl.at_.col], .bool S.pl.pend, .pointer (some ⟨tp, 0, none⟩), .pointer (some ⟨tp, 0, none⟩), .pointer (some ⟨tp, 2, none⟩), .pointer (some ⟨tp, 3, none⟩), .bool pr, .int .u8 84, .bool false, .bool false, .bool false, .bool false, .bool false, .bool false, .bool true, .bool true, undef, undef, undef, undef, undef, undef, undef, undef, undef, undef, undef, undef, undef, undef, undef, undef, undef, undef, undef, undef, undef, undef, undef, undef, undef, undef, undef, undef, undef, undef, undef, undef, undef, undef, undef, undef, undef, undef, undef, undef, undef, undef, undef, undef, undef, undef, undef, undef, undef, undef, undef, undef, undef, undef, undef, undef, undef, undef, undef, undef, undef, undef, undef, undef, undef, undef, undef, undef, undef, undef, undef, undef, undef, undef, undef, undef, undef, undef, undef, undef, undef, undef, undef, undef, undef, undef, undef, undef, undef, undef, undef, undef, undef, undef, undef, undef, undef, undef, undef, undef, undef, undef, undef, undef, undef, undef, undef, undef, undef, undef, undef, undef, undef, undef, undef, undef, undef, undef, undef, undef, undef, undef, undef, undef, undef, undef, undef, undef, undef, undef, undef, undef, undef, undef, undef, undef, undef, undef, undef, undef, undef, undef, undef, undef], defers := [] } .normal (by kernel_rfl) ?_
 refine hK _ _ ?_
 clear hK
 go_upto_region 29 with fail
 clear y0 y1 y2 y3 y4 y5 g2 g3 g4 g5
 have HB2 : Hid (Below w.heap.size w (w1.alloc (.cells #[.int .i64 S.pl.at_.row, .int .i64 S.pl.at_.col] 36)).drew) := HB1.out.drew
 refine wp_region_noPanic ?_
 refine wp_region_k (S := fun W : World => Below w.heap.size w W ∧ W.heap[w1.heap.size]? = some (.cells #[.int .i64 S.pl.at_.row, .int .i64 S.pl.at_.col] 36 (0, 0))) 6 (by kernel_rfl) (⟨HB2.out, HX.out⟩) (fun hHeld => ?_)
 refine kSK 0 hHeld ?_
 refine kSK 1 hHeld ?_
 refine kSK 2 hHeld ?_
 refine kTK (v := ?_) 3 [] hHeld ?y4 ?_
 case y4 => (intro W hSw; obtain ⟨x0, x1, x2, x3, _⟩ := (HA.out _ hSw.1).cells; obtain ⟨c0, c1, c2, c3⟩ := (HA.out _ hSw.1).scr.blk.1.cells; go_simp; try with_reducible rfl)
 refine kTK (v := ?_) 4 [] hHeld ?y5 ?_
 case y5 => (intro W hSw; obtain ⟨x0, x1, x2, x3, _⟩ := (HA.out _ hSw.1).cells; obtain ⟨c0, c1, c2, c3⟩ := (HA.out _ hSw.1).scr.blk.1.cells; go_simp; try with_reducible rfl)
 try refine kNK ?_
 refine kSK 5 hHeld ?_
 try refine kNK ?_
 refine kPK 6 fun KQ hKQ => ?_
 go_simp
 go_at_call 58
 refine (scr_part sp F S 5 Vz.Cl.blank pr _ (HA.out _ HB2.out).scr).mono ?_
 rintro e w2 ⟨rfl, ht⟩
 have HT := Lib.hid (ScrTo.after HB2.out ht)
 clear ht
 go_wp2_with fail
 refine hKQ.out _ _ ?_
 clear hKQ KQ
 try refine kNK ?_
 refine wpAnyK_done (by kernel_rfl) ?_ _
 refine NoPanic.normal ?_
 go_wp2_with fail
 go_ret
 exact ⟨rfl, HT.out⟩
theorem one_116 {w : World} {tp sp qp : Nat} {gd pr : Bool} {attr : Int} {V : Value} {F : Nat → Prop} {S : Vz.Sr} (h : Adm w tp sp qp gd pr attr V F S) : Calls Tryz.prog 85 #[.pointer (some ⟨tp, 0, none⟩), .int .u8 116] w fun e w' => e = .returned (.bool false) ∧ ScrTo w w' sp F (partS S 5 Vz.Cl.blank pr) := by
 have HA := Lib.hid (fun W (hb : Below w.heap.size w W) => h.below hb)
 obtain ⟨t0, t1, t2, t3, _⟩ := h.cells
 have HCU := Lib.hid (scr_cursor sp F S w h.scr)
 clear h
 go_enter Tryz.func85, Tryz.ntmps85
 go_upto_block 0 with (go_at_call 14; refine HCU.out.mono ?_; rintro e w1 ⟨rfl, hb1⟩; have HB1 := Lib.hid (hb1.alloc hb1.size (.cells #[.int .i64 S.pl.at_.row, .int .i64 S.pl.at_.col] 36)); have HX := Lib.hid (heap_alloc_new w1 (.cells #[.int .i64 S.pl.at_.row, .int .i64 S.pl.at_.col] 36)); obtain ⟨y0, y1, y2, y3, y4, y5, g2, g3, g4, g5⟩ := (HA.out _ HB1.out).cells; clear hb1)
 refine wp_block ?_
 refine wp_seq_k fun K hK => ?_
 clear hK
 refine wp_block ?_
 refine wp_seq_k fun K hK => ?_
 clear hK
 refine wp_block ?_
 refine wp_seq_k fun K hK => ?_
 clear hK
 refine wp_block ?_
 refine wp_seq_k fun K hK => ?_
 clear hK
 refine wp_block ?_
 refine wp_seq_k fun K hK => ?_
 clear hK
 refine wp_block ?_
 refine wp_seq_k fun K hK => ?_
 clear hK
 refine wp_block ?_
 refine wp_seq_k fun K hK => ?_
 clear hK
 refine wp_block ?_
 refine wp_seq_k fun K hK => ?_
 clear hK
 refine wp_block ?_
 refine wp_seq_k fun K hK => ?_
 clear hK
 refine wp_block ?_
 refine wp_seq_k fun K hK => ?_
 clear hK
 refine wp_block ?_
 refine wp_seq_k fun K hK => ?_
 clear hK
 refine wp_block ?_
 refine wp_seq_k fun K hK => ?_
 clear hK
 refine wp_block ?_
 refine wp_seq_k fun K hK => ?_
 clear hK
 refine wp_block ?_
 refine wp_seq_k fun K hK => ?_
 refine sw_sound _ _ _ { tmps := #[.pointer (some ⟨tp, 0, none⟩), .int .u8 116, undef, undef, .bool false, .pointer (some ⟨w1.heap.size, 0, none⟩), .bool S.pl.pend, .bool pr, .tuple #[.agg #[.int .i64 S.pl.at_.row, .int .i64 S.pl.at_.col], .bool S.pl.pend], .pointer (some ⟨tp, 0, none⟩), .pointer (some ⟨tp, 0, none⟩), .pointer (some ⟨tp, 0, none⟩), .pointer (some ⟨sp, 0, none⟩), .tuple #[.agg #[.int .i64 S.pl.at_.row, .int .i64 S.pl.at_.col], .bool S.pl.pend], .agg #[.int .i64 S.pl.at_.row, .int .i64 S.pl.at_.col], .bool S.pl.pend, .pointer (some ⟨tp, 0, none⟩), .pointer (some ⟨tp, 0, none⟩), .pointer (some ⟨tp, 2, none⟩), .pointer (some ⟨tp, 3, none⟩), .bool pr, .int .u8 116, .bool false, .bool false, .bool false, .bool false, .bool false, .bool false, .bool true, .bool false, .bool true, undef, undef, undef, undef, undef, undef, undef, undef, undef, undef, undef, undef, undef, undef, undef, undef, undef, undef, undef, undef, undef, undef, undef, undef, undef, undef, undef, undef, undef, undef, undef, undef, undef, undef, undef, undef, undef, undef, undef, undef, undef, undef, undef, undef, undef, undef, undef, undef, undef, undef, undef, undef, undef, undef, undef, undef, undef, undef, undef, undef, undef, undef, undef, undef, undef, undef, undef, undef, undef, undef, undef, undef, undef, undef, undef, undef, undef, undef, undef, undef, undef, undef, undef, undef, undef, undef, undef, undef, undef, undef, undef, undef, undef, undef, undef, undef, undef, undef, undef, undef, undef, undef, undef, undef, undef, undef, undef, undef, undef, undef, undef, undef, undef, undef, undef, undef, undef, undef, undef, undef, undef, undef, undef, undef, undef, undef, undef, undef, undef, undef, undef, undef, undef, undef, undef, undef, undef, undef, undef, undef, undef, undef, undef], defers := [] } .normal (by kernel_rfl) ?_
 refine hK _ _ ?_
 clear hK
 go_upto_region 29 with fail
 clear y0 y1 y2 y3 y4 y5 g2 g3 g4 g5
 have HB2 : Hid (Below w.heap.size w (w1.alloc (.cells #[.int .i64 S.pl.at_.row, .int .i64 S.pl.at_.col] 36)).drew) := HB1.out.drew
 refine wp_region_noPanic ?_
 refine wp_region_k (S := fun W : World => Below w.heap.size w W ∧ W.heap[w1.heap.size]? = some (.cells #[.int .i64 S.pl.at_.row, .int .i64 S.pl.at_.col] 36 (0, 0))) 6 (by kernel_rfl) (⟨HB2.out, HX.out⟩) (fun hHeld => ?_)
 refine kSK 0 hHeld ?_
 refine kSK 1 hHeld ?_
 refine kSK 2 hHeld ?_
 refine kTK (v := ?_) 3 [] hHeld ?y4 ?_
 case y4 => (intro W hSw; obtain ⟨x0, x1, x2, x3, _⟩ := (HA.out _ hSw.1).cells; obtain ⟨c0, c1, c2, c3⟩ := (HA.out _ hSw.1).scr.blk.1.cells; go_simp; try with_reducible rfl)
 refine kTK (v := ?_) 4 [] hHeld ?y5 ?_
 case y5 => (intro W hSw; obtain ⟨x0, x1, x2, x3, _⟩ := (HA.out _ hSw.1).cells; obtain ⟨c0, c1, c2, c3⟩ := (HA.out _ hSw.1).scr.blk.1.cells; go_simp; try with_reducible rfl)
 try refine kNK ?_
 refine kSK 5 hHeld ?_
 try refine kNK ?_
 refine kPK 6 fun KQ hKQ => ?_
 go_simp
 go_at_call 58
 refine (scr_part sp F S 5 Vz.Cl.blank pr _ (HA.out _ HB2.out).scr).mono ?_
 rintro e w2 ⟨rfl, ht⟩
 have HT := Lib.hid (ScrTo.after HB2.out ht)
 clear ht
 go_wp2_with fail
 refine hKQ.out _ _ ?_
 clear hKQ KQ
 try refine kNK ?_
 refine wpAnyK_done (by kernel_rfl) ?_ _
 refine NoPanic.normal ?_
 go_wp2_with fail
 go_ret
 exact ⟨rfl, HT.out⟩
theorem one_89 {w : World} {tp sp qp : Nat} {gd pr : Bool} {attr : Int} {V : Value} {F : Nat → Prop} {S : Vz.Sr} (h : Adm w tp sp qp gd pr attr V F S) : Calls Tryz.prog 85 #[.pointer (some ⟨tp, 0, none⟩), .int .u8 89] w fun e w' => e = .returned (.bool false) ∧ ScrTo w w' sp F (partS S 2 Vz.Cl.blank pr) := by
 have HA := Lib.hid (fun W (hb : Below w.heap.size w W) => h.below hb)
 obtain ⟨t0, t1, t2, t3, _⟩ := h.cells
 have HCU := Lib.hid (scr_cursor sp F S w h.scr)
 clear h
 go_enter Tryz.func85, Tryz.ntmps85
 go_upto_block 0 with (go_at_call 14; refine HCU.out.mono ?_; rintro e w1 ⟨rfl, hb1⟩; have HB1 := Lib.hid (hb1.alloc hb1.size (.cells #[.int .i64 S.pl.at_.row, .int .i64 S.pl.at_.col] 36)); have HX := Lib.hid (heap_alloc_new w1 (.cells #[.int .i64 S.pl.at_.row, .int .i64 S.pl.at_.col] 36)); obtain ⟨y0, y1, y2, y3, y4, y5, g2, g3, g4, g5⟩ := (HA.out _ HB1.out).cells; clear hb1)
 refine wp_block ?_
 refine wp_seq_k fun K hK => ?_
 clear hK
 refine wp_block ?_
 refine wp_seq_k fun K hK => ?_
 clear hK
 refine wp_block ?_
 refine wp_seq_k fun K hK => ?_
 clear hK
 refine wp_block ?_
 refine wp_seq_k fun K hK => ?_
 clear hK
 refine wp_block ?_
 refine wp_seq_k fun K hK => ?_
 clear hK
 refine wp_block ?_
 refine wp_seq_k fun K hK => ?_
 clear hK
 refine wp_block ?_
 refine wp_seq_k fun K hK => ?_
 clear hK
 refine wp_block ?_
 refine wp_seq_k fun K hK => ?_
 clear hK
 refine wp_block ?_
 refine wp_seq_k fun K hK => ?_
 clear hK
 refine wp_block ?_
 refine wp_seq_k fun K hK => ?_
 clear hK
 refine wp_block ?_
 refine wp_seq_k fun K hK => ?_
 clear hK
 refine wp_block ?_
 refine wp_seq_k fun K hK => ?_
 clear hK
 refine wp_block ?_
 refine wp_seq_k fun K hK => ?_
 refine sw_sound _ _ _ { tmps := #[.pointer (some ⟨tp, 0, none⟩), .int .u8 89, undef, undef, .bool false, .pointer (some ⟨w1.heap.size, 0, none⟩), .bool S.pl.pend, .bool pr, .tuple #[.agg #[.int .i64 S.pl.at_.row, .int .i64 S.pl.at_.col], .bool S.pl.pend], .pointer (some ⟨tp, 0, none⟩), .pointer (some ⟨tp, 0, none⟩), .pointer (some ⟨tp, 0, none⟩), .pointer (some ⟨sp, 0, none⟩), .tuple #[.agg #[.int .i64 S.pl.at_.row, .int .i64 S.pl.at_.col], .bool S.pl.pend], .agg #[.int .i64 S.pl.at_.row, .int .i64 S.pl.at_.col], .bool S.pl.pend, .pointer (some ⟨tp, 0, none⟩), .pointer (some ⟨tp, 0, none⟩), .pointer (some ⟨tp, 2, none⟩), .pointer (some ⟨tp, 3, none⟩), .bool pr, .int .u8 89, .bool false, .bool false, .bool false, .bool false, .bool false, .bool false, .bool false, .bool false, .bool false, .bool true, .bool true, undef, undef, undef, undef, undef, undef, undef, undef, undef, undef, undef, undef, undef, undef, undef, undef, undef, undef, undef, undef, undef, undef, undef, undef, undef, undef, undef, undef, undef, undef, undef, undef, undef, undef, undef, undef, undef, undef, undef, undef, undef, undef, undef, undef, undef, undef, undef, undef, undef, undef, undef, undef, undef, undef, undef, undef, undef, undef, undef, undef, undef, undef, undef, undef, undef, undef, undef, undef, undef, undef, undef, undef, undef, undef, undef, undef, undef, undef, undef, undef, undef, undef, undef, undef, undef, undef, undef, undef, undef, undef, undef, undef, undef, undef, undef, undef, undef, undef, undef, undef, undef, undef, undef, undef, undef, undef, undef, undef, undef, undef, undef, undef, undef, undef, undef, undef, undef, undef, undef, undef, undef, undef, undef, undef, undef, undef, undef, undef, undef, undef, undef, undef, undef, undef, undef, undef, undef, undef, undef, undef, undef], defers := [] } .normal (by kernel_rfl) ?_
 refine hK _ _ ?_
 clear hK
 go_upto_region 30 with fail
 clear y0 y1 y2 y3 y4 y5 g2 g3 g4 g5
 have HB2 : Hid (Below w.heap.size w (w1.alloc (.cells #[.int .i64 S.pl.at_.row, .int .i64 S.pl.at_.col] 36)).drew) := HB1.out.drew
 refine wp_region_noPanic ?_
 refine wp_region_k (S := fun W : World => Below w.heap.size w W ∧ W.heap[w1.heap.size]? = some (.cells #[.int .i64 S.pl.at_.row, .int .i64 S.pl.at_.col] 36 (0, 0))) 6 (by kernel_rfl) (⟨HB2.out, HX.out⟩) (fun hHeld => ?_)
 refine kSK 0 hHeld ?_
 refine kSK 1 hHeld ?_
 refine kSK 2 hHeld ?_
 refine kTK (v := ?_) 3 [] hHeld ?y4 ?_
 case y4 => (intro W hSw; obtain ⟨x0, x1, x2, x3, _⟩ := (HA.out _ hSw.1).cells; obtain ⟨c0, c1, c2, c3⟩ := (HA.out _ hSw.1).scr.blk.1.cells; go_simp; try with_reducible rfl)
 refine kTK (v := ?_) 4 [] hHeld ?y5 ?_
 case y5 => (intro W hSw; obtain ⟨x0, x1, x2, x3, _⟩ := (HA.out _ hSw.1).cells; obtain ⟨c0, c1, c2, c3⟩ := (HA.out _ hSw.1).scr.blk.1.cells; go_simp; try with_reducible rfl)
 try refine kNK ?_
 refine kSK 5 hHeld ?_
 try refine kNK ?_
 refine kPK 6 fun KQ hKQ => ?_
 go_simp
 go_at_call 58
 refine (scr_part sp F S 2 Vz.Cl.blank pr _ (HA.out _ HB2.out).scr).mono ?_
 rintro e w2 ⟨rfl, ht⟩
 have HT := Lib.hid (ScrTo.after HB2.out ht)
 clear ht
 go_wp2_with fail
 refine hKQ.out _ _ ?_
 clear hKQ KQ
 try refine kNK ?_
 refine wpAnyK_done (by kernel_rfl) ?_ _
 refine NoPanic.normal ?_
 go_wp2_with fail
 go_ret
 exact ⟨rfl, HT.out⟩
theorem one_121 {w : World} {tp sp qp : Nat} {gd pr : Bool} {attr : Int} {V : Value} {F : Nat → Prop} {S : Vz.Sr} (h : Adm w tp sp qp gd pr attr V F S) : Calls Tryz.prog 85 #[.pointer (some ⟨tp, 0, none⟩), .int .u8 121] w fun e w' => e = .returned (.bool false) ∧ ScrTo w w' sp F (partS S 2 Vz.Cl.blank pr) := by
 have HA := Lib.hid (fun W (hb : Below w.heap.size w W) => h.below hb)
 obtain ⟨t0, t1, t2, t3, _⟩ := h.cells
 have HCU := Lib.hid (scr_cursor sp F S w h.scr)
 clear h
 go_enter Tryz.func85, Tryz.ntmps85
 go_upto_block 0 with (go_at_call 14; refine HCU.out.mono ?_; rintro e w1 ⟨rfl, hb1⟩; have HB1 := Lib.hid (hb1.alloc hb1.size (.cells #[.int .i64 S.pl.at_.row, .int .i64 S.pl.at_.col] 36)); have HX := Lib.hid (heap_alloc_new w1 (.cells #[.int .i64 S.pl.at_.row, .int .i64 S.pl.at_.col] 36)); obtain ⟨y0, y1, y2, y3, y4, y5, g2, g3, g4, g5⟩ := (HA.out _ HB1.out).cells; clear hb1)
 refine wp_block ?_
 refine wp_seq_k fun K hK => ?_
 clear hK
 refine wp_block ?_
 refine wp_seq_k fun K hK => ?_
 clear hK
 refine wp_block ?_
 refine wp_seq_k fun K hK => ?_
 clear hK
 refine wp_block ?_
 refine wp_seq_k fun K hK => ?_
 clear hK
 refine wp_block ?_
 refine wp_seq_k fun K hK => ?_
 clear hK
 refine wp_block ?_
 refine wp_seq_k fun K hK => ?_
 clear hK
 refine wp_block ?_
 refine wp_seq_k fun K hK => ?_
 clear hK
 refine wp_block ?_
 refine wp_seq_k fun K hK => ?_
 clear hK
 refine wp_block ?_
 refine wp_seq_k fun K hK => ?_
 clear hK
 refine wp_block ?_
 refine wp_seq_k fun K hK => ?_
 clear hK
 refine wp_block ?_
 refine wp_seq_k fun K hK => ?_
 clear hK
 refine wp_block ?_
 refine wp_seq_k fun K hK => ?_
 clear hK
 refine wp_block ?_
 refine wp_seq_k fun K hK => ?_
 refine sw_sound _ _ _ { tmps := #[.pointer (some ⟨tp, 0, none⟩), .int .u8 121, undef, undef, .bool false, .pointer (some ⟨w1.heap.size, 0, none⟩), .bool S.pl.pend, .bool pr, .tuple #[.agg #[.int .i64 S.pl.at_.row, .int .i64 S.pl.at_.col], .bool S.pl.pend], .pointer (some ⟨tp, 0, none⟩), .pointer (some ⟨tp, 0, none⟩), .pointer (some ⟨tp, 0, none⟩), .pointer (some ⟨sp, 0, none⟩), .tuple #[.agg #[.int .i64 S.pl.at_.row, .int .i64 S.pl.at_.col], .bool S.pl.pend], .agg #[.int .i64 S.pl.at_.row, .int .i64 S.pl.at_.col], .bool S.pl.pend, .pointer (some ⟨tp, 0, none⟩), .pointer (some ⟨tp, 0, none⟩), .pointer (some ⟨tp, 2, none⟩), .pointer (some ⟨tp, 3, none⟩), .bool pr, .int .u8 121, .bool false, .bool false, .bool false, .bool false, .bool false, .bool false, .bool false, .bool false, .bool false, .bool true, .bool false, .bool true, undef, undef, undef, undef, undef, undef, undef, undef, undef, undef, undef, undef, undef, undef, undef, undef, undef, undef, undef, undef, undef, undef, undef, undef, undef, undef, undef, undef, undef, undef, undef, undef, undef, undef, undef, undef, undef, undef, undef, undef, undef, undef, undef, undef, undef, undef, undef, undef, undef, undef, undef, undef, undef, undef, undef, undef, undef, undef, undef, undef, undef, undef, undef, undef, undef, undef, undef, undef, undef, undef, undef, undef, undef, undef, undef, undef, undef, undef, undef, undef, undef, undef, undef, undef, undef, undef, undef, undef, undef, undef, undef, undef, undef, undef, undef, undef, undef, undef, undef, undef, undef, undef, undef, undef, undef, undef, undef, undef, undef, undef, undef, undef, undef, undef, undef, undef, undef, undef, undef, undef, undef, undef, undef, undef, undef, undef, undef, undef, undef, undef, undef, undef, undef, undef, undef, undef, undef, undef, undef, undef], defers := [] } .normal (by kernel_rfl) ?_
 refine hK _ _ ?_
 clear hK
 go_upto_region 30 with fail
 clear y0 y1 y2 y3 y4 y5 g2 g3 g4 g5
 have HB2 : Hid (Below w.heap.size w (w1.alloc (.cells #[.int .i64 S.pl.at_.row, .int .i64 S.pl.at_.col] 36)).drew) := HB1.out.drew
 refine wp_region_noPanic ?_
 refine wp_region_k (S := fun W : World => Below w.heap.size w W ∧ W.heap[w1.heap.size]? = some (.cells #[.int .i64 S.pl.at_.row, .int .i64 S.pl.at_.col] 36 (0, 0))) 6 (by kernel_rfl) (⟨HB2.out, HX.out⟩) (fun hHeld => ?_)
 refine kSK 0 hHeld ?_
 refine kSK 1 hHeld ?_
 refine kSK 2 hHeld ?_
 refine kTK (v := ?_) 3 [] hHeld ?y4 ?_
 case y4 => (intro W hSw; obtain ⟨x0, x1, x2, x3, _⟩ := (HA.out _ hSw.1).cells; obtain ⟨c0, c1, c2, c3⟩ := (HA.out _ hSw.1).scr.blk.1.cells; go_simp; try with_reducible rfl)
 refine kTK (v := ?_) 4 [] hHeld ?y5 ?_
 case y5 => (intro W hSw; obtain ⟨x0, x1, x2, x3, _⟩ := (HA.out _ hSw.1).cells; obtain ⟨c0, c1, c2, c3⟩ := (HA.out _ hSw.1).scr.blk.1.cells; go_simp; try with_reducible rfl)
 try refine kNK ?_
 refine kSK 5 hHeld ?_
 try refine kNK ?_
 refine kPK 6 fun KQ hKQ => ?_
 go_simp
 go_at_call 58
 refine (scr_part sp F S 2 Vz.Cl.blank pr _ (HA.out _ HB2.out).scr).mono ?_
 rintro e w2 ⟨rfl, ht⟩
 have HT := Lib.hid (ScrTo.after HB2.out ht)
 clear ht
 go_wp2_with fail
 refine hKQ.out _ _ ?_
 clear hKQ KQ
 try refine kNK ?_
 refine wpAnyK_done (by kernel_rfl) ?_ _
 refine NoPanic.normal ?_
 go_wp2_with fail
 go_ret
 exact ⟨rfl, HT.out⟩
theorem one_81 {w : World} {tp sp qp : Nat} {gd pr : Bool} {attr : Int} {V : Value} {F : Nat → Prop} {S : Vz.Sr} (h : Adm w tp sp qp gd pr attr V F S) : Calls Tryz.prog 85 #[.pointer (some ⟨tp, 0, none⟩), .int .u8 81] w fun e w' => e = .returned (.bool false) ∧ ScrTo w w' sp F (charsS S 1 Vz.Cl.blank pr) := by
 have HA := Lib.hid (fun W (hb : Below w.heap.size w W) => h.below hb)
 obtain ⟨t0, t1, t2, t3, _⟩ := h.cells
 have HCU := Lib.hid (scr_cursor sp F S w h.scr)
 clear h
 go_enter Tryz.func85, Tryz.ntmps85
 go_upto_block 0 with (go_at_call 14; refine HCU.out.mono ?_; rintro e w1 ⟨rfl, hb1⟩; have HB1 := Lib.hid (hb1.alloc hb1.size (.cells #[.int .i64 S.pl.at_.row, .int .i64 S.pl.at_.col] 36)); have HX := Lib.hid (heap_alloc_new w1 (.cells #[.int .i64 S.pl.at_.row, .int .i64 S.pl.at_.col] 36)); obtain ⟨y0, y1, y2, y3, y4, y5, g2, g3, g4, g5⟩ := (HA.out _ HB1.out).cells; clear hb1)
 refine wp_block ?_
 refine wp_seq_k fun K hK => ?_
 clear hK
 refine wp_block ?_
 refine wp_seq_k fun K hK => ?_
 clear hK
 refine wp_block ?_
 refine wp_seq_k fun K hK => ?_
 clear hK
 refine wp_block ?_
 refine wp_seq_k fun K hK => ?_
 clear hK
 refine wp_block ?_
 refine wp_seq_k fun K hK => ?_
 clear hK
 refine wp_block ?_
 refine wp_seq_k fun K hK => ?_
 clear hK
 refine wp_block ?_
 refine wp_seq_k fun K hK => ?_
 clear hK
 refine wp_block ?_
 refine wp_seq_k fun K hK => ?_
 clear hK
 refine wp_block ?_
 refine wp_seq_k fun K hK => ?_
 clear hK
 refine wp_block ?_
 refine wp_seq_k fun K hK => ?_
 refine sw_sound _ _ _ { tmps := #[.pointer (some ⟨tp, 0, none⟩), .int .u8 81, undef, undef, .bool false, .pointer (some ⟨w1.heap.size, 0, none⟩), .bool S.pl.pend, .bool pr, .tuple #[.agg #[.int .i64 S.pl.at_.row, .int .i64 S.pl.at_.col], .bool S.pl.pend], .pointer (some ⟨tp, 0, none⟩), .pointer (some ⟨tp, 0, none⟩), .pointer (some ⟨tp, 0, none⟩), .pointer (some ⟨sp, 0, none⟩), .tuple #[.agg #[.int .i64 S.pl.at_.row, .int .i64 S.pl.at_.col], .bool S.pl.pend], .agg #[.int .i64 S.pl.at_.row, .int .i64 S.pl.at_.col], .bool S.pl.pend, .pointer (some ⟨tp, 0, none⟩), .pointer (some ⟨tp, 0, none⟩), .pointer (some ⟨tp, 2, none⟩), .pointer (some ⟨tp, 3, none⟩), .bool pr, .int .u8 81, .bool false, .bool false, .bool false, .bool false, .bool false, .bool false, .bool false, .bool false, .bool false, .bool false, .bool false, .bool false, .bool false, .bool false, .bool false, .bool false, .bool true, .bool true, undef, undef, undef, undef, undef, undef, undef, undef, undef, undef, undef, undef, undef, undef, undef, undef, undef, undef, undef, undef, undef, undef, undef, undef, undef, undef, undef, undef, undef, undef, undef, undef, undef, undef, undef, undef, undef, undef, undef, undef, undef, undef, undef, undef, undef, undef, undef, undef, undef, undef, undef, undef, undef, undef, undef, undef, undef, undef, undef, undef, undef, undef, undef, undef, undef, undef, undef, undef, undef, undef, undef, undef, undef, undef, undef, undef, undef, undef, undef, undef, undef, undef, undef, undef, undef, undef, undef, undef, undef, undef, undef, undef, undef, undef, undef, undef, undef, undef, undef, undef, undef, undef, undef, undef, undef, undef, undef, undef, undef, undef, undef, undef, undef, undef, undef, undef, undef, undef, undef, undef, undef, undef, undef, undef, undef, undef, undef, undef, undef, undef, undef, undef, undef, undef], defers := [] } .normal (by kernel_rfl) ?_
 refine hK _ _ ?_
 clear hK
 go_upto_region 35 with fail
 clear y0 y1 y2 y3 y4 y5 g2 g3 g4 g5
 have HB2 : Hid (Below w.heap.size w (w1.alloc (.cells #[.int .i64 S.pl.at_.row, .int .i64 S.pl.at_.col] 36)).drew) := HB1.out.drew
 refine wp_region_noPanic ?_
 refine wp_region_k (S := fun W : World => Below w.heap.size w W ∧ W.heap[w1.heap.size]? = some (.cells #[.int .i64 S.pl.at_.row, .int .i64 S.pl.at_.col] 36 (0, 0))) 6 (by kernel_rfl) (⟨HB2.out, HX.out⟩) (fun hHeld => ?_)
 refine kSK 0 hHeld ?_
 refine kSK 1 hHeld ?_
 refine kSK 2 hHeld ?_
 refine kTK (v := ?_) 3 [] hHeld ?y4 ?_
 case y4 => (intro W hSw; obtain ⟨x0, x1, x2, x3, _⟩ := (HA.out _ hSw.1).cells; obtain ⟨c0, c1, c2, c3⟩ := (HA.out _ hSw.1).scr.blk.1.cells; go_simp; try with_reducible rfl)
 refine kTK (v := ?_) 4 [] hHeld ?y5 ?_
 case y5 => (intro W hSw; obtain ⟨x0, x1, x2, x3, _⟩ := (HA.out _ hSw.1).cells; obtain ⟨c0, c1, c2, c3⟩ := (HA.out _ hSw.1).scr.blk.1.cells; go_simp; try with_reducible rfl)
 try refine kNK ?_
 refine kSK 5 hHeld ?_
 try refine kNK ?_
 refine kPK 6 fun KQ hKQ => ?_
 go_simp
 go_at_call 110
 refine (scr_chars sp F S 1 Vz.Cl.blank pr _ (HA.out _ HB2.out).scr).mono ?_
 rintro e w2 ⟨rfl, ht⟩
 have HT := Lib.hid (ScrTo.after HB2.out ht)
 clear ht
 go_wp2_with fail
 refine hKQ.out _ _ ?_
 clear hKQ KQ
 try refine kNK ?_
 refine wpAnyK_done (by kernel_rfl) ?_ _
 refine NoPanic.normal ?_
 go_wp2_with fail
 go_ret
 exact ⟨rfl, HT.out⟩
theorem one_87 {w : World} {tp sp qp : Nat} {gd pr : Bool} {attr : Int} {V : Value} {F : Nat → Prop} {S : Vz.Sr} (h : Adm w tp sp qp gd pr attr V F S) : Calls Tryz.prog 85 #[.pointer (some ⟨tp, 0, none⟩), .int .u8 87] w fun e w' => e = .returned (.bool false) ∧ ScrTo w w' sp F (charsS S (-1) Vz.Cl.blank pr) := by
 have HA := Lib.hid (fun W (hb : Below w.heap.size w W) => h.below hb)
 obtain ⟨t0, t1, t2, t3, _⟩ := h.cells
 have HCU := Lib.hid (scr_cursor sp F S w h.scr)
 clear h
 go_enter Tryz.func85, Tryz.ntmps85
 go_upto_block 0 with (go_at_call 14; refine HCU.out.mono ?_; rintro e w1 ⟨rfl, hb1⟩; have HB1 := Lib.hid (hb1.alloc hb1.size (.cells #[.int .i64 S.pl.at_.row, .int .i64 S.pl.at_.col] 36)); have HX := Lib.hid (heap_alloc_new w1 (.cells #[.int .i64 S.pl.at_.row, .int .i64 S.pl.at_.col] 36)); obtain ⟨y0, y1, y2, y3, y4, y5, g2, g3, g4, g5⟩ := (HA.out _ HB1.out).cells; clear hb1)
 refine wp_block ?_
 refine wp_seq_k fun K hK => ?_
 clear hK
 refine wp_block ?_
 refine wp_seq_k fun K hK => ?_
 clear hK
 refine wp_block ?_
 refine wp_seq_k fun K hK => ?_
 clear hK
 refine wp_block ?_
 refine wp_seq_k fun K hK => ?_
 clear hK
 refine wp_block ?_
 refine wp_seq_k fun K hK => ?_
 clear hK
 refine wp_block ?_
 refine wp_seq_k fun K hK => ?_
 clear hK
 refine wp_block ?_
 refine wp_seq_k fun K hK => ?_
 clear hK
 refine wp_block ?_
 refine wp_seq_k fun K hK => ?_
 clear hK
 refine wp_block ?_
 refine wp_seq_k fun K hK => ?_
 refine sw_sound _ _ _ { tmps := #[.pointer (some ⟨tp, 0, none⟩), .int .u8 87, undef, undef, .bool false, .pointer (some ⟨w1.heap.size, 0, none⟩), .bool S.pl.pend, .bool pr, .tuple #[.agg #[.int .i64 S.pl.at_.row, .int .i64 S.pl.at_.col], .bool S.pl.pend], .pointer (some ⟨tp, 0, none⟩), .pointer (some ⟨tp, 0, none⟩), .pointer (some ⟨tp, 0, none⟩), .pointer (some ⟨sp, 0, none⟩), .tuple #[.agg #[.int .i64 S.pl.at_.row, .int .i64 S.pl.at_.col], .bool S.pl.pend], .agg #[.int .i64 S.pl.at_.row, .int .i64 S.pl.at_.col], .bool S.pl.pend, .pointer (some ⟨tp, 0, none⟩), .pointer (some ⟨tp, 0, none⟩), .pointer (some ⟨tp, 2, none⟩), .pointer (some ⟨tp, 3, none⟩), .bool pr, .int .u8 87, .bool false, .bool false, .bool false, .bool false, .bool false, .bool false, .bool false, .bool false, .bool false, .bool false, .bool false, .bool false, .bool false, .bool false, .bool false, .bool false, .bool false, .bool false, .bool true, .bool true, undef, undef, undef, undef, undef, undef, undef, undef, undef, undef, undef, undef, undef, undef, undef, undef, undef, undef, undef, undef, undef, undef, undef, undef, undef, undef, undef, undef, undef, undef, undef, undef, undef, undef, undef, undef, undef, undef, undef, undef, undef, undef, undef, undef, undef, undef, undef, undef, undef, undef, undef, undef, undef, undef, undef, undef, undef, undef, undef, undef, undef, undef, undef, undef, undef, undef, undef, undef, undef, undef, undef, undef, undef, undef, undef, undef, undef, undef, undef, undef, undef, undef, undef, undef, undef, undef, undef, undef, undef, undef, undef, undef, undef, undef, undef, undef, undef, undef, undef, undef, undef, undef, undef, undef, undef, undef, undef, undef, undef, undef, undef, undef, undef, undef, undef, undef, undef, undef, undef, undef, undef, undef, undef, undef, undef, undef, undef, undef, undef, undef, undef, undef], defers := [] } .normal (by kernel_rfl) ?_
 refine hK _ _ ?_
 clear hK
 go_upto_region 36 with fail
 clear y0 y1 y2 y3 y4 y5 g2 g3 g4 g5
 have HB2 : Hid (Below w.heap.size w (w1.alloc (.cells #[.int .i64 S.pl.at_.row, .int .i64 S.pl.at_.col] 36)).drew) := HB1.out.drew
 refine wp_region_noPanic ?_
 refine wp_region_k (S := fun W : World => Below w.heap.size w W ∧ W.heap[w1.heap.size]? = some (.cells #[.int .i64 S.pl.at_.row, .int .i64 S.pl.at_.col] 36 (0, 0))) 6 (by kernel_rfl) (⟨HB2.out, HX.out⟩) (fun hHeld => ?_)
 refine kSK 0 hHeld ?_
 refine kSK 1 hHeld ?_
 refine kSK 2 hHeld ?_
 refine kTK (v := ?_) 3 [] hHeld ?y4 ?_
 case y4 => (intro W hSw; obtain ⟨x0, x1, x2, x3, _⟩ := (HA.out _ hSw.1).cells; obtain ⟨c0, c1, c2, c3⟩ := (HA.out _ hSw.1).scr.blk.1.cells; go_simp; try with_reducible rfl)
 refine kTK (v := ?_) 4 [] hHeld ?y5 ?_
 case y5 => (intro W hSw; obtain ⟨x0, x1, x2, x3, _⟩ := (HA.out _ hSw.1).cells; obtain ⟨c0, c1, c2, c3⟩ := (HA.out _ hSw.1).scr.blk.1.cells; go_simp; try with_reducible rfl)
 try refine kNK ?_
 refine kSK 5 hHeld ?_
 try refine kNK ?_
 refine kPK 6 fun KQ hKQ => ?_
 go_simp
 go_at_call 110
 refine (scr_chars sp F S (-1) Vz.Cl.blank pr _ (HA.out _ HB2.out).scr).mono ?_
 rintro e w2 ⟨rfl, ht⟩
 have HT := Lib.hid (ScrTo.after HB2.out ht)
 clear ht
 go_wp2_with fail
 refine hKQ.out _ _ ?_
 clear hKQ KQ
 try refine kNK ?_
 refine wpAnyK_done (by kernel_rfl) ?_ _
 refine NoPanic.normal ?_
 go_wp2_with fail
 go_ret
 exact ⟨rfl, HT.out⟩
theorem one_49 {w : World} {tp sp qp : Nat} {gd pr : Bool} {attr : Int} {V : Value} {F : Nat → Prop} {S : Vz.Sr} (h : Adm w tp sp qp gd pr attr V F S) : Calls Tryz.prog 85 #[.pointer (some ⟨tp, 0, none⟩), .int .u8 49] w fun e w' => e = .returned (.bool false) ∧ ScrTo w w' sp F (stopS S S.pl.at_.col true) := by
 have HA := Lib.hid (fun W (hb : Below w.heap.size w W) => h.below hb)
 obtain ⟨t0, t1, t2, t3, _⟩ := h.cells
 have HCU := Lib.hid (scr_cursor sp F S w h.scr)
 clear h
 go_enter Tryz.func85, Tryz.ntmps85
 go_upto_block 0 with (go_at_call 14; refine HCU.out.mono ?_; rintro e w1 ⟨rfl, hb1⟩; have HB1 := Lib.hid (hb1.alloc hb1.size (.cells #[.int .i64 S.pl.at_.row, .int .i64 S.pl.at_.col] 36)); have HX := Lib.hid (heap_alloc_new w1 (.cells #[.int .i64 S.pl.at_.row, .int .i64 S.pl.at_.col] 36)); obtain ⟨y0, y1, y2, y3, y4, y5, g2, g3, g4, g5⟩ := (HA.out _ HB1.out).cells; clear hb1)
 refine wp_block ?_
 refine wp_seq_k fun K hK => ?_
 clear hK
 refine wp_block ?_
 refine wp_seq_k fun K hK => ?_
 clear hK
 refine wp_block ?_
 refine wp_seq_k fun K hK => ?_
 clear hK
 refine wp_block ?_
 refine wp_seq_k fun K hK => ?_
 clear hK
 refine wp_block ?_
 refine wp_seq_k fun K hK => ?_
 clear hK
 refine wp_block ?_
 refine wp_seq_k fun K hK => ?_
 refine sw_sound _ _ _ { tmps := #[.pointer (some ⟨tp, 0, none⟩), .int .u8 49, undef, undef, .bool false, .pointer (some ⟨w1.heap.size, 0, none⟩), .bool S.pl.pend, .bool pr, .tuple #[.agg #[.int .i64 S.pl.at_.row, .int .i64 S.pl.at_.col], .bool S.pl.pend], .pointer (some ⟨tp, 0, none⟩), .pointer (some ⟨tp, 0, none⟩), .pointer (some ⟨tp, 0, none⟩), .pointer (some ⟨sp, 0, none⟩), .tuple #[.agg #[.int .i64 S.pl.at_.row, .int .i64 S.pl.at_.col], .bool S.pl.pend], .agg #[.int .i64 S.pl.at_.row, .int .i64 S.pl.at_.col], .bool S.pl.pend, .pointer (some ⟨tp, 0, none⟩), .pointer (some ⟨tp, 0, none⟩), .pointer (some ⟨tp, 2, none⟩), .pointer (some ⟨tp, 3, none⟩), .bool pr, .int .u8 49, .bool false, .bool false, .bool false, .bool false, .bool false, .bool false, .bool false, .bool false, .bool false, .bool false, .bool false, .bool false, .bool false, .bool false, .bool false, .bool false, .bool false, .bool false, .bool false, .bool false, .bool false, .bool false, .bool false, .bool false, .bool false, .bool false, .bool true, .bool true, undef, undef, undef, undef, undef, undef, undef, undef, undef, undef, undef, undef, undef, undef, undef, undef, undef, undef, undef, undef, undef, undef, undef, undef, undef, undef, undef, undef, undef, undef, undef, undef, undef, undef, undef, undef, undef, undef, undef, undef, undef, undef, undef, undef, undef, undef, undef, undef, undef, undef, undef, undef, undef, undef, undef, undef, undef, undef, undef, undef, undef, undef, undef, undef, undef, undef, undef, undef, undef, undef, undef, undef, undef, undef, undef, undef, undef, undef, undef, undef, undef, undef, undef, undef, undef, undef, undef, undef, undef, undef, undef, undef, undef, undef, undef, undef, undef, undef, undef, undef, undef, undef, undef, undef, undef, undef, undef, undef, undef, undef, undef, undef, undef, undef, undef, undef, undef, undef, undef, undef, undef, undef, undef, undef], defers := [] } .normal (by kernel_rfl) ?_
 refine hK _ _ ?_
 clear hK
 go_upto_region 39 with fail
 clear y0 y1 y2 y3 y4 y5 g2 g3 g4 g5
 have HB2 : Hid (Below w.heap.size w (w1.alloc (.cells #[.int .i64 S.pl.at_.row, .int .i64 S.pl.at_.col] 36)).drew) := HB1.out.drew
 refine wp_region_noPanic ?_
 refine wp_region_k (S := fun W : World => Below w.heap.size w W ∧ W.heap[w1.heap.size]? = some (.cells #[.int .i64 S.pl.at_.row, .int .i64 S.pl.at_.col] 36 (0, 0))) 8 (by kernel_rfl) (⟨HB2.out, HX.out⟩) (fun hHeld => ?_)
 refine kSK 0 hHeld ?_
 refine kSK 1 hHeld ?_
 refine kSK 2 hHeld ?_
 refine kTK (v := ?_) 3 [] hHeld ?y4 ?_
 case y4 => (intro W hSw; obtain ⟨x0, x1, x2, x3, _⟩ := (HA.out _ hSw.1).cells; obtain ⟨p0, p1, _⟩ := row2 hSw.2; go_simp; try with_reducible rfl)
 refine kSK 4 hHeld ?_
 try refine kNK ?_
 refine kTK (v := ?_) 5 [] hHeld ?y6 ?_
 case y6 => (intro W hSw; obtain ⟨x0, x1, x2, x3, _⟩ := (HA.out _ hSw.1).cells; obtain ⟨p0, p1, _⟩ := row2 hSw.2; go_simp; try with_reducible rfl)
 refine kSK 6 hHeld ?_
 refine kSK 7 hHeld ?_
 try refine kNK ?_
 refine kPK 8 fun KQ hKQ => ?_
 go_simp
 go_at_call 111
 refine (scr_stop sp F S S.pl.at_.col true _ (HA.out _ HB2.out).scr).mono ?_
 rintro e w2 ⟨rfl, ht⟩
 have HT := Lib.hid (ScrTo.after HB2.out ht)
 clear ht
 go_wp2_with fail
 refine hKQ.out _ _ ?_
 clear hKQ KQ
 try refine kNK ?_
 refine wpAnyK_done (by kernel_rfl) ?_ _
 refine NoPanic.normal ?_
 go_wp2_with fail
 go_ret
 exact ⟨rfl, HT.out⟩
theorem one_50 {w : World} {tp sp qp : Nat} {gd pr : Bool} {attr : Int} {V : Value} {F : Nat → Prop} {S : Vz.Sr} (h : Adm w tp sp qp gd pr attr V F S) : Calls Tryz.prog 85 #[.pointer (some ⟨tp, 0, none⟩), .int .u8 50] w fun e w' => e = .returned (.bool false) ∧ ScrTo w w' sp F (stopS S S.pl.at_.col false) := by
 have HA := Lib.hid (fun W (hb : Below w.heap.size w W) => h.below hb)
 obtain ⟨t0, t1, t2, t3, _⟩ := h.cells
 have HCU := Lib.hid (scr_cursor sp F S w h.scr)
 clear h
 go_enter Tryz.func85, Tryz.ntmps85
 go_upto_block 0 with (go_at_call 14; refine HCU.out.mono ?_; rintro e w1 ⟨rfl, hb1⟩; have HB1 := Lib.hid (hb1.alloc hb1.size (.cells #[.int .i64 S.pl.at_.row, .int .i64 S.pl.at_.col] 36)); have HX := Lib.hid (heap_alloc_new w1 (.cells #[.int .i64 S.pl.at_.row, .int .i64 S.pl.at_.col] 36)); obtain ⟨y0, y1, y2, y3, y4, y5, g2, g3, g4, g5⟩ := (HA.out _ HB1.out).cells; clear hb1)
 refine wp_block ?_
 refine wp_seq_k fun K hK => ?_
 clear hK
 refine wp_block ?_
 refine wp_seq_k fun K hK => ?_
 clear hK
 refine wp_block ?_
 refine wp_seq_k fun K hK => ?_
 clear hK
 refine wp_block ?_
 refine wp_seq_k fun K hK => ?_
 clear hK
 refine wp_block ?_
 refine wp_seq_k fun K hK => ?_
 clear hK
 refine wp_block ?_
 refine wp_seq_k fun K hK => ?_
 refine sw_sound _ _ _ { tmps := #[.pointer (some ⟨tp, 0, none⟩), .int .u8 50, undef, undef, .bool false, .pointer (some ⟨w1.heap.size, 0, none⟩), .bool S.pl.pend, .bool pr, .tuple #[.agg #[.int .i64 S.pl.at_.row, .int .i64 S.pl.at_.col], .bool S.pl.pend], .pointer (some ⟨tp, 0, none⟩), .pointer (some ⟨tp, 0, none⟩), .pointer (some ⟨tp, 0, none⟩), .pointer (some ⟨sp, 0, none⟩), .tuple #[.agg #[.int .i64 S.pl.at_.row, .int .i64 S.pl.at_.col], .bool S.pl.pend], .agg #[.int .i64 S.pl.at_.row, .int .i64 S.pl.at_.col], .bool S.pl.pend, .pointer (some ⟨tp, 0, none⟩), .pointer (some ⟨tp, 0, none⟩), .pointer (some ⟨tp, 2, none⟩), .pointer (some ⟨tp, 3, none⟩), .bool pr, .int .u8 50, .bool false, .bool false, .bool false, .bool false, .bool false, .bool false, .bool false, .bool false, .bool false, .bool false, .bool false, .bool false, .bool false, .bool false, .bool false, .bool false, .bool false, .bool false, .bool false, .bool false, .bool false, .bool false, .bool false, .bool false, .bool false, .bool false, .bool true, .bool false, .bool true, undef, undef, undef, undef, undef, undef, undef, undef, undef, undef, undef, undef, undef, undef, undef, undef, undef, undef, undef, undef, undef, undef, undef, undef, undef, undef, undef, undef, undef, undef, undef, undef, undef, undef, undef, undef, undef, undef, undef, undef, undef, undef, undef, undef, undef, undef, undef, undef, undef, undef, undef, undef, undef, undef, undef, undef, undef, undef, undef, undef, undef, undef, undef, undef, undef, undef, undef, undef, undef, undef, undef, undef, undef, undef, undef, undef, undef, undef, undef, undef, undef, undef, undef, undef, undef, undef, undef, undef, undef, undef, undef, undef, undef, undef, undef, undef, undef, undef, undef, undef, undef, undef, undef, undef, undef, undef, undef, undef, undef, undef, undef, undef, undef, undef, undef, undef, undef, undef, undef, undef, undef, undef, undef], defers := [] } .normal (by kernel_rfl) ?_
 refine hK _ _ ?_
 clear hK
 go_upto_region 39 with fail
 clear y0 y1 y2 y3 y4 y5 g2 g3 g4 g5
 have HB2 : Hid (Below w.heap.size w (w1.alloc (.cells #[.int .i64 S.pl.at_.row, .int .i64 S.pl.at_.col] 36)).drew) := HB1.out.drew
 refine wp_region_noPanic ?_
 refine wp_region_k (S := fun W : World => Below w.heap.size w W ∧ W.heap[w1.heap.size]? = some (.cells #[.int .i64 S.pl.at_.row, .int .i64 S.pl.at_.col] 36 (0, 0))) 8 (by kernel_rfl) (⟨HB2.out, HX.out⟩) (fun hHeld => ?_)
 refine kSK 0 hHeld ?_
 refine kSK 1 hHeld ?_
 refine kSK 2 hHeld ?_
 refine kTK (v := ?_) 3 [] hHeld ?y4 ?_
 case y4 => (intro W hSw; obtain ⟨x0, x1, x2, x3, _⟩ := (HA.out _ hSw.1).cells; obtain ⟨p0, p1, _⟩ := row2 hSw.2; go_simp; try with_reducible rfl)
 refine kSK 4 hHeld ?_
 try refine kNK ?_
 refine kTK (v := ?_) 5 [] hHeld ?y6 ?_
 case y6 => (intro W hSw; obtain ⟨x0, x1, x2, x3, _⟩ := (HA.out _ hSw.1).cells; obtain ⟨p0, p1, _⟩ := row2 hSw.2; go_simp; try with_reducible rfl)
 refine kSK 6 hHeld ?_
 refine kSK 7 hHeld ?_
 try refine kNK ?_
 refine kPK 8 fun KQ hKQ => ?_
 go_simp
 go_at_call 111
 refine (scr_stop sp F S S.pl.at_.col false _ (HA.out _ HB2.out).scr).mono ?_
 rintro e w2 ⟨rfl, ht⟩
 have HT := Lib.hid (ScrTo.after HB2.out ht)
 clear ht
 go_wp2_with fail
 refine hKQ.out _ _ ?_
 clear hKQ KQ
 try refine kNK ?_
 refine wpAnyK_done (by kernel_rfl) ?_ _
 refine NoPanic.normal ?_
 go_wp2_with fail
 go_ret
 exact ⟨rfl, HT.out⟩
end
end Go.Proofs.YtncgigapgklhcaaGreatDoor
