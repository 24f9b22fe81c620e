import Derived.Test.YtncgigapgklhcaaGreatDoorHT
import Derived.Deep.CutBlock
import Derived.Test.YtncgigapgklhcaaGreatDoorHS

set_option maxRecDepth 100000
set_option maxHeartbeats 16000000
namespace Go.Proofs.YtncgigapgklhcaaGreatDoor
open Go.RowKit
set_option linter.unusedSimpArgs false
set_option linter.unusedVariables false
/- Walks: an ADM-3A's bytes that end a sequence of two, arm by arm: calls at once. -/
section
attribute [local go_sem] alloc_drewN setCell_drewN World.cell?_alloc_some frozen_alloc_some size_f0 size_f1
theorem one_43 {w : World} {tp sp qp : Nat} {gd pr : Bool} {attr : Int} {V : Value} {F : Nat → Prop} {S : Vz.Sr} (h : Adm w tp sp qp gd pr attr V F S) : Calls Tryz.prog 85 #[.pointer (some ⟨tp, 0, none⟩), .int .u8 43] w fun e w' => e = .returned (.bool false) ∧ ScrTo w w' sp F (clearS S pr) := by
 have HA := Lib.hid (fun W (hb : Below w.heap.size w W) => h.below hb)
 obtain ⟨t0, t1, t2, t3, _⟩ := h.cells
 have HCU := Lib.hid (scr_cursor sp F S w h.scr)
 clear h
 go_enter Tryz.func85, Tryz.ntmps85
 go_upto_block 0 with (go_at_call 14; refine HCU.out.mono ?_; rintro e w1 ⟨rfl, hb1⟩; have HB1 := Lib.hid (hb1.alloc hb1.size (.cells #[.int .i64 S.pl.at_.row, .int .i64 S.pl.at_.col] 36)); have HX := Lib.hid (heap_alloc_new w1 (.cells #[.int .i64 S.pl.at_.row, .int .i64 S.pl.at_.col] 36)); obtain ⟨y0, y1, y2, y3, y4, y5, g2, g3, g4, g5⟩ := (HA.out _ HB1.out).cells; clear hb1)
 refine wp_block ?_
 refine wp_seq_k fun K hK => ?_
 clear hK
 refine wp_block ?_
 refine wp_seq_k fun K hK => ?_
 clear hK
 refine wp_block ?_
 refine wp_seq_k fun K hK => ?_
 clear hK
 refine wp_block ?_
 refine wp_seq_k fun K hK => ?_
 clear hK
 refine wp_block ?_
 refine wp_seq_k fun K hK => ?_
 clear hK
 refine wp_block ?_
 refine wp_seq_k fun K hK => ?_
 clear hK
 refine wp_block ?_
 refine wp_seq_k fun K hK => ?_
 clear hK
 refine wp_block ?_
 refine wp_seq_k fun K hK => ?_
 clear hK
 refine wp_block ?_
 refine wp_seq_k fun K hK => ?_
 clear hK
 refine wp_block ?_
 refine wp_seq_k fun K hK => ?_
 clear hK
 refine wp_block ?_
 refine wp_seq_k fun K hK => ?_
 clear hK
 refine wp_block ?_
 refine wp_seq_k fun K hK => ?_
 clear hK
 refine wp_block ?_
 refine wp_seq_k fun K hK => ?_
 clear hK
 refine wp_block ?_
 refine wp_seq_k fun K hK => ?_
 clear hK
 refine wp_block ?_
 refine wp_seq_k fun K hK => ?_
 refine sw_sound _ _ _ { tmps := #[.pointer (some ⟨tp, 0, none⟩), .int .u8 43, undef, undef, .bool false, .pointer (some ⟨w1.heap.size, 0, none⟩), .bool S.pl.pend, .bool pr, .tuple #[.agg #[.int .i64 S.pl.at_.row, .int .i64 S.pl.at_.col], .bool S.pl.pend], .pointer (some ⟨tp, 0, none⟩), .pointer (some ⟨tp, 0, none⟩), .pointer (some ⟨tp, 0, none⟩), .pointer (some ⟨sp, 0, none⟩), .tuple #[.agg #[.int .i64 S.pl.at_.row, .int .i64 S.pl.at_.col], .bool S.pl.pend], .agg #[.int .i64 S.pl.at_.row, .int .i64 S.pl.at_.col], .bool S.pl.pend, .pointer (some ⟨tp, 0, none⟩), .pointer (some ⟨tp, 0, none⟩), .pointer (some ⟨tp, 2, none⟩), .pointer (some ⟨tp, 3, none⟩), .bool pr, .int .u8 43, .bool false, .bool false, .bool true, .bool true, undef, undef, undef, undef, undef, undef, undef, undef, undef, undef, undef, undef, undef, undef, undef, undef, undef, undef, undef, undef, undef, undef, undef, undef, undef, undef, undef, undef, undef, undef, undef, undef, undef, undef, undef, undef, undef, undef, undef, undef, undef, undef, undef, undef, undef, undef, undef, undef, undef, undef, undef, undef, undef, undef, undef, undef, undef, undef, undef, undef, undef, undef, undef, undef, undef, undef, undef, undef, undef, undef, undef, undef, undef, undef, undef, undef, undef, undef, undef, undef, undef, undef, undef, undef, undef, undef, undef, undef, undef, undef, undef, undef, undef, undef, undef, undef, undef, undef, undef, undef, undef, undef, undef, undef, undef, undef, undef, undef, undef, undef, undef, undef, undef, undef, undef, undef, undef, undef, undef, undef, undef, undef, undef, undef, undef, undef, undef, undef, undef, undef, undef, undef, undef, undef, undef, undef, undef, undef, undef, undef, undef, undef, undef, undef, undef, undef, undef, undef], defers := [] } .normal (by kernel_rfl) ?_
 refine hK _ _ ?_
 clear hK
 go_wp2_with (go_at_call 35; refine (adm_cleared (HA.out _ HB1.out)).mono ?_; rintro e w2 ⟨rfl, ht⟩; have HT := Lib.hid (ScrTo.after HB1.out ht); clear ht)
 go_ret
 exact ⟨rfl, HT.out⟩
theorem one_59 {w : World} {tp sp qp : Nat} {gd pr : Bool} {attr : Int} {V : Value} {F : Nat → Prop} {S : Vz.Sr} (h : Adm w tp sp qp gd pr attr V F S) : Calls Tryz.prog 85 #[.pointer (some ⟨tp, 0, none⟩), .int .u8 59] w fun e w' => e = .returned (.bool false) ∧ ScrTo w w' sp F (clearS S pr) := by
 have HA := Lib.hid (fun W (hb : Below w.heap.size w W) => h.below hb)
 obtain ⟨t0, t1, t2, t3, _⟩ := h.cells
 have HCU := Lib.hid (scr_cursor sp F S w h.scr)
 clear h
 go_enter Tryz.func85, Tryz.ntmps85
 go_upto_block 0 with (go_at_call 14; refine HCU.out.mono ?_; rintro e w1 ⟨rfl, hb1⟩; have HB1 := Lib.hid (hb1.alloc hb1.size (.cells #[.int .i64 S.pl.at_.row, .int .i64 S.pl.at_.col] 36)); have HX := Lib.hid (heap_alloc_new w1 (.cells #[.int .i64 S.pl.at_.row, .int .i64 S.pl.at_.col] 36)); obtain ⟨y0, y1, y2, y3, y4, y5, g2, g3, g4, g5⟩ := (HA.out _ HB1.out).cells; clear hb1)
 refine wp_block ?_
 refine wp_seq_k fun K hK => ?_
 clear hK
 refine wp_block ?_
 refine wp_seq_k fun K hK => ?_
 clear hK
 refine wp_block ?_
 refine wp_seq_k fun K hK => ?_
 clear hK
 refine wp_block ?_
 refine wp_seq_k fun K hK => ?_
 clear hK
 refine wp_block ?_
 refine wp_seq_k fun K hK => ?_
 clear hK
 refine wp_block ?_
 refine wp_seq_k fun K hK => ?_
 clear hK
 refine wp_block ?_
 refine wp_seq_k fun K hK => ?_
 clear hK
 refine wp_block ?_
 refine wp_seq_k fun K hK => ?_
 clear hK
 refine wp_block ?_
 refine wp_seq_k fun K hK => ?_
 clear hK
 refine wp_block ?_
 refine wp_seq_k fun K hK => ?_
 clear hK
 refine wp_block ?_
 refine wp_seq_k fun K hK => ?_
 clear hK
 refine wp_block ?_
 refine wp_seq_k fun K hK => ?_
 clear hK
 refine wp_block ?_
 refine wp_seq_k fun K hK => ?_
 clear hK
 refine wp_block ?_
 refine wp_seq_k fun K hK => ?_
 clear hK
 refine wp_block ?_
 refine wp_seq_k fun K hK => ?_
 refine sw_sound _ _ _ { tmps := #[.pointer (some ⟨tp, 0, none⟩), .int .u8 59, undef, undef, .bool false, .pointer (some ⟨w1.heap.size, 0, none⟩), .bool S.pl.pend, .bool pr, .tuple #[.agg #[.int .i64 S.pl.at_.row, .int .i64 S.pl.at_.col], .bool S.pl.pend], .pointer (some ⟨tp, 0, none⟩), .pointer (some ⟨tp, 0, none⟩), .pointer (some ⟨tp, 0, none⟩), .pointer (some ⟨sp, 0, none⟩), .tuple #[.agg #[.int .i64 S.pl.at_.row, .int .i64 S.pl.at_.col], .bool S.pl.pend], .agg #[.int .i64 S.pl.at_.row, .int .i64 S.pl.at_.col], .bool S.pl.pend, .pointer (some ⟨tp, 0, none⟩), .pointer (some ⟨tp, 0, none⟩), .pointer (some ⟨tp, 2, none⟩), .pointer (some ⟨tp, 3, none⟩), .bool pr, .int .u8 59, .bool false, .bool false, .bool true, .bool false, .bool true, undef, undef, undef, undef, undef, undef, undef, undef, undef, undef, undef, undef, undef, undef, undef, undef, undef, undef, undef, undef, undef, undef, undef, undef, undef, undef, undef, undef, undef, undef, undef, undef, undef, undef, undef, undef, undef, undef, undef, undef, undef, undef, undef, undef, undef, undef, undef, undef, undef, undef, undef, undef, undef, undef, undef, undef, undef, undef, undef, undef, undef, undef, undef, undef, undef, undef, undef, undef, undef, undef, undef, undef, undef, undef, undef, undef, undef, undef, undef, undef, undef, undef, undef, undef, undef, undef, undef, undef, undef, undef, undef, undef, undef, undef, undef, undef, undef, undef, undef, undef, undef, undef, undef, undef, undef, undef, undef, undef, undef, undef, undef, undef, undef, undef, undef, undef, undef, undef, undef, undef, undef, undef, undef, undef, undef, undef, undef, undef, undef, undef, undef, undef, undef, undef, undef, undef, undef, undef, undef, undef, undef, undef, undef, undef, undef, undef, undef], defers := [] } .normal (by kernel_rfl) ?_
 refine hK _ _ ?_
 clear hK
 go_wp2_with (go_at_call 35; refine (adm_cleared (HA.out _ HB1.out)).mono ?_; rintro e w2 ⟨rfl, ht⟩; have HT := Lib.hid (ScrTo.after HB1.out ht); clear ht)
 go_ret
 exact ⟨rfl, HT.out⟩
theorem one_58 {w : World} {tp sp qp : Nat} {gd pr : Bool} {attr : Int} {V : Value} {F : Nat → Prop} {S : Vz.Sr} (h : Adm w tp sp qp gd pr attr V F S) : Calls Tryz.prog 85 #[.pointer (some ⟨tp, 0, none⟩), .int .u8 58] w fun e w' => e = .returned (.bool false) ∧ ScrTo w w' sp F (clearS S pr) := by
 have HA := Lib.hid (fun W (hb : Below w.heap.size w W) => h.below hb)
 obtain ⟨t0, t1, t2, t3, _⟩ := h.cells
 have HCU := Lib.hid (scr_cursor sp F S w h.scr)
 clear h
 go_enter Tryz.func85, Tryz.ntmps85
 go_upto_block 0 with (go_at_call 14; refine HCU.out.mono ?_; rintro e w1 ⟨rfl, hb1⟩; have HB1 := Lib.hid (hb1.alloc hb1.size (.cells #[.int .i64 S.pl.at_.row, .int .i64 S.pl.at_.col] 36)); have HX := Lib.hid (heap_alloc_new w1 (.cells #[.int .i64 S.pl.at_.row, .int .i64 S.pl.at_.col] 36)); obtain ⟨y0, y1, y2, y3, y4, y5, g2, g3, g4, g5⟩ := (HA.out _ HB1.out).cells; clear hb1)
 refine wp_block ?_
 refine wp_seq_k fun K hK => ?_
 clear hK
 refine wp_block ?_
 refine wp_seq_k fun K hK => ?_
 clear hK
 refine wp_block ?_
 refine wp_seq_k fun K hK => ?_
 clear hK
 refine wp_block ?_
 refine wp_seq_k fun K hK => ?_
 clear hK
 refine wp_block ?_
 refine wp_seq_k fun K hK => ?_
 clear hK
 refine wp_block ?_
 refine wp_seq_k fun K hK => ?_
 clear hK
 refine wp_block ?_
 refine wp_seq_k fun K hK => ?_
 clear hK
 refine wp_block ?_
 refine wp_seq_k fun K hK => ?_
 clear hK
 refine wp_block ?_
 refine wp_seq_k fun K hK => ?_
 clear hK
 refine wp_block ?_
 refine wp_seq_k fun K hK => ?_
 clear hK
 refine wp_block ?_
 refine wp_seq_k fun K hK => ?_
 clear hK
 refine wp_block ?_
 refine wp_seq_k fun K hK => ?_
 clear hK
 refine wp_block ?_
 refine wp_seq_k fun K hK => ?_
 clear hK
 refine wp_block ?_
 refine wp_seq_k fun K hK => ?_
 clear hK
 refine wp_block ?_
 refine wp_seq_k fun K hK => ?_
 refine sw_sound _ _ _ { tmps := #[.pointer (some ⟨tp, 0, none⟩), .int .u8 58, undef, undef, .bool false, .pointer (some ⟨w1.heap.size, 0, none⟩), .bool S.pl.pend, .bool pr, .tuple #[.agg #[.int .i64 S.pl.at_.row, .int .i64 S.pl.at_.col], .bool S.pl.pend], .pointer (some ⟨tp, 0, none⟩), .pointer (some ⟨tp, 0, none⟩), .pointer (some ⟨tp, 0, none⟩), .pointer (some ⟨sp, 0, none⟩), .tuple #[.agg #[.int .i64 S.pl.at_.row, .int .i64 S.pl.at_.col], .bool S.pl.pend], .agg #[.int .i64 S.pl.at_.row, .int .i64 S.pl.at_.col], .bool S.pl.pend, .pointer (some ⟨tp, 0, none⟩), .pointer (some ⟨tp, 0, none⟩), .pointer (some ⟨tp, 2, none⟩), .pointer (some ⟨tp, 3, none⟩), .bool pr, .int .u8 58, .bool false, .bool false, .bool true, .bool false, .bool false, .bool true, undef, undef, undef, undef, undef, undef, undef, undef, undef, undef, undef, undef, undef, undef, undef, undef, undef, undef, undef, undef, undef, undef, undef, undef, undef, undef, undef, undef, undef, undef, undef, undef, undef, undef, undef, undef, undef, undef, undef, undef, undef, undef, undef, undef, undef, undef, undef, undef, undef, undef, undef, undef, undef, undef, undef, undef, undef, undef, undef, undef, undef, undef, undef, undef, undef, undef, undef, undef, undef, undef, undef, undef, undef, undef, undef, undef, undef, undef, undef, undef, undef, undef, undef, undef, undef, undef, undef, undef, undef, undef, undef, undef, undef, undef, undef, undef, undef, undef, undef, undef, undef, undef, undef, undef, undef, undef, undef, undef, undef, undef, undef, undef, undef, undef, undef, undef, undef, undef, undef, undef, undef, undef, undef, undef, undef, undef, undef, undef, undef, undef, undef, undef, undef, undef, undef, undef, undef, undef, undef, undef, undef, undef, undef, undef, undef, undef], defers := [] } .normal (by kernel_rfl) ?_
 refine hK _ _ ?_
 clear hK
 go_wp2_with (go_at_call 35; refine (adm_cleared (HA.out _ HB1.out)).mono ?_; rintro e w2 ⟨rfl, ht⟩; have HT := Lib.hid (ScrTo.after HB1.out ht); clear ht)
 go_ret
 exact ⟨rfl, HT.out⟩
theorem one_51 {w : World} {tp sp qp : Nat} {gd pr : Bool} {attr : Int} {V : Value} {F : Nat → Prop} {S : Vz.Sr} (h : Adm w tp sp qp gd pr attr V F S) : Calls Tryz.prog 85 #[.pointer (some ⟨tp, 0, none⟩), .int .u8 51] w fun e w' => e = .returned (.bool false) ∧ ScrTo w w' sp F (stopsS S 0) := by
 have HA := Lib.hid (fun W (hb : Below w.heap.size w W) => h.below hb)
 obtain ⟨t0, t1, t2, t3, _⟩ := h.cells
 have HCU := Lib.hid (scr_cursor sp F S w h.scr)
 clear h
 go_enter Tryz.func85, Tryz.ntmps85
 go_upto_block 0 with (go_at_call 14; refine HCU.out.mono ?_; rintro e w1 ⟨rfl, hb1⟩; have HB1 := Lib.hid (hb1.alloc hb1.size (.cells #[.int .i64 S.pl.at_.row, .int .i64 S.pl.at_.col] 36)); have HX := Lib.hid (heap_alloc_new w1 (.cells #[.int .i64 S.pl.at_.row, .int .i64 S.pl.at_.col] 36)); obtain ⟨y0, y1, y2, y3, y4, y5, g2, g3, g4, g5⟩ := (HA.out _ HB1.out).cells; clear hb1)
 refine wp_block ?_
 refine wp_seq_k fun K hK => ?_
 clear hK
 refine wp_block ?_
 refine wp_seq_k fun K hK => ?_
 clear hK
 refine wp_block ?_
 refine wp_seq_k fun K hK => ?_
 clear hK
 refine wp_block ?_
 refine wp_seq_k fun K hK => ?_
 clear hK
 refine wp_block ?_
 refine wp_seq_k fun K hK => ?_
 refine sw_sound _ _ _ { tmps := #[.pointer (some ⟨tp, 0, none⟩), .int .u8 51, undef, undef, .bool false, .pointer (some ⟨w1.heap.size, 0, none⟩), .bool S.pl.pend, .bool pr, .tuple #[.agg #[.int .i64 S.pl.at_.row, .int .i64 S.pl.at_.col], .bool S.pl.pend], .pointer (some ⟨tp, 0, none⟩), .pointer (some ⟨tp, 0, none⟩), .pointer (some ⟨tp, 0, none⟩), .pointer (some ⟨sp, 0, none⟩), .tuple #[.agg #[.int .i64 S.pl.at_.row, .int .i64 S.pl.at_.col], .bool S.pl.pend], .agg #[.int .i64 S.pl.at_.row, .int .i64 S.pl.at_.col], .bool S.pl.pend, .pointer (some ⟨tp, 0, none⟩), .pointer (some ⟨tp, 0, none⟩), .pointer (some ⟨tp, 2, none⟩), .pointer (some ⟨tp, 3, none⟩), .bool pr, .int .u8 51, .bool false, .bool false, .bool false, .bool false, .bool false, .bool false, .bool false, .bool false, .bool false, .bool false, .bool false, .bool false, .bool false, .bool false, .bool false, .bool false, .bool false, .bool false, .bool false, .bool false, .bool false, .bool false, .bool false, .bool false, .bool false, .bool false, .bool false, .bool false, .bool false, .bool true, .bool true, undef, undef, undef, undef, undef, undef, undef, undef, undef, undef, undef, undef, undef, undef, undef, undef, undef, undef, undef, undef, undef, undef, undef, undef, undef, undef, undef, undef, undef, undef, undef, undef, undef, undef, undef, undef, undef, undef, undef, undef, undef, undef, undef, undef, undef, undef, undef, undef, undef, undef, undef, undef, undef, undef, undef, undef, undef, undef, undef, undef, undef, undef, undef, undef, undef, undef, undef, undef, undef, undef, undef, undef, undef, undef, undef, undef, undef, undef, undef, undef, undef, undef, undef, undef, undef, undef, undef, undef, undef, undef, undef, undef, undef, undef, undef, undef, undef, undef, undef, undef, undef, undef, undef, undef, undef, undef, undef, undef, undef, undef, undef, undef, undef, undef, undef, undef, undef, undef, undef, undef, undef], defers := [] } .normal (by kernel_rfl) ?_
 refine hK _ _ ?_
 clear hK
 go_wp2_with (go_at_call 34; refine (scr_stops sp F S 0 _ (HA.out _ HB1.out).scr (by decide)).mono ?_; rintro e w2 ⟨rfl, ht⟩; have HT := Lib.hid (ScrTo.after HB1.out ht); clear ht)
 go_ret
 exact ⟨rfl, HT.out⟩
theorem one_105 {w : World} {tp sp qp : Nat} {gd pr : Bool} {attr : Int} {V : Value} {F : Nat → Prop} {S : Vz.Sr} (h : Adm w tp sp qp gd pr attr V F S) : Calls Tryz.prog 85 #[.pointer (some ⟨tp, 0, none⟩), .int .u8 105] w fun e w' => e = .returned (.bool false) ∧ ScrTo w w' sp F (tabS S 1) := by
 have HA := Lib.hid (fun W (hb : Below w.heap.size w W) => h.below hb)
 obtain ⟨t0, t1, t2, t3, _⟩ := h.cells
 have HCU := Lib.hid (scr_cursor sp F S w h.scr)
 clear h
 go_enter Tryz.func85, Tryz.ntmps85
 go_upto_block 0 with (go_at_call 14; refine HCU.out.mono ?_; rintro e w1 ⟨rfl, hb1⟩; have HB1 := Lib.hid (hb1.alloc hb1.size (.cells #[.int .i64 S.pl.at_.row, .int .i64 S.pl.at_.col] 36)); have HX := Lib.hid (heap_alloc_new w1 (.cells #[.int .i64 S.pl.at_.row, .int .i64 S.pl.at_.col] 36)); obtain ⟨y0, y1, y2, y3, y4, y5, g2, g3, g4, g5⟩ := (HA.out _ HB1.out).cells; clear hb1)
 refine wp_block ?_
 refine wp_seq_k fun K hK => ?_
 clear hK
 refine wp_block ?_
 refine wp_seq_k fun K hK => ?_
 clear hK
 refine wp_block ?_
 refine wp_seq_k fun K hK => ?_
 clear hK
 refine wp_block ?_
 refine wp_seq_k fun K hK => ?_
 refine sw_sound _ _ _ { tmps := #[.pointer (some ⟨tp, 0, none⟩), .int .u8 105, undef, undef, .bool false, .pointer (some ⟨w1.heap.size, 0, none⟩), .bool S.pl.pend, .bool pr, .tuple #[.agg #[.int .i64 S.pl.at_.row, .int .i64 S.pl.at_.col], .bool S.pl.pend], .pointer (some ⟨tp, 0, none⟩), .pointer (some ⟨tp, 0, none⟩), .pointer (some ⟨tp, 0, none⟩), .pointer (some ⟨sp, 0, none⟩), .tuple #[.agg #[.int .i64 S.pl.at_.row, .int .i64 S.pl.at_.col], .bool S.pl.pend], .agg #[.int .i64 S.pl.at_.row, .int .i64 S.pl.at_.col], .bool S.pl.pend, .pointer (some ⟨tp, 0, none⟩), .pointer (some ⟨tp, 0, none⟩), .pointer (some ⟨tp, 2, none⟩), .pointer (some ⟨tp, 3, none⟩), .bool pr, .int .u8 105, .bool false, .bool false, .bool false, .bool false, .bool false, .bool false, .bool false, .bool false, .bool false, .bool false, .bool false, .bool false, .bool false, .bool false, .bool false, .bool false, .bool false, .bool false, .bool false, .bool false, .bool false, .bool false, .bool false, .bool false, .bool false, .bool false, .bool false, .bool false, .bool false, .bool false, .bool false, .bool true, .bool true, undef, undef, undef, undef, undef, undef, undef, undef, undef, undef, undef, undef, undef, undef, undef, undef, undef, undef, undef, undef, undef, undef, undef, undef, undef, undef, undef, undef, undef, undef, undef, undef, undef, undef, undef, undef, undef, undef, undef, undef, undef, undef, undef, undef, undef, undef, undef, undef, undef, undef, undef, undef, undef, undef, undef, undef, undef, undef, undef, undef, undef, undef, undef, undef, undef, undef, undef, undef, undef, undef, undef, undef, undef, undef, undef, undef, undef, undef, undef, undef, undef, undef, undef, undef, undef, undef, undef, undef, undef, undef, undef, undef, undef, undef, undef, undef, undef, undef, undef, undef, undef, undef, undef, undef, undef, undef, undef, undef, undef, undef, undef, undef, undef, undef, undef, undef, undef, undef, undef], defers := [] } .normal (by kernel_rfl) ?_
 refine hK _ _ ?_
 clear hK
 go_wp2_with (go_at_call 79; refine (scr_tab sp F S 1 _ (HA.out _ HB1.out).scr (by decide)).mono ?_; rintro e w2 ⟨rfl, ht⟩; have HT := Lib.hid (ScrTo.after HB1.out ht); clear ht)
 go_ret
 exact ⟨rfl, HT.out⟩
theorem one_73 {w : World} {tp sp qp : Nat} {gd pr : Bool} {attr : Int} {V : Value} {F : Nat → Prop} {S : Vz.Sr} (h : Adm w tp sp qp gd pr attr V F S) : Calls Tryz.prog 85 #[.pointer (some ⟨tp, 0, none⟩), .int .u8 73] w fun e w' => e = .returned (.bool true) ∧ ScrTo w w' sp F (tabS S (-1)) := by
 have HA := Lib.hid (fun W (hb : Below w.heap.size w W) => h.below hb)
 obtain ⟨t0, t1, t2, t3, _⟩ := h.cells
 have HCU := Lib.hid (scr_cursor sp F S w h.scr)
 clear h
 go_enter Tryz.func85, Tryz.ntmps85
 go_upto_block 0 with (go_at_call 14; refine HCU.out.mono ?_; rintro e w1 ⟨rfl, hb1⟩; have HB1 := Lib.hid (hb1.alloc hb1.size (.cells #[.int .i64 S.pl.at_.row, .int .i64 S.pl.at_.col] 36)); have HX := Lib.hid (heap_alloc_new w1 (.cells #[.int .i64 S.pl.at_.row, .int .i64 S.pl.at_.col] 36)); obtain ⟨y0, y1, y2, y3, y4, y5, g2, g3, g4, g5⟩ := (HA.out _ HB1.out).cells; clear hb1)
 refine wp_block ?_
 refine wp_seq_k fun K hK => ?_
 clear hK
 refine wp_block ?_
 refine wp_seq_k fun K hK => ?_
 clear hK
 refine wp_block ?_
 refine wp_seq_k fun K hK => ?_
 refine sw_sound _ _ _ { tmps := #[.pointer (some ⟨tp, 0, none⟩), .int .u8 73, undef, undef, .bool false, .pointer (some ⟨w1.heap.size, 0, none⟩), .bool S.pl.pend, .bool pr, .tuple #[.agg #[.int .i64 S.pl.at_.row, .int .i64 S.pl.at_.col], .bool S.pl.pend], .pointer (some ⟨tp, 0, none⟩), .pointer (some ⟨tp, 0, none⟩), .pointer (some ⟨tp, 0, none⟩), .pointer (some ⟨sp, 0, none⟩), .tuple #[.agg #[.int .i64 S.pl.at_.row, .int .i64 S.pl.at_.col], .bool S.pl.pend], .agg #[.int .i64 S.pl.at_.row, .int .i64 S.pl.at_.col], .bool S.pl.pend, .pointer (some ⟨tp, 0, none⟩), .pointer (some ⟨tp, 0, none⟩), .pointer (some ⟨tp, 2, none⟩), .pointer (some ⟨tp, 3, none⟩), .bool pr, .int .u8 73, .bool false, .bool false, .bool false, .bool false, .bool false, .bool false, .bool false, .bool false, .bool false, .bool false, .bool false, .bool false, .bool false, .bool false, .bool false, .bool false, .bool false, .bool false, .bool false, .bool false, .bool false, .bool false, .bool false, .bool false, .bool false, .bool false, .bool false, .bool false, .bool false, .bool false, .bool false, .bool false, .bool false, .bool true, .bool true, undef, undef, undef, undef, undef, undef, undef, undef, undef, undef, undef, undef, undef, undef, undef, undef, undef, undef, undef, undef, undef, undef, undef, undef, undef, undef, undef, undef, undef, undef, undef, undef, undef, undef, undef, undef, undef, undef, undef, undef, undef, undef, undef, undef, undef, undef, undef, undef, undef, undef, undef, undef, undef, undef, undef, undef, undef, undef, undef, undef, undef, undef, undef, undef, undef, undef, undef, undef, undef, undef, undef, undef, undef, undef, undef, undef, undef, undef, undef, undef, undef, undef, undef, undef, undef, undef, undef, undef, undef, undef, undef, undef, undef, undef, undef, undef, undef, undef, undef, undef, undef, undef, undef, undef, undef, undef, undef, undef, undef, undef, undef, undef, undef, undef, undef, undef, undef], defers := [] } .normal (by kernel_rfl) ?_
 refine hK _ _ ?_
 clear hK
 go_wp2_with (go_at_call 79; refine (scr_tab sp F S (-1) _ (HA.out _ HB1.out).scr (by decide)).mono ?_; rintro e w2 ⟨rfl, ht⟩; have HT := Lib.hid (ScrTo.after HB1.out ht); clear ht)
 go_ret
 exact ⟨rfl, HT.out⟩
theorem one_106_on {w : World} {tp sp qp : Nat} {gd : Bool} {attr : Int} {V : Value} {F : Nat → Prop} {S : Vz.Sr} (h : Adm w tp sp qp gd true attr V F S) : Calls Tryz.prog 85 #[.pointer (some ⟨tp, 0, none⟩), .int .u8 106] w fun e w' => e = .returned (.bool true) ∧ ScrTo w w' sp F (stepS S (-1) 0) := by
 have HA := Lib.hid (fun W (hb : Below w.heap.size w W) => h.below hb)
 obtain ⟨t0, t1, t2, t3, _⟩ := h.cells
 have HCU := Lib.hid (scr_cursor sp F S w h.scr)
 clear h
 go_enter Tryz.func85, Tryz.ntmps85
 go_upto_block 0 with (go_at_call 14; refine HCU.out.mono ?_; rintro e w1 ⟨rfl, hb1⟩; have HB1 := Lib.hid (hb1.alloc hb1.size (.cells #[.int .i64 S.pl.at_.row, .int .i64 S.pl.at_.col] 36)); have HX := Lib.hid (heap_alloc_new w1 (.cells #[.int .i64 S.pl.at_.row, .int .i64 S.pl.at_.col] 36)); obtain ⟨y0, y1, y2, y3, y4, y5, g2, g3, g4, g5⟩ := (HA.out _ HB1.out).cells; clear hb1)
 refine wp_block ?_
 refine wp_seq_k fun K hK => ?_
 clear hK
 refine wp_block ?_
 refine wp_seq_k fun K hK => ?_
 refine sw_sound _ _ _ { tmps := #[.pointer (some ⟨tp, 0, none⟩), .int .u8 106, undef, undef, .bool false, .pointer (some ⟨w1.heap.size, 0, none⟩), .bool S.pl.pend, .bool true, .tuple #[.agg #[.int .i64 S.pl.at_.row, .int .i64 S.pl.at_.col], .bool S.pl.pend], .pointer (some ⟨tp, 0, none⟩), .pointer (some ⟨tp, 0, none⟩), .pointer (some ⟨tp, 0, none⟩), .pointer (some ⟨sp, 0, none⟩), .tuple #[.agg #[.int .i64 S.pl.at_.row, .int .i64 S.pl.at_.col], .bool S.pl.pend], .agg #[.int .i64 S.pl.at_.row, .int .i64 S.pl.at_.col], .bool S.pl.pend, .pointer (some ⟨tp, 0, none⟩), .pointer (some ⟨tp, 0, none⟩), .pointer (some ⟨tp, 2, none⟩), .pointer (some ⟨tp, 3, none⟩), .bool true, .int .u8 106, .bool false, .bool false, .bool false, .bool false, .bool false, .bool false, .bool false, .bool false, .bool false, .bool false, .bool false, .bool false, .bool false, .bool false, .bool false, .bool false, .bool false, .bool false, .bool false, .bool false, .bool false, .bool false, .bool false, .bool false, .bool false, .bool false, .bool false, .bool false, .bool false, .bool false, .bool false, .bool false, .bool false, .bool false, .bool false, .bool true, .bool true, undef, undef, undef, undef, undef, undef, undef, undef, undef, undef, undef, undef, undef, undef, undef, undef, undef, undef, undef, undef, undef, undef, undef, undef, undef, undef, undef, undef, undef, undef, undef, undef, undef, undef, undef, undef, undef, undef, undef, undef, undef, undef, undef, undef, undef, undef, undef, undef, undef, undef, undef, undef, undef, undef, undef, undef, undef, undef, undef, undef, undef, undef, undef, undef, undef, undef, undef, undef, undef, undef, undef, undef, undef, undef, undef, undef, undef, undef, undef, undef, undef, undef, undef, undef, undef, undef, undef, undef, undef, undef, undef, undef, undef, undef, undef, undef, undef, undef, undef, undef, undef, undef, undef, undef, undef, undef, undef, undef, undef, undef, undef, undef, undef, undef, undef], defers := [] } .normal (by kernel_rfl) ?_
 refine hK _ _ ?_
 clear hK
 go_wp2_with (go_at_call 78; refine (scr_step sp F S (-1) 0 _ (HA.out _ HB1.out).scr).mono ?_; rintro e w2 ⟨rfl, ht⟩; have HT := Lib.hid (ScrTo.after HB1.out ht); clear ht)
 go_ret
 exact ⟨rfl, HT.out⟩
theorem one_106_off {w : World} {tp sp qp : Nat} {gd : Bool} {attr : Int} {V : Value} {F : Nat → Prop} {S : Vz.Sr} (h : Adm w tp sp qp gd false attr V F S) : Calls Tryz.prog 85 #[.pointer (some ⟨tp, 0, none⟩), .int .u8 106] w fun e w' => e = .returned (.bool true) ∧ ScrTo w w' sp F (feedS S (-1)) := by
 have HA := Lib.hid (fun W (hb : Below w.heap.size w W) => h.below hb)
 obtain ⟨t0, t1, t2, t3, _⟩ := h.cells
 have HCU := Lib.hid (scr_cursor sp F S w h.scr)
 clear h
 go_enter Tryz.func85, Tryz.ntmps85
 go_upto_block 0 with (go_at_call 14; refine HCU.out.mono ?_; rintro e w1 ⟨rfl, hb1⟩; have HB1 := Lib.hid (hb1.alloc hb1.size (.cells #[.int .i64 S.pl.at_.row, .int .i64 S.pl.at_.col] 36)); have HX := Lib.hid (heap_alloc_new w1 (.cells #[.int .i64 S.pl.at_.row, .int .i64 S.pl.at_.col] 36)); obtain ⟨y0, y1, y2, y3, y4, y5, g2, g3, g4, g5⟩ := (HA.out _ HB1.out).cells; clear hb1)
 refine wp_block ?_
 refine wp_seq_k fun K hK => ?_
 clear hK
 refine wp_block ?_
 refine wp_seq_k fun K hK => ?_
 refine sw_sound _ _ _ { tmps := #[.pointer (some ⟨tp, 0, none⟩), .int .u8 106, undef, undef, .bool false, .pointer (some ⟨w1.heap.size, 0, none⟩), .bool S.pl.pend, .bool false, .tuple #[.agg #[.int .i64 S.pl.at_.row, .int .i64 S.pl.at_.col], .bool S.pl.pend], .pointer (some ⟨tp, 0, none⟩), .pointer (some ⟨tp, 0, none⟩), .pointer (some ⟨tp, 0, none⟩), .pointer (some ⟨sp, 0, none⟩), .tuple #[.agg #[.int .i64 S.pl.at_.row, .int .i64 S.pl.at_.col], .bool S.pl.pend], .agg #[.int .i64 S.pl.at_.row, .int .i64 S.pl.at_.col], .bool S.pl.pend, .pointer (some ⟨tp, 0, none⟩), .pointer (some ⟨tp, 0, none⟩), .pointer (some ⟨tp, 2, none⟩), .pointer (some ⟨tp, 3, none⟩), .bool false, .int .u8 106, .bool false, .bool false, .bool false, .bool false, .bool false, .bool false, .bool false, .bool false, .bool false, .bool false, .bool false, .bool false, .bool false, .bool false, .bool false, .bool false, .bool false, .bool false, .bool false, .bool false, .bool false, .bool false, .bool false, .bool false, .bool false, .bool false, .bool false, .bool false, .bool false, .bool false, .bool false, .bool false, .bool false, .bool false, .bool false, .bool true, .bool true, undef, undef, undef, undef, undef, undef, undef, undef, undef, undef, undef, undef, undef, undef, undef, undef, undef, undef, undef, undef, undef, undef, undef, undef, undef, undef, undef, undef, undef, undef, undef, undef, undef, undef, undef, undef, undef, undef, undef, undef, undef, undef, undef, undef, undef, undef, undef, undef, undef, undef, undef, undef, undef, undef, undef, undef, undef, undef, undef, undef, undef, undef, undef, undef, undef, undef, undef, undef, undef, undef, undef, undef, undef, undef, undef, undef, undef, undef, undef, undef, undef, undef, undef, undef, undef, undef, undef, undef, undef, undef, undef, undef, undef, undef, undef, undef, undef, undef, undef, undef, undef, undef, undef, undef, undef, undef, undef, undef, undef, undef, undef, undef, undef, undef, undef], defers := [] } .normal (by kernel_rfl) ?_
 refine hK _ _ ?_
 clear hK
 go_wp2_with (go_at_call 105; refine (scr_feed sp F S (-1) _ (HA.out _ HB1.out).scr).mono ?_; rintro e w2 ⟨rfl, ht⟩; have HT := Lib.hid (ScrTo.after HB1.out ht); clear ht)
 go_ret
 exact ⟨rfl, HT.out⟩
theorem one_40 {w : World} {tp sp qp : Nat} {gd pr : Bool} {attr : Int} {V : Value} {F : Nat → Prop} {S : Vz.Sr} (h : Adm w tp sp qp gd pr attr V F S) : Calls Tryz.prog 85 #[.pointer (some ⟨tp, 0, none⟩), .int .u8 40] w fun e w' => e = .returned (.bool false) ∧ w'.heap[tp]? = some (.cells (termB sp qp false pr attr V) 87 (0, 0)) ∧ Keeps (fun k => k = tp) w w' := by
 have HA := Lib.hid (fun W (hb : Below w.heap.size w W) => h.below hb)
 obtain ⟨t0, t1, t2, t3, _⟩ := h.cells
 have HCU := Lib.hid (scr_cursor sp F S w h.scr)
 clear h
 go_enter Tryz.func85, Tryz.ntmps85
 go_upto_block 0 with (go_at_call 14; refine HCU.out.mono ?_; rintro e w1 ⟨rfl, hb1⟩; have HB1 := Lib.hid (hb1.alloc hb1.size (.cells #[.int .i64 S.pl.at_.row, .int .i64 S.pl.at_.col] 36)); have HX := Lib.hid (heap_alloc_new w1 (.cells #[.int .i64 S.pl.at_.row, .int .i64 S.pl.at_.col] 36)); obtain ⟨y0, y1, y2, y3, y4, y5, g2, g3, g4, g5⟩ := (HA.out _ HB1.out).cells; clear hb1)
 refine wp_block ?_
 refine wp_seq_k fun K hK => ?_
 clear hK
 refine wp_block ?_
 refine wp_seq_k fun K hK => ?_
 clear hK
 refine wp_block ?_
 refine wp_seq_k fun K hK => ?_
 clear hK
 refine wp_block ?_
 refine wp_seq_k fun K hK => ?_
 clear hK
 refine wp_block ?_
 refine wp_seq_k fun K hK => ?_
 clear hK
 refine wp_block ?_
 refine wp_seq_k fun K hK => ?_
 clear hK
 refine wp_block ?_
 refine wp_seq_k fun K hK => ?_
 clear hK
 refine wp_block ?_
 refine wp_seq_k fun K hK => ?_
 refine sw_sound _ _ _ { tmps := #[.pointer (some ⟨tp, 0, none⟩), .int .u8 40, undef, undef, .bool false, .pointer (some ⟨w1.heap.size, 0, none⟩), .bool S.pl.pend, .bool pr, .tuple #[.agg #[.int .i64 S.pl.at_.row, .int .i64 S.pl.at_.col], .bool S.pl.pend], .pointer (some ⟨tp, 0, none⟩), .pointer (some ⟨tp, 0, none⟩), .pointer (some ⟨tp, 0, none⟩), .pointer (some ⟨sp, 0, none⟩), .tuple #[.agg #[.int .i64 S.pl.at_.row, .int .i64 S.pl.at_.col], .bool S.pl.pend], .agg #[.int .i64 S.pl.at_.row, .int .i64 S.pl.at_.col], .bool S.pl.pend, .pointer (some ⟨tp, 0, none⟩), .pointer (some ⟨tp, 0, none⟩), .pointer (some ⟨tp, 2, none⟩), .pointer (some ⟨tp, 3, none⟩), .bool pr, .int .u8 40, .bool false, .bool false, .bool false, .bool false, .bool false, .bool false, .bool false, .bool false, .bool false, .bool false, .bool false, .bool false, .bool false, .bool false, .bool false, .bool false, .bool false, .bool false, .bool false, .bool false, .bool true, .bool true, undef, undef, undef, undef, undef, undef, undef, undef, undef, undef, undef, undef, undef, undef, undef, undef, undef, undef, undef, undef, undef, undef, undef, undef, undef, undef, undef, undef, undef, undef, undef, undef, undef, undef, undef, undef, undef, undef, undef, undef, undef, undef, undef, undef, undef, undef, undef, undef, undef, undef, undef, undef, undef, undef, undef, undef, undef, undef, undef, undef, undef, undef, undef, undef, undef, undef, undef, undef, undef, undef, undef, undef, undef, undef, undef, undef, undef, undef, undef, undef, undef, undef, undef, undef, undef, undef, undef, undef, undef, undef, undef, undef, undef, undef, undef, undef, undef, undef, undef, undef, undef, undef, undef, undef, undef, undef, undef, undef, undef, undef, undef, undef, undef, undef, undef, undef, undef, undef, undef, undef, undef, undef, undef, undef, undef, undef, undef, undef, undef, undef], defers := [] } .normal (by kernel_rfl) ?_
 refine hK _ _ ?_
 clear hK
 go_wp2_with fail
 go_ret
 exact ⟨rfl, heap_set_same (HA.out _ HB1.out).box 2 (.bool false), (Keeps.of_below HB1.out : Keeps (fun k => k = tp) w _).setCell' (p := ⟨tp, 2, none⟩) rfl _⟩
theorem one_41 {w : World} {tp sp qp : Nat} {gd pr : Bool} {attr : Int} {V : Value} {F : Nat → Prop} {S : Vz.Sr} (h : Adm w tp sp qp gd pr attr V F S) : Calls Tryz.prog 85 #[.pointer (some ⟨tp, 0, none⟩), .int .u8 41] w fun e w' => e = .returned (.bool false) ∧ w'.heap[tp]? = some (.cells (termB sp qp true pr attr V) 87 (0, 0)) ∧ Keeps (fun k => k = tp) w w' := by
 have HA := Lib.hid (fun W (hb : Below w.heap.size w W) => h.below hb)
 obtain ⟨t0, t1, t2, t3, _⟩ := h.cells
 have HCU := Lib.hid (scr_cursor sp F S w h.scr)
 clear h
 go_enter Tryz.func85, Tryz.ntmps85
 go_upto_block 0 with (go_at_call 14; refine HCU.out.mono ?_; rintro e w1 ⟨rfl, hb1⟩; have HB1 := Lib.hid (hb1.alloc hb1.size (.cells #[.int .i64 S.pl.at_.row, .int .i64 S.pl.at_.col] 36)); have HX := Lib.hid (heap_alloc_new w1 (.cells #[.int .i64 S.pl.at_.row, .int .i64 S.pl.at_.col] 36)); obtain ⟨y0, y1, y2, y3, y4, y5, g2, g3, g4, g5⟩ := (HA.out _ HB1.out).cells; clear hb1)
 refine wp_block ?_
 refine wp_seq_k fun K hK => ?_
 clear hK
 refine wp_block ?_
 refine wp_seq_k fun K hK => ?_
 clear hK
 refine wp_block ?_
 refine wp_seq_k fun K hK => ?_
 clear hK
 refine wp_block ?_
 refine wp_seq_k fun K hK => ?_
 clear hK
 refine wp_block ?_
 refine wp_seq_k fun K hK => ?_
 clear hK
 refine wp_block ?_
 refine wp_seq_k fun K hK => ?_
 clear hK
 refine wp_block ?_
 refine wp_seq_k fun K hK => ?_
 clear hK
 refine wp_block ?_
 refine wp_seq_k fun K hK => ?_
 refine sw_sound _ _ _ { tmps := #[.pointer (some ⟨tp, 0, none⟩), .int .u8 41, undef, undef, .bool false, .pointer (some ⟨w1.heap.size, 0, none⟩), .bool S.pl.pend, .bool pr, .tuple #[.agg #[.int .i64 S.pl.at_.row, .int .i64 S.pl.at_.col], .bool S.pl.pend], .pointer (some ⟨tp, 0, none⟩), .pointer (some ⟨tp, 0, none⟩), .pointer (some ⟨tp, 0, none⟩), .pointer (some ⟨sp, 0, none⟩), .tuple #[.agg #[.int .i64 S.pl.at_.row, .int .i64 S.pl.at_.col], .bool S.pl.pend], .agg #[.int .i64 S.pl.at_.row, .int .i64 S.pl.at_.col], .bool S.pl.pend, .pointer (some ⟨tp, 0, none⟩), .pointer (some ⟨tp, 0, none⟩), .pointer (some ⟨tp, 2, none⟩), .pointer (some ⟨tp, 3, none⟩), .bool pr, .int .u8 41, .bool false, .bool false, .bool false, .bool false, .bool false, .bool false, .bool false, .bool false, .bool false, .bool false, .bool false, .bool false, .bool false, .bool false, .bool false, .bool false, .bool false, .bool false, .bool false, .bool false, .bool true, .bool false, .bool true, undef, undef, undef, undef, undef, undef, undef, undef, undef, undef, undef, undef, undef, undef, undef, undef, undef, undef, undef, undef, undef, undef, undef, undef, undef, undef, undef, undef, undef, undef, undef, undef, undef, undef, undef, undef, undef, undef, undef, undef, undef, undef, undef, undef, undef, undef, undef, undef, undef, undef, undef, undef, undef, undef, undef, undef, undef, undef, undef, undef, undef, undef, undef, undef, undef, undef, undef, undef, undef, undef, undef, undef, undef, undef, undef, undef, undef, undef, undef, undef, undef, undef, undef, undef, undef, undef, undef, undef, undef, undef, undef, undef, undef, undef, undef, undef, undef, undef, undef, undef, undef, undef, undef, undef, undef, undef, undef, undef, undef, undef, undef, undef, undef, undef, undef, undef, undef, undef, undef, undef, undef, undef, undef, undef, undef, undef, undef, undef, undef], defers := [] } .normal (by kernel_rfl) ?_
 refine hK _ _ ?_
 clear hK
 go_wp2_with fail
 go_ret
 exact ⟨rfl, heap_set_same (HA.out _ HB1.out).box 2 (.bool true), (Keeps.of_below HB1.out : Keeps (fun k => k = tp) w _).setCell' (p := ⟨tp, 2, none⟩) rfl _⟩
theorem one_38 {w : World} {tp sp qp : Nat} {gd pr : Bool} {attr : Int} {V : Value} {F : Nat → Prop} {S : Vz.Sr} (h : Adm w tp sp qp gd pr attr V F S) : Calls Tryz.prog 85 #[.pointer (some ⟨tp, 0, none⟩), .int .u8 38] w fun e w' => e = .returned (.bool false) ∧ w'.heap[tp]? = some (.cells (termB sp qp gd true attr V) 87 (0, 0)) ∧ Keeps (fun k => k = tp) w w' := by
 have HA := Lib.hid (fun W (hb : Below w.heap.size w W) => h.below hb)
 obtain ⟨t0, t1, t2, t3, _⟩ := h.cells
 have HCU := Lib.hid (scr_cursor sp F S w h.scr)
 clear h
 go_enter Tryz.func85, Tryz.ntmps85
 go_upto_block 0 with (go_at_call 14; refine HCU.out.mono ?_; rintro e w1 ⟨rfl, hb1⟩; have HB1 := Lib.hid (hb1.alloc hb1.size (.cells #[.int .i64 S.pl.at_.row, .int .i64 S.pl.at_.col] 36)); have HX := Lib.hid (heap_alloc_new w1 (.cells #[.int .i64 S.pl.at_.row, .int .i64 S.pl.at_.col] 36)); obtain ⟨y0, y1, y2, y3, y4, y5, g2, g3, g4, g5⟩ := (HA.out _ HB1.out).cells; clear hb1)
 refine wp_block ?_
 refine wp_seq_k fun K hK => ?_
 clear hK
 refine wp_block ?_
 refine wp_seq_k fun K hK => ?_
 clear hK
 refine wp_block ?_
 refine wp_seq_k fun K hK => ?_
 clear hK
 refine wp_block ?_
 refine wp_seq_k fun K hK => ?_
 clear hK
 refine wp_block ?_
 refine wp_seq_k fun K hK => ?_
 clear hK
 refine wp_block ?_
 refine wp_seq_k fun K hK => ?_
 clear hK
 refine wp_block ?_
 refine wp_seq_k fun K hK => ?_
 refine sw_sound _ _ _ { tmps := #[.pointer (some ⟨tp, 0, none⟩), .int .u8 38, undef, undef, .bool false, .pointer (some ⟨w1.heap.size, 0, none⟩), .bool S.pl.pend, .bool pr, .tuple #[.agg #[.int .i64 S.pl.at_.row, .int .i64 S.pl.at_.col], .bool S.pl.pend], .pointer (some ⟨tp, 0, none⟩), .pointer (some ⟨tp, 0, none⟩), .pointer (some ⟨tp, 0, none⟩), .pointer (some ⟨sp, 0, none⟩), .tuple #[.agg #[.int .i64 S.pl.at_.row, .int .i64 S.pl.at_.col], .bool S.pl.pend], .agg #[.int .i64 S.pl.at_.row, .int .i64 S.pl.at_.col], .bool S.pl.pend, .pointer (some ⟨tp, 0, none⟩), .pointer (some ⟨tp, 0, none⟩), .pointer (some ⟨tp, 2, none⟩), .pointer (some ⟨tp, 3, none⟩), .bool pr, .int .u8 38, .bool false, .bool false, .bool false, .bool false, .bool false, .bool false, .bool false, .bool false, .bool false, .bool false, .bool false, .bool false, .bool false, .bool false, .bool false, .bool false, .bool false, .bool false, .bool false, .bool false, .bool false, .bool false, .bool false, .bool true, .bool true, undef, undef, undef, undef, undef, undef, undef, undef, undef, undef, undef, undef, undef, undef, undef, undef, undef, undef, undef, undef, undef, undef, undef, undef, undef, undef, undef, undef, undef, undef, undef, undef, undef, undef, undef, undef, undef, undef, undef, undef, undef, undef, undef, undef, undef, undef, undef, undef, undef, undef, undef, undef, undef, undef, undef, undef, undef, undef, undef, undef, undef, undef, undef, undef, undef, undef, undef, undef, undef, undef, undef, undef, undef, undef, undef, undef, undef, undef, undef, undef, undef, undef, undef, undef, undef, undef, undef, undef, undef, undef, undef, undef, undef, undef, undef, undef, undef, undef, undef, undef, undef, undef, undef, undef, undef, undef, undef, undef, undef, undef, undef, undef, undef, undef, undef, undef, undef, undef, undef, undef, undef, undef, undef, undef, undef, undef, undef], defers := [] } .normal (by kernel_rfl) ?_
 refine hK _ _ ?_
 clear hK
 go_wp2_with fail
 go_ret
 exact ⟨rfl, heap_set_same (HA.out _ HB1.out).box 3 (.bool true), (Keeps.of_below HB1.out : Keeps (fun k => k = tp) w _).setCell' (p := ⟨tp, 3, none⟩) rfl _⟩
theorem one_39 {w : World} {tp sp qp : Nat} {gd pr : Bool} {attr : Int} {V : Value} {F : Nat → Prop} {S : Vz.Sr} (h : Adm w tp sp qp gd pr attr V F S) : Calls Tryz.prog 85 #[.pointer (some ⟨tp, 0, none⟩), .int .u8 39] w fun e w' => e = .returned (.bool false) ∧ w'.heap[tp]? = some (.cells (termB sp qp gd false attr V) 87 (0, 0)) ∧ Keeps (fun k => k = tp) w w' := by
 have HA := Lib.hid (fun W (hb : Below w.heap.size w W) => h.below hb)
 obtain ⟨t0, t1, t2, t3, _⟩ := h.cells
 have HCU := Lib.hid (scr_cursor sp F S w h.scr)
 clear h
 go_enter Tryz.func85, Tryz.ntmps85
 go_upto_block 0 with (go_at_call 14; refine HCU.out.mono ?_; rintro e w1 ⟨rfl, hb1⟩; have HB1 := Lib.hid (hb1.alloc hb1.size (.cells #[.int .i64 S.pl.at_.row, .int .i64 S.pl.at_.col] 36)); have HX := Lib.hid (heap_alloc_new w1 (.cells #[.int .i64 S.pl.at_.row, .int .i64 S.pl.at_.col] 36)); obtain ⟨y0, y1, y2, y3, y4, y5, g2, g3, g4, g5⟩ := (HA.out _ HB1.out).cells; clear hb1)
 refine wp_block ?_
 refine wp_seq_k fun K hK => ?_
 clear hK
 refine wp_block ?_
 refine wp_seq_k fun K hK => ?_
 clear hK
 refine wp_block ?_
 refine wp_seq_k fun K hK => ?_
 clear hK
 refine wp_block ?_
 refine wp_seq_k fun K hK => ?_
 clear hK
 refine wp_block ?_
 refine wp_seq_k fun K hK => ?_
 clear hK
 refine wp_block ?_
 refine wp_seq_k fun K hK => ?_
 clear hK
 refine wp_block ?_
 refine wp_seq_k fun K hK => ?_
 refine sw_sound _ _ _ { tmps := #[.pointer (some ⟨tp, 0, none⟩), .int .u8 39, undef, undef, .bool false, .pointer (some ⟨w1.heap.size, 0, none⟩), .bool S.pl.pend, .bool pr, .tuple #[.agg #[.int .i64 S.pl.at_.row, .int .i64 S.pl.at_.col], .bool S.pl.pend], .pointer (some ⟨tp, 0, none⟩), .pointer (some ⟨tp, 0, none⟩), .pointer (some ⟨tp, 0, none⟩), .pointer (some ⟨sp, 0, none⟩), .tuple #[.agg #[.int .i64 S.pl.at_.row, .int .i64 S.pl.at_.col], .bool S.pl.pend], .agg #[.int .i64 S.pl.at_.row, .int .i64 S.pl.at_.col], .bool S.pl.pend, .pointer (some ⟨tp, 0, none⟩), .pointer (some ⟨tp, 0, none⟩), .pointer (some ⟨tp, 2, none⟩), .pointer (some ⟨tp, 3, none⟩), .bool pr, .int .u8 39, .bool false, .bool false, .bool false, .bool false, .bool false, .bool false, .bool false, .bool false, .bool false, .bool false, .bool false, .bool false, .bool false, .bool false, .bool false, .bool false, .bool false, .bool false, .bool false, .bool false, .bool false, .bool false, .bool false, .bool true, .bool false, .bool true, undef, undef, undef, undef, undef, undef, undef, undef, undef, undef, undef, undef, undef, undef, undef, undef, undef, undef, undef, undef, undef, undef, undef, undef, undef, undef, undef, undef, undef, undef, undef, undef, undef, undef, undef, undef, undef, undef, undef, undef, undef, undef, undef, undef, undef, undef, undef, undef, undef, undef, undef, undef, undef, undef, undef, undef, undef, undef, undef, undef, undef, undef, undef, undef, undef, undef, undef, undef, undef, undef, undef, undef, undef, undef, undef, undef, undef, undef, undef, undef, undef, undef, undef, undef, undef, undef, undef, undef, undef, undef, undef, undef, undef, undef, undef, undef, undef, undef, undef, undef, undef, undef, undef, undef, undef, undef, undef, undef, undef, undef, undef, undef, undef, undef, undef, undef, undef, undef, undef, undef, undef, undef, undef, undef, undef, undef], defers := [] } .normal (by kernel_rfl) ?_
 refine hK _ _ ?_
 clear hK
 go_wp2_with fail
 go_ret
 exact ⟨rfl, heap_set_same (HA.out _ HB1.out).box 3 (.bool false), (Keeps.of_below HB1.out : Keeps (fun k => k = tp) w _).setCell' (p := ⟨tp, 3, none⟩) rfl _⟩
theorem one_69 {w : World} {tp sp qp : Nat} {gd pr : Bool} {attr : Int} {V : Value} {F : Nat → Prop} {S : Vz.Sr} (h : Adm w tp sp qp gd pr attr V F S) : Calls Tryz.prog 85 #[.pointer (some ⟨tp, 0, none⟩), .int .u8 69] w fun e w' => e = .returned (.bool false) ∧ ScrTo w w' sp F (linesS (columnS S 0) 1 Vz.Cl.blank pr) := by
 have HA := Lib.hid (fun W (hb : Below w.heap.size w W) => h.below hb)
 obtain ⟨t0, t1, t2, t3, _⟩ := h.cells
 have HCU := Lib.hid (scr_cursor sp F S w h.scr)
 clear h
 go_enter Tryz.func85, Tryz.ntmps85
 go_upto_block 0 with (go_at_call 14; refine HCU.out.mono ?_; rintro e w1 ⟨rfl, hb1⟩; have HB1 := Lib.hid (hb1.alloc hb1.size (.cells #[.int .i64 S.pl.at_.row, .int .i64 S.pl.at_.col] 36)); have HX := Lib.hid (heap_alloc_new w1 (.cells #[.int .i64 S.pl.at_.row, .int .i64 S.pl.at_.col] 36)); obtain ⟨y0, y1, y2, y3, y4, y5, g2, g3, g4, g5⟩ := (HA.out _ HB1.out).cells; clear hb1)
 refine wp_block ?_
 refine wp_seq_k fun K hK => ?_
 clear hK
 refine wp_block ?_
 refine wp_seq_k fun K hK => ?_
 clear hK
 refine wp_block ?_
 refine wp_seq_k fun K hK => ?_
 clear hK
 refine wp_block ?_
 refine wp_seq_k fun K hK => ?_
 clear hK
 refine wp_block ?_
 refine wp_seq_k fun K hK => ?_
 clear hK
 refine wp_block ?_
 refine wp_seq_k fun K hK => ?_
 clear hK
 refine wp_block ?_
 refine wp_seq_k fun K hK => ?_
 clear hK
 refine wp_block ?_
 refine wp_seq_k fun K hK => ?_
 clear hK
 refine wp_block ?_
 refine wp_seq_k fun K hK => ?_
 clear hK
 refine wp_block ?_
 refine wp_seq_k fun K hK => ?_
 clear hK
 refine wp_block ?_
 refine wp_seq_k fun K hK => ?_
 clear hK
 refine wp_block ?_
 refine wp_seq_k fun K hK => ?_
 refine sw_sound _ _ _ { tmps := #[.pointer (some ⟨tp, 0, none⟩), .int .u8 69, undef, undef, .bool false, .pointer (some ⟨w1.heap.size, 0, none⟩), .bool S.pl.pend, .bool pr, .tuple #[.agg #[.int .i64 S.pl.at_.row, .int .i64 S.pl.at_.col], .bool S.pl.pend], .pointer (some ⟨tp, 0, none⟩), .pointer (some ⟨tp, 0, none⟩), .pointer (some ⟨tp, 0, none⟩), .pointer (some ⟨sp, 0, none⟩), .tuple #[.agg #[.int .i64 S.pl.at_.row, .int .i64 S.pl.at_.col], .bool S.pl.pend], .agg #[.int .i64 S.pl.at_.row, .int .i64 S.pl.at_.col], .bool S.pl.pend, .pointer (some ⟨tp, 0, none⟩), .pointer (some ⟨tp, 0, none⟩), .pointer (some ⟨tp, 2, none⟩), .pointer (some ⟨tp, 3, none⟩), .bool pr, .int .u8 69, .bool false, .bool false, .bool false, .bool false, .bool false, .bool false, .bool false, .bool false, .bool false, .bool false, .bool false, .bool false, .bool true, .bool true, undef, undef, undef, undef, undef, undef, undef, undef, undef, undef, undef, undef, undef, undef, undef, undef, undef, undef, undef, undef, undef, undef, undef, undef, undef, undef, undef, undef, undef, undef, undef, undef, undef, undef, undef, undef, undef, undef, undef, undef, undef, undef, undef, undef, undef, undef, undef, undef, undef, undef, undef, undef, undef, undef, undef, undef, undef, undef, undef, undef, undef, undef, undef, undef, undef, undef, undef, undef, undef, undef, undef, undef, undef, undef, undef, undef, undef, undef, undef, undef, undef, undef, undef, undef, undef, undef, undef, undef, undef, undef, undef, undef, undef, undef, undef, undef, undef, undef, undef, undef, undef, undef, undef, undef, undef, undef, undef, undef, undef, undef, undef, undef, undef, undef, undef, undef, undef, undef, undef, undef, undef, undef, undef, undef, undef, undef, undef, undef, undef, undef, undef, undef, undef, undef, undef, undef, undef, undef], defers := [] } .normal (by kernel_rfl) ?_
 refine hK _ _ ?_
 clear hK
 go_upto_region 32 with (go_at_call 80; refine (adm_column (HA.out _ HB1.out) 0).mono ?_; rintro e w2 ⟨rfl, ht⟩; obtain ⟨F1, ha, hf, hk⟩ := (HA.out _ HB1.out).to ht; have HA1 := Lib.hid ha; have HT1 := Lib.hid hf; have HK1 := Lib.hid hk; clear ht ha hf hk)
 clear y0 y1 y2 y3 y4 y5 g2 g3 g4 g5
 have HD : Hid (Below w2.heap.size w2 w2.drew) := (Below.refl _ _).drew
 refine wp_region_noPanic ?_
 refine wp_region_k (S := fun W : World => Below w2.heap.size w2 W) 6 (by kernel_rfl) (HD.out) (fun hHeld => ?_)
 refine kSK 0 hHeld ?_
 refine kSK 1 hHeld ?_
 refine kSK 2 hHeld ?_
 refine kTK (v := ?_) 3 [] hHeld ?y4 ?_
 case y4 => (intro W hSw; obtain ⟨x0, x1, x2, x3, _⟩ := (HA1.out.below hSw).cells; obtain ⟨c0, c1, c2, c3⟩ := (HA1.out.below hSw).scr.blk.1.cells; go_simp; try with_reducible rfl)
 refine kTK (v := ?_) 4 [] hHeld ?y5 ?_
 case y5 => (intro W hSw; obtain ⟨x0, x1, x2, x3, _⟩ := (HA1.out.below hSw).cells; obtain ⟨c0, c1, c2, c3⟩ := (HA1.out.below hSw).scr.blk.1.cells; go_simp; try with_reducible rfl)
 try refine kNK ?_
 refine kSK 5 hHeld ?_
 try refine kNK ?_
 refine kPK 6 fun KQ hKQ => ?_
 go_simp
 go_at_call 109
 refine (scr_lines sp F1 (columnS S 0) 1 Vz.Cl.blank pr _ (HA1.out.below HD.out).scr).mono ?_
 rintro e w3 ⟨rfl, ht⟩
 have HT := Lib.hid (ScrTo.after HD.out ht)
 clear ht
 go_wp2_with fail
 refine hKQ.out _ _ ?_
 clear hKQ KQ
 try refine kNK ?_
 refine wpAnyK_done (by kernel_rfl) ?_ _
 refine NoPanic.normal ?_
 go_wp2_with fail
 go_ret
 exact ⟨rfl, ScrTo.after HB1.out (ScrTo.link HT1.out HK1.out HT.out)⟩
theorem one_82 {w : World} {tp sp qp : Nat} {gd pr : Bool} {attr : Int} {V : Value} {F : Nat → Prop} {S : Vz.Sr} (h : Adm w tp sp qp gd pr attr V F S) : Calls Tryz.prog 85 #[.pointer (some ⟨tp, 0, none⟩), .int .u8 82] w fun e w' => e = .returned (.bool false) ∧ ScrTo w w' sp F (linesS (columnS S 0) (-1) Vz.Cl.blank pr) := by
 have HA := Lib.hid (fun W (hb : Below w.heap.size w W) => h.below hb)
 obtain ⟨t0, t1, t2, t3, _⟩ := h.cells
 have HCU := Lib.hid (scr_cursor sp F S w h.scr)
 clear h
 go_enter Tryz.func85, Tryz.ntmps85
 go_upto_block 0 with (go_at_call 14; refine HCU.out.mono ?_; rintro e w1 ⟨rfl, hb1⟩; have HB1 := Lib.hid (hb1.alloc hb1.size (.cells #[.int .i64 S.pl.at_.row, .int .i64 S.pl.at_.col] 36)); have HX := Lib.hid (heap_alloc_new w1 (.cells #[.int .i64 S.pl.at_.row, .int .i64 S.pl.at_.col] 36)); obtain ⟨y0, y1, y2, y3, y4, y5, g2, g3, g4, g5⟩ := (HA.out _ HB1.out).cells; clear hb1)
 refine wp_block ?_
 refine wp_seq_k fun K hK => ?_
 clear hK
 refine wp_block ?_
 refine wp_seq_k fun K hK => ?_
 clear hK
 refine wp_block ?_
 refine wp_seq_k fun K hK => ?_
 clear hK
 refine wp_block ?_
 refine wp_seq_k fun K hK => ?_
 clear hK
 refine wp_block ?_
 refine wp_seq_k fun K hK => ?_
 clear hK
 refine wp_block ?_
 refine wp_seq_k fun K hK => ?_
 clear hK
 refine wp_block ?_
 refine wp_seq_k fun K hK => ?_
 clear hK
 refine wp_block ?_
 refine wp_seq_k fun K hK => ?_
 clear hK
 refine wp_block ?_
 refine wp_seq_k fun K hK => ?_
 clear hK
 refine wp_block ?_
 refine wp_seq_k fun K hK => ?_
 clear hK
 refine wp_block ?_
 refine wp_seq_k fun K hK => ?_
 refine sw_sound _ _ _ { tmps := #[.pointer (some ⟨tp, 0, none⟩), .int .u8 82, undef, undef, .bool false, .pointer (some ⟨w1.heap.size, 0, none⟩), .bool S.pl.pend, .bool pr, .tuple #[.agg #[.int .i64 S.pl.at_.row, .int .i64 S.pl.at_.col], .bool S.pl.pend], .pointer (some ⟨tp, 0, none⟩), .pointer (some ⟨tp, 0, none⟩), .pointer (some ⟨tp, 0, none⟩), .pointer (some ⟨sp, 0, none⟩), .tuple #[.agg #[.int .i64 S.pl.at_.row, .int .i64 S.pl.at_.col], .bool S.pl.pend], .agg #[.int .i64 S.pl.at_.row, .int .i64 S.pl.at_.col], .bool S.pl.pend, .pointer (some ⟨tp, 0, none⟩), .pointer (some ⟨tp, 0, none⟩), .pointer (some ⟨tp, 2, none⟩), .pointer (some ⟨tp, 3, none⟩), .bool pr, .int .u8 82, .bool false, .bool false, .bool false, .bool false, .bool false, .bool false, .bool false, .bool false, .bool false, .bool false, .bool false, .bool false, .bool false, .bool false, .bool true, .bool true, undef, undef, undef, undef, undef, undef, undef, undef, undef, undef, undef, undef, undef, undef, undef, undef, undef, undef, undef, undef, undef, undef, undef, undef, undef, undef, undef, undef, undef, undef, undef, undef, undef, undef, undef, undef, undef, undef, undef, undef, undef, undef, undef, undef, undef, undef, undef, undef, undef, undef, undef, undef, undef, undef, undef, undef, undef, undef, undef, undef, undef, undef, undef, undef, undef, undef, undef, undef, undef, undef, undef, undef, undef, undef, undef, undef, undef, undef, undef, undef, undef, undef, undef, undef, undef, undef, undef, undef, undef, undef, undef, undef, undef, undef, undef, undef, undef, undef, undef, undef, undef, undef, undef, undef, undef, undef, undef, undef, undef, undef, undef, undef, undef, undef, undef, undef, undef, undef, undef, undef, undef, undef, undef, undef, undef, undef, undef, undef, undef, undef, undef, undef, undef, undef, undef, undef], defers := [] } .normal (by kernel_rfl) ?_
 refine hK _ _ ?_
 clear hK
 go_upto_region 34 with (go_at_call 80; refine (adm_column (HA.out _ HB1.out) 0).mono ?_; rintro e w2 ⟨rfl, ht⟩; obtain ⟨F1, ha, hf, hk⟩ := (HA.out _ HB1.out).to ht; have HA1 := Lib.hid ha; have HT1 := Lib.hid hf; have HK1 := Lib.hid hk; clear ht ha hf hk)
 clear y0 y1 y2 y3 y4 y5 g2 g3 g4 g5
 have HD : Hid (Below w2.heap.size w2 w2.drew) := (Below.refl _ _).drew
 refine wp_region_noPanic ?_
 refine wp_region_k (S := fun W : World => Below w2.heap.size w2 W) 6 (by kernel_rfl) (HD.out) (fun hHeld => ?_)
 refine kSK 0 hHeld ?_
 refine kSK 1 hHeld ?_
 refine kSK 2 hHeld ?_
 refine kTK (v := ?_) 3 [] hHeld ?y4 ?_
 case y4 => (intro W hSw; obtain ⟨x0, x1, x2, x3, _⟩ := (HA1.out.below hSw).cells; obtain ⟨c0, c1, c2, c3⟩ := (HA1.out.below hSw).scr.blk.1.cells; go_simp; try with_reducible rfl)
 refine kTK (v := ?_) 4 [] hHeld ?y5 ?_
 case y5 => (intro W hSw; obtain ⟨x0, x1, x2, x3, _⟩ := (HA1.out.below hSw).cells; obtain ⟨c0, c1, c2, c3⟩ := (HA1.out.below hSw).scr.blk.1.cells; go_simp; try with_reducible rfl)
 try refine kNK ?_
 refine kSK 5 hHeld ?_
 try refine kNK ?_
 refine kPK 6 fun KQ hKQ => ?_
 go_simp
 go_at_call 109
 refine (scr_lines sp F1 (columnS S 0) (-1) Vz.Cl.blank pr _ (HA1.out.below HD.out).scr).mono ?_
 rintro e w3 ⟨rfl, ht⟩
 have HT := Lib.hid (ScrTo.after HD.out ht)
 clear ht
 go_wp2_with fail
 refine hKQ.out _ _ ?_
 clear hKQ KQ
 try refine kNK ?_
 refine wpAnyK_done (by kernel_rfl) ?_ _
 refine NoPanic.normal ?_
 go_wp2_with fail
 go_ret
 exact ⟨rfl, ScrTo.after HB1.out (ScrTo.link HT1.out HK1.out HT.out)⟩
theorem one_42 {w : World} {tp sp qp : Nat} {gd pr : Bool} {attr : Int} {V : Value} {F : Nat → Prop} {S : Vz.Sr} (h : Adm w tp sp qp gd pr attr V F S) (hnb : 0 ≠ tp) : Calls Tryz.prog 85 #[.pointer (some ⟨tp, 0, none⟩), .int .u8 42] w fun e w' => e = .returned (.bool false) ∧ ∃ w1, w1.heap[tp]? = some (.cells (termB sp qp false false attr V) 87 (0, 0)) ∧ Keeps (fun k => k = tp) w w1 ∧ ScrTo w1 w' sp F (clearS S false) := by
 have HA := Lib.hid (fun W (hb : Below w.heap.size w W) => h.below hb)
 obtain ⟨t0, t1, t2, t3, _⟩ := h.cells
 have HCU := Lib.hid (scr_cursor sp F S w h.scr)
 have HNT := Lib.hid h.ntp
 clear h
 go_enter Tryz.func85, Tryz.ntmps85
 go_upto_block 0 with (go_at_call 14; refine HCU.out.mono ?_; rintro e w1 ⟨rfl, hb1⟩; have HB1 := Lib.hid (hb1.alloc hb1.size (.cells #[.int .i64 S.pl.at_.row, .int .i64 S.pl.at_.col] 36)); have HX := Lib.hid (heap_alloc_new w1 (.cells #[.int .i64 S.pl.at_.row, .int .i64 S.pl.at_.col] 36)); obtain ⟨y0, y1, y2, y3, y4, y5, g2, g3, g4, g5⟩ := (HA.out _ HB1.out).cells; clear hb1)
 refine wp_block ?_
 refine wp_seq_k fun K hK => ?_
 clear hK
 refine wp_block ?_
 refine wp_seq_k fun K hK => ?_
 clear hK
 refine wp_block ?_
 refine wp_seq_k fun K hK => ?_
 clear hK
 refine wp_block ?_
 refine wp_seq_k fun K hK => ?_
 clear hK
 refine wp_block ?_
 refine wp_seq_k fun K hK => ?_
 clear hK
 refine wp_block ?_
 refine wp_seq_k fun K hK => ?_
 clear hK
 refine wp_block ?_
 refine wp_seq_k fun K hK => ?_
 clear hK
 refine wp_block ?_
 refine wp_seq_k fun K hK => ?_
 clear hK
 refine wp_block ?_
 refine wp_seq_k fun K hK => ?_
 clear hK
 refine wp_block ?_
 refine wp_seq_k fun K hK => ?_
 clear hK
 refine wp_block ?_
 refine wp_seq_k fun K hK => ?_
 clear hK
 refine wp_block ?_
 refine wp_seq_k fun K hK => ?_
 clear hK
 refine wp_block ?_
 refine wp_seq_k fun K hK => ?_
 clear hK
 refine wp_block ?_
 refine wp_seq_k fun K hK => ?_
 clear hK
 refine wp_block ?_
 refine wp_seq_k fun K2 hK2 => ?_
 refine wp_block ?_
 refine wp_seq_k fun K hK => ?_
 refine sw_sound _ _ _ { tmps := #[.pointer (some ⟨tp, 0, none⟩), .int .u8 42, undef, undef, .bool false, .pointer (some ⟨w1.heap.size, 0, none⟩), .bool S.pl.pend, .bool pr, .tuple #[.agg #[.int .i64 S.pl.at_.row, .int .i64 S.pl.at_.col], .bool S.pl.pend], .pointer (some ⟨tp, 0, none⟩), .pointer (some ⟨tp, 0, none⟩), .pointer (some ⟨tp, 0, none⟩), .pointer (some ⟨sp, 0, none⟩), .tuple #[.agg #[.int .i64 S.pl.at_.row, .int .i64 S.pl.at_.col], .bool S.pl.pend], .agg #[.int .i64 S.pl.at_.row, .int .i64 S.pl.at_.col], .bool S.pl.pend, .pointer (some ⟨tp, 0, none⟩), .pointer (some ⟨tp, 0, none⟩), .pointer (some ⟨tp, 2, none⟩), .pointer (some ⟨tp, 3, none⟩), .bool pr, .int .u8 42, .bool true, .bool true, undef, undef, undef, undef, undef, undef, undef, undef, undef, undef, undef, undef, undef, undef, undef, undef, undef, undef, undef, undef, undef, undef, undef, undef, undef, undef, undef, undef, undef, undef, undef, undef, undef, undef, undef, undef, undef, undef, undef, undef, undef, undef, undef, undef, undef, undef, undef, undef, undef, undef, undef, undef, undef, undef, undef, undef, undef, undef, undef, undef, undef, undef, undef, undef, undef, undef, undef, undef, undef, undef, undef, undef, undef, undef, undef, undef, undef, undef, undef, undef, undef, undef, undef, undef, undef, undef, undef, undef, undef, undef, undef, undef, undef, undef, undef, undef, undef, undef, undef, undef, undef, undef, undef, undef, undef, undef, undef, undef, undef, undef, undef, undef, undef, undef, undef, undef, undef, undef, undef, undef, undef, undef, undef, undef, undef, undef, undef, undef, undef, undef, undef, undef, undef, undef, undef, undef, undef, undef, undef, undef, undef, undef, undef, undef, undef, undef, undef, undef, undef, undef], defers := [] } .normal (by kernel_rfl) ?_
 refine hK _ _ ?_
 clear hK
 have HADM : Hid (Adm (((w1.alloc (.cells #[.int .i64 S.pl.at_.row, .int .i64 S.pl.at_.col] 36)).setCell ⟨tp, 2, none⟩ (.bool false)).setCell ⟨tp, 3, none⟩ (.bool false)) tp sp qp false false attr V F S ∧ Keeps (fun k => k = tp) w (((w1.alloc (.cells #[.int .i64 S.pl.at_.row, .int .i64 S.pl.at_.col] 36)).setCell ⟨tp, 2, none⟩ (.bool false)).setCell ⟨tp, 3, none⟩ (.bool false))) := by
  have h1 := HA.out _ HB1.out
  have hk : Keeps (fun k => k = tp) (w1.alloc (.cells #[.int .i64 S.pl.at_.row, .int .i64 S.pl.at_.col] 36)) (((w1.alloc (.cells #[.int .i64 S.pl.at_.row, .int .i64 S.pl.at_.col] 36)).setCell ⟨tp, 2, none⟩ (.bool false)).setCell ⟨tp, 3, none⟩ (.bool false)) := ((Keeps.refl (fun k => k = tp) _).setCell' (p := ⟨tp, 2, none⟩) rfl _).setCell' (p := ⟨tp, 3, none⟩) rfl _
  refine ⟨⟨heap_set_same (heap_set_same h1.box 2 (.bool false)) 3 (.bool false), ?_, h1.ntp⟩, (Keeps.of_below HB1.out).trans hk fun k hk => .inl hk⟩
  obtain ⟨gp, tp', mb, FG, hA, hG⟩ := h1.scr
  exact ⟨gp, tp', mb, FG, hA.of_blocks (fun k hf => hk.block k (hA.lt hf) (fun e => h1.ntp (e ▸ (hG k).2 hf))) (hk.block _ hA.blk.lt (fun e => hnb e)), hG⟩
 go_wp2_with (go_at_call 35; refine (adm_cleared HADM.out.1).mono ?_; rintro e w2 ⟨rfl, ht⟩; have HT := Lib.hid ht; clear ht)
 go_ret
 exact ⟨rfl, _, HADM.out.1.box, HADM.out.2, HT.out⟩
theorem told_q (n : Int) (h0 : 0 ≤ n) (h1 : n < 255) (W : World) : Calls Tryz.prog 112 #[.int .i64 n] W fun e w'' => e = .returned (.int .u8 (toldA n).toNat) ∧ w'' = W :=
 (told_ok n h0 h1 W).mono fun e w h => ⟨h.1, h.2.symm⟩
theorem conv_three (X : World) (a b : UInt8) : (convert 34 9 (.slice (some ⟨X.heap.size, 0, none⟩) 3 3)).run Tryz.prog (X.alloc (.cells #[.int .u8 a.toNat, .int .u8 b.toNat, .int .u8 13] 5)).drew = .ok (.string ⟨[a, b, 13].toArray⟩) (X.alloc (.cells #[.int .u8 a.toNat, .int .u8 b.toNat, .int .u8 13] 5)).drew := by
 refine run_convert_bytes_back _ _ _ _ ⟨X.heap.size, 0, none⟩ 3 [a, b, 13] Tryz.underlying34 Tryz.underlying5 Tryz.underlying9 fun j hj => ?_
 rw [addr_add0]
 rw [cell_row (show (X.alloc (.cells #[.int .u8 a.toNat, .int .u8 b.toNat, .int .u8 13] 5)).drew.heap[X.heap.size]? = _ from heap_alloc_new X _)]
 have hj : j < 3 := hj
 obtain rfl | rfl | rfl : j = 0 ∨ j = 1 ∨ j = 2 := by omega
 all_goals rfl
theorem one_63 {w : World} {tp sp qp lb fr : Nat} {gd pr : Bool} {attr : Int} {V : Value} {F : Nat → Prop} {S : Vz.Sr} {q : List UInt8} {over : Bool} (h : Adm w tp sp qp gd pr attr V F S) (hq : QueAt w qp lb fr q over) : Calls Tryz.prog 85 #[.pointer (some ⟨tp, 0, none⟩), .int .u8 63] w fun e w' => e = .returned (.bool false) ∧ QueTo w w' qp lb (pushQ q [toldA S.pl.at_.row, toldA S.pl.at_.col, 13]) (pushO q [toldA S.pl.at_.row, toldA S.pl.at_.col, 13] over) := by
 obtain ⟨m1, m2, m3, m4⟩ := h.scr.here.2
 obtain ⟨q1, q2, q3, q4⟩ := h.scr.here.1
 have HTR := Lib.hid (told_q S.pl.at_.row q1 (by omega))
 have HTC := Lib.hid (told_q S.pl.at_.col q3 (by omega))
 have HQ := Lib.hid hq
 have HA := Lib.hid (fun W (hb : Below w.heap.size w W) => h.below hb)
 obtain ⟨t0, t1, t2, t3, _⟩ := h.cells
 have HCU := Lib.hid (scr_cursor sp F S w h.scr)
 clear h
 go_enter Tryz.func85, Tryz.ntmps85
 go_upto_block 0 with (go_at_call 14; refine HCU.out.mono ?_; rintro e w1 ⟨rfl, hb1⟩; have HB1 := Lib.hid (hb1.alloc hb1.size (.cells #[.int .i64 S.pl.at_.row, .int .i64 S.pl.at_.col] 36)); have HX := Lib.hid (heap_alloc_new w1 (.cells #[.int .i64 S.pl.at_.row, .int .i64 S.pl.at_.col] 36)); obtain ⟨y0, y1, y2, y3, y4, y5, g2, g3, g4, g5⟩ := (HA.out _ HB1.out).cells; clear hb1)
 refine wp_block ?_
 refine wp_seq_k fun K hK => ?_
 refine sw_sound _ _ _ { tmps := #[.pointer (some ⟨tp, 0, none⟩), .int .u8 63, undef, undef, .bool false, .pointer (some ⟨w1.heap.size, 0, none⟩), .bool S.pl.pend, .bool pr, .tuple #[.agg #[.int .i64 S.pl.at_.row, .int .i64 S.pl.at_.col], .bool S.pl.pend], .pointer (some ⟨tp, 0, none⟩), .pointer (some ⟨tp, 0, none⟩), .pointer (some ⟨tp, 0, none⟩), .pointer (some ⟨sp, 0, none⟩), .tuple #[.agg #[.int .i64 S.pl.at_.row, .int .i64 S.pl.at_.col], .bool S.pl.pend], .agg #[.int .i64 S.pl.at_.row, .int .i64 S.pl.at_.col], .bool S.pl.pend, .pointer (some ⟨tp, 0, none⟩), .pointer (some ⟨tp, 0, none⟩), .pointer (some ⟨tp, 2, none⟩), .pointer (some ⟨tp, 3, none⟩), .bool pr, .int .u8 63, .bool false, .bool false, .bool false, .bool false, .bool false, .bool false, .bool false, .bool false, .bool false, .bool false, .bool false, .bool false, .bool false, .bool false, .bool false, .bool false, .bool false, .bool false, .bool false, .bool false, .bool false, .bool false, .bool false, .bool false, .bool false, .bool false, .bool false, .bool false, .bool false, .bool false, .bool false, .bool false, .bool false, .bool false, .bool false, .bool false, .bool false, .bool true, .bool true, undef, undef, undef, undef, undef, undef, undef, undef, undef, undef, undef, undef, undef, undef, undef, undef, undef, undef, undef, undef, undef, undef, undef, undef, undef, undef, undef, undef, undef, undef, undef, undef, undef, undef, undef, undef, undef, undef, undef, undef, undef, undef, undef, undef, undef, undef, undef, undef, undef, undef, undef, undef, undef, undef, undef, undef, undef, undef, undef, undef, undef, undef, undef, undef, undef, undef, undef, undef, undef, undef, undef, undef, undef, undef, undef, undef, undef, undef, undef, undef, undef, undef, undef, undef, undef, undef, undef, undef, undef, undef, undef, undef, undef, undef, undef, undef, undef, undef, undef, undef, undef, undef, undef, undef, undef, undef, undef, undef, undef, undef, undef, undef, undef], defers := [] } .normal (by kernel_rfl) ?_
 refine hK _ _ ?_
 clear hK
 go_upto_region 48 with fail
 clear y0 y1 y2 y3 y4 y5 g2 g3 g4 g5
 have HB2 : Hid (Below w.heap.size w (w1.alloc (.cells #[.int .i64 S.pl.at_.row, .int .i64 S.pl.at_.col] 36)).drew) := HB1.out.drew
 refine wp_region_noPanic ?_
 refine wp_region_k (S := fun W : World => Below w.heap.size w W ∧ W.heap[w1.heap.size]? = some (.cells #[.int .i64 S.pl.at_.row, .int .i64 S.pl.at_.col] 36 (0, 0))) 13 (by kernel_rfl) (⟨HB2.out, HX.out⟩) (fun hHeld => ?_)
 refine kSK 0 hHeld ?_
 refine kSK 1 hHeld ?_
 refine kSK 2 hHeld ?_
 refine kTK (v := ?_) 3 [] hHeld ?y4 ?_
 case y4 => (intro W hSw; obtain ⟨x0, x1, x2, x3, _⟩ := (HA.out _ hSw.1).cells; obtain ⟨p0, p1, _⟩ := row2 hSw.2; go_simp; try with_reducible rfl)
 refine kSK 4 hHeld ?_
 try refine kNK ?_
 refine kTK (v := ?_) 5 [9, 6] hHeld ?y6 ?_
 case y6 => (intro W hSw; obtain ⟨x0, x1, x2, x3, _⟩ := (HA.out _ hSw.1).cells; obtain ⟨p0, p1, _⟩ := row2 hSw.2; go_simp; try with_reducible rfl)
 refine kSK 7 hHeld ?_
 refine kTK (v := ?_) 8 [9] hHeld ?y8 ?_
 case y8 => (intro W hSw; obtain ⟨x0, x1, x2, x3, _⟩ := (HA.out _ hSw.1).cells; obtain ⟨p0, p1, _⟩ := row2 hSw.2; go_simp; try with_reducible rfl)
 try refine kNK ?_
 refine kOK 6 fun KQ hKQ => ?_
 go_simp
 go_at_call 112
 refine (HTR.out _).mono ?_
 rintro e w2 ⟨rfl, rfl⟩
 go_wp2_with fail
 refine hKQ.out _ _ (hHeld) ?_
 clear hHeld hKQ KQ
 intro hHeld
 try refine kNK ?_
 refine kOK 9 fun KQ hKQ => ?_
 go_simp
 go_at_call 112
 refine (HTC.out _).mono ?_
 rintro e w3 ⟨rfl, rfl⟩
 go_wp2_with fail
 refine hKQ.out _ _ (hHeld) ?_
 clear hHeld hKQ KQ
 intro hHeld
 try refine kNK ?_
 refine kOK 10 fun KQ hKQ => ?_
 go_simp
 refine hKQ.out _ _ (⟨hHeld.1.alloc hHeld.1.size _, (Below.heap_alloc _ _ _ (block_lt hHeld.2)).trans hHeld.2⟩) ?_
 clear hHeld hKQ KQ
 intro hHeld
 try refine kNK ?_
 have hcv := conv_three (w1.alloc (.cells #[.int .i64 S.pl.at_.row, .int .i64 S.pl.at_.col] 36)) (toldA S.pl.at_.row) (toldA S.pl.at_.col)
 rw [World.size_alloc] at hcv
 refine kOK 11 fun KQ hKQ => ?_
 go_simp
 skip
 refine hKQ.out _ _ (hHeld) ?_
 clear hHeld hKQ KQ
 intro hHeld
 try refine kNK ?_
 clear hcv
 refine kOK 12 fun KQ hKQ => ?_
 go_simp
 refine hKQ.out _ _ (⟨hHeld.1.alloc hHeld.1.size _, (Below.heap_alloc _ _ _ (block_lt hHeld.2)).trans hHeld.2⟩) ?_
 clear hHeld hKQ KQ
 intro hHeld
 try refine kNK ?_
 have HS12 := heap_alloc_new ((w1.alloc (.cells #[.int .i64 S.pl.at_.row, .int .i64 S.pl.at_.col] 36)).alloc (.cells #[.int .u8 (toldA S.pl.at_.row).toNat, .int .u8 (toldA S.pl.at_.col).toNat, .int .u8 13] 5)) (.cells #[.string ⟨[toldA S.pl.at_.row, toldA S.pl.at_.col, 13].toArray⟩] 9)
 rw [World.size_alloc, World.size_alloc] at HS12
 have hl := HQ.out.lt
 have hz := HB1.out.size
 rw [World.size_alloc] at hz
 have HBE := Lib.hid hHeld.1
 refine kPK 13 fun KQ hKQ => ?_
 go_simp
 go_at_call 77
 refine (que_push qp lb fr q over (w1.heap.size + 1 + 1) [toldA S.pl.at_.row, toldA S.pl.at_.col, 13] _ (HQ.out.below HBE.out) HS12 (by omega) (by omega) (by simp)).mono ?_
 rintro e w4 ⟨rfl, ht⟩
 have HT := Lib.hid (QueTo.after HBE.out ht)
 clear ht
 go_wp2_with fail
 refine hKQ.out _ _ ?_
 clear hKQ KQ
 try refine kNK ?_
 refine wpAnyK_done (by kernel_rfl) ?_ _
 refine NoPanic.normal ?_
 go_wp2_with fail
 go_ret
 exact ⟨rfl, HT.out⟩
end
end Go.Proofs.YtncgigapgklhcaaGreatDoor
