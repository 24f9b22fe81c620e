import Derived.Test.YteoeooijpjehpaaGreatDoorHA
import Derived.Test.YteoeooijpjehpaaGreatDoorProg
import Derived.WalkKit
import Derived.Test.YteoeooijpjehpaaGreatDoorII
import Derived.Deep.CutBlock

set_option maxRecDepth 100000
set_option maxHeartbeats 16000000
namespace Go.Proofs.YteoeooijpjehpaaGreatDoor
open Go.RowKit
set_option linter.unusedSimpArgs false
set_option linter.unusedVariables false
/- Tests of a switch over a byte, carried out by computation: a law that takes them in one step. -/
section
open Go Go.RowKit
def swOp (o : Oper) (a : Act) : Option Value :=
 match o.guard, o.op with
 | none, .binOp .eql 5 x y 5 => match a.eval x, a.eval y with
   | .int .u8 m, .int .u8 n => some (.bool (decide (m = n)))
   | _, _ => none
 | none, .assign x => some (a.eval x)
 | none, .move x => some (a.eval x)
 | _, _ => none
def swOps : List Oper → Act → Option Act
 | [], a => some a
 | o :: l, a => match swOp o a with
   | some v => swOps l (a.put o.dst v)
   | none => none
def sw : Code → Act → Option (Exit × Act)
 | .region _ ops false, a => match swOps ops.toList a with
   | some a' => some (.normal, a')
   | none => none
 | .seq x y, a => match sw x a with
   | some (.normal, a') => sw y a'
   | r => r
 | .cond c x y, a => match a.eval c with
   | .bool true => sw x a
   | .bool false => sw y a
   | _ => none
 | .block k x, a => match sw x a with
   | some (.exit j, a') => if j = k then some (.normal, a') else some (.exit j, a')
   | r => r
 | .exit k, a => some (.exit k, a)
 | .skip, a => some (.normal, a)
 | _, _ => none
theorem swOp_sound {o : Oper} {a : Act} {v : Value} (h : swOp o a = some v) (w : World) : o.guard = none ∧ (execOp a.eval o).run Tryz.prog w = .ok (.value v) w := by
 unfold swOp at h
 split at h
 · rename_i hg ho
   refine ⟨hg, ?_⟩
   split at h
   · rename_i m n hx hy
     injection h with h
     subst h
     have hu : Tryz.prog.underlying 5 = _ := Tryz.underlying5
     unfold execOp
     rw [ho]
     simp only [hx, hy]
     simp [go_sem, eqGuard]
     rfl
   · cases h
 · rename_i hg ho
   injection h with h
   subst h
   exact ⟨hg, by simp [execOp, ho, go_sem]⟩
 · rename_i hg ho
   injection h with h
   subst h
   exact ⟨hg, by simp [execOp, ho, go_sem]⟩
 · cases h
theorem swOps_sound {ops : Array Oper} {Q : Exit → Act → World → Prop} {w : World} : ∀ (l : List Oper) (a a' : Act), swOps l a = some a' → Q .normal a' w → wpList Tryz.prog ops Q l a w
 | [], a, a', h, hq => by
   unfold swOps at h
   injection h with h
   subst h
   exact wpList_nil hq
 | o :: l, a, a', h, hq => by
   unfold swOps at h
   split at h
   · rename_i v hv
     obtain ⟨hg, hr⟩ := swOp_sound hv w
     refine wpList_plain hg fun K hK => ?_
     unfold Oper.wp
     rw [hr]
     exact hK _ _ (swOps_sound l _ a' h hq)
   · cases h
theorem sw_sound {w : World} : ∀ (c : Code) (Q : Exit → Act → World → Prop) (a a' : Act) (e : Exit), sw c a = some (e, a') → Q e a' w → c.wp Tryz.prog Q a w := by
 intro c
 induction c with
 | region id ops d =>
   intro Q a a' e h hq
   cases d
   · simp only [sw] at h
     split at h
     · rename_i a2 h2
       injection h with h
       injection h with h3 h4
       subst h3; subst h4
       exact wp_region_list (swOps_sound _ _ _ h2 hq)
     · cases h
   · simp [sw] at h
 | seq x y ihx ihy =>
   intro Q a a' e h hq
   simp only [sw] at h
   refine wp_seq ?_
   split at h
   · rename_i a2 h2
     exact ihx _ a a2 .normal h2 (ihy Q a2 a' e h hq)
   · rename_i hn
     refine ihx _ a a' e h ?_
     cases e with
     | normal => exact absurd h (hn a')
     | _ => exact hq
 | cond c x y ihx ihy =>
   intro Q a a' e h hq
   simp only [sw] at h
   split at h
   · rename_i hc
     exact wp_cond_true hc (ihx Q a a' e h hq)
   · rename_i hc
     exact wp_cond_false hc (ihy Q a a' e h hq)
   · cases h
 | block k x ih =>
   intro Q a a' e h hq
   simp only [sw] at h
   refine wp_block ?_
   split at h
   · rename_i j a2 h2
     split at h
     · rename_i hj
       injection h with h
       injection h with h3 h4
       subst h3; subst h4; subst hj
       exact ih _ a a2 _ h2 (by simpa [Exit.inBlock] using hq)
     · rename_i hj
       injection h with h
       injection h with h3 h4
       subst h3; subst h4
       exact ih _ a a2 _ h2 (by simpa [Exit.inBlock, hj] using hq)
   · rename_i hn
     refine ih _ a a' e h ?_
     cases e with
     | exit j => exact absurd h (hn j a')
     | _ => exact hq
 | exit k =>
   intro Q a a' e h hq
   simp only [sw] at h
   injection h with h
   injection h with h3 h4
   subst h3; subst h4
   exact wp_exit hq
 | skip =>
   intro Q a a' e h hq
   simp only [sw] at h
   injection h with h
   injection h with h3 h4
   subst h3; subst h4
   exact wp_skip hq
 | _ => intro Q a a' e h hq; simp [sw] at h
end
section
attribute [local go_sem] alloc_drewN setCell_drewN World.cell?_alloc_some frozen_alloc_some size_f0 size_f1
theorem wone_43 {w : World} {tp sp qp : Nat} {A : Wy} {F : Nat → Prop} {S : Vz.Sr} (h : Wys w tp sp qp A F S) : Calls Tryz.prog 101 #[.pointer (some ⟨tp, 0, none⟩), .int .u8 43] w fun e w' => e = .returned (.bool false) ∧ ScrTo w w' sp F (clearS S A.pr) := by
 have HA := Lib.hid (fun W (hb : Below w.heap.size w W) => h.below hb)
 obtain ⟨t0, t1, t2, t3, _⟩ := h.cells
 have HCU := Lib.hid (scr_cursor sp F S w h.scr)
 clear h
 go_enter Tryz.func101, Tryz.ntmps101
 go_upto_block 0 with (go_at_call 22; refine HCU.out.mono ?_; rintro e w1 ⟨rfl, hb1⟩; have HB1 := Lib.hid (hb1.alloc hb1.size (.cells #[.int .i64 S.pl.at_.row, .int .i64 S.pl.at_.col] 49)); have HX := Lib.hid (heap_alloc_new w1 (.cells #[.int .i64 S.pl.at_.row, .int .i64 S.pl.at_.col] 49)); obtain ⟨y0, y1, y2, y3, y4, y5, y6, y7, _⟩ := (HA.out _ HB1.out).cells; clear hb1)
 refine wp_block ?_
 refine wp_seq_k fun K hK => ?_
 clear hK
 refine wp_block ?_
 refine wp_seq_k fun K hK => ?_
 clear hK
 refine wp_block ?_
 refine wp_seq_k fun K hK => ?_
 clear hK
 refine wp_block ?_
 refine wp_seq_k fun K hK => ?_
 clear hK
 refine wp_block ?_
 refine wp_seq_k fun K hK => ?_
 clear hK
 refine wp_block ?_
 refine wp_seq_k fun K hK => ?_
 clear hK
 refine wp_block ?_
 refine wp_seq_k fun K hK => ?_
 clear hK
 refine wp_block ?_
 refine wp_seq_k fun K hK => ?_
 clear hK
 refine wp_block ?_
 refine wp_seq_k fun K hK => ?_
 clear hK
 refine wp_block ?_
 refine wp_seq_k fun K hK => ?_
 clear hK
 refine wp_block ?_
 refine wp_seq_k fun K hK => ?_
 clear hK
 refine wp_block ?_
 refine wp_seq_k fun K hK => ?_
 clear hK
 refine wp_block ?_
 refine wp_seq_k fun K hK => ?_
 clear hK
 refine wp_block ?_
 refine wp_seq_k fun K hK => ?_
 clear hK
 refine wp_block ?_
 refine wp_seq_k fun K hK => ?_
 refine sw_sound _ _ _ { tmps := #[.pointer (some ⟨tp, 0, none⟩), .int .u8 43, undef, undef, .bool false, .pointer (some ⟨w1.heap.size, 0, none⟩), .bool S.pl.pend, .bool A.pr, undef, .tuple #[.agg #[.int .i64 S.pl.at_.row, .int .i64 S.pl.at_.col], .bool S.pl.pend], .pointer (some ⟨tp, 0, none⟩), .pointer (some ⟨tp, 0, none⟩), .pointer (some ⟨tp, 0, none⟩), .pointer (some ⟨sp, 0, none⟩), .tuple #[.agg #[.int .i64 S.pl.at_.row, .int .i64 S.pl.at_.col], .bool S.pl.pend], .agg #[.int .i64 S.pl.at_.row, .int .i64 S.pl.at_.col], .bool S.pl.pend, .pointer (some ⟨tp, 0, none⟩), .pointer (some ⟨tp, 0, none⟩), .pointer (some ⟨tp, 2, none⟩), .pointer (some ⟨tp, 3, none⟩), .bool A.pr, .int .u8 43, .bool false, .bool false, .bool true, .bool true, undef, undef, undef, undef, undef, undef, undef, undef, undef, undef, undef, undef, undef, undef, undef, undef, undef, undef, undef, undef, undef, undef, undef, undef, undef, undef, undef, undef, undef, undef, undef, undef, undef, undef, undef, undef, undef, undef, undef, undef, undef, undef, undef, undef, undef, undef, undef, undef, undef, undef, undef, undef, undef, undef, undef, undef, undef, undef, undef, undef, undef, undef, undef, undef, undef, undef, undef, undef, undef, undef, undef, undef, undef, undef, undef, undef, undef, undef, undef, undef, undef, undef, undef, undef, undef, undef, undef, undef, undef, undef, undef, undef, undef, undef, undef, undef, undef, undef, undef, undef, undef, undef, undef, undef, undef, undef, undef, undef, undef, undef, undef, undef, undef, undef, undef, undef, undef, undef, undef, undef, undef, undef, undef, undef, undef, undef, undef, undef, undef, undef, undef, undef, undef, undef, undef, undef, undef, undef, undef, undef, undef, undef, undef, undef, undef, undef, undef, undef, undef], defers := [] } .normal (by kernel_rfl) ?_
 refine hK _ _ ?_
 clear hK
 go_wp2_with (go_at_call 34; refine (wys_cleared (HA.out _ HB1.out)).mono ?_; rintro e w2 ⟨rfl, ht⟩; have HT := Lib.hid (ScrTo.after HB1.out ht); clear ht)
 go_ret
 exact ⟨rfl, HT.out⟩
theorem wone_59 {w : World} {tp sp qp : Nat} {A : Wy} {F : Nat → Prop} {S : Vz.Sr} (h : Wys w tp sp qp A F S) : Calls Tryz.prog 101 #[.pointer (some ⟨tp, 0, none⟩), .int .u8 59] w fun e w' => e = .returned (.bool false) ∧ ScrTo w w' sp F (clearS S A.pr) := by
 have HA := Lib.hid (fun W (hb : Below w.heap.size w W) => h.below hb)
 obtain ⟨t0, t1, t2, t3, _⟩ := h.cells
 have HCU := Lib.hid (scr_cursor sp F S w h.scr)
 clear h
 go_enter Tryz.func101, Tryz.ntmps101
 go_upto_block 0 with (go_at_call 22; refine HCU.out.mono ?_; rintro e w1 ⟨rfl, hb1⟩; have HB1 := Lib.hid (hb1.alloc hb1.size (.cells #[.int .i64 S.pl.at_.row, .int .i64 S.pl.at_.col] 49)); have HX := Lib.hid (heap_alloc_new w1 (.cells #[.int .i64 S.pl.at_.row, .int .i64 S.pl.at_.col] 49)); obtain ⟨y0, y1, y2, y3, y4, y5, y6, y7, _⟩ := (HA.out _ HB1.out).cells; clear hb1)
 refine wp_block ?_
 refine wp_seq_k fun K hK => ?_
 clear hK
 refine wp_block ?_
 refine wp_seq_k fun K hK => ?_
 clear hK
 refine wp_block ?_
 refine wp_seq_k fun K hK => ?_
 clear hK
 refine wp_block ?_
 refine wp_seq_k fun K hK => ?_
 clear hK
 refine wp_block ?_
 refine wp_seq_k fun K hK => ?_
 clear hK
 refine wp_block ?_
 refine wp_seq_k fun K hK => ?_
 clear hK
 refine wp_block ?_
 refine wp_seq_k fun K hK => ?_
 clear hK
 refine wp_block ?_
 refine wp_seq_k fun K hK => ?_
 clear hK
 refine wp_block ?_
 refine wp_seq_k fun K hK => ?_
 clear hK
 refine wp_block ?_
 refine wp_seq_k fun K hK => ?_
 clear hK
 refine wp_block ?_
 refine wp_seq_k fun K hK => ?_
 clear hK
 refine wp_block ?_
 refine wp_seq_k fun K hK => ?_
 clear hK
 refine wp_block ?_
 refine wp_seq_k fun K hK => ?_
 clear hK
 refine wp_block ?_
 refine wp_seq_k fun K hK => ?_
 clear hK
 refine wp_block ?_
 refine wp_seq_k fun K hK => ?_
 refine sw_sound _ _ _ { tmps := #[.pointer (some ⟨tp, 0, none⟩), .int .u8 59, undef, undef, .bool false, .pointer (some ⟨w1.heap.size, 0, none⟩), .bool S.pl.pend, .bool A.pr, undef, .tuple #[.agg #[.int .i64 S.pl.at_.row, .int .i64 S.pl.at_.col], .bool S.pl.pend], .pointer (some ⟨tp, 0, none⟩), .pointer (some ⟨tp, 0, none⟩), .pointer (some ⟨tp, 0, none⟩), .pointer (some ⟨sp, 0, none⟩), .tuple #[.agg #[.int .i64 S.pl.at_.row, .int .i64 S.pl.at_.col], .bool S.pl.pend], .agg #[.int .i64 S.pl.at_.row, .int .i64 S.pl.at_.col], .bool S.pl.pend, .pointer (some ⟨tp, 0, none⟩), .pointer (some ⟨tp, 0, none⟩), .pointer (some ⟨tp, 2, none⟩), .pointer (some ⟨tp, 3, none⟩), .bool A.pr, .int .u8 59, .bool false, .bool false, .bool true, .bool false, .bool true, undef, undef, undef, undef, undef, undef, undef, undef, undef, undef, undef, undef, undef, undef, undef, undef, undef, undef, undef, undef, undef, undef, undef, undef, undef, undef, undef, undef, undef, undef, undef, undef, undef, undef, undef, undef, undef, undef, undef, undef, undef, undef, undef, undef, undef, undef, undef, undef, undef, undef, undef, undef, undef, undef, undef, undef, undef, undef, undef, undef, undef, undef, undef, undef, undef, undef, undef, undef, undef, undef, undef, undef, undef, undef, undef, undef, undef, undef, undef, undef, undef, undef, undef, undef, undef, undef, undef, undef, undef, undef, undef, undef, undef, undef, undef, undef, undef, undef, undef, undef, undef, undef, undef, undef, undef, undef, undef, undef, undef, undef, undef, undef, undef, undef, undef, undef, undef, undef, undef, undef, undef, undef, undef, undef, undef, undef, undef, undef, undef, undef, undef, undef, undef, undef, undef, undef, undef, undef, undef, undef, undef, undef, undef, undef, undef, undef, undef, undef], defers := [] } .normal (by kernel_rfl) ?_
 refine hK _ _ ?_
 clear hK
 go_wp2_with (go_at_call 34; refine (wys_cleared (HA.out _ HB1.out)).mono ?_; rintro e w2 ⟨rfl, ht⟩; have HT := Lib.hid (ScrTo.after HB1.out ht); clear ht)
 go_ret
 exact ⟨rfl, HT.out⟩
theorem wone_58 {w : World} {tp sp qp : Nat} {A : Wy} {F : Nat → Prop} {S : Vz.Sr} (h : Wys w tp sp qp A F S) : Calls Tryz.prog 101 #[.pointer (some ⟨tp, 0, none⟩), .int .u8 58] w fun e w' => e = .returned (.bool false) ∧ ScrTo w w' sp F (clearS S A.pr) := by
 have HA := Lib.hid (fun W (hb : Below w.heap.size w W) => h.below hb)
 obtain ⟨t0, t1, t2, t3, _⟩ := h.cells
 have HCU := Lib.hid (scr_cursor sp F S w h.scr)
 clear h
 go_enter Tryz.func101, Tryz.ntmps101
 go_upto_block 0 with (go_at_call 22; refine HCU.out.mono ?_; rintro e w1 ⟨rfl, hb1⟩; have HB1 := Lib.hid (hb1.alloc hb1.size (.cells #[.int .i64 S.pl.at_.row, .int .i64 S.pl.at_.col] 49)); have HX := Lib.hid (heap_alloc_new w1 (.cells #[.int .i64 S.pl.at_.row, .int .i64 S.pl.at_.col] 49)); obtain ⟨y0, y1, y2, y3, y4, y5, y6, y7, _⟩ := (HA.out _ HB1.out).cells; clear hb1)
 refine wp_block ?_
 refine wp_seq_k fun K hK => ?_
 clear hK
 refine wp_block ?_
 refine wp_seq_k fun K hK => ?_
 clear hK
 refine wp_block ?_
 refine wp_seq_k fun K hK => ?_
 clear hK
 refine wp_block ?_
 refine wp_seq_k fun K hK => ?_
 clear hK
 refine wp_block ?_
 refine wp_seq_k fun K hK => ?_
 clear hK
 refine wp_block ?_
 refine wp_seq_k fun K hK => ?_
 clear hK
 refine wp_block ?_
 refine wp_seq_k fun K hK => ?_
 clear hK
 refine wp_block ?_
 refine wp_seq_k fun K hK => ?_
 clear hK
 refine wp_block ?_
 refine wp_seq_k fun K hK => ?_
 clear hK
 refine wp_block ?_
 refine wp_seq_k fun K hK => ?_
 clear hK
 refine wp_block ?_
 refine wp_seq_k fun K hK => ?_
 clear hK
 refine wp_block ?_
 refine wp_seq_k fun K hK => ?_
 clear hK
 refine wp_block ?_
 refine wp_seq_k fun K hK => ?_
 clear hK
 refine wp_block ?_
 refine wp_seq_k fun K hK => ?_
 clear hK
 refine wp_block ?_
 refine wp_seq_k fun K hK => ?_
 refine sw_sound _ _ _ { tmps := #[.pointer (some ⟨tp, 0, none⟩), .int .u8 58, undef, undef, .bool false, .pointer (some ⟨w1.heap.size, 0, none⟩), .bool S.pl.pend, .bool A.pr, undef, .tuple #[.agg #[.int .i64 S.pl.at_.row, .int .i64 S.pl.at_.col], .bool S.pl.pend], .pointer (some ⟨tp, 0, none⟩), .pointer (some ⟨tp, 0, none⟩), .pointer (some ⟨tp, 0, none⟩), .pointer (some ⟨sp, 0, none⟩), .tuple #[.agg #[.int .i64 S.pl.at_.row, .int .i64 S.pl.at_.col], .bool S.pl.pend], .agg #[.int .i64 S.pl.at_.row, .int .i64 S.pl.at_.col], .bool S.pl.pend, .pointer (some ⟨tp, 0, none⟩), .pointer (some ⟨tp, 0, none⟩), .pointer (some ⟨tp, 2, none⟩), .pointer (some ⟨tp, 3, none⟩), .bool A.pr, .int .u8 58, .bool false, .bool false, .bool true, .bool false, .bool false, .bool true, undef, undef, undef, undef, undef, undef, undef, undef, undef, undef, undef, undef, undef, undef, undef, undef, undef, undef, undef, undef, undef, undef, undef, undef, undef, undef, undef, undef, undef, undef, undef, undef, undef, undef, undef, undef, undef, undef, undef, undef, undef, undef, undef, undef, undef, undef, undef, undef, undef, undef, undef, undef, undef, undef, undef, undef, undef, undef, undef, undef, undef, undef, undef, undef, undef, undef, undef, undef, undef, undef, undef, undef, undef, undef, undef, undef, undef, undef, undef, undef, undef, undef, undef, undef, undef, undef, undef, undef, undef, undef, undef, undef, undef, undef, undef, undef, undef, undef, undef, undef, undef, undef, undef, undef, undef, undef, undef, undef, undef, undef, undef, undef, undef, undef, undef, undef, undef, undef, undef, undef, undef, undef, undef, undef, undef, undef, undef, undef, undef, undef, undef, undef, undef, undef, undef, undef, undef, undef, undef, undef, undef, undef, undef, undef, undef, undef, undef], defers := [] } .normal (by kernel_rfl) ?_
 refine hK _ _ ?_
 clear hK
 go_wp2_with (go_at_call 34; refine (wys_cleared (HA.out _ HB1.out)).mono ?_; rintro e w2 ⟨rfl, ht⟩; have HT := Lib.hid (ScrTo.after HB1.out ht); clear ht)
 go_ret
 exact ⟨rfl, HT.out⟩
theorem wone_48 {w : World} {tp sp qp : Nat} {A : Wy} {F : Nat → Prop} {S : Vz.Sr} (h : Wys w tp sp qp A F S) : Calls Tryz.prog 101 #[.pointer (some ⟨tp, 0, none⟩), .int .u8 48] w fun e w' => e = .returned (.bool false) ∧ ScrTo w w' sp F (stopsS S 0) := by
 have HA := Lib.hid (fun W (hb : Below w.heap.size w W) => h.below hb)
 obtain ⟨t0, t1, t2, t3, _⟩ := h.cells
 have HCU := Lib.hid (scr_cursor sp F S w h.scr)
 clear h
 go_enter Tryz.func101, Tryz.ntmps101
 go_upto_block 0 with (go_at_call 22; refine HCU.out.mono ?_; rintro e w1 ⟨rfl, hb1⟩; have HB1 := Lib.hid (hb1.alloc hb1.size (.cells #[.int .i64 S.pl.at_.row, .int .i64 S.pl.at_.col] 49)); have HX := Lib.hid (heap_alloc_new w1 (.cells #[.int .i64 S.pl.at_.row, .int .i64 S.pl.at_.col] 49)); obtain ⟨y0, y1, y2, y3, y4, y5, y6, y7, _⟩ := (HA.out _ HB1.out).cells; clear hb1)
 refine wp_block ?_
 refine wp_seq_k fun K hK => ?_
 clear hK
 refine wp_block ?_
 refine wp_seq_k fun K hK => ?_
 clear hK
 refine wp_block ?_
 refine wp_seq_k fun K hK => ?_
 clear hK
 refine wp_block ?_
 refine wp_seq_k fun K hK => ?_
 clear hK
 refine wp_block ?_
 refine wp_seq_k fun K hK => ?_
 clear hK
 refine wp_block ?_
 refine wp_seq_k fun K hK => ?_
 clear hK
 refine wp_block ?_
 refine wp_seq_k fun K hK => ?_
 clear hK
 refine wp_block ?_
 refine wp_seq_k fun K hK => ?_
 refine sw_sound _ _ _ { tmps := #[.pointer (some ⟨tp, 0, none⟩), .int .u8 48, undef, undef, .bool false, .pointer (some ⟨w1.heap.size, 0, none⟩), .bool S.pl.pend, .bool A.pr, undef, .tuple #[.agg #[.int .i64 S.pl.at_.row, .int .i64 S.pl.at_.col], .bool S.pl.pend], .pointer (some ⟨tp, 0, none⟩), .pointer (some ⟨tp, 0, none⟩), .pointer (some ⟨tp, 0, none⟩), .pointer (some ⟨sp, 0, none⟩), .tuple #[.agg #[.int .i64 S.pl.at_.row, .int .i64 S.pl.at_.col], .bool S.pl.pend], .agg #[.int .i64 S.pl.at_.row, .int .i64 S.pl.at_.col], .bool S.pl.pend, .pointer (some ⟨tp, 0, none⟩), .pointer (some ⟨tp, 0, none⟩), .pointer (some ⟨tp, 2, none⟩), .pointer (some ⟨tp, 3, none⟩), .bool A.pr, .int .u8 48, .bool false, .bool false, .bool false, .bool false, .bool false, .bool false, .bool false, .bool false, .bool false, .bool false, .bool false, .bool false, .bool false, .bool false, .bool false, .bool false, .bool false, .bool false, .bool false, .bool false, .bool false, .bool false, .bool true, .bool true, undef, undef, undef, undef, undef, undef, undef, undef, undef, undef, undef, undef, undef, undef, undef, undef, undef, undef, undef, undef, undef, undef, undef, undef, undef, undef, undef, undef, undef, undef, undef, undef, undef, undef, undef, undef, undef, undef, undef, undef, undef, undef, undef, undef, undef, undef, undef, undef, undef, undef, undef, undef, undef, undef, undef, undef, undef, undef, undef, undef, undef, undef, undef, undef, undef, undef, undef, undef, undef, undef, undef, undef, undef, undef, undef, undef, undef, undef, undef, undef, undef, undef, undef, undef, undef, undef, undef, undef, undef, undef, undef, undef, undef, undef, undef, undef, undef, undef, undef, undef, undef, undef, undef, undef, undef, undef, undef, undef, undef, undef, undef, undef, undef, undef, undef, undef, undef, undef, undef, undef, undef, undef, undef, undef, undef, undef, undef, undef, undef], defers := [] } .normal (by kernel_rfl) ?_
 refine hK _ _ ?_
 clear hK
 go_wp2_with (go_at_call 33; refine (scr_stops sp F S 0 _ (HA.out _ HB1.out).scr (by decide)).mono ?_; rintro e w2 ⟨rfl, ht⟩; have HT := Lib.hid (ScrTo.after HB1.out ht); clear ht)
 go_ret
 exact ⟨rfl, HT.out⟩
theorem wone_105 {w : World} {tp sp qp : Nat} {A : Wy} {F : Nat → Prop} {S : Vz.Sr} (h : Wys w tp sp qp A F S) : Calls Tryz.prog 101 #[.pointer (some ⟨tp, 0, none⟩), .int .u8 105] w fun e w' => e = .returned (.bool false) ∧ ScrTo w w' sp F (tabS S 1) := by
 have HA := Lib.hid (fun W (hb : Below w.heap.size w W) => h.below hb)
 obtain ⟨t0, t1, t2, t3, _⟩ := h.cells
 have HCU := Lib.hid (scr_cursor sp F S w h.scr)
 clear h
 go_enter Tryz.func101, Tryz.ntmps101
 go_upto_block 0 with (go_at_call 22; refine HCU.out.mono ?_; rintro e w1 ⟨rfl, hb1⟩; have HB1 := Lib.hid (hb1.alloc hb1.size (.cells #[.int .i64 S.pl.at_.row, .int .i64 S.pl.at_.col] 49)); have HX := Lib.hid (heap_alloc_new w1 (.cells #[.int .i64 S.pl.at_.row, .int .i64 S.pl.at_.col] 49)); obtain ⟨y0, y1, y2, y3, y4, y5, y6, y7, _⟩ := (HA.out _ HB1.out).cells; clear hb1)
 refine wp_block ?_
 refine wp_seq_k fun K hK => ?_
 clear hK
 refine wp_block ?_
 refine wp_seq_k fun K hK => ?_
 clear hK
 refine wp_block ?_
 refine wp_seq_k fun K hK => ?_
 clear hK
 refine wp_block ?_
 refine wp_seq_k fun K hK => ?_
 clear hK
 refine wp_block ?_
 refine wp_seq_k fun K hK => ?_
 clear hK
 refine wp_block ?_
 refine wp_seq_k fun K hK => ?_
 clear hK
 refine wp_block ?_
 refine wp_seq_k fun K hK => ?_
 refine sw_sound _ _ _ { tmps := #[.pointer (some ⟨tp, 0, none⟩), .int .u8 105, undef, undef, .bool false, .pointer (some ⟨w1.heap.size, 0, none⟩), .bool S.pl.pend, .bool A.pr, undef, .tuple #[.agg #[.int .i64 S.pl.at_.row, .int .i64 S.pl.at_.col], .bool S.pl.pend], .pointer (some ⟨tp, 0, none⟩), .pointer (some ⟨tp, 0, none⟩), .pointer (some ⟨tp, 0, none⟩), .pointer (some ⟨sp, 0, none⟩), .tuple #[.agg #[.int .i64 S.pl.at_.row, .int .i64 S.pl.at_.col], .bool S.pl.pend], .agg #[.int .i64 S.pl.at_.row, .int .i64 S.pl.at_.col], .bool S.pl.pend, .pointer (some ⟨tp, 0, none⟩), .pointer (some ⟨tp, 0, none⟩), .pointer (some ⟨tp, 2, none⟩), .pointer (some ⟨tp, 3, none⟩), .bool A.pr, .int .u8 105, .bool false, .bool false, .bool false, .bool false, .bool false, .bool false, .bool false, .bool false, .bool false, .bool false, .bool false, .bool false, .bool false, .bool false, .bool false, .bool false, .bool false, .bool false, .bool false, .bool false, .bool false, .bool false, .bool false, .bool false, .bool true, .bool true, undef, undef, undef, undef, undef, undef, undef, undef, undef, undef, undef, undef, undef, undef, undef, undef, undef, undef, undef, undef, undef, undef, undef, undef, undef, undef, undef, undef, undef, undef, undef, undef, undef, undef, undef, undef, undef, undef, undef, undef, undef, undef, undef, undef, undef, undef, undef, undef, undef, undef, undef, undef, undef, undef, undef, undef, undef, undef, undef, undef, undef, undef, undef, undef, undef, undef, undef, undef, undef, undef, undef, undef, undef, undef, undef, undef, undef, undef, undef, undef, undef, undef, undef, undef, undef, undef, undef, undef, undef, undef, undef, undef, undef, undef, undef, undef, undef, undef, undef, undef, undef, undef, undef, undef, undef, undef, undef, undef, undef, undef, undef, undef, undef, undef, undef, undef, undef, undef, undef, undef, undef, undef, undef, undef, undef, undef, undef], defers := [] } .normal (by kernel_rfl) ?_
 refine hK _ _ ?_
 clear hK
 go_wp2_with (go_at_call 125; refine (scr_tab sp F S 1 _ (HA.out _ HB1.out).scr (by decide)).mono ?_; rintro e w2 ⟨rfl, ht⟩; have HT := Lib.hid (ScrTo.after HB1.out ht); clear ht)
 go_ret
 exact ⟨rfl, HT.out⟩
theorem wone_73 {w : World} {tp sp qp : Nat} {A : Wy} {F : Nat → Prop} {S : Vz.Sr} (h : Wys w tp sp qp A F S) : Calls Tryz.prog 101 #[.pointer (some ⟨tp, 0, none⟩), .int .u8 73] w fun e w' => e = .returned (.bool true) ∧ ScrTo w w' sp F (tabS S (-1)) := by
 have HA := Lib.hid (fun W (hb : Below w.heap.size w W) => h.below hb)
 obtain ⟨t0, t1, t2, t3, _⟩ := h.cells
 have HCU := Lib.hid (scr_cursor sp F S w h.scr)
 clear h
 go_enter Tryz.func101, Tryz.ntmps101
 go_upto_block 0 with (go_at_call 22; refine HCU.out.mono ?_; rintro e w1 ⟨rfl, hb1⟩; have HB1 := Lib.hid (hb1.alloc hb1.size (.cells #[.int .i64 S.pl.at_.row, .int .i64 S.pl.at_.col] 49)); have HX := Lib.hid (heap_alloc_new w1 (.cells #[.int .i64 S.pl.at_.row, .int .i64 S.pl.at_.col] 49)); obtain ⟨y0, y1, y2, y3, y4, y5, y6, y7, _⟩ := (HA.out _ HB1.out).cells; clear hb1)
 refine wp_block ?_
 refine wp_seq_k fun K hK => ?_
 clear hK
 refine wp_block ?_
 refine wp_seq_k fun K hK => ?_
 clear hK
 refine wp_block ?_
 refine wp_seq_k fun K hK => ?_
 clear hK
 refine wp_block ?_
 refine wp_seq_k fun K hK => ?_
 clear hK
 refine wp_block ?_
 refine wp_seq_k fun K hK => ?_
 clear hK
 refine wp_block ?_
 refine wp_seq_k fun K hK => ?_
 refine sw_sound _ _ _ { tmps := #[.pointer (some ⟨tp, 0, none⟩), .int .u8 73, undef, undef, .bool false, .pointer (some ⟨w1.heap.size, 0, none⟩), .bool S.pl.pend, .bool A.pr, undef, .tuple #[.agg #[.int .i64 S.pl.at_.row, .int .i64 S.pl.at_.col], .bool S.pl.pend], .pointer (some ⟨tp, 0, none⟩), .pointer (some ⟨tp, 0, none⟩), .pointer (some ⟨tp, 0, none⟩), .pointer (some ⟨sp, 0, none⟩), .tuple #[.agg #[.int .i64 S.pl.at_.row, .int .i64 S.pl.at_.col], .bool S.pl.pend], .agg #[.int .i64 S.pl.at_.row, .int .i64 S.pl.at_.col], .bool S.pl.pend, .pointer (some ⟨tp, 0, none⟩), .pointer (some ⟨tp, 0, none⟩), .pointer (some ⟨tp, 2, none⟩), .pointer (some ⟨tp, 3, none⟩), .bool A.pr, .int .u8 73, .bool false, .bool false, .bool false, .bool false, .bool false, .bool false, .bool false, .bool false, .bool false, .bool false, .bool false, .bool false, .bool false, .bool false, .bool false, .bool false, .bool false, .bool false, .bool false, .bool false, .bool false, .bool false, .bool false, .bool false, .bool false, .bool false, .bool true, .bool true, undef, undef, undef, undef, undef, undef, undef, undef, undef, undef, undef, undef, undef, undef, undef, undef, undef, undef, undef, undef, undef, undef, undef, undef, undef, undef, undef, undef, undef, undef, undef, undef, undef, undef, undef, undef, undef, undef, undef, undef, undef, undef, undef, undef, undef, undef, undef, undef, undef, undef, undef, undef, undef, undef, undef, undef, undef, undef, undef, undef, undef, undef, undef, undef, undef, undef, undef, undef, undef, undef, undef, undef, undef, undef, undef, undef, undef, undef, undef, undef, undef, undef, undef, undef, undef, undef, undef, undef, undef, undef, undef, undef, undef, undef, undef, undef, undef, undef, undef, undef, undef, undef, undef, undef, undef, undef, undef, undef, undef, undef, undef, undef, undef, undef, undef, undef, undef, undef, undef, undef, undef, undef, undef, undef, undef], defers := [] } .normal (by kernel_rfl) ?_
 refine hK _ _ ?_
 clear hK
 go_wp2_with (go_at_call 125; refine (scr_tab sp F S (-1) _ (HA.out _ HB1.out).scr (by decide)).mono ?_; rintro e w2 ⟨rfl, ht⟩; have HT := Lib.hid (ScrTo.after HB1.out ht); clear ht)
 go_ret
 exact ⟨rfl, HT.out⟩
theorem wone_106_on {w : World} {tp sp qp : Nat} {A : Wy} {F : Nat → Prop} {S : Vz.Sr} (h : Wys w tp sp qp A F S) (hpr : A.pr = true) : Calls Tryz.prog 101 #[.pointer (some ⟨tp, 0, none⟩), .int .u8 106] w fun e w' => e = .returned (.bool true) ∧ ScrTo w w' sp F (stepS S (-1) 0) := by
 have HA := Lib.hid (fun W (hb : Below w.heap.size w W) => h.below hb)
 obtain ⟨t0, t1, t2, t3, _⟩ := h.cells
 have HCU := Lib.hid (scr_cursor sp F S w h.scr)
 rw [hpr] at t3
 have HPR := Lib.hid hpr
 clear h hpr
 go_enter Tryz.func101, Tryz.ntmps101
 go_upto_block 0 with (go_at_call 22; refine HCU.out.mono ?_; rintro e w1 ⟨rfl, hb1⟩; have HB1 := Lib.hid (hb1.alloc hb1.size (.cells #[.int .i64 S.pl.at_.row, .int .i64 S.pl.at_.col] 49)); have HX := Lib.hid (heap_alloc_new w1 (.cells #[.int .i64 S.pl.at_.row, .int .i64 S.pl.at_.col] 49)); obtain ⟨y0, y1, y2, y3, y4, y5, y6, y7, _⟩ := (HA.out _ HB1.out).cells; rw [HPR.out] at y3; clear hb1)
 refine wp_block ?_
 refine wp_seq_k fun K hK => ?_
 clear hK
 refine wp_block ?_
 refine wp_seq_k fun K hK => ?_
 clear hK
 refine wp_block ?_
 refine wp_seq_k fun K hK => ?_
 clear hK
 refine wp_block ?_
 refine wp_seq_k fun K hK => ?_
 clear hK
 refine wp_block ?_
 refine wp_seq_k fun K hK => ?_
 refine sw_sound _ _ _ { tmps := #[.pointer (some ⟨tp, 0, none⟩), .int .u8 106, undef, undef, .bool false, .pointer (some ⟨w1.heap.size, 0, none⟩), .bool S.pl.pend, .bool true, undef, .tuple #[.agg #[.int .i64 S.pl.at_.row, .int .i64 S.pl.at_.col], .bool S.pl.pend], .pointer (some ⟨tp, 0, none⟩), .pointer (some ⟨tp, 0, none⟩), .pointer (some ⟨tp, 0, none⟩), .pointer (some ⟨sp, 0, none⟩), .tuple #[.agg #[.int .i64 S.pl.at_.row, .int .i64 S.pl.at_.col], .bool S.pl.pend], .agg #[.int .i64 S.pl.at_.row, .int .i64 S.pl.at_.col], .bool S.pl.pend, .pointer (some ⟨tp, 0, none⟩), .pointer (some ⟨tp, 0, none⟩), .pointer (some ⟨tp, 2, none⟩), .pointer (some ⟨tp, 3, none⟩), .bool true, .int .u8 106, .bool false, .bool false, .bool false, .bool false, .bool false, .bool false, .bool false, .bool false, .bool false, .bool false, .bool false, .bool false, .bool false, .bool false, .bool false, .bool false, .bool false, .bool false, .bool false, .bool false, .bool false, .bool false, .bool false, .bool false, .bool false, .bool false, .bool false, .bool false, .bool true, .bool true, undef, undef, undef, undef, undef, undef, undef, undef, undef, undef, undef, undef, undef, undef, undef, undef, undef, undef, undef, undef, undef, undef, undef, undef, undef, undef, undef, undef, undef, undef, undef, undef, undef, undef, undef, undef, undef, undef, undef, undef, undef, undef, undef, undef, undef, undef, undef, undef, undef, undef, undef, undef, undef, undef, undef, undef, undef, undef, undef, undef, undef, undef, undef, undef, undef, undef, undef, undef, undef, undef, undef, undef, undef, undef, undef, undef, undef, undef, undef, undef, undef, undef, undef, undef, undef, undef, undef, undef, undef, undef, undef, undef, undef, undef, undef, undef, undef, undef, undef, undef, undef, undef, undef, undef, undef, undef, undef, undef, undef, undef, undef, undef, undef, undef, undef, undef, undef, undef, undef, undef, undef, undef, undef], defers := [] } .normal (by kernel_rfl) ?_
 refine hK _ _ ?_
 clear hK
 go_wp2_with (go_at_call 87; refine (scr_step sp F S (-1) 0 _ (HA.out _ HB1.out).scr).mono ?_; rintro e w2 ⟨rfl, ht⟩; have HT := Lib.hid (ScrTo.after HB1.out ht); clear ht)
 go_ret
 exact ⟨rfl, HT.out⟩
theorem wone_106_off {w : World} {tp sp qp : Nat} {A : Wy} {F : Nat → Prop} {S : Vz.Sr} (h : Wys w tp sp qp A F S) (hpr : A.pr = false) : Calls Tryz.prog 101 #[.pointer (some ⟨tp, 0, none⟩), .int .u8 106] w fun e w' => e = .returned (.bool true) ∧ ScrTo w w' sp F (feedS S (-1)) := by
 have HA := Lib.hid (fun W (hb : Below w.heap.size w W) => h.below hb)
 obtain ⟨t0, t1, t2, t3, _⟩ := h.cells
 have HCU := Lib.hid (scr_cursor sp F S w h.scr)
 rw [hpr] at t3
 have HPR := Lib.hid hpr
 clear h hpr
 go_enter Tryz.func101, Tryz.ntmps101
 go_upto_block 0 with (go_at_call 22; refine HCU.out.mono ?_; rintro e w1 ⟨rfl, hb1⟩; have HB1 := Lib.hid (hb1.alloc hb1.size (.cells #[.int .i64 S.pl.at_.row, .int .i64 S.pl.at_.col] 49)); have HX := Lib.hid (heap_alloc_new w1 (.cells #[.int .i64 S.pl.at_.row, .int .i64 S.pl.at_.col] 49)); obtain ⟨y0, y1, y2, y3, y4, y5, y6, y7, _⟩ := (HA.out _ HB1.out).cells; rw [HPR.out] at y3; clear hb1)
 refine wp_block ?_
 refine wp_seq_k fun K hK => ?_
 clear hK
 refine wp_block ?_
 refine wp_seq_k fun K hK => ?_
 clear hK
 refine wp_block ?_
 refine wp_seq_k fun K hK => ?_
 clear hK
 refine wp_block ?_
 refine wp_seq_k fun K hK => ?_
 clear hK
 refine wp_block ?_
 refine wp_seq_k fun K hK => ?_
 refine sw_sound _ _ _ { tmps := #[.pointer (some ⟨tp, 0, none⟩), .int .u8 106, undef, undef, .bool false, .pointer (some ⟨w1.heap.size, 0, none⟩), .bool S.pl.pend, .bool false, undef, .tuple #[.agg #[.int .i64 S.pl.at_.row, .int .i64 S.pl.at_.col], .bool S.pl.pend], .pointer (some ⟨tp, 0, none⟩), .pointer (some ⟨tp, 0, none⟩), .pointer (some ⟨tp, 0, none⟩), .pointer (some ⟨sp, 0, none⟩), .tuple #[.agg #[.int .i64 S.pl.at_.row, .int .i64 S.pl.at_.col], .bool S.pl.pend], .agg #[.int .i64 S.pl.at_.row, .int .i64 S.pl.at_.col], .bool S.pl.pend, .pointer (some ⟨tp, 0, none⟩), .pointer (some ⟨tp, 0, none⟩), .pointer (some ⟨tp, 2, none⟩), .pointer (some ⟨tp, 3, none⟩), .bool false, .int .u8 106, .bool false, .bool false, .bool false, .bool false, .bool false, .bool false, .bool false, .bool false, .bool false, .bool false, .bool false, .bool false, .bool false, .bool false, .bool false, .bool false, .bool false, .bool false, .bool false, .bool false, .bool false, .bool false, .bool false, .bool false, .bool false, .bool false, .bool false, .bool false, .bool true, .bool true, undef, undef, undef, undef, undef, undef, undef, undef, undef, undef, undef, undef, undef, undef, undef, undef, undef, undef, undef, undef, undef, undef, undef, undef, undef, undef, undef, undef, undef, undef, undef, undef, undef, undef, undef, undef, undef, undef, undef, undef, undef, undef, undef, undef, undef, undef, undef, undef, undef, undef, undef, undef, undef, undef, undef, undef, undef, undef, undef, undef, undef, undef, undef, undef, undef, undef, undef, undef, undef, undef, undef, undef, undef, undef, undef, undef, undef, undef, undef, undef, undef, undef, undef, undef, undef, undef, undef, undef, undef, undef, undef, undef, undef, undef, undef, undef, undef, undef, undef, undef, undef, undef, undef, undef, undef, undef, undef, undef, undef, undef, undef, undef, undef, undef, undef, undef, undef, undef, undef, undef, undef, undef, undef], defers := [] } .normal (by kernel_rfl) ?_
 refine hK _ _ ?_
 clear hK
 go_wp2_with (go_at_call 127; refine (scr_feed sp F S (-1) _ (HA.out _ HB1.out).scr).mono ?_; rintro e w2 ⟨rfl, ht⟩; have HT := Lib.hid (ScrTo.after HB1.out ht); clear ht)
 go_ret
 exact ⟨rfl, HT.out⟩
end
end Go.Proofs.YteoeooijpjehpaaGreatDoor
