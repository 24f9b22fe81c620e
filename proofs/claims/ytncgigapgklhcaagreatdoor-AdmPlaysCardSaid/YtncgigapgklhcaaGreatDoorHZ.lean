import Derived.Test.YtncgigapgklhcaaGreatDoorHG
import Derived.Test.YtncgigapgklhcaaGreatDoorHA
import Derived.Test.YtncgigapgklhcaaGreatDoorHL
import Derived.Carry

set_option maxRecDepth 100000
set_option maxHeartbeats 16000000
/- Walks: a screen's Feed. -/
namespace Vz
def cutF (n : Int) : Int := max (-510) (min n 510)
def overF (R : Nat) (row n : Int) : Int := row + n - max 0 (min (row + n) ((R : Int) - 1))
end Vz
namespace Go.Proofs.YtncgigapgklhcaaGreatDoor
open Go.RowKit
set_option linter.unusedSimpArgs false
set_option linter.unusedVariables false
attribute [local go_sem] alloc_drewN setCell_drewN World.cell?_alloc_some frozen_alloc_some size_f0 size_f1
attribute [local go_sem 3000] run_min_z run_max_z
def feedS (S : Vz.Sr) (n : Int) : Vz.Sr := { S with D := S.D.roll 0 (S.D.R - 1) (Vz.overF S.D.R S.pl.at_.row (Vz.cutF n)) Vz.Cl.blank, pl := Vz.stepP S.D.R S.D.C S.pl (Vz.cutF n) 0 }
theorem cutF_in (n : Int) : -510 ≤ Vz.cutF n ∧ Vz.cutF n ≤ 510 := by unfold Vz.cutF; omega
theorem overF_in (R : Nat) (row n : Int) (h1 : 1 ≤ R ∧ R ≤ 255) (h2 : 0 ≤ row ∧ row < R) (h3 : -510 ≤ n ∧ n ≤ 510) : -1000 ≤ Vz.overF R row n ∧ Vz.overF R row n ≤ 1000 := by unfold Vz.overF; omega
theorem scr_feed (sp : Nat) (F : Nat → Prop) (S : Vz.Sr) (n : Int) (w : World) (h : Scr w sp F S) : Calls Tryz.prog 105 #[.pointer (some ⟨sp, 0, none⟩), .int .i64 n] w fun e w' => e = .returned (.tuple #[]) ∧ ScrTo w w' sp F (feedS S n) := by
 obtain ⟨gp, tp, mb, FG, hA, hF, HC, hlt⟩ := h.held
 have hcn := cutF_in n
 have hh := hA.here
 obtain ⟨m1, m2, m3, m4⟩ := hA.grid.may
 have ho := overF_in S.D.R S.pl.at_.row (Vz.cutF n) ⟨m1, m2⟩ ⟨hh.1, hh.2.1⟩ hcn
 have hr1 : 0 ≤ S.pl.at_.row := hh.1
 have hr2 : S.pl.at_.row ≤ 254 := by have := hh.2.1; omega
 have hm1 : -510 ≤ Vz.cutF n := hcn.1
 have hm2 : Vz.cutF n ≤ 510 := hcn.2
 have w2 : IntKind.i64.wrap ((S.D.R : Int) - 1) = (S.D.R : Int) - 1 := wrap_in (by omega) (by omega)
 have w3 : IntKind.i64.wrap (S.pl.at_.row + Vz.cutF n - maxZ 0 (minZ (S.pl.at_.row + Vz.cutF n) ((S.D.R : Int) - 1))) = Vz.overF S.D.R S.pl.at_.row (Vz.cutF n) := wrap_in (by show -9223372036854775808 ≤ Vz.overF S.D.R S.pl.at_.row (Vz.cutF n); omega) (by show Vz.overF S.D.R S.pl.at_.row (Vz.cutF n) < 9223372036854775808; omega)
 have hcut : maxZ (-510) (minZ n 510) = Vz.cutF n := rfl
 have HSZ := Lib.hid (scr_size sp F S w h)
 have HUP := Lib.hid (fun W (hb : Below w.heap.size w W) => up_ok gp FG S.D (Vz.overF S.D.R S.pl.at_.row (Vz.cutF n)) Vz.Cl.blank W (hA.grid.below hb) (by omega))
 have HBL : Hid (∀ W, Below w.heap.size w W → _) := fun W (hb : Below w.heap.size w W) => ((hA.below hb).blk).cells
 have HA := Lib.hid (fun W (hb : Below w.heap.size w W) => hA.below hb)
 have HF := Lib.hid hF
 have HE : Hid (feedS S n = { S with D := S.D.roll 0 (S.D.R - 1) (Vz.overF S.D.R S.pl.at_.row (Vz.cutF n)) Vz.Cl.blank, pl := Vz.stepP S.D.R S.D.C S.pl (Vz.cutF n) 0 }) := rfl
 obtain ⟨c0, c1, c2, c3, c4, f0, f1, f2⟩ := HC.out _ (Below.refl _ w)
 clear hA hF h hcn hh ho m1 m2 m3 m4
 rw [HE.out]
 clear HE
 generalize Vz.overF S.D.R S.pl.at_.row (Vz.cutF n) = k at *
 generalize Vz.cutF n = m at *
 go_enter_defers Tryz.func105, Tryz.ntmps105
 go_upto_region 5 with (go_at_call 89; refine HSZ.out.mono ?_; rintro e w1 ⟨rfl, hb1⟩; have HB1 := Lib.hid hb1; clear hb1; have HBD : Hid (Below w.heap.size w w1.drew) := HB1.out.drew)
 clear c0 c1 c2 c3 c4 f0 f1 f2
 refine wp_region_noPanic ?_
 refine wp_region_k (S := fun W : World => Below w.heap.size w W) 11 (by kernel_rfl) (HBD.out) (fun hHeld => ?_)
 refine kSK 0 hHeld ?_
 refine kSK 1 hHeld ?_
 refine kSK 2 hHeld ?_
 refine kTK (v := ?_) 3 [] hHeld ?y4 ?_
 case y4 => (intro W hSw; obtain ⟨c0, c1, c2, c3, c4, _⟩ := HC.out _ hSw; obtain ⟨g0, g1, g2, g3⟩ := HBL.out _ hSw; go_simp; try with_reducible rfl)
 refine kSK 4 hHeld ?_
 try refine kNK ?_
 refine kSK 5 hHeld ?_
 refine kSK 6 hHeld ?_
 refine kSK 7 hHeld ?_
 refine kSK 8 hHeld ?_
 refine kSK 9 hHeld ?_
 try refine kNK ?_
 refine kTK (v := ?_) 10 [] hHeld ?y11 ?_
 case y11 => (intro W hSw; obtain ⟨c0, c1, c2, c3, c4, _⟩ := HC.out _ hSw; obtain ⟨g0, g1, g2, g3⟩ := HBL.out _ hSw; go_simp; try with_reducible rfl)
 try refine kNK ?_
 refine kPK 11 fun KQ hKQ => ?_
 go_simp
 go_at_call 125
 refine (HUP.out _ HBD.out).mono ?_
 rintro e w6 ⟨rfl, hg⟩
 have HG := Lib.hid hg
 clear hg
 go_wp2_with fail
 refine hKQ.out _ _ ?_
 clear hKQ KQ
 try refine kNK ?_
 refine wpAnyK_done (by kernel_rfl) ?_ _
 refine NoPanic.normal ?_
 go_wp2_with fail
 have hto : ScrTo w w6 sp F { S with D := S.D.roll 0 (S.D.R - 1) k Vz.Cl.blank } := ScrTo.after HBD.out (Scr.gridTo (HA.out _ HBD.out) HF.out HG.out rfl rfl)
 obtain ⟨⟨F6, h6, hF6⟩, hK6⟩ := hto
 refine leaves_cons (f := 78) (args := #[.pointer (some ⟨sp, 0, none⟩), .int .i64 m, .int .i64 0]) (by simp) (by simp [go_sem]) ?_
 refine (scr_step_d sp F6 _ m 0 .returning w6 h6).mono ?_
 rintro e u' w'' ⟨rfl, rfl, h⟩
 exact ⟨_, results_none rfl _ _ _, rfl, ScrTo.link hF6 hK6 h⟩
end Go.Proofs.YtncgigapgklhcaaGreatDoor
namespace Go.Proofs.YtncgigapgklhcaaGreatDoor
open Go.RowKit
set_option linter.unusedSimpArgs false
set_option linter.unusedVariables false
/- Walks: a screen's At and Set at places that are not there. -/
section
attribute [local go_sem] alloc_drewN setCell_drewN World.cell?_alloc_some frozen_alloc_some size_f0 size_f1
theorem scr_at_no (sp : Nat) (F : Nat → Prop) (S : Vz.Sr) (p : Vz.Ps) (w : World) (h : Scr w sp F S) (hP : ¬ p.inS S.D.R S.D.C) : Calls Tryz.prog 25 #[.pointer (some ⟨sp, 0, none⟩), .agg #[.int .i64 p.row, .int .i64 p.col]] w fun e w' => e = .returned (.tuple #[.agg #[.int .i32 0, .int .i64 0, .bool false, .int .i64 0], .int .i64 11]) ∧ Below w.heap.size w w' := by
 obtain ⟨gp, tp, mb, FG, hA, hF, HC, hlt⟩ := h.held
 have HAT := Lib.hid (fun W (hb : Below w.heap.size w W) => gat_no gp FG S.D p W (hA.grid.below hb) hP)
 clear hA hF h hP
 generalize p.row = pr at *
 generalize p.col = pc at *
 have HB : Hid (Below w.heap.size w ((w.alloc (.cells #[.int .i64 pr, .int .i64 pc] 36)).alloc (.cells #[.int .i32 0, .int .i64 0, .bool false, .int .i64 0] 56)).drew) := (Grows.below (((Grows.refl _).alloc _).alloc _)).drew
 obtain ⟨hn0, hn1⟩ := box2 (Below.refl ((w.alloc (.cells #[.int .i64 pr, .int .i64 pc] 36)).alloc (.cells #[.int .i32 0, .int .i64 0, .bool false, .int .i64 0] 56)).heap.size _)
 have HN0 := Lib.hid hn0
 have HN1 := Lib.hid hn1.1
 clear hn0 hn1
 go_enter Tryz.func25, Tryz.ntmps25
 go_upto_region 3 with fail
 refine wp_region_noPanic ?_
 refine wp_region_k (S := fun W : World => Below w.heap.size w W ∧ W.heap[w.heap.size]? = some (.cells #[.int .i64 pr, .int .i64 pc] 36 (0, 0))) 5 (by kernel_rfl) (⟨HB.out, HN0.out⟩) (fun hHeld => ?_)
 refine kSK 0 hHeld ?_
 refine kSK 1 hHeld ?_
 refine kSK 2 hHeld ?_
 refine kTK (v := ?_) 3 [] hHeld ?y4 ?_
 case y4 => (intro W hSw; obtain ⟨c0, c1, c2, c3, _⟩ := HC.out _ hSw.1; obtain ⟨p0, p1, _⟩ := row2 hSw.2; go_simp; try with_reducible rfl)
 refine kTK (v := ?_) 4 [] hHeld ?y5 ?_
 case y5 => (intro W hSw; obtain ⟨c0, c1, c2, c3, _⟩ := HC.out _ hSw.1; obtain ⟨p0, p1, _⟩ := row2 hSw.2; go_simp; try with_reducible rfl)
 try refine kNK ?_
 refine kPK 5 fun KQ hKQ => ?_
 go_simp
 go_at_call 39
 refine (HAT.out _ HB.out).mono ?_
 rintro e w1 ⟨rfl, hb1⟩
 have HB1 := Lib.hid (Below.later HB.out hb1 HB.out.size)
 have HX1 : Hid (w1.heap[w.heap.size + 1]? = some (.cells #[.int .i32 0, .int .i64 0, .bool false, .int .i64 0] 56 (0, 0))) := (hb1.block _ (block_lt HN1.out)).trans HN1.out
 go_wp2_with fail
 refine hKQ.out _ _ ?_
 clear hKQ KQ
 try refine kNK ?_
 obtain ⟨x0, x1, x2, x3, f0, f1, f2, f3⟩ := row4 HX1.out
 refine kBK 6 ?_
 refine kBK 7 ?_
 try refine kNK ?_
 refine kPK 8 fun KQ hKQ => ?_
 go_simp
 refine hKQ.out _ _ ?_
 clear hKQ KQ
 try refine kNK ?_
 refine kBK 9 ?_
 try refine kNK ?_
 refine wpAnyK_done (by kernel_rfl) ?_ _
 refine NoPanic.normal ?_
 go_wp2_with fail
 obtain ⟨r0, r1, r2, r3, _⟩ := row4 (set_four HX1.out (.int .i32 0) (.int .i64 0) (.bool false) (.int .i64 0))
 refine bodyPost_ret (v := .tuple #[.agg #[.int .i32 0, .int .i64 0, .bool false, .int .i64 0], .int .i64 11]) (by simp [results, Tryz.results25, go_sem, r0, r1, r2, r3]) rfl ⟨rfl, ?_⟩
 exact Below.set4 HB1.out (Nat.le_succ _) _ _ _ _
def noStops : Nat → Bool := fun _ => false
theorem stops_none (C : Nat) : stopsD C noStops = .map [] := by
 unfold stopsD Vz.stopsL noStops
 simp
theorem tnew_ok (C : Nat) (h1 : 1 ≤ C) (h2 : C ≤ 255) (w : World) : Calls Tryz.prog 51 #[.int .i64 C] w fun e w' => e = .returned (.tuple #[.pointer (some ⟨w.heap.size + 1, 0, none⟩), .int .i64 0]) ∧ (w.alloc (.map #[] 0)).alloc (.cells #[.int .i64 C, .map (some w.heap.size)] 118) = w' := by
 have hmm := @run_makeMap Tryz.prog
 have hc1 : (1 : Int) ≤ (C : Int) := by omega
 have hc2 : (C : Int) ≤ 255 := by omega
 go_enter Tryz.func51, Tryz.ntmps51
 go_wp2_with fail
 go_ret2
 exact ⟨rfl, rfl⟩
theorem tabs_new (w : World) (C : Nat) : TabsAt ((w.alloc (.map #[] 0)).alloc (.cells #[.int .i64 C, .map (some w.heap.size)] 118)) (w.heap.size + 1) w.heap.size C noStops := by
 refine ⟨?_, ?_, fun c hc => by cases hc⟩
 · have := heap_alloc_new (w.alloc (.map #[] 0)) (.cells #[.int .i64 C, .map (some w.heap.size)] 118)
   rwa [World.size_alloc] at this
 · rw [stops_none]
   exact ((World.ownsMap_made w _ _ _).alloc _).mono (Nat.zero_le _)
def newS (R C : Nat) : Vz.Sr := ⟨Vz.Gd.new R C Vz.Cl.blank, Vz.Pl.nil, noStops⟩
theorem scr_new_at {w w1 : World} {gp R C : Nat} {FG : Nat → Prop} (hm : (Vz.Gd.new R C Vz.Cl.blank).may) (hb : Blanked w) (hG : Grid w1 gp FG (Vz.Gd.new R C Vz.Cl.blank)) (hge : ∀ k, FG k → w.heap.size ≤ k) (hB : Below w.heap.size w w1) :
 ScrAt (((w1.alloc (.map #[] 0)).alloc (.cells #[.int .i64 C, .map (some w1.heap.size)] 118)).alloc (.cells (scrB Vz.Pl.nil gp (w1.heap.size + 1)) 80)) (w1.heap.size + 1 + 1) gp (w1.heap.size + 1) w1.heap.size FG (newS R C) := by
 have hlt := hG.lt
 have hB1 := hB.size
 have hB3 : Below w1.heap.size w1 (((w1.alloc (.map #[] 0)).alloc (.cells #[.int .i64 C, .map (some w1.heap.size)] 118)).alloc (.cells (scrB Vz.Pl.nil gp (w1.heap.size + 1)) 80)) := Grows.below ((((Grows.refl _).alloc _).alloc _).alloc _)
 have hbl := hb.lt
 have hT := tabs_new w1 C
 refine ⟨?_, hG.below hB3, hT.of_blocks (Below.heap_alloc _ _ _ hT.lt.1) (Below.heap_alloc _ _ _ hT.lt.2), ?_, fun h => by have := hlt _ h; omega, fun h => by have := hlt _ h; omega, fun h => by have := hlt _ h; omega, by omega, by omega, by omega, (hb.below hB).below hB3, fun k hk => ?_⟩
 · have := heap_alloc_new ((w1.alloc (.map #[] 0)).alloc (.cells #[.int .i64 C, .map (some w1.heap.size)] 118)) (.cells (scrB Vz.Pl.nil gp (w1.heap.size + 1)) 80)
   simp only [World.size_alloc] at this
   exact this
 · obtain ⟨a1, a2, a3, a4⟩ := hm
   have b1 : 1 ≤ R := a1
   have b3 : 1 ≤ C := a3
   exact ⟨Int.le_refl _, by show (0 : Int) < (R : Int); omega, Int.le_refl _, by show (0 : Int) < (C : Int); omega⟩
 · rcases hk with rfl | rfl | rfl | hk
   · omega
   · omega
   · omega
   · have := hge k hk
     omega
def NewScr (w w' : World) (sp : Nat) (S : Vz.Sr) : Prop := (∃ F, Scr w' sp F S ∧ ∀ k, F k → w.heap.size ≤ k) ∧ Below w.heap.size w w'
theorem scr_new (R C : Nat) (h : Vz.mayS R C = true) (w : World) (hbl : Blanked w) : Calls Tryz.prog 30 #[.agg #[.int .i64 R, .int .i64 C]] w fun e w' => ∃ sp, e = .returned (.tuple #[.pointer (some ⟨sp, 0, none⟩), .int .i64 0]) ∧ NewScr w w' sp (newS R C) := by
 have hm := (Vz.mayS_iff R C).1 h
 have hmay : (Vz.Gd.new R C Vz.Cl.blank).may := by unfold Vz.Gd.may Vz.Gd.new; simp only; omega
 have HM := Lib.hid hmay
 have HBK := Lib.hid hbl
 have HB0 : Hid (Below w.heap.size w (w.alloc (.cells #[.int .i64 R, .int .i64 C] 23))) := below1 _ _
 have HN := Lib.hid (gnew_ok R C Vz.Cl.blank h (w.alloc (.cells #[.int .i64 R, .int .i64 C] 23)))
 have HTN := Lib.hid (tnew_ok C (by omega) (by omega))
 obtain ⟨g0, g1, g2, g3⟩ := (hbl.below HB0.out).cells
 have HX := Lib.hid (heap_alloc_new w (.cells #[.int .i64 R, .int .i64 C] 23))
 have hlt0 : w.heap.size < (w.alloc (.cells #[.int .i64 R, .int .i64 C] 23)).heap.size := block_lt HX.out
 clear h hbl hmay hm
 go_enter Tryz.func30, Tryz.ntmps30
 go_wp2_with (first
  | (go_at_call 50; refine HN.out.mono ?_; rintro e w1 ⟨gp, FG, rfl, hG, hge, hb1⟩; obtain ⟨s0, s1, _⟩ := row2 ((hb1.block _ hlt0).trans HX.out); have HG := Lib.hid hG; have HGE : Hid (∀ k, FG k → w.heap.size ≤ k) := (fun k hk => Nat.le_trans (Nat.le_of_lt hlt0) (hge k hk)); have HB1 := Lib.hid (Below.later HB0.out hb1 HB0.out.size); clear hG hge hb1 g0 g1 g2 g3)
  | (go_at_call 51; refine (HTN.out _).mono ?_; rintro e w2 ⟨rfl, rfl⟩))
 go_ret2
 refine ⟨_, rfl, ⟨_, ⟨gp, _, _, FG, scr_new_at HM.out HBK.out HG.out HGE.out HB1.out, fun k => Iff.rfl⟩, fun k hk => ?_⟩, ?_⟩
 · have := HB1.out.size
   rcases hk with rfl | rfl | rfl | hk
   · omega
   · omega
   · omega
   · exact HGE.out k hk
 · exact Below.later HB1.out (Grows.below ((((Grows.refl _).alloc _).alloc _).alloc _)) HB1.out.size
end
end Go.Proofs.YtncgigapgklhcaaGreatDoor
