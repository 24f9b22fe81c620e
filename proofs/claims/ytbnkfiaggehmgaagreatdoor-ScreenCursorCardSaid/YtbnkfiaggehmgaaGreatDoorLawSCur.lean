import Derived.Test.YtbnkfiaggehmgaaGreatDoorGU
import Derived.Test.YtbnkfiaggehmgaaGreatDoorGV
import Derived.Test.YtbnkfiaggehmgaaGreatDoorGF

/- The law ScreenCursor, whole: for every list of calls, every cell and every way to wrap it answers true. -/
namespace Go.Proofs.YtbnkfiaggehmgaaGreatDoor
open Go.RowKit
set_option linter.unusedSimpArgs false
set_option linter.unusedVariables false
attribute [local go_sem] alloc_drewN setCell_drewN World.cell?_alloc_some frozen_alloc_some size_f0 size_f1
theorem eql_marked (x c : Vz.Cl) (w : World) : Sem.run Tryz.prog (binOp .eql 24 (.agg #[.int .i32 x.g, .int .i64 x.a, .bool x.gd, .int .i64 x.m]) (.agg #[.int .i32 c.g, .int .i64 c.a, .bool c.gd, .int .i64 987654])) w = .ok (.bool (eqC x { c with m := 987654 })) w := run_eql_cell x { c with m := 987654 } w
attribute [local go_sem 3000] eql_marked

theorem eqC_either (x y : Vz.Cl) : (x = y ∧ eqC x y = true) ∨ (x ≠ y ∧ eqC x y = false) := by
  by_cases h : x = y
  · exact .inl ⟨h, eqC_iff.2 h⟩
  · exact .inr ⟨h, by rw [← Bool.not_eq_true, eqC_iff]; exact h⟩
theorem at_ahead (sp : Nat) (F : Nat → Prop) (S : Vz.Sr) (c : Vz.Cl) (q : Vz.Ps) (P : Prop) (w : World) (h : Scr w sp F S) (hq : (q.inS S.D.R S.D.C ∧ atD S.D q = c) ∨ (¬ q.inS S.D.R S.D.C ∧ P)) : Calls Tryz.prog 18 #[.pointer (some ⟨sp, 0, none⟩), .agg #[.int .i64 q.row, .int .i64 q.col]] w fun e w' => ∃ (y : Vz.Cl) (f : Int), e = .returned (.tuple #[.agg #[.int .i32 y.g, .int .i64 y.a, .bool y.gd, .int .i64 y.m], .int .i64 f]) ∧ Below w.heap.size w w' ∧ ((f = 0 ∧ y = c) ∨ (f = 11 ∧ P)) := by
  rcases hq with ⟨hq, hc⟩ | ⟨hq, hp⟩
  · refine (scr_at sp F S q w h hq).mono ?_
    rintro e w' ⟨rfl, hb⟩
    exact ⟨_, 0, rfl, hb, .inl ⟨rfl, hc⟩⟩
  · refine (scr_at_no sp F S q w h hq).mono ?_
    rintro e w' ⟨rfl, hb⟩
    exact ⟨⟨0, 0, false, 0⟩, 11, rfl, hb, .inr ⟨rfl, hp⟩⟩
set_option maxRecDepth 100000 in
set_option maxHeartbeats 16000000 in
theorem law_scur (A : Option Addr) (m cap : Nat) (L : List Vz.Op) (c : Vz.Cl) (wrap : Int) (w : World) (hbl : Blanked w) (h : Opers w.heap.size w A m L) (hm : m ≤ maxLen) : Calls Tryz.prog 3 #[.slice A m cap, .agg #[.int .i32 c.g, .int .i64 c.a, .bool c.gd, .int .i64 c.m], .int .i64 wrap] w fun e w' => e = .returned (.bool true) ∧ Below w.heap.size w w' := by
  have hm' : m ≤ 9223372036854775807 := Nat.le_trans hm (by unfold maxLen; decide)
  have HB0 : Hid (Below w.heap.size w (w.alloc (.cells #[.int .i32 c.g, .int .i64 c.a, .bool c.gd, .int .i64 c.m] 24))) := below1 _ _
  have HX0 := Lib.hid (heap_alloc_new w (.cells #[.int .i32 c.g, .int .i64 c.a, .bool c.gd, .int .i64 c.m] 24))
  have HFEW := Lib.hid (few_any A m cap L (w.alloc (.cells #[.int .i32 c.g, .int .i64 c.a, .bool c.gd, .int .i64 c.m] 24)) ((h.below HB0.out (Nat.le_refl _)).more (by simp)) hm)
  have HAW := Lib.hid (fun W (hb : Below w.heap.size w W) => awake_any W (hbl.below hb))
  have HBG := Lib.hid (fun W (hb : Below w.heap.size w W) => begun_ok none 0 0 [] W (hbl.below hb) (Opers.nil _ _) (Nat.zero_le _))
  have HOP := Lib.hid h
  have HBL := Lib.hid hbl.lt
  clear h hm hbl
  go_enter Tryz.func3, Tryz.ntmps3
  go_wp2_with (first
    | (go_at_call 13; refine (HBG.out _ HB1.out).mono ?_; rintro e w2 ⟨sp, rfl, hnew⟩; have HNS := Lib.hid hnew; clear hnew)
    | (go_at_call 12; refine (HAW.out _ HB1.out).mono ?_; rintro e w2 ⟨rfl, hb2⟩; have HB2 := Lib.hid (Below.later HB1.out hb2 HB1.out.size); clear hb2)
    | (go_at_call 11; refine HFEW.out.mono ?_; rintro e w1 ⟨b, rfl, hb1⟩; have HX1 := Lib.hid ((hb1.block _ (block_lt HX0.out)).trans HX0.out); have HB1 := Lib.hid (Below.later HB0.out hb1 HB0.out.size); clear hb1; cases b))
  · go_ret
    exact ⟨rfl, HB2.out⟩
  have hz1 : w.heap.size < w1.heap.size := block_lt HX1.out
  go_loopw [8] (fun i wr => ∃ (k : Nat) (S : Vz.Sr), k ≤ m ∧ i = .int .i64 (k : Int) ∧ NewScr w1 wr sp S ∧ AllC (fun x => x.m ≠ 987654) S.D) (fun i _ => m - (intOf i).toNat)
  case atStart => exact ⟨0, _, Nat.zero_le _, rfl, HNS.out, AllC.new (by decide)⟩
  case round =>
    obtain ⟨k, S, hk, rfl, ⟨⟨F, hs, hn⟩, hb⟩, hall⟩ := hrel
    have HBR := Lib.hid (Below.later HB1.out hb HB1.out.size)
    have HXR := Lib.hid ((hb.block _ hz1).trans HX1.out)
    by_cases hlt : k < m
    · obtain ⟨b, o, rfl, hbl, hop, hok⟩ := (HOP.out.below HBR.out (Nat.le_refl _)).at_ hlt
      generalize L[k]?.getD Vz.Op.nil = x at *
      have HD := Lib.hid (does_ok sp F S x wr hs hok)
      have HLK := Lib.hid (And.intro hn hb)
      have HALL := Lib.hid hall
      obtain ⟨c0, c1, c2, c3, c4, c5, c6, c7, c8, c9, c10, c11⟩ := hop
      have c9' : wr.cell? ⟨b, o + k * 12 + 6 + 3, none⟩ = some (.int .i64 x.c.m) := c9
      have hkz : (k : Int) < (m : Int) := by omega
      have hwk : IntKind.i64.wrap ((k : Int) + 1) = ((k + 1 : Nat) : Int) := by rw [wrap_in (by omega) (by omega)]; rfl
      clear hs hn hb hok hall
      by_cases hmk : x.c.m = 987654
      · have em : (x.c.m == 987654) = true := by rw [eqb]; exact decide_eq_true hmk
        go_wp2_with (go_at_call 12; refine (HAW.out _ HBR.out).mono ?_; rintro e w3 ⟨rfl, hb3⟩; have HB3 := Lib.hid (Below.later HBR.out hb3 HBR.out.size); clear hb3)
        go_ret
        exact ⟨rfl, HB3.out⟩
      · have em : (x.c.m == 987654) = false := by rw [eqb]; exact decide_eq_false hmk
        have HA3 : Hid (AllC (fun x => x.m ≠ 987654) (doesR S x).1.D) := HALL.out.does hmk (by decide)
        generalize doesR S x = R at *
        obtain ⟨S3, rc, re⟩ := R
        dsimp only at HD HA3
        go_wp2_with (first
          | (go_at_call 16; refine (scr_size sp F3 S3 _ (HS3.out.below HB4.out)).mono ?_; rintro e w5 ⟨rfl, hb5⟩; have HX5 := Lib.hid ((hb5.block _ (block_lt HX4.out)).trans HX4.out); have HB5 := Lib.hid (Below.later HB4.out (Below.later hb5 (below1 w5 (.cells #[.int .i64 S3.D.R, .int .i64 S3.D.C] 39)) hb5.size) HB4.out.size); obtain ⟨p0, p1, _⟩ := row2 ((Below.heap_alloc w5 (.cells #[.int .i64 S3.D.R, .int .i64 S3.D.C] 39) _ (block_lt HX5.out)).trans HX5.out); obtain ⟨s0, s1, _⟩ := row2 (heap_alloc_new w5 (.cells #[.int .i64 S3.D.R, .int .i64 S3.D.C] 39)); have HB5s := Lib.hid (Below.later hb5 (below1 w5 (.cells #[.int .i64 S3.D.R, .int .i64 S3.D.C] 39)) hb5.size); clear hb5)
          | (go_at_call 15; refine (scr_cursor sp F3 S3 w3 HS3.out).mono ?_; rintro e w4 ⟨rfl, hb4⟩; have HX4 := Lib.hid (heap_alloc_new w4 (.cells #[.int .i64 S3.pl.at_.row, .int .i64 S3.pl.at_.col] 30)); have HB4s := Lib.hid (Below.later hb4 (below1 w4 (.cells #[.int .i64 S3.pl.at_.row, .int .i64 S3.pl.at_.col] 30)) hb4.size); have HB4 := Lib.hid (Below.later hb4 (below1 w4 (.cells #[.int .i64 S3.pl.at_.row, .int .i64 S3.pl.at_.col] 30)) hb4.size); clear hb4)
          | (go_at_call 14; refine HD.out.mono ?_; rintro e w3 ⟨rfl, hg⟩; have HNW := Lib.hid (NewScr.link HLK.out.1 HLK.out.2 hg); obtain ⟨F3, hs3, hn3⟩ := HNW.out.1; obtain ⟨⟨q0, q1, q2, q3⟩, _⟩ := hs3.here; have HS3 := Lib.hid hs3; clear hg hs3 hn3))
        exact ⟨⟨k + 1, S3, by omega, rfl, NewScr.below HNW.out (Below.later (HB4s.out) HB5s.out HB4s.out.size), HA3.out⟩, by simp [intOf]; omega⟩
    · obtain rfl : k = m := by omega
      obtain ⟨b0, b1, b2, b3, g0, g1, g2, g3⟩ := row4 HXR.out
      obtain ⟨gp, tp, mb, FG, hA, hF⟩ := hs
      have hne : ∀ j, footS sp tp mb FG j → j ≠ w.heap.size := fun j hj e => by have := hn j ((hF j).2 hj); omega
      have hs7 : Scr (wr.setCell ⟨w.heap.size, 3, none⟩ (.int .i64 987654)) sp F S := ⟨gp, tp, mb, FG, hA.of_blocks (fun j hj => heap_setCell_other _ _ _ _ (hne j hj)) (heap_setCell_other _ _ _ _ (by have := HBL.out; show (0 : Nat) ≠ w.heap.size; omega)), hF⟩
      have HX7 : Hid ((wr.setCell ⟨w.heap.size, 3, none⟩ (.int .i64 987654)).heap[w.heap.size]? = some (.cells #[.int .i32 c.g, .int .i64 c.a, .bool c.gd, .int .i64 987654] 24 (0, 0))) := heap_set_same HXR.out 3 _
      have HB7 : Hid (Below w.heap.size w (wr.setCell ⟨w.heap.size, 3, none⟩ (.int .i64 987654))) := HBR.out.setCell (p := ⟨w.heap.size, 3, none⟩) (Nat.le_refl _) _
      have hz7 : (wr.setCell ⟨w.heap.size, 3, none⟩ (.int .i64 987654)).heap.size = wr.heap.size := World.size_setCell _ _ _
      have hzw : w.heap.size < wr.heap.size := Nat.lt_of_lt_of_le hz1 hb.size
      have HPUT : Hid (Calls Tryz.prog 17 #[.pointer (some ⟨sp, 0, none⟩), .agg #[.int .i32 c.g, .int .i64 c.a, .bool c.gd, .int .i64 987654], .int .i64 wrap, .bool false] (wr.setCell ⟨w.heap.size, 3, none⟩ (.int .i64 987654)) fun e w' => e = .returned (.tuple #[]) ∧ ScrTo (wr.setCell ⟨w.heap.size, 3, none⟩ (.int .i64 987654)) w' sp F (putS S { c with m := 987654 } wrap)) := scr_put sp F S { c with m := 987654 } wrap _ hs7
      have HLAW := put_law S { c with m := 987654 } wrap hA.grid.may hall rfl
      have hR8 : (putS S { c with m := 987654 } wrap).D.R = S.D.R := putD_R _ _ _ _ _
      have hC8 : (putS S { c with m := 987654 } wrap).D.C = S.D.C := putD_C _ _ _ _ _
      have hmay := hA.grid.may
      obtain ⟨m1, m2, m3, m4⟩ := hmay
      rw [← hR8, ← hC8] at HLAW
      rw [← hR8] at m1 m2
      rw [← hC8] at m3 m4
      generalize putS S { c with m := 987654 } wrap = S8 at *
      have HLAW' := Lib.hid HLAW
      have HAH : Hid (aheadQ S8.D.C S8.pl.at_ = if S8.pl.at_.col = 0 then ⟨S8.pl.at_.row - 1, (S8.D.C : Int) - 1⟩ else ⟨S8.pl.at_.row, S8.pl.at_.col - 1⟩) := rfl
      have HN7 := Lib.hid (And.intro hn hb)
      clear hR8 hC8 hne hs7 hA hF HLAW hall hn hb HXR
      go_upto_region 21 with (first
        | (go_at_call 18; generalize hX : atD S8.D S8.pl.at_ = x at *; refine HAT.out.mono ?_; rintro e w11 ⟨rfl, hb11⟩; have HB11 := Lib.hid (Below.later HB10.out hb11 HB10.out.size); have HXP11 := Lib.hid ((hb11.block _ (block_lt HXP.out)).trans HXP.out); have HXZ11 := Lib.hid ((hb11.block _ (block_lt HXZ10.out)).trans HXZ10.out); clear hb11 p0 p1; have HBX := Lib.hid (Below.later HB8.out (Below.later HB11.out (below1 w11 (.cells #[.int .i32 x.g, .int .i64 x.a, .bool x.gd, .int .i64 x.m] 24)) HB11.out.size) HB8.out.size); obtain ⟨x0, x1, x2, x3, _⟩ := row4 (heap_alloc_new w11 (.cells #[.int .i32 x.g, .int .i64 x.a, .bool x.gd, .int .i64 x.m] 24)); obtain ⟨p0, p1, _⟩ := row2 ((Below.heap_alloc w11 (.cells #[.int .i32 x.g, .int .i64 x.a, .bool x.gd, .int .i64 x.m] 24) _ (block_lt HXP11.out)).trans HXP11.out); obtain ⟨z0, z1, _⟩ := row2 ((Below.heap_alloc w11 (.cells #[.int .i32 x.g, .int .i64 x.a, .bool x.gd, .int .i64 x.m] 24) _ (block_lt HXZ11.out)).trans HXZ11.out); obtain ⟨e0, e1, e2, e3, _⟩ := row4 (((Below.later HB11.out (below1 w11 (.cells #[.int .i32 x.g, .int .i64 x.a, .bool x.gd, .int .i64 x.m] 24)) HB11.out.size).block _ (block_lt HX8.out)).trans HX8.out); have hwC : IntKind.i64.wrap ((S8.D.C : Int) - 1) = (S8.D.C : Int) - 1 := wrap_in (by omega) (by omega))
        | (go_at_call 15; refine (scr_cursor sp F8 S8 _ (HS8.out.below HB9.out)).mono ?_; rintro e w10 ⟨rfl, hb10⟩; have HXP := Lib.hid (heap_alloc_new w10 (.cells #[.int .i64 S8.pl.at_.row, .int .i64 S8.pl.at_.col] 30)); have HXZ10 := Lib.hid ((Below.heap_alloc w10 (.cells #[.int .i64 S8.pl.at_.row, .int .i64 S8.pl.at_.col] 30) _ (block_lt ((hb10.block _ (block_lt HXZ.out)).trans HXZ.out))).trans ((hb10.block _ (block_lt HXZ.out)).trans HXZ.out)); have HB10 := Lib.hid (Below.later HB9.out (Below.later hb10 (below1 w10 (.cells #[.int .i64 S8.pl.at_.row, .int .i64 S8.pl.at_.col] 30)) hb10.size) HB9.out.size); obtain ⟨p0, p1, _⟩ := row2 HXP.out; have HAT := Lib.hid (scr_at sp F8 S8 S8.pl.at_ _ (HS8.out.below HB10.out) HIN.out))
        | (go_at_call 16; refine (scr_size sp F8 S8 w8 HS8.out).mono ?_; rintro e w9 ⟨rfl, hb9⟩; have HB9 := Lib.hid (Below.later hb9 (below1 w9 (.cells #[.int .i64 S8.D.R, .int .i64 S8.D.C] 39)) hb9.size); have HXZ := Lib.hid (heap_alloc_new w9 (.cells #[.int .i64 S8.D.R, .int .i64 S8.D.C] 39)))
        | (go_at_call 17; refine HPUT.out.mono ?_; rintro e w8 ⟨rfl, hg⟩; obtain ⟨⟨F8, hs8, hn8⟩, hk8⟩ := hg; have HIN := Lib.hid hs8.here.1; obtain ⟨q0, q1, q2, q3⟩ := hs8.here.1; have HX8 := Lib.hid ((hk8.block _ (by omega) (fun hf => by have := HN7.out.1 _ hf; omega)).trans HX7.out); have HB8 := Lib.hid (HB7.out.trans (hk8.below (B := w.heap.size) (fun j hj => by have := HN7.out.1 _ hj; omega) (by omega))); have HS8 := Lib.hid hs8; clear hs8 hn8 hk8))
      have HP0 : Hid ((w11.alloc (.cells #[.int .i32 x.g, .int .i64 x.a, .bool x.gd, .int .i64 x.m] 24)).heap[w10.heap.size]? = some (.cells #[.int .i64 S8.pl.at_.row, .int .i64 S8.pl.at_.col] 30 (0, 0))) := (Below.heap_alloc w11 (.cells #[.int .i32 x.g, .int .i64 x.a, .bool x.gd, .int .i64 x.m] 24) _ (block_lt HXP11.out)).trans HXP11.out
      have HZ0 : Hid ((w11.alloc (.cells #[.int .i32 x.g, .int .i64 x.a, .bool x.gd, .int .i64 x.m] 24)).heap[w9.heap.size]? = some (.cells #[.int .i64 S8.D.R, .int .i64 S8.D.C] 39 (0, 0))) := (Below.heap_alloc w11 (.cells #[.int .i32 x.g, .int .i64 x.a, .bool x.gd, .int .i64 x.m] 24) _ (block_lt HXZ11.out)).trans HXZ11.out
      have HB12 : Hid (Below w8.heap.size w8 (w11.alloc (.cells #[.int .i32 x.g, .int .i64 x.a, .bool x.gd, .int .i64 x.m] 24))) := Below.later HB11.out (below1 w11 (.cells #[.int .i32 x.g, .int .i64 x.a, .bool x.gd, .int .i64 x.m] 24)) HB11.out.size
      rcases eqC_either x { c with m := 987654 } with ⟨hx, eqx⟩ | ⟨hx, eqx⟩
      · have hcc := HLAW'.out.1 hx
        have ecc : (S8.pl.at_.col == (S8.D.C : Int) - 1) = true := by rw [eqb]; exact decide_eq_true hcc
        clear hx hcc
        go_wp2_with (go_at_call 12; refine (HAW.out _ HBX.out).mono ?_; rintro e w13 ⟨rfl, hb13⟩; have HB13 := Lib.hid (Below.later HBX.out hb13 HBX.out.size); clear hb13)
        go_ret
        exact ⟨rfl, HB13.out⟩
      · have hq := HLAW'.out.2 hx
        have HQ := Lib.hid hq
        clear hx hq
        have HC12 : Hid ((w11.alloc (.cells #[.int .i32 x.g, .int .i64 x.a, .bool x.gd, .int .i64 x.m] 24)).heap[w.heap.size]? = some (.cells #[.int .i32 c.g, .int .i64 c.a, .bool c.gd, .int .i64 987654] 24 (0, 0))) := (HB12.out.block _ (block_lt HX8.out)).trans HX8.out
        by_cases hc0 : S8.pl.at_.col = 0
        case' pos =>
          have ec0 : (S8.pl.at_.col == 0) = true := by rw [eqb]; exact decide_eq_true hc0
          have hwr : IntKind.i64.wrap (S8.pl.at_.row - 1) = S8.pl.at_.row - 1 := wrap_in (by omega) (by omega)
          have hwc : IntKind.i64.wrap (S8.pl.at_.col - 1) = S8.pl.at_.col - 1 := wrap_in (by omega) (by omega)
          have hq := HQ.out
          rw [HAH.out, if_pos hc0] at hq
          have HQ2 := Lib.hid hq
          clear hq
          go_upto_region 28 with fail
          generalize S8.pl.at_.row - 1 = qr at HQ2 ⊢
          generalize (S8.D.C : Int) - 1 = qc at HQ2 ⊢
        case' neg =>
          have ec0 : (S8.pl.at_.col == 0) = false := by rw [eqb]; exact decide_eq_false hc0
          have hwc : IntKind.i64.wrap (S8.pl.at_.col - 1) = S8.pl.at_.col - 1 := wrap_in (by omega) (by omega)
          have hq := HQ.out
          rw [HAH.out, if_neg hc0] at hq
          have HQ2 := Lib.hid hq
          clear hq
          go_upto_region 28 with fail
          generalize S8.pl.at_.row = qr at HQ2 ⊢
          generalize S8.pl.at_.col - 1 = qc at HQ2 ⊢
        all_goals
          clear x0 x1 x2 x3 p0 p1 z0 z1 e0 e1 e2 e3 eqx
          have HB13 : Hid (Below w8.heap.size w8 ((w11.alloc (.cells #[.int .i32 x.g, .int .i64 x.a, .bool x.gd, .int .i64 x.m] 24)).alloc (.cells #[.int .i64 qr, .int .i64 qc] 30))) := Below.later HB12.out (below1 _ _) HB12.out.size
          have HP13 : Hid (((w11.alloc (.cells #[.int .i32 x.g, .int .i64 x.a, .bool x.gd, .int .i64 x.m] 24)).alloc (.cells #[.int .i64 qr, .int .i64 qc] 30)).heap[w10.heap.size]? = some (.cells #[.int .i64 S8.pl.at_.row, .int .i64 S8.pl.at_.col] 30 (0, 0))) := (Below.heap_alloc _ _ _ (block_lt HP0.out)).trans HP0.out
          have HZ13 : Hid (((w11.alloc (.cells #[.int .i32 x.g, .int .i64 x.a, .bool x.gd, .int .i64 x.m] 24)).alloc (.cells #[.int .i64 qr, .int .i64 qc] 30)).heap[w9.heap.size]? = some (.cells #[.int .i64 S8.D.R, .int .i64 S8.D.C] 39 (0, 0))) := (Below.heap_alloc _ _ _ (block_lt HZ0.out)).trans HZ0.out
          have HC13 : Hid (((w11.alloc (.cells #[.int .i32 x.g, .int .i64 x.a, .bool x.gd, .int .i64 x.m] 24)).alloc (.cells #[.int .i64 qr, .int .i64 qc] 30)).heap[w.heap.size]? = some (.cells #[.int .i32 c.g, .int .i64 c.a, .bool c.gd, .int .i64 987654] 24 (0, 0))) := (Below.heap_alloc _ _ _ (block_lt HC12.out)).trans HC12.out
          have HAT2 := Lib.hid (at_ahead sp F8 S8 { c with m := 987654 } ⟨qr, qc⟩ (S8.D.R = 1 ∧ S8.pl.at_.col = 0) _ (HS8.out.below HB13.out) HQ2.out)
          go_upto_region 29 with (go_at_call 18; refine HAT2.out.mono ?_; rintro e w14 ⟨y, f, rfl, hb14, hyf⟩; have HYF := Lib.hid hyf; have HB14 := Lib.hid hb14; clear hyf hb14)
          have hz8 : w.heap.size ≤ w8.heap.size := HB8.out.size
          have HYd : Hid (((w14.alloc (.cells #[.int .i32 y.g, .int .i64 y.a, .bool y.gd, .int .i64 y.m] 24))).heap[w14.heap.size]? = some (.cells #[.int .i32 y.g, .int .i64 y.a, .bool y.gd, .int .i64 y.m] 24 (0, 0))) := heap_alloc_new _ _
          have HPd : Hid (((w14.alloc (.cells #[.int .i32 y.g, .int .i64 y.a, .bool y.gd, .int .i64 y.m] 24))).heap[w10.heap.size]? = some (.cells #[.int .i64 S8.pl.at_.row, .int .i64 S8.pl.at_.col] 30 (0, 0))) := (Below.heap_alloc _ _ _ (block_lt ((HB14.out.block _ (block_lt HP13.out)).trans HP13.out))).trans ((HB14.out.block _ (block_lt HP13.out)).trans HP13.out)
          have HZd : Hid (((w14.alloc (.cells #[.int .i32 y.g, .int .i64 y.a, .bool y.gd, .int .i64 y.m] 24))).heap[w9.heap.size]? = some (.cells #[.int .i64 S8.D.R, .int .i64 S8.D.C] 39 (0, 0))) := (Below.heap_alloc _ _ _ (block_lt ((HB14.out.block _ (block_lt HZ13.out)).trans HZ13.out))).trans ((HB14.out.block _ (block_lt HZ13.out)).trans HZ13.out)
          have HCd : Hid (((w14.alloc (.cells #[.int .i32 y.g, .int .i64 y.a, .bool y.gd, .int .i64 y.m] 24))).heap[w.heap.size]? = some (.cells #[.int .i32 c.g, .int .i64 c.a, .bool c.gd, .int .i64 987654] 24 (0, 0))) := (Below.heap_alloc _ _ _ (block_lt ((HB14.out.block _ (block_lt HC13.out)).trans HC13.out))).trans ((HB14.out.block _ (block_lt HC13.out)).trans HC13.out)
          have HBYd : Hid (Below w.heap.size w ((w14.alloc (.cells #[.int .i32 y.g, .int .i64 y.a, .bool y.gd, .int .i64 y.m] 24)))) := (Below.later HB8.out (Below.later HB13.out (Below.later HB14.out (below1 _ _) HB14.out.size) HB13.out.size) hz8)
          rcases HYF.out with ⟨rfl, hy⟩ | ⟨rfl, hR1, hc1⟩
          · have eqy := eqC_iff.2 hy
            clear hy
            obtain ⟨y0, y1, y2, y3, _⟩ := row4 HYd.out
            obtain ⟨e0, e1, e2, e3, _⟩ := row4 HCd.out
            obtain ⟨p0, p1, _⟩ := row2 HPd.out
            obtain ⟨z0, z1, _⟩ := row2 HZd.out
            go_wp2_with (go_at_call 12; refine (HAW.out _ HBYd.out).mono ?_; rintro e w16 ⟨rfl, hb16⟩; have HB16 := Lib.hid (Below.later HBYd.out hb16 HBYd.out.size); clear hb16)
            go_ret
            exact ⟨rfl, HB16.out⟩
          · first
              | exact absurd hc1 hc0
              | (have er1 : ((S8.D.R : Int) == 1) = true := by rw [hR1]; rfl
                 have ec1 : (S8.pl.at_.col == 0) = true := by rw [hc1]; rfl
                 clear hR1 hc1
                 obtain ⟨y0, y1, y2, y3, _⟩ := row4 HYd.out
                 obtain ⟨e0, e1, e2, e3, _⟩ := row4 HCd.out
                 obtain ⟨p0, p1, _⟩ := row2 HPd.out
                 obtain ⟨z0, z1, _⟩ := row2 HZd.out
                 go_wp2_with (go_at_call 12; refine (HAW.out _ HBYd.out).mono ?_; rintro e w16 ⟨rfl, hb16⟩; have HB16 := Lib.hid (Below.later HBYd.out hb16 HBYd.out.size); clear hb16)
                 go_ret
                 exact ⟨rfl, HB16.out⟩)
end Go.Proofs.YtbnkfiaggehmgaaGreatDoor
