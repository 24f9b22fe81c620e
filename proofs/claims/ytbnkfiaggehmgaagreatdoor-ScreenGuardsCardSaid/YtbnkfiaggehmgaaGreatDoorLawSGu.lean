import Derived.Test.YtbnkfiaggehmgaaGreatDoorGX
import Derived.Test.YtbnkfiaggehmgaaGreatDoorGV
import Derived.Test.YtbnkfiaggehmgaaGreatDoorGF

/- The law ScreenGuards, whole: for all lists of calls it answers true. -/
namespace Go.Proofs.YtbnkfiaggehmgaaGreatDoor
open Go.RowKit
set_option linter.unusedSimpArgs false
set_option linter.unusedVariables false
attribute [local go_sem] alloc_drewN setCell_drewN World.cell?_alloc_some frozen_alloc_some size_f0 size_f1

theorem run_neq_self (g a m : Int) (d : Bool) (w : World) : Sem.run Tryz.prog (binOp .neq 24 (.agg #[.int .i32 g, .int .i64 a, .bool d, .int .i64 m]) (.agg #[.int .i32 g, .int .i64 a, .bool d, .int .i64 m])) w = .ok (.bool false) w := by
  have h := run_neq_cell ⟨g, a, d, m⟩ ⟨g, a, d, m⟩ w
  rw [eqC_iff.2 rfl] at h
  exact h
attribute [local go_sem 3000] run_neq_self
set_option maxRecDepth 100000 in
set_option maxHeartbeats 16000000 in
theorem law_sgu (A1 : Option Addr) (m1 cap1 : Nat) (L1 : List Vz.Op) (A2 : Option Addr) (m2 cap2 : Nat) (L2 : List Vz.Op) (w : World) (hbl : Blanked w) (h1 : Opers w.heap.size w A1 m1 L1) (hm1 : m1 ≤ maxLen) (h2 : Opers w.heap.size w A2 m2 L2) (hm2 : m2 ≤ maxLen) : Calls Tryz.prog 5 #[.slice A1 m1 cap1, .slice A2 m2 cap2] w fun e w' => e = .returned (.bool true) ∧ Below w.heap.size w w' := by
  have hm' : m2 ≤ 9223372036854775807 := Nat.le_trans hm2 (by unfold maxLen; decide)
  have HFEW1 := Lib.hid (fun W (hb : Below w.heap.size w W) => few_any A1 m1 cap1 L1 W ((h1.below hb (Nat.le_refl _)).more hb.size) hm1)
  have HFEW2 := Lib.hid (fun W (hb : Below w.heap.size w W) => few_any A2 m2 cap2 L2 W ((h2.below hb (Nat.le_refl _)).more hb.size) hm2)
  have HAW := Lib.hid (fun W (hb : Below w.heap.size w W) => awake_any W (hbl.below hb))
  have HBG := Lib.hid (fun W (hb : Below w.heap.size w W) => begun_ok A1 m1 cap1 L1 W (hbl.below hb) ((h1.below hb (Nat.le_refl _)).more hb.size) hm1)
  have HOP := Lib.hid h2
  have HB0 : Hid (Below w.heap.size w w) := Below.refl _ _
  clear h1 hm1 h2 hm2 hbl
  go_enter Tryz.func5, Tryz.ntmps5
  go_wp2_with (first
    | (go_at_call 24; obtain ⟨⟨F0, hs0, hn0⟩, hb0⟩ := HNS.out; refine (scr_copy sp F0 _ _ hs0).mono ?_; rintro e w4 ⟨cp, rfl, hc⟩; have HTW := Lib.hid ((Two.of_copy HNS.out hc)); have HB12 := Lib.hid HB2.out; clear hc hs0 hn0 hb0)
    | (go_at_call 13; refine (HBG.out _ HB2.out).mono ?_; rintro e w3 ⟨sp, rfl, hnew⟩; have HNS := Lib.hid hnew; clear hnew)
    | (go_at_call 12; first
        | (refine (HAW.out _ HB2.out).mono ?_; rintro e w9 ⟨rfl, hb9⟩; have HB9 := Lib.hid (Below.later HB2.out hb9 HB2.out.size); clear hb9)
        | (refine (HAW.out _ HB1.out).mono ?_; rintro e w9 ⟨rfl, hb9⟩; have HB9 := Lib.hid (Below.later HB1.out hb9 HB1.out.size); clear hb9))
    | (go_at_call 11; refine (HFEW2.out _ HB1.out).mono ?_; rintro e w2 ⟨b, rfl, hb2⟩; have HB2 := Lib.hid (Below.later HB1.out hb2 HB1.out.size); clear hb2; cases b)
    | (go_at_call 11; refine (HFEW1.out _ HB0.out).mono ?_; rintro e w1 ⟨b, rfl, hb1⟩; have HB1 := Lib.hid hb1; clear hb1; cases b))
  · go_ret
    exact ⟨rfl, HB9.out⟩
  · go_ret
    exact ⟨rfl, HB9.out⟩
  generalize runS (newS 5 9) L1 = S0 at *
  go_loopw [7] (fun i wr => ∃ (k : Nat) (S : Vz.Sr), k ≤ m2 ∧ i = .int .i64 (k : Int) ∧ Two w2 wr sp cp S S0 ∧ KeptG S0.D S.D) (fun i _ => m2 - (intOf i).toNat)
  case atStart => exact ⟨0, _, Nat.zero_le _, rfl, HTW.out, KeptG.refl _⟩
  case round =>
    obtain ⟨k, S, hk, rfl, ⟨F, FC, hs, hc, hf1, hf2, hb⟩, hkept⟩ := hrel
    by_cases hlt : k < m2
    · obtain ⟨b, o, rfl, hbl, hop, hok⟩ := (HOP.out.below (Below.later HB2.out hb HB2.out.size) (Nat.le_refl _)).at_ hlt
      generalize L2[k]?.getD Vz.Op.nil = x at *
      have hd := fun W (hbW : Below wr.heap.size wr W) => draws_ok sp F S { x with gd := true } W (hs.below hbW)
      have hd2 : ∀ W, Below wr.heap.size wr W → Calls Tryz.prog 25 #[.pointer (some ⟨sp, 0, none⟩), .agg #[.int .i64 x.ask, .int .i64 x.a.row, .int .i64 x.a.col, .int .i64 x.b.row, .int .i64 x.b.col, .int .i64 x.n, .int .i32 x.c.g, .int .i64 x.c.a, .bool x.c.gd, .int .i64 x.c.m, .int .i64 x.wr, .bool true]] W fun e w' => e = .returned (.tuple #[]) ∧ ScrTo W w' sp F (drawS S { x with gd := true }) := hd
      have HD := Lib.hid hd2
      have HKP := Lib.hid (hkept.trans (KeptG.draw S { x with gd := true } rfl hs.here.1))
      have HLK := Lib.hid (And.intro hs (And.intro hc (And.intro hf1 (And.intro hf2 hb))))
      obtain ⟨c0, c1, c2, c3, c4, c5, c6, c7, c8, c9, c10, c11⟩ := hop
      have hkz : (k : Int) < (m2 : Int) := by omega
      have hwk : IntKind.i64.wrap ((k : Int) + 1) = ((k + 1 : Nat) : Int) := by rw [wrap_in (by omega) (by omega)]; rfl
      clear hs hc hf1 hf2 hb hok hkept hd hd2
      generalize drawS S { x with gd := true } = S' at *
      go_wp2_with (go_at_call 25; refine (HD.out _ (below1 _ _)).mono ?_; rintro e w5 ⟨rfl, hg⟩; have HTW5 := Lib.hid (Two.turn HLK.out.1 HLK.out.2.1 HLK.out.2.2.1 HLK.out.2.2.2.1 HLK.out.2.2.2.2 (ScrTo.after (below1 _ _) hg)); clear hg)
      exact ⟨⟨k + 1, S', by omega, rfl, HTW5.out, HKP.out⟩, by simp [intOf]; omega⟩
    · obtain rfl : k = m2 := by omega
      have HSZ := Lib.hid (scr_size sp F S wr hs)
      have HTW1 : Hid (Two w2 wr sp cp S S0) := ⟨F, FC, hs, hc, hf1, hf2, hb⟩
      have HKP := Lib.hid hkept
      have hmay := hs.here.2
      obtain ⟨m1', m2', m3', m4'⟩ := hmay
      clear hs hc hf1 hf2 hb hkept
      go_wp2_with (go_at_call 16; refine HSZ.out.mono ?_; rintro e w6 ⟨rfl, hb6⟩; have HB6 := Lib.hid hb6; clear hb6)
      have HZ : Hid ((w6.alloc (.cells #[.int .i64 S.D.R, .int .i64 S.D.C] 39)).heap[w6.heap.size]? = some (.cells #[.int .i64 S.D.R, .int .i64 S.D.C] 39 (0, 0))) := heap_alloc_new _ _
      have HTW6 : Hid (Two w2 (w6.alloc (.cells #[.int .i64 S.D.R, .int .i64 S.D.C] 39)) sp cp S S0) := (HTW1.out.below HB6.out).below (below1 _ _)
      go_loopw [10] (fun i wr => ∃ r : Nat, r ≤ S.D.R ∧ i = .int .i64 (r : Int) ∧ Below (w6.alloc (.cells #[.int .i64 S.D.R, .int .i64 S.D.C] 39)).heap.size (w6.alloc (.cells #[.int .i64 S.D.R, .int .i64 S.D.C] 39)) wr) (fun i _ => S.D.R - (intOf i).toNat)
      case atStart => exact ⟨0, Nat.zero_le _, rfl, Below.refl _ _⟩
      case round =>
        obtain ⟨r, hr, rfl, hq⟩ := hrel
        obtain ⟨z0, z1, _⟩ := row2 ((hq.block _ (block_lt HZ.out)).trans HZ.out)
        have HQ := Lib.hid hq
        clear hq
        by_cases hlr : r < S.D.R
        · have hri : (r : Int) < (S.D.R : Int) := by omega
          have hwr : IntKind.i64.wrap ((r : Int) + 1) = ((r + 1 : Nat) : Int) := by rw [wrap_in (by omega) (by omega)]; rfl
          go_wp2_with fail
          go_loopw [11] (fun j wr => ∃ q : Nat, q ≤ S.D.C ∧ j = .int .i64 (q : Int) ∧ Below (w6.alloc (.cells #[.int .i64 S.D.R, .int .i64 S.D.C] 39)).heap.size (w6.alloc (.cells #[.int .i64 S.D.R, .int .i64 S.D.C] 39)) wr) (fun j _ => S.D.C - (intOf j).toNat)
          case atStart => exact ⟨0, Nat.zero_le _, rfl, HQ.out⟩
          case round =>
            clear z0 z1 HQ
            obtain ⟨q, hqc, rfl, hq⟩ := hrel
            have hzr := (hq.block _ (block_lt HZ.out)).trans HZ.out
            have HZR := Lib.hid hzr
            obtain ⟨z0, z1, _⟩ := row2 hzr
            have HQ := Lib.hid hq
            clear hq hzr
            by_cases hlq : q < S.D.C
            · have hqi : (q : Int) < (S.D.C : Int) := by omega
              have hwq : IntKind.i64.wrap ((q : Int) + 1) = ((q + 1 : Nat) : Int) := by rw [wrap_in (by omega) (by omega)]; rfl
              have HAT := Lib.hid (HTW6.out.below HQ.out)
              have hkp := HKP.out.2.2 r q (by rw [← HKP.out.1]; exact hlr) (by rw [← HKP.out.2.1]; exact hlq)
              have hR0 : r < S0.D.R := by rw [← HKP.out.1]; exact hlr
              have hC0 : q < S0.D.C := by rw [← HKP.out.2.1]; exact hlq
              have HXY := Lib.hid hkp
              have ha1 : ∀ W, Below wr.heap.size wr W → Calls Tryz.prog 18 #[.pointer (some ⟨cp, 0, none⟩), .agg #[.int .i64 (r : Int), .int .i64 (q : Int)]] W fun e w' => e = .returned (.tuple #[.agg #[.int .i32 (S0.D.X r q).g, .int .i64 (S0.D.X r q).a, .bool (S0.D.X r q).gd, .int .i64 (S0.D.X r q).m], .int .i64 0]) ∧ Below W.heap.size W w' := by
                obtain ⟨F, FC, hs, hc, _⟩ := HAT.out
                exact fun W hb => scr_at_ij cp FC S0 r q W (hc.below hb) hR0 hC0
              have ha2 : ∀ W, Below wr.heap.size wr W → Calls Tryz.prog 18 #[.pointer (some ⟨sp, 0, none⟩), .agg #[.int .i64 (r : Int), .int .i64 (q : Int)]] W fun e w' => e = .returned (.tuple #[.agg #[.int .i32 (S.D.X r q).g, .int .i64 (S.D.X r q).a, .bool (S.D.X r q).gd, .int .i64 (S.D.X r q).m], .int .i64 0]) ∧ Below W.heap.size W w' := by
                obtain ⟨F, FC, hs, hc, _⟩ := HAT.out
                exact fun W hb => scr_at_ij sp F S r q W (hs.below hb) hlr hlq
              have HA1 := Lib.hid ha1
              have HA2 := Lib.hid ha2
              clear ha1 ha2 hkp
              generalize S0.D.X r q = x at *
              generalize S.D.X r q = y at *
              go_upto_region 22 with (first
                | (go_at_call 18; refine (HA2.out _ HB8.out).mono ?_; rintro e w9 ⟨rfl, hb9⟩; have HX9 := Lib.hid ((hb9.block _ (block_lt HX8.out)).trans HX8.out); have HB9 := Lib.hid (Below.later HB8.out hb9 HB8.out.size); clear hb9)
                | (go_at_call 18; refine (HA1.out _ (Below.refl _ _)).mono ?_; rintro e w8 ⟨rfl, hb8⟩; have HX8 := Lib.hid (heap_alloc_new w8 (.cells #[.int .i32 x.g, .int .i64 x.a, .bool x.gd, .int .i64 x.m] 24)); have HB8 := Lib.hid (Below.later hb8 (below1 w8 (.cells #[.int .i32 x.g, .int .i64 x.a, .bool x.gd, .int .i64 x.m] 24)) hb8.size); clear hb8))
              obtain ⟨x0, x1, x2, x3, _⟩ := row4 ((Below.heap_alloc w9 (.cells #[.int .i32 y.g, .int .i64 y.a, .bool y.gd, .int .i64 y.m] 24) _ (block_lt HX9.out)).trans HX9.out)
              have HBE : Hid (Below (w6.alloc (.cells #[.int .i64 S.D.R, .int .i64 S.D.C] 39)).heap.size (w6.alloc (.cells #[.int .i64 S.D.R, .int .i64 S.D.C] 39)) (w9.alloc (.cells #[.int .i32 y.g, .int .i64 y.a, .bool y.gd, .int .i64 y.m] 24))) := Below.later HQ.out (Below.later HB9.out (below1 _ _) HB9.out.size) HQ.out.size
              cases hxg : x.gd
              · simp only [hxg] at x0 x1 x2 x3
                go_wp2_with fail
                exact ⟨⟨q + 1, by omega, rfl, HBE.out⟩, by simp [intOf]; omega⟩
              · obtain rfl : y = x := HXY.out hxg
                simp only [hxg] at x0 x1 x2 x3
                go_wp2_with fail
                exact ⟨⟨q + 1, by omega, rfl, by have := HBE.out; rw [hxg] at this; exact this⟩, by simp [intOf]; omega⟩
            · obtain rfl : q = S.D.C := by omega
              go_wp2_with fail
              exact ⟨⟨r + 1, by omega, rfl, HQ.out⟩, by simp [intOf]; omega⟩
        · obtain rfl : r = S.D.R := by omega
          have HBW : Hid (Below w.heap.size w wr) := Below.later HB2.out (by obtain ⟨F, FC, _, _, _, _, hb⟩ := HTW6.out.below HQ.out; exact hb) HB2.out.size
          go_wp2_with (go_at_call 12; refine (HAW.out _ HBW.out).mono ?_; rintro e w9 ⟨rfl, hb9⟩; have HB9 := Lib.hid (Below.later HBW.out hb9 HBW.out.size); clear hb9)
          go_ret
          exact ⟨rfl, HB9.out⟩
end Go.Proofs.YtbnkfiaggehmgaaGreatDoor
