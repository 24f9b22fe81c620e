import Derived.Test.YteoeooijpjehpaaGreatDoorIS
import Derived.Test.YteoeooijpjehpaaGreatDoorIA

/- The law WyseGuards, whole: for all sizes and texts it answers true. -/
namespace Go.Proofs.YteoeooijpjehpaaGreatDoor
open Go.RowKit
set_option linter.unusedSimpArgs false
set_option linter.unusedVariables false
attribute [local go_sem] alloc_drewN setCell_drewN World.cell?_alloc_some frozen_alloc_some size_f0 size_f1

theorem run_neq_self (g a m : Int) (d : Bool) (w : World) : Sem.run Tryz.prog (binOp .neq 45 (.agg #[.int .i32 g, .int .i64 a, .bool d, .int .i64 m]) (.agg #[.int .i32 g, .int .i64 a, .bool d, .int .i64 m])) w = .ok (.bool false) w := by
 have h := run_neq_cell ⟨g, a, d, m⟩ ⟨g, a, d, m⟩ w
 rw [eqC_iff.2 rfl] at h
 exact h
attribute [local go_sem 3000] run_neq_self
theorem byte_runL (l : List UInt8) (k : Nat) (h : k < l.length) (W : World) : Sem.run Tryz.prog (Instr.slice 9 (.string ⟨l.toArray⟩) (some (.int .i64 (k : Int))) (some (.int .i64 ((k : Int) + 1))) none) W = .ok (.string ⟨[l[k]].toArray⟩) W := by
 have hz : (⟨l.toArray⟩ : ByteArray).size = l.length := by simp [ByteArray.size]
 have e : (⟨l.toArray⟩ : ByteArray).extract k (k + 1) = ⟨[l[k]].toArray⟩ := by
  apply ByteArray.ext
  rw [ByteArray.data_extract]
  apply Array.toList_inj.1
  rw [Array.toList_extract, List.extract_eq_take_drop]
  show List.take (k + 1 - k) (List.drop k l) = [l[k]]
  rw [show k + 1 - k = 1 by omega, List.drop_eq_getElem_cons h]
  rfl
 have := run_slice_string (P := Tryz.prog) W 9 ⟨l.toArray⟩ .i64 .i64 k (k + 1) Tryz.underlying9 (by omega) (by omega) (by omega)
 rw [show ((k : Int)).toNat = k by omega, show ((k : Int) + 1).toNat = k + 1 by omega, e] at this
 exact this
theorem modes_f1 (a b c d e : Value) (W : World) : Sem.run Tryz.prog (Instr.field 37 (.agg #[a, b, c, d, e]) 1) W = .ok b W := by kernel_rfl
attribute [local go_sem] modes_f1
set_option maxRecDepth 100000 in
set_option maxHeartbeats 16000000 in
theorem law_wgu_main (R C : Nat) (hf : fewS R C = true) (l1 l2 : List UInt8) (h1 : l1.length ≤ 100) (h2 : l2.length ≤ 100) (w : World) (hbl : BaseW w) : Calls Tryz.prog 4 #[.agg #[.int .i64 R, .int .i64 C], .string ⟨l1.toArray⟩, .string ⟨l2.toArray⟩] w fun e w' => e = .returned (.bool true) ∧ Below w.heap.size w w' := by
 have hf' : 1 ≤ (R : Int) ∧ (R : Int) ≤ 6 ∧ 1 ≤ (C : Int) ∧ (C : Int) ≤ 12 := of_decide_eq_true hf
 have hm : Vz.mayS R C = true := (Vz.mayS_iff _ _).2 (by omega)
 have HAW := Lib.hid (fun W (hb : Below w.heap.size w W) => awake_any W (hbl.below hb))
 have HN := Lib.hid (fun W (hb : Below w.heap.size w W) => made_ok R C hm W (hbl.below hb))
 have HFW := Lib.hid (fun W => hf ▸ few_any R C W)
 have hx := heap_alloc_new w (.cells #[.int .i64 R, .int .i64 C] 26)
 have HX0 := Lib.hid hx
 obtain ⟨x0, x1, g0, g1⟩ := row2 hx
 have HB0 := Lib.hid (below1 w (.cells #[.int .i64 R, .int .i64 C] 26))
 have h1' : ¬ (100 < (l1.length : Int)) := by omega
 have h2' : ¬ (100 < (l2.length : Int)) := by omega
 have hz1 : (⟨l1.toArray⟩ : ByteArray).size = l1.length := by simp [ByteArray.size]
 have hz2 : (⟨l2.toArray⟩ : ByteArray).size = l2.length := by simp [ByteArray.size]
 have hl1 : l1.length ≤ 100000 := by omega
 clear hbl hx hf hm g0 g1
 go_enter Tryz.func4, Tryz.ntmps4
 go_wp2_with (first
  | (go_at_call 19; refine (HFW.out _).mono ?_; rintro e w1 ⟨rfl, hb1⟩; have HB1 := Lib.hid (Below.later HB0.out hb1 HB0.out.size); have HX1 := Lib.hid ((hb1.block _ (block_lt HX0.out)).trans HX0.out); clear x0 x1; obtain ⟨x0, x1, _⟩ := row2 HX1.out; clear hb1)
  | (go_at_call 10; refine (HN.out _ HB1.out).mono ?_; rintro e w2 ⟨wp, tp, sp, qp, rfl, hmd⟩; clear x0 x1; obtain ⟨c0, c1, c2⟩ := hmd.cells; have HM2 := Lib.hid hmd; clear hmd)
  | (go_at_call 14; refine (made_drop HM3.out).mono ?_; rintro e w4 ⟨rfl, hmd⟩; clear c0 c1 c2; obtain ⟨c0, c1, c2⟩ := hmd.cells; have HM4 := Lib.hid hmd; clear hmd)
  | (go_at_call 12; refine (made_feed HM4.out [27, 38] (by decide)).mono ?_; rintro e w5 ⟨rfl, hmd⟩; clear c0 c1 c2; have HM5 := Lib.hid hmd; clear hmd)
  | (go_at_call 12; refine (made_feed HM2.out l1 hl1).mono ?_; rintro e w3 ⟨rfl, hmd⟩; clear c0 c1 c2; obtain ⟨c0, c1, c2⟩ := hmd.cells; have HM3 := Lib.hid hmd; clear hmd))
 have hpr := guard_onW { feedW (newW 60 R C) l1 with seq := [] } rfl
 have hRC : (feedW { feedW (newW 60 R C) l1 with seq := [] } [27, 38]).S.D.R = R ∧ (feedW { feedW (newW 60 R C) l1 with seq := [] } [27, 38]).S.D.C = C := by
  have e1 := feedW_RC { feedW (newW 60 R C) l1 with seq := [] } [27, 38]
  have e2 := feedW_RC (newW 60 R C) l1
  exact ⟨e1.1.trans e2.1, e1.2.trans e2.2⟩
 generalize feedW { feedW (newW 60 R C) l1 with seq := [] } [27, 38] = A0 at hpr hRC HM5
 have HA0 := Lib.hid (And.intro hpr hRC)
 clear hpr hRC
 go_loopw [8] (fun i wr => ∃ (k : Nat) (A : Wy), k ≤ l2.length ∧ i = .int .i64 (k : Int) ∧ (A.pr = true ∧ A.S.D.R = R ∧ A.S.D.C = C) ∧ Made w1 wr wp tp sp qp A) (fun i _ => l2.length - (intOf i).toNat)
 case atStart => exact ⟨0, A0, Nat.zero_le _, rfl, HA0.out, HM5.out⟩
 case round =>
  obtain ⟨k, A, hk, rfl, hA, hM⟩ := hrel
  have HA := Lib.hid hA
  have HM := Lib.hid hM
  have HBW := Lib.hid (Below.later HB1.out hM.2.2.2 HB1.out.size)
  obtain ⟨c0, c1, c2⟩ := hM.cells
  clear hA hM
  by_cases hlt : k < l2.length
  · have hkz : (k : Int) < (l2.length : Int) := by omega
    have hwk : IntKind.i64.wrap ((k : Int) + 1) = (k : Int) + 1 := by rw [wrap_in (by omega) (by omega)]
    have hsl := fun W => byte_runL l2 k hlt W
    generalize l2[k] = b at hsl
    go_upto_region 13 with (go_at_call 20; refine (made_copy HM.out).mono ?_; rintro e w6 ⟨cp, rfl, hc⟩; have HC := Lib.hid hc; clear hc)
    clear c0 c1 c2
    have HBD : Hid (Below w6.heap.size w6 w6.drew) := (Below.refl _ _).drew
    have HMB : Hid (∀ W, Below w6.heap.size w6 W → Made w1 W wp tp sp qp A) := fun W hb => (HM.out.below HC.out.2).below hb
    refine wp_region_noPanic ?_
    refine wp_region_k (S := fun W : World => Below w6.heap.size w6 W) 9 (by kernel_rfl) (HBD.out) (fun hHeld => ?_)
    refine kSK 0 hHeld ?_
    refine kSK 1 hHeld ?_
    refine kSK 2 hHeld ?_
    refine kTK (v := ?_) 3 [] hHeld ?y4 ?_
    case y4 => (intro W hSw; obtain ⟨y0, y1, y2⟩ := (HMB.out _ hSw).cells; go_simp; try with_reducible rfl)
    refine kSK 4 hHeld ?_
    try refine kNK ?_
    refine kSK 5 hHeld ?_
    refine kSK 6 hHeld ?_
    refine kSK 7 hHeld ?_
    refine kSK 8 hHeld ?_
    try refine kNK ?_
    refine kPK 9 fun KQ hKQ => ?_
    go_simp
    go_at_call 12
    refine (made_feed_copy HM.out HC.out hHeld [b] (by simp)).mono ?_
    rintro e w7 ⟨rfl, hmd, FC, hs⟩
    obtain ⟨y0, y1, y2⟩ := hmd.cells
    have HM7 := Lib.hid hmd
    have HS7 := Lib.hid hs
    clear hmd hs
    go_wp2_with fail
    refine hKQ.out _ _ ?_
    clear hKQ KQ
    try refine kNK ?_
    refine wpAnyK_done (by kernel_rfl) ?_ _
    refine NoPanic.normal ?_
    clear hHeld hsl
    have hRC := feedW_RC A [b]
    have hgu := fun h' => guard_feedW (A := A) b HA.out.1 (made_may HM.out).1 (made_may HM.out).2.1 h'
    have HAE : Hid (A.S.D.R = R ∧ A.S.D.C = C ∧ (feedW A [b]).S.D.R = R ∧ (feedW A [b]).S.D.C = C) := ⟨HA.out.2.1, HA.out.2.2, hRC.1.trans HA.out.2.1, hRC.2.trans HA.out.2.2⟩
    have HGU := Lib.hid hgu
    clear hRC hgu
    generalize feedW A [b] = A' at *
    cases hpr : A'.pr with
    | false =>
      have hpm := made_modes HM7.out
      unfold modesV at hpm
      rw [hpr] at hpm
      have HPM := Lib.hid hpm
      clear hpm
      go_wp2_with (first
       | (go_at_call 15; refine HPM.out.mono ?_; rintro e w8 ⟨rfl, hb8⟩; have HB8 := Lib.hid (Below.later HB1.out (HM7.out.below hb8).2.2.2 HB1.out.size); clear hb8 y0 y1 y2)
       | (go_at_call 9; refine (HAW.out _ HB8.out).mono ?_; rintro e w9 ⟨rfl, hb9⟩; have HB9 := Lib.hid (Below.later HB8.out hb9 HB8.out.size); clear hb9))
      go_ret
      exact ⟨rfl, HB9.out⟩
    | true =>
      have hpm := made_modes HM7.out
      unfold modesV at hpm
      rw [hpr] at hpm
      have HPM := Lib.hid hpm
      obtain ⟨hkg, hgr⟩ := HGU.out hpr
      have HKG := Lib.hid hkg
      have HGR := Lib.hid hgr
      have HPR := Lib.hid hpr
      clear hpm hkg hgr HGU hpr
      go_wp2_with (first
       | (go_at_call 15; refine HPM.out.mono ?_; rintro e w8 ⟨rfl, hb8⟩; have HB8 := Lib.hid hb8; clear hb8 y0 y1 y2))
      have HM8 := Lib.hid (HM7.out.below HB8.out)
      have HS8 := Lib.hid (HS7.out.below HB8.out)
      have HX8 := Lib.hid ((HM8.out.2.2.2.block _ (block_lt HX1.out)).trans HX1.out)
      have HBR0 : Hid (Below w8.heap.size w8 w8) := Below.refl _ _
      go_loopw [10, 11] (fun fr i wr => ∃ r f : Nat, r ≤ R ∧ i = .int .i64 (r : Int) ∧ fr = .int .i64 (f : Int) ∧ f ≤ 12 * r ∧ Hid ((∀ i j, i < R → j < C → (A'.S.D.X i j).gd = true) → f = 0) ∧ Below w8.heap.size w8 wr) (fun _ i _ => R - (intOf i).toNat)
      case atStart => exact ⟨0, 0, Nat.zero_le _, rfl, rfl, Nat.zero_le _, Lib.hid fun _ => rfl, HBR0.out⟩
      case round =>
       obtain ⟨r, f, hr, rfl, rfl, hf12, hf0, hq⟩ := hrel
       obtain ⟨z0, z1, _⟩ := row2 ((hq.block _ (block_lt HX8.out)).trans HX8.out)
       have HQ := Lib.hid hq
       have HF0 := Lib.hid hf0.out
       clear hq hf0
       by_cases hlr : r < R
       · have hri : (r : Int) < (R : Int) := by omega
         have hwr : IntKind.i64.wrap ((r : Int) + 1) = ((r + 1 : Nat) : Int) := by rw [wrap_in (by omega) (by omega)]; rfl
         go_wp2_with fail
         go_loopw [10, 12] (fun fr j wr => ∃ q f : Nat, q ≤ C ∧ j = .int .i64 (q : Int) ∧ fr = .int .i64 (f : Int) ∧ f ≤ 12 * r + q ∧ Hid ((∀ i j, i < R → j < C → (A'.S.D.X i j).gd = true) → f = 0) ∧ Below w8.heap.size w8 wr) (fun _ j _ => C - (intOf j).toNat)
         case atStart => exact ⟨0, f, Nat.zero_le _, rfl, rfl, by omega, Lib.hid HF0.out, HQ.out⟩
         case round =>
          clear z0 z1 HQ HF0 hf12
          obtain ⟨q, f, hqc, rfl, rfl, hf12, hf0, hq⟩ := hrel
          obtain ⟨z0, z1, _⟩ := row2 ((hq.block _ (block_lt HX8.out)).trans HX8.out)
          have HQ := Lib.hid hq
          have HF0 := Lib.hid hf0.out
          clear hq hf0
          by_cases hlq : q < C
          · have hqi : (q : Int) < (C : Int) := by omega
            have hwq : IntKind.i64.wrap ((q : Int) + 1) = ((q + 1 : Nat) : Int) := by rw [wrap_in (by omega) (by omega)]; rfl
            have hwf : IntKind.i64.wrap ((f : Int) + 1) = ((f + 1 : Nat) : Int) := by rw [wrap_in (by omega) (by omega)]; rfl
            have HXY := Lib.hid (HKG.out.2.2 r q (by rw [HAE.out.1]; exact hlr) (by rw [HAE.out.2.1]; exact hlq))
            have HAL := Lib.hid (fun hall : (∀ i j, i < R → j < C → (A'.S.D.X i j).gd = true) => hall r q hlr hlq)
            have HA1 : Hid (∀ W, Below wr.heap.size wr W → Calls Tryz.prog 21 #[.pointer (some ⟨cp, 0, none⟩), .agg #[.int .i64 (r : Int), .int .i64 (q : Int)]] W fun e w' => e = .returned (.tuple #[.agg #[.int .i32 (A.S.D.X r q).g, .int .i64 (A.S.D.X r q).a, .bool (A.S.D.X r q).gd, .int .i64 (A.S.D.X r q).m], .int .i64 0]) ∧ Below W.heap.size W w') :=
             fun W hb => scr_at_ij cp FC A.S r q W ((HS8.out.below HQ.out).below hb) (by rw [HAE.out.1]; exact hlr) (by rw [HAE.out.2.1]; exact hlq)
            have HA2 : Hid (∀ W, Below wr.heap.size wr W → Calls Tryz.prog 21 #[.pointer (some ⟨sp, 0, none⟩), .agg #[.int .i64 (r : Int), .int .i64 (q : Int)]] W fun e w' => e = .returned (.tuple #[.agg #[.int .i32 (A'.S.D.X r q).g, .int .i64 (A'.S.D.X r q).a, .bool (A'.S.D.X r q).gd, .int .i64 (A'.S.D.X r q).m], .int .i64 0]) ∧ Below W.heap.size W w') :=
             fun W hb => made_at_ij ((HM8.out.below HQ.out).below hb) r q (by rw [HAE.out.2.2.1]; exact hlr) (by rw [HAE.out.2.2.2]; exact hlq)
            have HMW := Lib.hid (fun W (hb : Below wr.heap.size wr W) => ((HM8.out.below HQ.out).below hb).cells)
            generalize A.S.D.X r q = x at *
            generalize A'.S.D.X r q = y at *
            go_upto_region 24 with (first
             | (go_at_call 21; refine (HA2.out _ HB9.out).mono ?_; rintro e w10 ⟨rfl, hb10⟩; have HX10 := Lib.hid ((hb10.block _ (block_lt HX9.out)).trans HX9.out); have HB10 := Lib.hid (Below.later HB9.out hb10 HB9.out.size); clear hb10)
             | (go_at_call 21; refine (HA1.out _ (Below.refl _ _)).mono ?_; rintro e w9 ⟨rfl, hb9⟩; have HX9 := Lib.hid (heap_alloc_new w9 (.cells #[.int .i32 x.g, .int .i64 x.a, .bool x.gd, .int .i64 x.m] 45)); have HB9 := Lib.hid (Below.later hb9 (below1 w9 (.cells #[.int .i32 x.g, .int .i64 x.a, .bool x.gd, .int .i64 x.m] 45)) hb9.size); obtain ⟨y0, y1, y2⟩ := HMW.out _ HB9.out; clear hb9))
            obtain ⟨x0, x1, x2, x3, _⟩ := row4 ((Below.heap_alloc w10 (.cells #[.int .i32 y.g, .int .i64 y.a, .bool y.gd, .int .i64 y.m] 45) _ (block_lt HX10.out)).trans HX10.out)
            obtain ⟨u0, u1, u2, u3, _⟩ := row4 (heap_alloc_new w10 (.cells #[.int .i32 y.g, .int .i64 y.a, .bool y.gd, .int .i64 y.m] 45))
            have HBE : Hid (Below w8.heap.size w8 (w10.alloc (.cells #[.int .i32 y.g, .int .i64 y.a, .bool y.gd, .int .i64 y.m] 45))) := Below.later HQ.out (Below.later HB10.out (below1 _ _) HB10.out.size) HQ.out.size
            cases hxg : x.gd
            · cases hyg : y.gd
              · simp only [hxg, hyg] at x0 x1 x2 x3 u0 u1 u2 u3 HBE HAL
                go_wp2_with fail
                exact ⟨⟨q + 1, f + 1, by omega, rfl, rfl, by omega, Lib.hid fun h => (by have := HAL.out h; cases this), HBE.out⟩, by simp [intOf]; omega⟩
              · simp only [hxg, hyg] at x0 x1 x2 x3 u0 u1 u2 u3 HBE
                go_wp2_with fail
                exact ⟨⟨q + 1, f, by omega, rfl, rfl, by omega, Lib.hid HF0.out, HBE.out⟩, by simp [intOf]; omega⟩
            · obtain rfl : y = x := HXY.out hxg
              simp only [hxg] at x0 x1 x2 x3 u0 u1 u2 u3 HBE
              go_wp2_with fail
              exact ⟨⟨q + 1, f, by omega, rfl, rfl, by omega, Lib.hid HF0.out, HBE.out⟩, by simp [intOf]; omega⟩
          · obtain rfl : q = C := by omega
            go_wp2_with fail
            exact ⟨⟨r + 1, f, by omega, rfl, rfl, by omega, Lib.hid HF0.out, HQ.out⟩, by simp [intOf]; omega⟩
       · obtain rfl : r = R := by omega
         have HMQ := Lib.hid (HM8.out.below HQ.out)
         obtain ⟨y0, y1, y2⟩ := HMQ.out.cells
         have HOR : Hid ((atD A'.S.D A'.S.pl.at_).gd = true → f = 0) := fun h => HF0.out fun i j hi hj => HGR.out h i j (by rw [HAE.out.1]; exact hi) (by rw [HAE.out.2.1]; exact hj)
         have hwk2 : IntKind.i64.wrap ((k : Int) + 1) = ((k + 1 : Nat) : Int) := by rw [wrap_in (by omega) (by omega)]; rfl
         clear hwk
         go_upto_region 29 with (go_at_call 22; refine (made_cursor HMQ.out).mono ?_; rintro e w11 ⟨rfl, hb11⟩; have HB11 := Lib.hid hb11; clear hb11)
         clear y0 y1 y2 z0 z1
         have HP11 := Lib.hid (heap_alloc_new w11 (.cells #[.int .i64 A'.S.pl.at_.row, .int .i64 A'.S.pl.at_.col] 49))
         have HBP := Lib.hid (Below.later HB11.out (below1 w11 (.cells #[.int .i64 A'.S.pl.at_.row, .int .i64 A'.S.pl.at_.col] 49)) HB11.out.size)
         generalize hWP : w11.alloc (.cells #[.int .i64 A'.S.pl.at_.row, .int .i64 A'.S.pl.at_.col] 49) = wP at *
         have HMP := Lib.hid (HMQ.out.below HBP.out)
         have HBPD : Hid (Below wP.heap.size wP wP.drew) := (Below.refl _ _).drew
         have HMPW := Lib.hid (fun W (hb : Below wP.heap.size wP W) => (HMP.out.below hb).cells)
         have HPW := Lib.hid (fun W (hb : Below wP.heap.size wP W) => row2 ((hb.block _ (block_lt HP11.out)).trans HP11.out))
         refine wp_region_noPanic ?_
         refine wp_region_k (S := fun W : World => Below wP.heap.size wP W) 5 (by kernel_rfl) (HBPD.out) (fun hHeld => ?_)
         refine kSK 0 hHeld ?_
         refine kSK 1 hHeld ?_
         refine kSK 2 hHeld ?_
         refine kTK (v := ?_) 3 [] hHeld ?y4 ?_
         case y4 => (intro W hSw; obtain ⟨y0, y1, y2⟩ := HMPW.out _ hSw; obtain ⟨p0, p1, _⟩ := HPW.out _ hSw; go_simp; try with_reducible rfl)
         refine kTK (v := ?_) 4 [] hHeld ?y5 ?_
         case y5 => (intro W hSw; obtain ⟨y0, y1, y2⟩ := HMPW.out _ hSw; obtain ⟨p0, p1, _⟩ := HPW.out _ hSw; go_simp; try with_reducible rfl)
         try refine kNK ?_
         refine wpAnyK_ready (rs := [5, 9]) (by kernel_rfl) (by simp) ?_
         refine AllReadyK.free rfl (by kernel_rfl) (fun KQ hKQ => ?_) (AllReadyK.cons rfl (fun KQ hKQ => ?_) AllReadyK.nil)
         focus
          go_simp
          go_at_call 21
          refine (made_at_here (HMP.out.below hHeld)).mono ?_
          rintro e w12 ⟨rfl, hb12⟩
          have HB12 := Lib.hid (Below.later hHeld hb12 hHeld.size)
          have HB23 := Lib.hid hb12
          first | (have hl := row4 ((hb12.block _ (block_lt HC9.out)).trans HC9.out); revert hl; rintro ⟨l0, l1, l2', l3, n0, n1, n2, n3⟩) | skip
          clear hb12
          go_wp2_with fail
          refine hKQ.out _ _ ?_
          clear hKQ KQ
          try refine kNK ?_
          refine kBK 6 ?_
          refine kBK 7 ?_
          refine kBK 8 ?_
          try refine kNK ?_
          refine kPK 9 fun KQ hKQ => ?_
          go_simp
          have HC9 : Hid ((wP.drew.alloc (.cells #[.int .i32 0, .int .i64 0, .bool false, .int .i64 0] 45)).heap[wP.heap.size]? = some (.cells #[.int .i32 0, .int .i64 0, .bool false, .int .i64 0] 45 (0, 0))) := heap_alloc_new wP.drew _
          refine hKQ.out _ _ ?_
          clear hKQ KQ
          try refine kNK ?_
          refine kPK 10 fun KQ hKQ => ?_
          go_simp
          refine hKQ.out _ _ ?_
          clear hKQ KQ
          try refine kNK ?_
          refine kBK 11 ?_
          try refine kNK ?_
          refine wpAnyK_done (by kernel_rfl) ?_ _
          refine NoPanic.normal ?_
         rotate_left 1
         focus
          go_simp
          have HC9 : Hid ((wP.drew.alloc (.cells #[.int .i32 0, .int .i64 0, .bool false, .int .i64 0] 45)).heap[wP.heap.size]? = some (.cells #[.int .i32 0, .int .i64 0, .bool false, .int .i64 0] 45 (0, 0))) := heap_alloc_new wP.drew _
          refine hKQ.out _ _ (hHeld.alloc hHeld.size _) ?_
          clear hHeld hKQ KQ
          intro hHeld
          try refine kNK ?_
          refine kPK 5 fun KQ hKQ => ?_
          go_simp
          go_at_call 21
          refine (made_at_here (HMP.out.below hHeld)).mono ?_
          rintro e w12 ⟨rfl, hb12⟩
          have HB12 := Lib.hid (Below.later hHeld hb12 hHeld.size)
          have HB23 := Lib.hid hb12
          first | (have hl := row4 ((hb12.block _ (block_lt HC9.out)).trans HC9.out); revert hl; rintro ⟨l0, l1, l2', l3, n0, n1, n2, n3⟩) | skip
          clear hb12
          go_wp2_with fail
          refine hKQ.out _ _ ?_
          clear hKQ KQ
          try refine kNK ?_
          refine kBK 6 ?_
          refine kBK 7 ?_
          refine kBK 8 ?_
          try refine kNK ?_
          refine kPK 10 fun KQ hKQ => ?_
          go_simp
          refine hKQ.out _ _ ?_
          clear hKQ KQ
          try refine kNK ?_
          refine kBK 11 ?_
          try refine kNK ?_
          refine wpAnyK_done (by kernel_rfl) ?_ _
          refine NoPanic.normal ?_
         rotate_left 1
         · clear hHeld
           generalize atD A'.S.D A'.S.pl.at_ = y at *
           have HB4 : Hid (Below wP.heap.size wP (w12.alloc (.cells #[.int .i32 y.g, .int .i64 y.a, .bool y.gd, .int .i64 y.m] 45))) := HB12.out.alloc HB12.out.size _
           have HCC : Hid ((w12.alloc (.cells #[.int .i32 y.g, .int .i64 y.a, .bool y.gd, .int .i64 y.m] 45)).heap[w12.heap.size]? = some (.cells #[.int .i32 y.g, .int .i64 y.a, .bool y.gd, .int .i64 y.m] 45 (0, 0))) := heap_alloc_new _ _
           clear HB23
           generalize w12.alloc (.cells #[.int .i32 y.g, .int .i64 y.a, .bool y.gd, .int .i64 y.m] 45) = W4 at *
           generalize w12.heap.size = cb at *
           obtain ⟨u0, u1, u2, u3, _⟩ := row4 HCC.out
           have HME : Hid (Made w1 W4 wp tp sp qp A') := HMP.out.below HB4.out
           cases hyg : y.gd
           · simp only [hyg] at u0 u1 u2 u3
             go_wp2_with fail
             exact ⟨⟨k + 1, A', by omega, rfl, ⟨HPR.out, HAE.out.2.2⟩, HME.out⟩, by simp [intOf]; omega⟩
           · have hf0 : f = 0 := HOR.out hyg
             subst hf0
             simp only [hyg] at u0 u1 u2 u3
             go_wp2_with fail
             exact ⟨⟨k + 1, A', by omega, rfl, ⟨HPR.out, HAE.out.2.2⟩, HME.out⟩, by simp [intOf]; omega⟩
         · clear hHeld
           generalize atD A'.S.D A'.S.pl.at_ = y at *
           have HB4 : Hid (Below wP.heap.size wP ((((w12.setCell ⟨wP.heap.size, 0, none⟩ (.int .i32 y.g)).setCell ⟨wP.heap.size, 1, none⟩ (.int .i64 y.a)).setCell ⟨wP.heap.size, 2, none⟩ (.bool y.gd)).setCell ⟨wP.heap.size, 3, none⟩ (.int .i64 y.m))) := Below.set4 HB12.out (Nat.le_refl _) _ _ _ _
           have HCC : Hid (((((w12.setCell ⟨wP.heap.size, 0, none⟩ (.int .i32 y.g)).setCell ⟨wP.heap.size, 1, none⟩ (.int .i64 y.a)).setCell ⟨wP.heap.size, 2, none⟩ (.bool y.gd)).setCell ⟨wP.heap.size, 3, none⟩ (.int .i64 y.m)).heap[wP.heap.size]? = some (.cells #[.int .i32 y.g, .int .i64 y.a, .bool y.gd, .int .i64 y.m] 45 (0, 0))) := set_four ((HB23.out.block _ (block_lt HC9.out)).trans HC9.out) _ _ _ _
           clear l0 l1 l2' l3 n0 n1 n2 n3 HC9 HB23
           generalize ((((w12.setCell ⟨wP.heap.size, 0, none⟩ (.int .i32 y.g)).setCell ⟨wP.heap.size, 1, none⟩ (.int .i64 y.a)).setCell ⟨wP.heap.size, 2, none⟩ (.bool y.gd)).setCell ⟨wP.heap.size, 3, none⟩ (.int .i64 y.m)) = W4 at *
           have HME : Hid (Made w1 W4 wp tp sp qp A') := HMP.out.below HB4.out
           generalize wP.heap.size = cb at *
           obtain ⟨u0, u1, u2, u3, _⟩ := row4 HCC.out
           cases hyg : y.gd
           · simp only [hyg] at u0 u1 u2 u3
             go_wp2_with fail
             exact ⟨⟨k + 1, A', by omega, rfl, ⟨HPR.out, HAE.out.2.2⟩, HME.out⟩, by simp [intOf]; omega⟩
           · have hf0 : f = 0 := HOR.out hyg
             subst hf0
             simp only [hyg] at u0 u1 u2 u3
             go_wp2_with fail
             exact ⟨⟨k + 1, A', by omega, rfl, ⟨HPR.out, HAE.out.2.2⟩, HME.out⟩, by simp [intOf]; omega⟩
  · obtain rfl : k = l2.length := by omega
    clear c0 c1 c2
    go_wp2_with (go_at_call 9; refine (HAW.out _ HBW.out).mono ?_; rintro e w9 ⟨rfl, hb9⟩; have HB9 := Lib.hid (Below.later HBW.out hb9 HBW.out.size); clear hb9)
    go_ret
    exact ⟨rfl, HB9.out⟩
set_option maxRecDepth 100000 in
set_option maxHeartbeats 4000000 in
/-- What is not asked: only the chapter's example. -/
theorem law_wgu_no (r c : Int) (s t : ByteArray) (w : World) (hbl : BaseW w) (h : fewS r c = false ∨ (fewS r c = true ∧ 100 < s.size) ∨ (fewS r c = true ∧ ¬ 100 < s.size ∧ 100 < t.size)) : Calls Tryz.prog 4 #[.agg #[.int .i64 r, .int .i64 c], .string s, .string t] w fun e w' => e = .returned (.bool true) ∧ Below w.heap.size w w' := by
 have HAW := Lib.hid (fun W (hb : Below w.heap.size w W) => awake_any W (hbl.below hb))
 have HFW := Lib.hid (fun W => few_any r c W)
 obtain ⟨x0, x1, g0, g1⟩ := row2 (heap_alloc_new w (.cells #[.int .i64 r, .int .i64 c] 26))
 have HB0 := Lib.hid (below1 w (.cells #[.int .i64 r, .int .i64 c] 26))
 clear hbl
 rcases h with h | ⟨h, h2⟩ | ⟨h, h2, h3⟩
 · rw [h] at HFW
   go_enter Tryz.func4, Tryz.ntmps4
   go_wp2_with (first
    | (go_at_call 19; refine (HFW.out _).mono ?_; rintro e w1 ⟨rfl, hb1⟩; have HB1 := Lib.hid (Below.later HB0.out hb1 HB0.out.size); clear hb1)
    | (go_at_call 9; refine (HAW.out _ HB1.out).mono ?_; rintro e w9 ⟨rfl, hb9⟩; have HB9 := Lib.hid (Below.later HB1.out hb9 HB1.out.size); clear hb9))
   go_ret
   exact ⟨rfl, HB9.out⟩
 · rw [h] at HFW
   have h2' : 100 < (s.size : Int) := by omega
   go_enter Tryz.func4, Tryz.ntmps4
   go_wp2_with (first
    | (go_at_call 19; refine (HFW.out _).mono ?_; rintro e w1 ⟨rfl, hb1⟩; have HB1 := Lib.hid (Below.later HB0.out hb1 HB0.out.size); clear hb1)
    | (go_at_call 9; refine (HAW.out _ HB1.out).mono ?_; rintro e w9 ⟨rfl, hb9⟩; have HB9 := Lib.hid (Below.later HB1.out hb9 HB1.out.size); clear hb9))
   go_ret
   exact ⟨rfl, HB9.out⟩
 · rw [h] at HFW
   have h2' : ¬ (100 < (s.size : Int)) := by omega
   have h3' : 100 < (t.size : Int) := by omega
   go_enter Tryz.func4, Tryz.ntmps4
   go_wp2_with (first
    | (go_at_call 19; refine (HFW.out _).mono ?_; rintro e w1 ⟨rfl, hb1⟩; have HB1 := Lib.hid (Below.later HB0.out hb1 HB0.out.size); clear hb1)
    | (go_at_call 9; refine (HAW.out _ HB1.out).mono ?_; rintro e w9 ⟨rfl, hb9⟩; have HB9 := Lib.hid (Below.later HB1.out hb9 HB1.out.size); clear hb9))
   go_ret
   exact ⟨rfl, HB9.out⟩
theorem law_wgu (r c : Int) (s t : ByteArray) (w : World) (hbl : BaseW w) : Calls Tryz.prog 4 #[.agg #[.int .i64 r, .int .i64 c], .string s, .string t] w fun e w' => e = .returned (.bool true) ∧ Below w.heap.size w w' := by
 cases hf : fewS r c with
 | false => exact law_wgu_no r c s t w hbl (.inl hf)
 | true =>
   by_cases hm : 100 < s.size
   · exact law_wgu_no r c s t w hbl (.inr (.inl ⟨hf, hm⟩))
   · by_cases hn : 100 < t.size
     · exact law_wgu_no r c s t w hbl (.inr (.inr ⟨hf, hm, hn⟩))
     · have hf' : 1 ≤ r ∧ r ≤ 6 ∧ 1 ≤ c ∧ c ≤ 12 := of_decide_eq_true hf
       obtain ⟨R, rfl⟩ := Int.eq_ofNat_of_zero_le (show 0 ≤ r by omega)
       obtain ⟨C, rfl⟩ := Int.eq_ofNat_of_zero_le (show 0 ≤ c by omega)
       have hs : s = (⟨s.data.toList.toArray⟩ : ByteArray) := by cases s; simp
       have ht : t = (⟨t.data.toList.toArray⟩ : ByteArray) := by cases t; simp
       have hz : s.data.toList.length = s.size := rfl
       have hz2 : t.data.toList.length = t.size := rfl
       rw [hs, ht]
       exact law_wgu_main R C hf s.data.toList t.data.toList (by omega) (by omega) w hbl
end Go.Proofs.YteoeooijpjehpaaGreatDoor
