import Derived.Test.YtbnkfiaggehmgaaGreatDoorGX
import Derived.Test.YtbnkfiaggehmgaaGreatDoorFePlain
import Derived.Test.YtbnkfiaggehmgaaGreatDoorGV
import Derived.Test.YtbnkfiaggehmgaaGreatDoorGN

/- The law ScreenFeeds, whole: for every list of calls and every number it answers true. -/
namespace Go.Proofs.YtbnkfiaggehmgaaGreatDoor
open Go.RowKit
set_option linter.unusedSimpArgs false
set_option linter.unusedVariables false
attribute [local go_sem] alloc_drewN setCell_drewN World.cell?_alloc_some frozen_alloc_some size_f0 size_f1
attribute [local go_sem 3000] run_neq_self run_neqp_self

set_option maxRecDepth 100000 in
set_option maxHeartbeats 16000000 in
theorem law_sfe (A1 : Option Addr) (m1 cap1 : Nat) (L1 : List Vz.Op) (n : Int) (w : World) (hbl : Blanked w) (h1 : Opers w.heap.size w A1 m1 L1) (hm1 : m1 ≤ maxLen) : Calls Tryz.prog 8 #[.slice A1 m1 cap1, .int .i64 n] w fun e w' => e = .returned (.bool true) ∧ Below w.heap.size w w' := by
  have HB0 : Hid (Below w.heap.size w w) := Below.refl _ _
  have HFEW1 := Lib.hid (fun W (hb : Below w.heap.size w W) => few_any A1 m1 cap1 L1 W ((h1.below hb (Nat.le_refl _)).more hb.size) hm1)
  have HAW := Lib.hid (fun W (hb : Below w.heap.size w W) => awake_any W (hbl.below hb))
  have HBG := Lib.hid (fun W (hb : Below w.heap.size w W) => begun_ok A1 m1 cap1 L1 W (hbl.below hb) ((h1.below hb (Nat.le_refl _)).more hb.size) hm1)
  have HBL := Lib.hid (fun W (hb : Below w.heap.size w W) => (hbl.below hb).cells)
  clear h1 hm1 hbl
  by_cases c1 : n < -300
  · have d1 : decide (n < -300) = true := decide_eq_true c1
    go_enter Tryz.func8, Tryz.ntmps8
    go_wp2_with (first
      | (go_at_call 12; refine (HAW.out _ HB1.out).mono ?_; rintro e w9 ⟨rfl, hb9⟩; have HB9 := Lib.hid (Below.later HB1.out hb9 HB1.out.size); clear hb9)
      | (go_at_call 11; refine (HFEW1.out _ HB0.out).mono ?_; rintro e w1 ⟨b, rfl, hb1⟩; have HB1 := Lib.hid hb1; clear hb1; cases b))
    all_goals
      go_ret
      exact ⟨rfl, HB9.out⟩
  have d1 : decide (n < -300) = false := decide_eq_false c1
  by_cases c2 : 300 < n
  · have d2 : decide (300 < n) = true := decide_eq_true c2
    go_enter Tryz.func8, Tryz.ntmps8
    go_wp2_with (first
      | (go_at_call 12; refine (HAW.out _ HB1.out).mono ?_; rintro e w9 ⟨rfl, hb9⟩; have HB9 := Lib.hid (Below.later HB1.out hb9 HB1.out.size); clear hb9)
      | (go_at_call 11; refine (HFEW1.out _ HB0.out).mono ?_; rintro e w1 ⟨b, rfl, hb1⟩; have HB1 := Lib.hid hb1; clear hb1; cases b))
    all_goals
      go_ret
      exact ⟨rfl, HB9.out⟩
  have d2 : decide (300 < n) = false := decide_eq_false c2
  have hn : -300 ≤ n ∧ n ≤ 300 := by omega
  have HN := Lib.hid hn
  obtain ⟨hn1, hn2⟩ := hn
  clear c1 c2
  go_enter Tryz.func8, Tryz.ntmps8
  go_upto_region 6 with (first
    | (go_at_call 13; refine (HBG.out _ HB1.out).mono ?_; rintro e w3 ⟨sp, rfl, hnew⟩; have HNS := Lib.hid hnew; clear hnew)
    | (go_at_call 12; refine (HAW.out _ HB1.out).mono ?_; rintro e w9 ⟨rfl, hb9⟩; have HB9 := Lib.hid (Below.later HB1.out hb9 HB1.out.size); clear hb9)
    | (go_at_call 11; refine (HFEW1.out _ HB0.out).mono ?_; rintro e w1 ⟨b, rfl, hb1⟩; have HB1 := Lib.hid hb1; clear hb1; cases b))
  · go_ret
    exact ⟨rfl, HB9.out⟩
  generalize runS (newS 5 9) L1 = S at *
  obtain ⟨⟨F, hs, hnf⟩, hb3⟩ := HNS.out
  have HS3 := Lib.hid hs
  have HF3 : Hid (∀ k, F k → w1.heap.size ≤ k ∧ k < w3.heap.size) := fun k hk => ⟨hnf k hk, hs.lt k hk⟩
  have HB13 := Lib.hid hb3
  have hmay := hs.here.2
  obtain ⟨n1, n2, n3, n4⟩ := hmay
  have HIN := Lib.hid hs.here
  obtain ⟨q1, q2, q3, q4⟩ := hs.here.1
  have hw1 : IntKind.i64.wrap (S.pl.at_.row + n) = S.pl.at_.row + n := wrap_in (by omega) (by omega)
  have hw2 : IntKind.i64.wrap ((S.D.R : Int) - 1) = (S.D.R : Int) - 1 := wrap_in (by omega) (by omega)
  have HFP := Lib.hid (fed_pl hs.here.1 hs.here.2 HN.out)
  obtain ⟨ρ, hρ⟩ : ∃ ρ, ρ = fedRow S n := ⟨_, rfl⟩
  have HRO := Lib.hid hρ
  have hρ2 : 0 ≤ ρ ∧ ρ < S.D.R := by rw [hρ]; unfold fedRow; omega
  obtain ⟨hρ0, hρ1⟩ := hρ2
  have HFM : Hid (max 0 (min (S.pl.at_.row + n) ((S.D.R : Int) - 1)) = ρ) := by rw [hρ]; rfl
  have hmm := HFM.out
  have hw3 : IntKind.i64.wrap (S.pl.at_.row + n - ρ) = S.pl.at_.row + n - ρ := wrap_in (by omega) (by omega)
  have hz13 : w1.heap.size ≤ w3.heap.size := hb3.size
  clear hs hnf hb3 hρ
  go_upto_region 11 with (first
    | (go_at_call 15; obtain ⟨⟨F7, hs7, hf7⟩, hk7⟩ := HG7.out; have hcu := scr_cursor sp F7 (feedS S n) w7 hs7; rw [HFP.out, ← HRO.out] at hcu; refine hcu.mono ?_; rintro e w8 ⟨rfl, hb8⟩; have HB78 := Lib.hid hb8; have HXP8 := Lib.hid ((hb8.block _ (block_lt HXP7.out)).trans HXP7.out); have HXZ8 := Lib.hid ((hb8.block _ (block_lt HXZ7.out)).trans HXZ7.out); clear hs7 hf7 hk7 hb8 hcu)
    | (go_at_call 31; refine (scr_feed sp F S n _ HS6.out).mono ?_; rintro e w7 ⟨rfl, hg7⟩; have HG7 := Lib.hid hg7; have HXP7 := Lib.hid ((hg7.2.block _ (block_lt HXP6.out) (fun hc => by have := HF3.out _ hc; have := HZ34.out; omega)).trans HXP6.out); have HXZ7 := Lib.hid ((hg7.2.block _ (block_lt HXZ6.out) (fun hc => by have := HF3.out _ hc; have := HZ34.out; have := HZ56.out; omega)).trans HXZ6.out); clear hg7)
    | (go_at_call 16; refine (scr_size sp F S _ HS5.out).mono ?_; rintro e w6 ⟨rfl, hb6⟩; have hb6' := Below.later hb6 (below1 w6 (.cells #[.int .i64 S.D.R, .int .i64 S.D.C] 39)) hb6.size; have HB56 := Lib.hid hb6'; have hzz : w5.heap.size < w6.heap.size := (by have := hb6.size; rw [World.size_alloc] at this; omega); have HZ56 := Lib.hid hzz; have HXZ6 := Lib.hid (heap_alloc_new w6 (.cells #[.int .i64 S.D.R, .int .i64 S.D.C] 39)); have HS6 := Lib.hid (HS5.out.below hb6'); have HC6 := Lib.hid (HC5.out.below hb6'); have HXP6 := Lib.hid ((hb6'.block _ (block_lt HXP.out)).trans HXP.out); clear hb6 hb6' hzz)
    | (go_at_call 15; refine (scr_cursor sp F S w4 HS4.out).mono ?_; rintro e w5 ⟨rfl, hb5⟩; have hb5' := Below.later hb5 (below1 w5 (.cells #[.int .i64 S.pl.at_.row, .int .i64 S.pl.at_.col] 30)) hb5.size; have HB45 := Lib.hid hb5'; have hzz : w3.heap.size ≤ w5.heap.size := (by have := hb5.size; have := HB34.out.size; omega); have HZ34 := Lib.hid hzz; have HXP := Lib.hid (heap_alloc_new w5 (.cells #[.int .i64 S.pl.at_.row, .int .i64 S.pl.at_.col] 30)); have HS5 := Lib.hid (HS4.out.below hb5'); have HC5 := Lib.hid (HC4.out.below hb5'); clear hb5 hb5' hzz)
    | (go_at_call 24; refine (scr_copy sp F S _ HS3.out).mono ?_; rintro e w4 ⟨cp, rfl, hc⟩; obtain ⟨⟨FC, hcs, hcn⟩, hb4⟩ := hc; have HFC := Lib.hid (fun k (hk : FC k) => And.intro (hcn k hk) (hcs.lt k hk)); have HC4 := Lib.hid hcs; have HB34 := Lib.hid hb4; have HS4 := Lib.hid (HS3.out.below hb4); clear hcs hcn hb4))
  have HB8A : Hid (Below w7.heap.size w7 (w8.alloc (.cells #[.int .i64 ρ, .int .i64 S.pl.at_.col] 30))) := Below.later HB78.out (below1 _ _) HB78.out.size
  have HXQ := Lib.hid (heap_alloc_new w8 (.cells #[.int .i64 ρ, .int .i64 S.pl.at_.col] 30))
  have HXP9 : Hid ((w8.alloc (.cells #[.int .i64 ρ, .int .i64 S.pl.at_.col] 30)).heap[w5.heap.size]? = some (.cells #[.int .i64 S.pl.at_.row, .int .i64 S.pl.at_.col] 30 (0, 0))) := (Below.heap_alloc w8 _ _ (block_lt HXP8.out)).trans HXP8.out
  have HXZ9 : Hid ((w8.alloc (.cells #[.int .i64 ρ, .int .i64 S.pl.at_.col] 30)).heap[w6.heap.size]? = some (.cells #[.int .i64 S.D.R, .int .i64 S.D.C] 39 (0, 0))) := (Below.heap_alloc w8 _ _ (block_lt HXZ8.out)).trans HXZ8.out
  obtain ⟨p0, p1, _⟩ := row2 HXP9.out
  obtain ⟨z0, z1, _⟩ := row2 HXZ9.out
  obtain ⟨y0, y1, _⟩ := row2 HXQ.out
  go_wp2_with fail
  have htw : Two w1 w7 sp cp (feedS S n) S := by
    have hb16 : Below w1.heap.size w1 (w6.alloc (.cells #[.int .i64 S.D.R, .int .i64 S.D.C] 39)) := Below.later HB13.out (Below.later HB34.out (Below.later HB45.out HB56.out HB45.out.size) HB34.out.size) HB13.out.size
    refine Two.turn HS6.out HC6.out (fun k hk => ⟨(HF3.out k hk).1, fun hf => ?_⟩) (fun k hk => ?_) hb16 HG7.out
    · have := (HF3.out k hk).2
      have := (HFC.out k hf).1
      omega
    · have := (HFC.out k hk).1
      omega
  have HTW : Hid (Two w1 (w8.alloc (.cells #[.int .i64 ρ, .int .i64 S.pl.at_.col] 30)) sp cp (feedS S n) S) := htw.below HB8A.out
  have HB1W : Hid (∀ W, Below (w8.alloc (.cells #[.int .i64 ρ, .int .i64 S.pl.at_.col] 30)).heap.size (w8.alloc (.cells #[.int .i64 ρ, .int .i64 S.pl.at_.col] 30)) W → Below w.heap.size w W) := fun W hb => by
    obtain ⟨F8, FC8, hs8, hc8, _, _, hb8⟩ := HTW.out
    exact Below.later HB1.out (Below.later hb8 hb hb8.size) HB1.out.size
  have HFI : Hid (∀ i j : Nat, i < S.D.R → 0 ≤ (i : Int) + (S.pl.at_.row + n - ρ) → (i : Int) + (S.pl.at_.row + n - ρ) < S.D.R → (feedS S n).D.X i j = S.D.X ((i : Int) + (S.pl.at_.row + n - ρ)).toNat j) := fun i j hi h0 h1 => by
    rw [HRO.out] at h0 h1 ⊢
    exact fed_in HN.out hi h0 h1
  have HFO : Hid (∀ i j : Nat, i < S.D.R → ¬ (0 ≤ (i : Int) + (S.pl.at_.row + n - ρ) ∧ (i : Int) + (S.pl.at_.row + n - ρ) < S.D.R) → (feedS S n).D.X i j = Vz.Cl.blank) := fun i j hi h => by
    rw [HRO.out] at h
    exact fed_out HN.out hi h
  have HLI : Hid (S.pl.at_.row + n - ρ = 0 → Like (feedS (feedS S n) (-n)) { S with pl := ⟨S.pl.at_, false⟩ }) := fun h => by
    rw [HRO.out] at h
    exact Like.fed HIN.out.1 HIN.out.2 HN.out h
  have hov1 : -600 ≤ S.pl.at_.row + n - ρ ∧ S.pl.at_.row + n - ρ ≤ 600 := by omega
  obtain ⟨hov2, hov3⟩ := hov1
  clear htw p0 p1 z0 z1 y0 y1 hw1 hw2 hw3 hmm
  generalize S.pl.at_.row + n - ρ = ov at *
  go_loopw [14] (fun i wr => ∃ r : Nat, r ≤ S.D.R ∧ i = .int .i64 (r : Int) ∧ Below (w8.alloc (.cells #[.int .i64 ρ, .int .i64 S.pl.at_.col] 30)).heap.size (w8.alloc (.cells #[.int .i64 ρ, .int .i64 S.pl.at_.col] 30)) wr) (fun i _ => S.D.R - (intOf i).toNat)
  case atStart => exact ⟨0, Nat.zero_le _, rfl, Below.refl _ _⟩
  case round =>
    obtain ⟨r, hr, rfl, hq⟩ := hrel
    obtain ⟨z0, z1, _⟩ := row2 ((hq.block _ (block_lt HXZ9.out)).trans HXZ9.out)
    have HQ := Lib.hid hq
    clear hq
    by_cases hlr : r < S.D.R
    · have hri : (r : Int) < (S.D.R : Int) := by omega
      have hwr : IntKind.i64.wrap ((r : Int) + 1) = ((r + 1 : Nat) : Int) := by rw [wrap_in (by omega) (by omega)]; rfl
      have hwo : IntKind.i64.wrap ((r : Int) + ov) = (r : Int) + ov := wrap_in (by omega) (by omega)
      go_wp2_with fail
      go_loopw [15] (fun j wr => ∃ q : Nat, q ≤ S.D.C ∧ j = .int .i64 (q : Int) ∧ Below (w8.alloc (.cells #[.int .i64 ρ, .int .i64 S.pl.at_.col] 30)).heap.size (w8.alloc (.cells #[.int .i64 ρ, .int .i64 S.pl.at_.col] 30)) wr) (fun j _ => S.D.C - (intOf j).toNat)
      case atStart => exact ⟨0, Nat.zero_le _, rfl, HQ.out⟩
      case round =>
        clear z0 z1 HQ
        obtain ⟨q, hqc, rfl, hq⟩ := hrel
        obtain ⟨z0, z1, _⟩ := row2 ((hq.block _ (block_lt HXZ9.out)).trans HXZ9.out)
        have HQ := Lib.hid hq
        clear hq
        by_cases hlq : q < S.D.C
        · have hqi : (q : Int) < (S.D.C : Int) := by omega
          have hwq : IntKind.i64.wrap ((q : Int) + 1) = ((q + 1 : Nat) : Int) := by rw [wrap_in (by omega) (by omega)]; rfl
          have HAT := Lib.hid (HTW.out.below HQ.out)
          by_cases hin : 0 ≤ (r : Int) + ov ∧ (r : Int) + ov < S.D.R
          · have ha1 : ∀ W, Below wr.heap.size wr W → Calls Tryz.prog 18 #[.pointer (some ⟨sp, 0, none⟩), .agg #[.int .i64 (r : Int), .int .i64 (q : Int)]] W fun e w' => e = .returned (.tuple #[.agg #[.int .i32 (S.D.X ((r : Int) + ov).toNat q).g, .int .i64 (S.D.X ((r : Int) + ov).toNat q).a, .bool (S.D.X ((r : Int) + ov).toNat q).gd, .int .i64 (S.D.X ((r : Int) + ov).toNat q).m], .int .i64 0]) ∧ Below W.heap.size W w' := by
              obtain ⟨F, FC, hs, hc, _⟩ := HAT.out
              intro W hb
              have := scr_at_ij sp F _ r q W (hs.below hb) hlr hlq
              rw [HFI.out r q hlr hin.1 hin.2] at this
              exact this
            have ha2 : ∀ W, Below wr.heap.size wr W → Calls Tryz.prog 18 #[.pointer (some ⟨cp, 0, none⟩), .agg #[.int .i64 ((r : Int) + ov), .int .i64 (q : Int)]] W fun e w' => e = .returned (.tuple #[.agg #[.int .i32 (S.D.X ((r : Int) + ov).toNat q).g, .int .i64 (S.D.X ((r : Int) + ov).toNat q).a, .bool (S.D.X ((r : Int) + ov).toNat q).gd, .int .i64 (S.D.X ((r : Int) + ov).toNat q).m], .int .i64 0]) ∧ Below W.heap.size W w' := by
              obtain ⟨F, FC, hs, hc, _⟩ := HAT.out
              exact fun W hb => scr_at cp FC S ⟨(r : Int) + ov, (q : Int)⟩ W (hc.below hb) ⟨hin.1, hin.2, Int.natCast_nonneg _, by show (q : Int) < (S.D.C : Int); omega⟩
            have HA1 := Lib.hid ha1
            have HA2 := Lib.hid ha2
            clear ha1 ha2 hin
            generalize S.D.X ((r : Int) + ov).toNat q = y at *
            go_upto_region 23 with (first
              | (go_at_call 18; refine (HA2.out _ HB8.out).mono ?_; rintro e w11 ⟨rfl, hb11⟩; have HX9 := Lib.hid ((hb11.block _ (block_lt HX8.out)).trans HX8.out); have HB11 := Lib.hid (Below.later HB8.out hb11 HB8.out.size); clear hb11)
              | (go_at_call 18; refine (HA1.out _ (Below.refl _ _)).mono ?_; rintro e w10 ⟨rfl, hb10⟩; have HX8 := Lib.hid (heap_alloc_new w10 (.cells #[.int .i32 y.g, .int .i64 y.a, .bool y.gd, .int .i64 y.m] 24)); have HB8 := Lib.hid (Below.later hb10 (below1 w10 (.cells #[.int .i32 y.g, .int .i64 y.a, .bool y.gd, .int .i64 y.m] 24)) hb10.size); clear hb10))
            obtain ⟨x0, x1, x2, x3, _⟩ := row4 ((Below.heap_alloc w11 (.cells #[.int .i32 y.g, .int .i64 y.a, .bool y.gd, .int .i64 y.m] 24) _ (block_lt HX9.out)).trans HX9.out)
            have HBE : Hid (Below (w8.alloc (.cells #[.int .i64 ρ, .int .i64 S.pl.at_.col] 30)).heap.size (w8.alloc (.cells #[.int .i64 ρ, .int .i64 S.pl.at_.col] 30)) (w11.alloc (.cells #[.int .i32 y.g, .int .i64 y.a, .bool y.gd, .int .i64 y.m] 24))) := Below.later HQ.out (Below.later HB11.out (below1 _ _) HB11.out.size) HQ.out.size
            go_wp2_with fail
            exact ⟨⟨q + 1, by omega, rfl, HBE.out⟩, by simp [intOf]; omega⟩
          · have ha1 : ∀ W, Below wr.heap.size wr W → Calls Tryz.prog 18 #[.pointer (some ⟨sp, 0, none⟩), .agg #[.int .i64 (r : Int), .int .i64 (q : Int)]] W fun e w' => e = .returned (.tuple #[.agg #[.int .i32 32, .int .i64 0, .bool false, .int .i64 0], .int .i64 0]) ∧ Below W.heap.size W w' := by
              obtain ⟨F, FC, hs, hc, _⟩ := HAT.out
              intro W hb
              have := scr_at_ij sp F _ r q W (hs.below hb) hlr hlq
              rw [HFO.out r q hlr hin] at this
              exact this
            have ha2 : ∀ W, Below wr.heap.size wr W → Calls Tryz.prog 18 #[.pointer (some ⟨cp, 0, none⟩), .agg #[.int .i64 ((r : Int) + ov), .int .i64 (q : Int)]] W fun e w' => e = .returned (.tuple #[.agg #[.int .i32 0, .int .i64 0, .bool false, .int .i64 0], .int .i64 11]) ∧ Below W.heap.size W w' := by
              obtain ⟨F, FC, hs, hc, _⟩ := HAT.out
              exact fun W hb => scr_at_no cp FC S ⟨(r : Int) + ov, (q : Int)⟩ W (hc.below hb) (fun h => hin ⟨h.1, h.2.1⟩)
            have HA1 := Lib.hid ha1
            have HA2 := Lib.hid ha2
            clear ha1 ha2 hin
            go_upto_region 23 with (first
              | (go_at_call 18; refine (HA2.out _ HB8.out).mono ?_; rintro e w11 ⟨rfl, hb11⟩; have HX9 := Lib.hid ((hb11.block _ (block_lt HX8.out)).trans HX8.out); have HB11 := Lib.hid (Below.later HB8.out hb11 HB8.out.size); clear hb11)
              | (go_at_call 18; refine (HA1.out _ (Below.refl _ _)).mono ?_; rintro e w10 ⟨rfl, hb10⟩; have HX8 := Lib.hid (heap_alloc_new w10 (.cells #[.int .i32 32, .int .i64 0, .bool false, .int .i64 0] 24)); have HB8 := Lib.hid (Below.later hb10 (below1 w10 (.cells #[.int .i32 32, .int .i64 0, .bool false, .int .i64 0] 24)) hb10.size); clear hb10))
            obtain ⟨x0, x1, x2, x3, _⟩ := row4 ((Below.heap_alloc w11 (.cells #[.int .i32 0, .int .i64 0, .bool false, .int .i64 0] 24) _ (block_lt HX9.out)).trans HX9.out)
            have HBE : Hid (Below (w8.alloc (.cells #[.int .i64 ρ, .int .i64 S.pl.at_.col] 30)).heap.size (w8.alloc (.cells #[.int .i64 ρ, .int .i64 S.pl.at_.col] 30)) (w11.alloc (.cells #[.int .i32 0, .int .i64 0, .bool false, .int .i64 0] 24))) := Below.later HQ.out (Below.later HB11.out (below1 _ _) HB11.out.size) HQ.out.size
            obtain ⟨g0, g1, g2, g3⟩ := HBL.out _ (HB1W.out _ HBE.out)
            go_wp2_with fail
            exact ⟨⟨q + 1, by omega, rfl, HBE.out⟩, by simp [intOf]; omega⟩
        · obtain rfl : q = S.D.C := by omega
          go_wp2_with fail
          exact ⟨⟨r + 1, by omega, rfl, HQ.out⟩, by simp [intOf]; omega⟩
    · obtain rfl : r = S.D.R := by omega
      have HBQ : Hid (Below w.heap.size w wr) := HB1W.out _ HQ.out
      by_cases hov : ov = 0
      · have HLIK := Lib.hid (HLI.out hov)
        have e0 : (ov == 0) = true := by rw [hov]; rfl
        have hwn : IntKind.i64.wrap (-n) = -n := wrap_in (by omega) (by omega)
        have HXPR := Lib.hid ((HQ.out.block _ (block_lt HXP9.out)).trans HXP9.out)
        have hid : Vz.nearP S.D.R S.D.C S.pl.at_ = S.pl.at_ := Vz.nearP_id _ _ _ (Vz.Gd.may_mayS HIN.out.2) HIN.out.1
        have HID := Lib.hid hid
        obtain ⟨⟨F7, hs7, hf7⟩, hk7⟩ := HG7.out
        have h34 := HB34.out.size
        have h45 := HB45.out.size
        have h56 := HB56.out.size
        have hzs := HZ56.out
        rw [World.size_alloc] at h45 h56
        have hzw : (w6.alloc (.cells #[.int .i64 S.D.R, .int .i64 S.D.C] 39)).heap.size = w6.heap.size + 1 := World.size_alloc _ _
        have hs9 := (hs7.below HB8A.out).below HQ.out
        have hc7 : Scr w7 cp FC S := HC6.out.keeps hk7 (fun k hc hf => by have := (HF3.out k hf).2; have := (HFC.out k hc).1; omega) HS6.out.noblank
        have hc9 := (hc7.below HB8A.out).below HQ.out
        have h9p : ¬ F7 w5.heap.size := fun hf => by
          rcases hf7 _ hf with h | h
          · have := (HF3.out _ h).2; have := HZ34.out; omega
          · omega
        have h91 : ∀ k, F7 k → w1.heap.size ≤ k ∧ ¬ FC k := fun k hk => by
          rcases hf7 k hk with h | h
          · exact ⟨(HF3.out k h).1, fun hc => by have := (HF3.out k h).2; have := (HFC.out k hc).1; omega⟩
          · exact ⟨by omega, fun hc => by have := (HFC.out k hc).2; omega⟩
        have h92 : ∀ k, FC k → w1.heap.size ≤ k := fun k hk => by have := (HFC.out k hk).1; omega
        have hb9 : Below w1.heap.size w1 wr := by
          obtain ⟨_, _, _, _, _, _, hb⟩ := HTW.out.below HQ.out
          exact hb
        have HFD := Lib.hid (scr_feed sp F7 (feedS S n) (-n) wr hs9)
        have HLK := Lib.hid (fun W' (hg : ScrTo wr W' sp F7 (feedS (feedS S n) (-n))) => And.intro (Two.turn hs9 hc9 h91 h92 hb9 hg) ((hg.2.block _ (block_lt HXPR.out) h9p).trans HXPR.out))
        clear hid hs7 hf7 hk7 hs9 hc7 hc9 h9p h91 h92 hb9 h34 h45 h56 hzs hzw hov
        go_wp2_with (first
          | (go_at_call 30; obtain ⟨FC11, F11, hc11, hs11, _, _, hb11⟩ := HT11.out; have HB11 := Lib.hid (Below.later HB1.out hb11 HB1.out.size); refine (equal_yes sp cp F11 FC11 _ _ w11 hs11 hc11 HLIK.out).mono ?_; rintro e w12 ⟨rfl, hb12⟩; have HB12 := Lib.hid (Below.later HB11.out hb12 HB11.out.size); clear hs11 hc11 hb11 hb12)
          | (go_at_call 12; refine (HAW.out _ HB12.out).mono ?_; rintro e w13 ⟨rfl, hb13⟩; have HB13 := Lib.hid (Below.later HB12.out hb13 HB12.out.size); clear hb13)
          | (go_at_call 26; obtain ⟨FC10, F10, hc10, hs10, k1, k2, hb10⟩ := HT10.out.1.swap; have hmv := scr_move cp FC10 S S.pl.at_ w10 hc10; rw [HID.out] at hmv; refine hmv.mono ?_; rintro e w11 ⟨rfl, hg11⟩; have HT11 := Lib.hid (Two.turn hc10 hs10 k1 k2 hb10 hg11); clear hc10 hs10 k1 k2 hb10 hg11 hmv)
          | (go_at_call 31; refine HFD.out.mono ?_; rintro e w10 ⟨rfl, hg⟩; have HT10 := Lib.hid (HLK.out _ hg); obtain ⟨p0, p1, _⟩ := row2 HT10.out.2; clear hg))
        go_ret
        exact ⟨rfl, HB13.out⟩
      · have e0 : (ov == 0) = false := by rw [eqb]; exact decide_eq_false hov
        go_wp2_with (go_at_call 12; refine (HAW.out _ HBQ.out).mono ?_; rintro e w12 ⟨rfl, hb12⟩; have HB12 := Lib.hid (Below.later HBQ.out hb12 HBQ.out.size); clear hb12)
        go_ret
        exact ⟨rfl, HB12.out⟩
end Go.Proofs.YtbnkfiaggehmgaaGreatDoor
