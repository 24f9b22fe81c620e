import Derived.Test.YtbnkfiaggehmgaaGreatDoorGX
import Derived.Test.YtbnkfiaggehmgaaGreatDoorGY
import Derived.Test.YtbnkfiaggehmgaaGreatDoorGV

/- The law ScreenMoves, whole: for all lists of calls it answers true. -/
namespace Go.Proofs.YtbnkfiaggehmgaaGreatDoor
open Go.RowKit
set_option linter.unusedSimpArgs false
set_option linter.unusedVariables false
attribute [local go_sem] alloc_drewN setCell_drewN World.cell?_alloc_some frozen_alloc_some size_f0 size_f1

theorem run_eqlp_self (a b : Int) (w : World) : Sem.run Tryz.prog (binOp .eql 30 (.agg #[.int .i64 a, .int .i64 b]) (.agg #[.int .i64 a, .int .i64 b])) w = .ok (.bool true) w := by
  have h := run_eql_ps ⟨a, b⟩ ⟨a, b⟩ w
  rw [eqP_iff.2 rfl] at h
  exact h
attribute [local go_sem 3000] run_eqlp_self
set_option maxRecDepth 100000 in
set_option maxHeartbeats 16000000 in
theorem law_smv (A1 : Option Addr) (m1 cap1 : Nat) (L1 : List Vz.Op) (A2 : Option Addr) (m2 cap2 : Nat) (L2 : List Vz.Op) (w : World) (hbl : Blanked w) (h1 : Opers w.heap.size w A1 m1 L1) (hm1 : m1 ≤ maxLen) (h2 : Opers w.heap.size w A2 m2 L2) (hm2 : m2 ≤ maxLen) : Calls Tryz.prog 6 #[.slice A1 m1 cap1, .slice A2 m2 cap2] w fun e w' => e = .returned (.bool true) ∧ Below w.heap.size w w' := by
  have hm' : m2 ≤ 9223372036854775807 := Nat.le_trans hm2 (by unfold maxLen; decide)
  have HFEW1 := Lib.hid (fun W (hb : Below w.heap.size w W) => few_any A1 m1 cap1 L1 W ((h1.below hb (Nat.le_refl _)).more hb.size) hm1)
  have HFEW2 := Lib.hid (fun W (hb : Below w.heap.size w W) => few_any A2 m2 cap2 L2 W ((h2.below hb (Nat.le_refl _)).more hb.size) hm2)
  have HAW := Lib.hid (fun W (hb : Below w.heap.size w W) => awake_any W (hbl.below hb))
  have HBG := Lib.hid (fun W (hb : Below w.heap.size w W) => begun_ok A1 m1 cap1 L1 W (hbl.below hb) ((h1.below hb (Nat.le_refl _)).more hb.size) hm1)
  have HOP := Lib.hid h2
  have HB0 : Hid (Below w.heap.size w w) := Below.refl _ _
  clear h1 hm1 h2 hm2 hbl
  generalize hS0 : runS (newS 5 9) L1 = S0 at *
  clear hS0
  go_enter Tryz.func6, Tryz.ntmps6
  go_wp2_with (first
    | (go_at_call 24; obtain ⟨⟨F0, hs0, hn0⟩, hb0⟩ := HNS.out; refine (scr_copy sp F0 _ _ hs0).mono ?_; rintro e w4 ⟨cp, rfl, hc⟩; have HTW := Lib.hid ((Two.of_copy HNS.out hc)); clear hc hs0 hn0 hb0)
    | (go_at_call 13; refine (HBG.out _ HB2.out).mono ?_; rintro e w3 ⟨sp, rfl, hnew⟩; have HNS := Lib.hid hnew; clear hnew)
    | (go_at_call 12; first
        | (refine (HAW.out _ HB2.out).mono ?_; rintro e w9 ⟨rfl, hb9⟩; have HB9 := Lib.hid (Below.later HB2.out hb9 HB2.out.size); clear hb9)
        | (refine (HAW.out _ HB1.out).mono ?_; rintro e w9 ⟨rfl, hb9⟩; have HB9 := Lib.hid (Below.later HB1.out hb9 HB1.out.size); clear hb9))
    | (go_at_call 11; refine (HFEW2.out _ HB1.out).mono ?_; rintro e w2 ⟨b, rfl, hb2⟩; have HB2 := Lib.hid (Below.later HB1.out hb2 HB1.out.size); clear hb2; cases b)
    | (go_at_call 11; refine (HFEW1.out _ HB0.out).mono ?_; rintro e w1 ⟨b, rfl, hb1⟩; have HB1 := Lib.hid hb1; clear hb1; cases b))
  · go_ret
    exact ⟨rfl, HB9.out⟩
  · go_ret
    exact ⟨rfl, HB9.out⟩
  go_loopw [7] (fun i wr => ∃ (k : Nat) (S : Vz.Sr), k ≤ m2 ∧ i = .int .i64 (k : Int) ∧ Two w2 wr sp cp S S0 ∧ KeptM S0 S) (fun i _ => m2 - (intOf i).toNat)
  case atStart => exact ⟨0, _, Nat.zero_le _, rfl, HTW.out, rfl, fun _ => rfl⟩
  case round =>
    obtain ⟨k, S, hk, rfl, htwo, hkept⟩ := hrel
    have HT := Lib.hid htwo
    obtain ⟨F, FC, hs, hc, hf1, hf2, hb⟩ := htwo
    by_cases hlt : k < m2
    · obtain ⟨b, o, rfl, hbl, hop, hok⟩ := (HOP.out.below (Below.later HB2.out hb HB2.out.size) (Nat.le_refl _)).at_ hlt
      generalize L2[k]?.getD Vz.Op.nil = x at *
      have HD := Lib.hid (does_ok sp F S x wr hs hok)
      have HKM := Lib.hid (fun h => hkept.does (o := x) h)
      have HKP := Lib.hid hkept
      have HLK := Lib.hid (fun W' (hg : ScrTo wr W' sp F (doesR S x).1) => Two.turn hs hc hf1 hf2 hb hg)
      obtain ⟨c0, c1, c2, c3, c4, c5, c6, c7, c8, c9, c10, c11⟩ := hop
      have hkz : (k : Int) < (m2 : Int) := by omega
      have hwk : IntKind.i64.wrap ((k : Int) + 1) = ((k + 1 : Nat) : Int) := by rw [wrap_in (by omega) (by omega)]; rfl
      clear hs hc hf1 hf2 hb hok hkept
      generalize doesR S x = R at *
      by_cases h1 : x.ask = 1
      · have e1 : (x.ask == 1) = true := by rw [h1]; rfl
        have hor := HKM.out (by omega)
        have HKO := Lib.hid hor
        clear hor h1
        go_wp2_with (go_at_call 14; refine HD.out.mono ?_; rintro e w5 ⟨rfl, hg⟩; have HG := Lib.hid (HLK.out _ hg); clear hg)
        exact ⟨⟨k + 1, _, by omega, rfl, HG.out, HKO.out⟩, by simp [intOf]; omega⟩
      by_cases h2 : x.ask = 2
      · have e1 : (x.ask == 1) = false := by rw [h2]; rfl
        have e2 : (x.ask == 2) = true := by rw [h2]; rfl
        have hor := HKM.out (by omega)
        have HKO := Lib.hid hor
        clear hor h1 h2
        go_wp2_with (go_at_call 14; refine HD.out.mono ?_; rintro e w5 ⟨rfl, hg⟩; have HG := Lib.hid (HLK.out _ hg); clear hg)
        exact ⟨⟨k + 1, _, by omega, rfl, HG.out, HKO.out⟩, by simp [intOf]; omega⟩
      by_cases h4 : x.ask = 4
      · have e1 : (x.ask == 1) = false := by rw [h4]; rfl
        have e2 : (x.ask == 2) = false := by rw [h4]; rfl
        have e4 : (x.ask == 4) = true := by rw [h4]; rfl
        have hor := HKM.out (by omega)
        have HKO := Lib.hid hor
        clear hor h1 h2 h4
        go_wp2_with (go_at_call 14; refine HD.out.mono ?_; rintro e w5 ⟨rfl, hg⟩; have HG := Lib.hid (HLK.out _ hg); clear hg)
        exact ⟨⟨k + 1, _, by omega, rfl, HG.out, HKO.out⟩, by simp [intOf]; omega⟩
      by_cases h5 : x.ask = 5
      · have e1 : (x.ask == 1) = false := by rw [h5]; rfl
        have e2 : (x.ask == 2) = false := by rw [h5]; rfl
        have e4 : (x.ask == 4) = false := by rw [h5]; rfl
        have e5 : (x.ask == 5) = true := by rw [h5]; rfl
        have hor := HKM.out (by omega)
        have HKO := Lib.hid hor
        clear hor h1 h2 h4 h5
        go_wp2_with (go_at_call 14; refine HD.out.mono ?_; rintro e w5 ⟨rfl, hg⟩; have HG := Lib.hid (HLK.out _ hg); clear hg)
        exact ⟨⟨k + 1, _, by omega, rfl, HG.out, HKO.out⟩, by simp [intOf]; omega⟩
      by_cases h6 : x.ask = 6
      · have e1 : (x.ask == 1) = false := by rw [h6]; rfl
        have e2 : (x.ask == 2) = false := by rw [h6]; rfl
        have e4 : (x.ask == 4) = false := by rw [h6]; rfl
        have e5 : (x.ask == 5) = false := by rw [h6]; rfl
        have e6 : (x.ask == 6) = true := by rw [h6]; rfl
        have hor := HKM.out (by omega)
        have HKO := Lib.hid hor
        clear hor h1 h2 h4 h5 h6
        go_wp2_with (go_at_call 14; refine HD.out.mono ?_; rintro e w5 ⟨rfl, hg⟩; have HG := Lib.hid (HLK.out _ hg); clear hg)
        exact ⟨⟨k + 1, _, by omega, rfl, HG.out, HKO.out⟩, by simp [intOf]; omega⟩
      by_cases h11 : x.ask = 11
      · have e1 : (x.ask == 1) = false := by rw [h11]; rfl
        have e2 : (x.ask == 2) = false := by rw [h11]; rfl
        have e4 : (x.ask == 4) = false := by rw [h11]; rfl
        have e5 : (x.ask == 5) = false := by rw [h11]; rfl
        have e6 : (x.ask == 6) = false := by rw [h11]; rfl
        have e11 : (x.ask == 11) = true := by rw [h11]; rfl
        have hor := HKM.out (by omega)
        have HKO := Lib.hid hor
        clear hor h1 h2 h4 h5 h6 h11
        go_wp2_with (go_at_call 14; refine HD.out.mono ?_; rintro e w5 ⟨rfl, hg⟩; have HG := Lib.hid (HLK.out _ hg); clear hg)
        exact ⟨⟨k + 1, _, by omega, rfl, HG.out, HKO.out⟩, by simp [intOf]; omega⟩
      have e1 : (x.ask == 1) = false := by rw [eqb]; exact decide_eq_false (by omega)
      have e2 : (x.ask == 2) = false := by rw [eqb]; exact decide_eq_false (by omega)
      have e4 : (x.ask == 4) = false := by rw [eqb]; exact decide_eq_false (by omega)
      have e5 : (x.ask == 5) = false := by rw [eqb]; exact decide_eq_false (by omega)
      have e6 : (x.ask == 6) = false := by rw [eqb]; exact decide_eq_false (by omega)
      have e11 : (x.ask == 11) = false := by rw [eqb]; exact decide_eq_false (by omega)
      clear h1 h2 h4 h5 h6 h11
      go_wp2_with fail
      exact ⟨⟨k + 1, S, by omega, rfl, HT.out, HKP.out⟩, by simp [intOf]; omega⟩
    · obtain rfl : k = m2 := by omega
      have hmay := hs.here.2
      have hid : Vz.nearP S.D.R S.D.C S.pl.at_ = S.pl.at_ := Vz.nearP_id _ _ _ (Vz.Gd.may_mayS hmay) hs.here.1
      have HQ := Lib.hid (fun W (hbW : Below wr.heap.size wr W) => scr_cursor sp F S W (hs.below hbW))
      have hmv := fun W (hbW : Below wr.heap.size wr W) => scr_move sp F S S.pl.at_ W (hs.below hbW)
      rw [hid] at hmv
      have HMV := Lib.hid hmv
      have HLK := Lib.hid (fun W' (hg : ScrTo wr W' sp F { S with pl := ⟨S.pl.at_, false⟩ }) => Two.turn hs hc hf1 hf2 hb hg)
      have HKD := Lib.hid hkept.1
      have HKQ := Lib.hid hkept.2
      have HLT := Lib.hid hs.lt
      have HM := Lib.hid hmay
      have HBR := Lib.hid (Below.refl wr.heap.size wr)
      clear hs hc hf1 hf2 hb hmay hid hmv
      go_upto_region 16 with (first
        | (go_at_call 15; obtain ⟨F7, FC7, hs7, hc7, h71, h72, hb7⟩ := HT7.out; refine (scr_cursor cp FC7 S0 _ (hc7.below HB8.out)).mono ?_; rintro e w9 ⟨rfl, hb9⟩; have HB9 := Lib.hid (Below.later HB8.out hb9 HB8.out.size); have HXP9 := Lib.hid ((hb9.block _ (block_lt HXP8.out)).trans HXP8.out); have HXQ9 := Lib.hid ((hb9.block _ (block_lt HXQ.out)).trans HXQ.out); clear hs7 hc7 h71 h72 hb7 hb9)
        | (go_at_call 15; obtain ⟨F7, FC7, hs7, hc7, h71, h72, hb7⟩ := HT7.out; refine (scr_cursor sp F7 _ _ hs7).mono ?_; rintro e w8 ⟨rfl, hb8⟩; have HXQ := Lib.hid (heap_alloc_new w8 (.cells #[.int .i64 S.pl.at_.row, .int .i64 S.pl.at_.col] 30)); have HXP8 := Lib.hid ((Below.heap_alloc w8 (.cells #[.int .i64 S.pl.at_.row, .int .i64 S.pl.at_.col] 30) _ (block_lt ((hb8.block _ (block_lt HXP7.out)).trans HXP7.out))).trans ((hb8.block _ (block_lt HXP7.out)).trans HXP7.out)); have HB8 := Lib.hid (Below.later hb8 (below1 w8 (.cells #[.int .i64 S.pl.at_.row, .int .i64 S.pl.at_.col] 30)) hb8.size); clear hs7 hc7 h71 h72 hb7 hb8)
        | (go_at_call 26; refine (HMV.out _ HB6.out).mono ?_; rintro e w7 ⟨rfl, hg⟩; have HXP7 := Lib.hid ((hg.2.block _ (block_lt HXP.out) (fun hf => by have := HLF.out _ hf; omega)).trans HXP.out); have HT7 := Lib.hid (HLK.out _ (ScrTo.after HB6.out hg)); clear hg)
        | (go_at_call 15; refine (HQ.out _ HBR.out).mono ?_; rintro e w6 ⟨rfl, hb6⟩; have HXP := Lib.hid (heap_alloc_new w6 (.cells #[.int .i64 S.pl.at_.row, .int .i64 S.pl.at_.col] 30)); have HB6 := Lib.hid (Below.later hb6 (below1 w6 (.cells #[.int .i64 S.pl.at_.row, .int .i64 S.pl.at_.col] 30)) hb6.size); have HLF := Lib.hid (fun j (hf : F j) => Nat.lt_of_lt_of_le (HLT.out j hf) hb6.size); clear hb6))
      obtain ⟨p0, p1, _⟩ := row2 ((Below.heap_alloc w9 (.cells #[.int .i64 S0.pl.at_.row, .int .i64 S0.pl.at_.col] 30) _ (block_lt HXP9.out)).trans HXP9.out)
      obtain ⟨q0, q1, _⟩ := row2 ((Below.heap_alloc w9 (.cells #[.int .i64 S0.pl.at_.row, .int .i64 S0.pl.at_.col] 30) _ (block_lt HXQ9.out)).trans HXQ9.out)
      obtain ⟨r0, r1, _⟩ := row2 (heap_alloc_new w9 (.cells #[.int .i64 S0.pl.at_.row, .int .i64 S0.pl.at_.col] 30))
      have HT9 : Hid (Two w2 (w9.alloc (.cells #[.int .i64 S0.pl.at_.row, .int .i64 S0.pl.at_.col] 30)) sp cp { S with pl := ⟨S.pl.at_, false⟩ } S0) := HT7.out.below (Below.later HB9.out (below1 _ _) HB9.out.size)
      have HS9 : Hid (∃ F, Scr (w9.alloc (.cells #[.int .i64 S0.pl.at_.row, .int .i64 S0.pl.at_.col] 30)) sp F { S with pl := ⟨S.pl.at_, false⟩ }) := by
        obtain ⟨F7, FC7, hs7, hc7, h71, h72, hb7⟩ := HT9.out
        exact ⟨F7, hs7⟩
      have HC9 : Hid (∃ F, Scr (w9.alloc (.cells #[.int .i64 S0.pl.at_.row, .int .i64 S0.pl.at_.col] 30)) cp F S0) := by
        obtain ⟨F7, FC7, hs7, hc7, h71, h72, hb7⟩ := HT9.out
        exact ⟨FC7, hc7⟩
      have HB10 : Hid (Below w.heap.size w (w9.alloc (.cells #[.int .i64 S0.pl.at_.row, .int .i64 S0.pl.at_.col] 30))) := by
        obtain ⟨F7, FC7, hs7, hc7, h71, h72, hb7⟩ := HT9.out
        exact Below.later HB2.out hb7 HB2.out.size
      have HR1 : Hid (∀ W', Below (w9.alloc (.cells #[.int .i64 S0.pl.at_.row, .int .i64 S0.pl.at_.col] 30)).heap.size (w9.alloc (.cells #[.int .i64 S0.pl.at_.row, .int .i64 S0.pl.at_.col] 30)) W' → Calls Tryz.prog 29 #[.pointer (some ⟨sp, 0, none⟩)] W' fun e w' => ∃ OB G K, e = .returned (.slice (some ⟨OB, 0, none⟩) S.D.R S.D.R) ∧ RowsAt W'.heap.size w' OB S.D G K ∧ Below W'.heap.size W' w') := by
        obtain ⟨F7, hs7⟩ := HS9.out
        exact fun W' hb => scr_rows sp F7 { S with pl := ⟨S.pl.at_, false⟩ } W' (hs7.below hb)
      have hr2 : ∀ W', Below (w9.alloc (.cells #[.int .i64 S0.pl.at_.row, .int .i64 S0.pl.at_.col] 30)).heap.size (w9.alloc (.cells #[.int .i64 S0.pl.at_.row, .int .i64 S0.pl.at_.col] 30)) W' → Calls Tryz.prog 29 #[.pointer (some ⟨cp, 0, none⟩)] W' fun e w' => ∃ OB G K, e = .returned (.slice (some ⟨OB, 0, none⟩) S0.D.R S0.D.R) ∧ RowsAt W'.heap.size w' OB S0.D G K ∧ Below W'.heap.size W' w' := by
        obtain ⟨F7, hs7⟩ := HC9.out
        exact fun W' hb => scr_rows cp F7 _ W' (hs7.below hb)
      rw [← HKD.out] at hr2
      have HR2 := Lib.hid hr2
      clear hr2
      have HBZ := Lib.hid (Below.refl (w9.alloc (.cells #[.int .i64 S0.pl.at_.row, .int .i64 S0.pl.at_.col] 30)).heap.size (w9.alloc (.cells #[.int .i64 S0.pl.at_.row, .int .i64 S0.pl.at_.col] 30)))
      cases hpe : S.pl.pend
      case' true =>
        have hpl := HKQ.out hpe
        rw [← hpl] at r0 r1 HR1 HR2 HBZ HB10 HC9 HS9 HT9 q0 q1 p0 p1
        have hpe0 : S0.pl.pend = true := by rw [← hpl]; exact hpe
        rw [← hpl]
        clear hpl
      all_goals
        clear HKQ HT9 HS9 HC9 HLK HT7 HMV HQ
        go_wp2_with (first
          | (go_at_call 12; refine (HAW.out _ HB15.out).mono ?_; rintro e w16 ⟨rfl, hb16⟩; have HB16 := Lib.hid (Below.later HB15.out hb16 HB15.out.size); clear hb16)
          | (go_at_call 27; refine (alike_yes w11.heap.size LB1 ca1 w13.heap.size LB2 ca2 S.D w14 HG19.out HG2.out HM.out).mono ?_; rintro e w15 ⟨rfl, hb15⟩; have HB15 := Lib.hid (Below.later HB14.out hb15 HB14.out.size); clear hb15)
          | (go_at_call 28; refine (of_rows _ OB2 S.D G2 K2 w13 HA2.out HM.out).mono ?_; rintro e w14 ⟨LB2, ca2, rfl, hg, -, hb14⟩; have HG2 := Lib.hid hg; have HG19 := Lib.hid (HG18.out.below hb14); have HB14 := Lib.hid (Below.later HB13.out hb14 HB13.out.size); clear hg hb14)
          | (go_at_call 29; refine (HR2.out _ HZ12.out).mono ?_; rintro e w13 ⟨OB2, G2, K2, rfl, hA, hb13⟩; have HA2 := Lib.hid hA; have HG18 := Lib.hid (HG1.out.below hb13); have HB13 := Lib.hid (Below.later HB12.out hb13 HB12.out.size); clear hA hb13)
          | (go_at_call 28; refine (of_rows _ OB1 S.D G1 K1 w11 HA1.out HM.out).mono ?_; rintro e w12 ⟨LB1, ca1, rfl, hg, -, hb12⟩; have HG1 := Lib.hid hg; have HZ12 := Lib.hid (Below.later HZ11.out hb12 HZ11.out.size); have HB12 := Lib.hid (Below.later HB11.out hb12 HB11.out.size); clear hg hb12)
          | (go_at_call 29; refine (HR1.out _ HBZ.out).mono ?_; rintro e w11 ⟨OB1, G1, K1, rfl, hA, hb11⟩; have HA1 := Lib.hid hA; have HZ11 := Lib.hid hb11; have HB11 := Lib.hid (Below.later HB10.out hb11 HB10.out.size); clear hA hb11))
        go_ret
        exact ⟨rfl, HB16.out⟩
end Go.Proofs.YtbnkfiaggehmgaaGreatDoor
