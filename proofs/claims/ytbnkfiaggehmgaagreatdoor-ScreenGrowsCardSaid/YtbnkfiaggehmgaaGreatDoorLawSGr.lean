import Derived.Test.YtbnkfiaggehmgaaGreatDoorGX
import Derived.Test.YtbnkfiaggehmgaaGreatDoorGrPlain

/- The law ScreenGrows, whole: for every list of calls and every size more it answers true. -/
namespace Go.Proofs.YtbnkfiaggehmgaaGreatDoor
open Go.RowKit
set_option linter.unusedSimpArgs false
set_option linter.unusedVariables false
attribute [local go_sem] alloc_drewN setCell_drewN World.cell?_alloc_some frozen_alloc_some size_f0 size_f1
attribute [local go_sem 3000] run_neq_self run_neqs_self

set_option maxRecDepth 100000 in
set_option maxHeartbeats 16000000 in
theorem law_sgr (A1 : Option Addr) (m1 cap1 : Nat) (L1 : List Vz.Op) (q : Vz.Ps) (w : World) (hbl : Blanked w) (h1 : Opers w.heap.size w A1 m1 L1) (hm1 : m1 ≤ maxLen) : Calls Tryz.prog 10 #[.slice A1 m1 cap1, .agg #[.int .i64 q.row, .int .i64 q.col]] w fun e w' => e = .returned (.bool true) ∧ Below w.heap.size w w' := by
  have hml : m1 = L1.length := h1.1
  have HB0 : Hid (Below w.heap.size w (w.alloc (.cells #[.int .i64 q.row, .int .i64 q.col] 30))) := below1 _ _
  have HX0 := Lib.hid (heap_alloc_new w (.cells #[.int .i64 q.row, .int .i64 q.col] 30))
  have HFEW1 := Lib.hid (fun W (hb : Below w.heap.size w W) => few_ok A1 m1 cap1 L1 W ((h1.below hb (Nat.le_refl _)).more hb.size) hm1)
  have HAW := Lib.hid (fun W (hb : Below w.heap.size w W) => awake_any W (hbl.below hb))
  have HBG := Lib.hid (fun W (hb : Below w.heap.size w W) => begun_ok A1 m1 cap1 L1 W (hbl.below hb) ((h1.below hb (Nat.le_refl _)).more hb.size) hm1)
  have HBL := Lib.hid (fun W (hb : Below w.heap.size w W) => (hbl.below hb).cells)
  have HML := Lib.hid hml
  clear h1 hm1 hbl hml
  generalize q.row = q0 at *
  generalize q.col = q1 at *
  by_cases hout : q0 < 0 ∨ 9 < q0 ∨ q1 < 0 ∨ 9 < q1
  · by_cases c1 : q0 < 0
    · have d1 : decide (q0 < 0) = true := decide_eq_true c1
      clear hout
      go_enter Tryz.func10, Tryz.ntmps10
      go_wp2_with (first
        | (go_at_call 12; refine (HAW.out _ HB1.out).mono ?_; rintro e w9 ⟨rfl, hb9⟩; have HB9 := Lib.hid (Below.later HB1.out hb9 HB1.out.size); clear hb9)
        | (go_at_call 11; refine (HFEW1.out _ HB0.out).mono ?_; rintro e w1 ⟨b, rfl, -, hb1⟩; have HB1 := Lib.hid (Below.later HB0.out hb1 HB0.out.size); obtain ⟨p0, p1, _⟩ := row2 ((hb1.block _ (block_lt HX0.out)).trans HX0.out); clear hb1; cases b))
      all_goals
        go_ret
        exact ⟨rfl, HB9.out⟩
    · have d1 : decide (q0 < 0) = false := decide_eq_false c1
      by_cases c2 : 9 < q0
      · have d2 : decide (9 < q0) = true := decide_eq_true c2
        clear hout
        go_enter Tryz.func10, Tryz.ntmps10
        go_wp2_with (first
        | (go_at_call 12; refine (HAW.out _ HB1.out).mono ?_; rintro e w9 ⟨rfl, hb9⟩; have HB9 := Lib.hid (Below.later HB1.out hb9 HB1.out.size); clear hb9)
        | (go_at_call 11; refine (HFEW1.out _ HB0.out).mono ?_; rintro e w1 ⟨b, rfl, -, hb1⟩; have HB1 := Lib.hid (Below.later HB0.out hb1 HB0.out.size); obtain ⟨p0, p1, _⟩ := row2 ((hb1.block _ (block_lt HX0.out)).trans HX0.out); clear hb1; cases b))
        all_goals
          go_ret
          exact ⟨rfl, HB9.out⟩
      · have d2 : decide (9 < q0) = false := decide_eq_false c2
        by_cases c3 : q1 < 0
        · have d3 : decide (q1 < 0) = true := decide_eq_true c3
          clear hout
          go_enter Tryz.func10, Tryz.ntmps10
          go_wp2_with (first
        | (go_at_call 12; refine (HAW.out _ HB1.out).mono ?_; rintro e w9 ⟨rfl, hb9⟩; have HB9 := Lib.hid (Below.later HB1.out hb9 HB1.out.size); clear hb9)
        | (go_at_call 11; refine (HFEW1.out _ HB0.out).mono ?_; rintro e w1 ⟨b, rfl, -, hb1⟩; have HB1 := Lib.hid (Below.later HB0.out hb1 HB0.out.size); obtain ⟨p0, p1, _⟩ := row2 ((hb1.block _ (block_lt HX0.out)).trans HX0.out); clear hb1; cases b))
          all_goals
            go_ret
            exact ⟨rfl, HB9.out⟩
        · have d3 : decide (q1 < 0) = false := decide_eq_false c3
          have c4 : 9 < q1 := by omega
          have d4 : decide (9 < q1) = true := decide_eq_true c4
          clear hout
          go_enter Tryz.func10, Tryz.ntmps10
          go_wp2_with (first
        | (go_at_call 12; refine (HAW.out _ HB1.out).mono ?_; rintro e w9 ⟨rfl, hb9⟩; have HB9 := Lib.hid (Below.later HB1.out hb9 HB1.out.size); clear hb9)
        | (go_at_call 11; refine (HFEW1.out _ HB0.out).mono ?_; rintro e w1 ⟨b, rfl, -, hb1⟩; have HB1 := Lib.hid (Below.later HB0.out hb1 HB0.out.size); obtain ⟨p0, p1, _⟩ := row2 ((hb1.block _ (block_lt HX0.out)).trans HX0.out); clear hb1; cases b))
          all_goals
            go_ret
            exact ⟨rfl, HB9.out⟩
  have d1 : decide (q0 < 0) = false := decide_eq_false (by omega)
  have d2 : decide (9 < q0) = false := decide_eq_false (by omega)
  have d3 : decide (q1 < 0) = false := decide_eq_false (by omega)
  have d4 : decide (9 < q1) = false := decide_eq_false (by omega)
  obtain ⟨a, rfl⟩ : ∃ a : Nat, q0 = a := ⟨q0.toNat, by omega⟩
  obtain ⟨b', rfl⟩ : ∃ a : Nat, q1 = a := ⟨q1.toNat, by omega⟩
  go_enter Tryz.func10, Tryz.ntmps10
  go_upto_region 6 with (first
    | (go_at_call 13; refine (HBG.out _ HB1.out).mono ?_; rintro e w3 ⟨sp, rfl, hnew⟩; have HNS := Lib.hid hnew; have HX3 := Lib.hid ((hnew.2.block _ (block_lt HX1.out)).trans HX1.out); clear hnew)
    | (go_at_call 12; refine (HAW.out _ HB1.out).mono ?_; rintro e w9 ⟨rfl, hb9⟩; have HB9 := Lib.hid (Below.later HB1.out hb9 HB1.out.size); clear hb9)
    | (go_at_call 11; refine (HFEW1.out _ HB0.out).mono ?_; rintro e w1 ⟨b, rfl, hfew, hb1⟩; have HFO := Lib.hid hfew; have HB1 := Lib.hid (Below.later HB0.out hb1 HB0.out.size); have HX1 := Lib.hid ((hb1.block _ (block_lt HX0.out)).trans HX0.out); obtain ⟨p0, p1, _⟩ := row2 HX1.out; clear hb1 hfew; cases b))
  · go_ret
    exact ⟨rfl, HB9.out⟩
  have hsm : SmallD (runS (newS 5 9) L1).D := run_small (newS 5 9) L1 ⟨by decide, by decide⟩ (by have := (HFO.out trivial).1; rw [HML.out] at this; exact this)
  generalize runS (newS 5 9) L1 = S at *
  obtain ⟨RB, hRB⟩ : ∃ n, n = S.D.R + a := ⟨_, rfl⟩
  obtain ⟨CB, hCB⟩ : ∃ n, n = S.D.C + b' := ⟨_, rfl⟩
  obtain ⟨⟨F, hs, hn⟩, hb3⟩ := HNS.out
  have HS3 := Lib.hid hs
  have HF3 : Hid (∀ k, F k → w1.heap.size ≤ k ∧ k < w3.heap.size) := fun k hk => ⟨hn k hk, hs.lt k hk⟩
  have HB3 : Hid (Below w.heap.size w w3) := Below.later HB1.out hb3 HB1.out.size
  have HB13 := Lib.hid hb3
  have hmay := hs.here.2
  obtain ⟨n1, n2, n3, n4⟩ := hmay
  have HIN := Lib.hid hs.here
  obtain ⟨sm1, sm2⟩ := hsm
  have hlt1 : w.heap.size < w1.heap.size := block_lt HX1.out
  have hz13 : w1.heap.size ≤ w3.heap.size := hb3.size
  have hM : Vz.mayS (RB : Int) (CB : Int) = true := (Vz.mayS_iff _ _).2 (by omega)
  have hwR : IntKind.i64.wrap ((S.D.R : Int) + (a : Int)) = (RB : Int) := by rw [wrap_in (by omega) (by omega)]; omega
  have hwC : IntKind.i64.wrap ((S.D.C : Int) + (b' : Int)) = (CB : Int) := by rw [wrap_in (by omega) (by omega)]; omega
  have hid : Vz.nearP S.D.R S.D.C S.pl.at_ = S.pl.at_ := Vz.nearP_id _ _ _ (Vz.Gd.may_mayS hs.here.2) hs.here.1
  have hRB2 : RB ≤ 17 ∧ S.D.R ≤ RB := by omega
  have hCB2 : CB ≤ 29 ∧ S.D.C ≤ CB := by omega
  obtain ⟨hRB3, hRB4⟩ := hRB2
  obtain ⟨hCB3, hCB4⟩ := hCB2
  have HID := Lib.hid hid
  have HHM := Lib.hid hM
  clear hs hn hb3 hid hM p0 p1 hRB hCB
  go_upto_region 12 with (first
    | (go_at_call 33; refine (scr_resize sp F S RB CB _ (HS7.out.below (below1 _ _)) HHM.out).mono ?_; rintro e w8 ⟨rfl, hg8⟩; have HG8 := Lib.hid hg8; clear hg8)
    | (go_at_call 26; refine (scr_move cp FC S S.pl.at_ _ HC6.out).mono ?_; rintro e w7 ⟨rfl, hg7⟩; rw [HID.out] at hg7; have HS7 := Lib.hid (HS6.out.keeps hg7.2 (fun k hf hc => by have := HF3.out k hf; have := HFC.out k hc; omega) HC6.out.noblank); have HG7 := Lib.hid hg7; have HXZ7 := Lib.hid ((hg7.2.block _ (block_lt HXZ6.out) (fun hc => by have := HFC.out _ hc; omega)).trans HXZ6.out); have HX7 := Lib.hid ((hg7.2.block _ (block_lt HX6.out) (fun hc => by have := HFC.out _ hc; omega)).trans HX6.out); obtain ⟨z0, z1, _⟩ := row2 HXZ7.out; obtain ⟨y0, y1, _⟩ := row2 HX7.out; clear hg7)
    | (go_at_call 15; refine (scr_cursor cp FC S w5 HC5.out).mono ?_; rintro e w6 ⟨rfl, hb6⟩; have hb6' := Below.later hb6 (below1 w6 (.cells #[.int .i64 S.pl.at_.row, .int .i64 S.pl.at_.col] 30)) hb6.size; have HB56 := Lib.hid hb6'; have HC6 := Lib.hid (HC5.out.below hb6'); have HS6 := Lib.hid (HS5.out.below hb6'); have HXZ6 := Lib.hid ((hb6'.block _ (block_lt HXZ5.out)).trans HXZ5.out); have HX6 := Lib.hid ((hb6'.block _ (block_lt HX5.out)).trans HX5.out); clear hb6 hb6')
    | (go_at_call 24; refine (scr_copy sp F S _ HS4.out).mono ?_; rintro e w5 ⟨cp, rfl, hc⟩; obtain ⟨⟨FC, hcs, hcn⟩, hb5⟩ := hc; have hfz : ∀ k, FC k → w4.heap.size < k := (fun k hk => by have := hcn k hk; rw [World.size_alloc] at this; omega); have HFC := Lib.hid hfz; have HC5 := Lib.hid hcs; have HB45 := Lib.hid hb5; have HS5 := Lib.hid (HS4.out.below hb5); have HXZ5 := Lib.hid ((hb5.block _ (block_lt HXZ.out)).trans HXZ.out); have HX5 := Lib.hid ((hb5.block _ (block_lt HX4.out)).trans HX4.out); clear hcs hcn hb5 hfz)
    | (go_at_call 16; refine (scr_size sp F S w3 HS3.out).mono ?_; rintro e w4 ⟨rfl, hb4⟩; have hz4 := hb4.size; have hb4' := Below.later hb4 (below1 w4 (.cells #[.int .i64 S.D.R, .int .i64 S.D.C] 39)) hb4.size; have HB34 := Lib.hid hb4'; have HXZ := Lib.hid (heap_alloc_new w4 (.cells #[.int .i64 S.D.R, .int .i64 S.D.C] 39)); have HS4 := Lib.hid (HS3.out.below hb4'); have HX4 := Lib.hid ((hb4'.block _ (block_lt HX3.out)).trans HX3.out); clear hb4 hb4'))
  have hBS : Hid (∀ k, F k → k ≠ w.heap.size ∧ k ≠ w4.heap.size ∧ k ≠ w7.heap.size) := fun k hk => by
    have h1 := HF3.out k hk
    have h2 := HB34.out.size
    have h3 := HB45.out.size
    have h4 := HB56.out.size
    have h5 := HG7.out.2.size
    rw [World.size_alloc] at h2 h3 h4 h5
    omega
  have HK8 := Lib.hid HG8.out.2
  have hbig8 := (HK8.out.block w7.heap.size (by rw [World.size_alloc]; exact Nat.lt_succ_self _) (fun hf => (hBS.out _ hf).2.2 rfl)).trans (heap_alloc_new w7 (.cells #[.int .i64 (RB : Int), .int .i64 (CB : Int)] 39))
  have hz8 := (HK8.out.block w4.heap.size (block_lt ((Below.heap_alloc w7 (.cells #[.int .i64 (RB : Int), .int .i64 (CB : Int)] 39) _ (block_lt HXZ7.out)).trans HXZ7.out)) (fun hf => (hBS.out _ hf).2.1 rfl)).trans ((Below.heap_alloc w7 (.cells #[.int .i64 (RB : Int), .int .i64 (CB : Int)] 39) _ (block_lt HXZ7.out)).trans HXZ7.out)
  have HXB8 := Lib.hid hbig8
  have HXZ8 := Lib.hid hz8
  have htw : Two w1 w8 sp cp (resizeS S RB CB) { S with pl := ⟨S.pl.at_, false⟩ } := by
    obtain ⟨⟨FC7, hc7, hf7⟩, hk7⟩ := HG7.out
    have hsz : w1.heap.size ≤ (w4.alloc (.cells #[.int .i64 S.D.R, .int .i64 S.D.C] 39)).heap.size := Nat.le_trans hz13 HB34.out.size
    have h45 := HB45.out.size
    have h56 := HB56.out.size
    rw [World.size_alloc] at hsz h45
    have hb16 : Below w1.heap.size w1 (w6.alloc (.cells #[.int .i64 S.pl.at_.row, .int .i64 S.pl.at_.col] 30)) := Below.later HB13.out (Below.later HB34.out (Below.later HB45.out HB56.out HB45.out.size) HB34.out.size) HB13.out.size
    refine Two.turn (HS7.out.below (below1 _ _)) (hc7.below (below1 _ _)) (fun k hk => ⟨(HF3.out k hk).1, fun hf => ?_⟩) (fun k hk => ?_) (Below.later (hb16.trans (hk7.below (fun k hk => by have := HFC.out k hk; omega) (by have := hb16.size; omega))) (below1 _ _) (by have := hb16.size; have := hk7.size; omega)) HG8.out
    · have h1 := (HF3.out k hk).2
      have h3 := HB34.out.size
      rw [World.size_alloc] at h3
      rcases hf7 k hf with h2 | h2
      · have := HFC.out k h2; omega
      · omega
    · rcases hf7 k hk with h2 | h2
      · have := HFC.out k h2; omega
      · omega
  have HTW := Lib.hid htw
  have HLIKE : Hid (Like (resizeS (resizeS S RB CB) S.D.R S.D.C) { S with pl := ⟨S.pl.at_, false⟩ }) := Like.grown HIN.out.1 HIN.out.2 HHM.out (by omega) (by omega)
  have hsz8 : ∀ W, Below w8.heap.size w8 W → Calls Tryz.prog 16 #[.pointer (some ⟨sp, 0, none⟩)] W fun e w' => e = .returned (.agg #[.int .i64 (RB : Int), .int .i64 (CB : Int)]) ∧ Below W.heap.size W w' := by
    obtain ⟨F8, FC8, hs8, hc8, _⟩ := HTW.out
    exact fun W hb => scr_size sp F8 _ W (hs8.below hb)
  have HSZ8 := Lib.hid hsz8
  have HBD8 : Hid (Below w8.heap.size w8 w8.drew) := (Below.refl _ _).drew
  clear hbig8 hz8 htw hsz8 z0 z1 y0 y1
  refine wp_region_noPanic ?_
  refine wp_region_k (S := fun W : World => Below w8.heap.size w8 W) 6 (by kernel_rfl) (HBD8.out) (fun hHeld => ?_)
  refine wpAnyK_pure (i := 0) (v := ?_) rfl rfl (by kernel_rfl) (by kernel_rfl) (by kernel_rfl) (by kernel_rfl) (fun _ _ _ h => h) (Or.inl ⟨by rfl, ?hy1⟩) (fun _ => hHeld) ?_
  case hy1 => (intro W hSw; refine Or.inl ?_; go_simp; try with_reducible rfl)
  try simp only [Act.put, List.getElem_toArray, List.getElem_cons_zero, List.getElem_cons_succ, List.setIfInBounds_toArray, List.set_cons_zero, List.set_cons_succ]
  refine wpAnyK_pure (i := 1) (v := ?_) rfl rfl (by kernel_rfl) (by kernel_rfl) (by kernel_rfl) (by kernel_rfl) (fun _ _ _ h => h) (Or.inl ⟨by rfl, ?hy2⟩) (fun _ => hHeld) ?_
  case hy2 => (intro W hSw; refine Or.inl ?_; go_simp; try with_reducible rfl)
  try simp only [Act.put, List.getElem_toArray, List.getElem_cons_zero, List.getElem_cons_succ, List.setIfInBounds_toArray, List.set_cons_zero, List.set_cons_succ]
  refine wpAnyK_pure (i := 2) (v := ?_) rfl rfl (by kernel_rfl) (by kernel_rfl) (by kernel_rfl) (by kernel_rfl) (fun _ _ _ h => h) (Or.inl ⟨by rfl, ?hy3⟩) (fun _ => hHeld) ?_
  case hy3 => (intro W hSw; refine Or.inl ?_; go_simp; try with_reducible rfl)
  try simp only [Act.put, List.getElem_toArray, List.getElem_cons_zero, List.getElem_cons_succ, List.setIfInBounds_toArray, List.set_cons_zero, List.set_cons_succ]
  refine wpAnyK_pure (i := 3) (v := ?_) rfl rfl (by kernel_rfl) (by kernel_rfl) (by kernel_rfl) (by kernel_rfl) (fun _ _ _ h => h) (Or.inl ⟨by rfl, ?hy4⟩) (fun _ => hHeld) ?_
  case hy4 => (intro W hSw; refine Or.inl ?_; go_simp; try with_reducible rfl)
  try simp only [Act.put, List.getElem_toArray, List.getElem_cons_zero, List.getElem_cons_succ, List.setIfInBounds_toArray, List.set_cons_zero, List.set_cons_succ]
  refine wpAnyK_take (i := 5) (v := ?_) [] rfl (by kernel_rfl) rfl (by kernel_rfl) (by kernel_rfl) (by kernel_rfl) (by kernel_rfl) (fun _ _ _ h => h) (Or.inl ⟨by rfl, ?hy5⟩) hHeld ?_
  case hy5 => (intro W hSw; refine Or.inl ?_; obtain ⟨b0, b1, _⟩ := row2 ((hSw.block _ (block_lt HXB8.out)).trans HXB8.out); go_simp; try with_reducible rfl)
  try simp only [Act.put, List.getElem_toArray, List.getElem_cons_zero, List.getElem_cons_succ, List.setIfInBounds_toArray, List.set_cons_zero, List.set_cons_succ]
  refine wpAnyK_ready (rs := [4]) (by kernel_rfl) (by simp) ?_
  refine AllReadyK.cons rfl (fun KQ hKQ => ?_) AllReadyK.nil
  go_simp
  go_at_call 16
  refine (HSZ8.out _ HBD8.out).mono ?_
  rintro e w9 ⟨rfl, hb9⟩
  have HB9 := Lib.hid (Below.later HBD8.out hb9 HBD8.out.size)
  clear hb9
  go_wp2_with fail
  refine hKQ.out _ _ (HB9.out) (fun hHeld2 => ?_)
  clear hHeld hKQ KQ
  have hHeld := hHeld2
  clear hHeld2
  try simp only [Act.put, List.getElem_toArray, List.getElem_cons_zero, List.getElem_cons_succ, List.setIfInBounds_toArray, List.set_cons_zero, List.set_cons_succ]
  refine wpAnyK_ready (rs := [6]) (by kernel_rfl) (by simp) ?_
  refine AllReadyK.free rfl (by kernel_rfl) (fun KQ hKQ => ?_) AllReadyK.nil
  go_simp
  refine hKQ.out _ _ ?_
  clear hKQ KQ
  try simp only [Act.put, List.getElem_toArray, List.getElem_cons_zero, List.getElem_cons_succ, List.setIfInBounds_toArray, List.set_cons_zero, List.set_cons_succ]
  refine wpAnyK_pure (i := 7) (v := ?_) rfl rfl (by kernel_rfl) (by kernel_rfl) (by kernel_rfl) (by kernel_rfl) (fun _ _ _ h => h) (Or.inl ⟨by rfl, ?hy6⟩) (fun e => Bool.noConfusion (show true = false from e)) ?_
  case hy6 => (intro W hSw; refine Or.inl ?_; go_simp; try with_reducible rfl)
  try simp only [Act.put, List.getElem_toArray, List.getElem_cons_zero, List.getElem_cons_succ, List.setIfInBounds_toArray, List.set_cons_zero, List.set_cons_succ]
  refine wpAnyK_done (by kernel_rfl) ?_ _
  refine NoPanic.normal ?_
  go_wp2_with fail
  have HB1W : Hid (∀ W, Below w8.heap.size w8 W → Below w.heap.size w W) := fun W hb => by
    obtain ⟨F8, FC8, hs8, hc8, _, _, hb8⟩ := HTW.out
    exact Below.later HB1.out (Below.later hb8 hb hb8.size) HB1.out.size
  go_loopw [12] (fun i wr => ∃ r : Nat, r ≤ RB ∧ i = .int .i64 (r : Int) ∧ Below w8.heap.size w8 wr) (fun i _ => RB - (intOf i).toNat)
  case atStart => exact ⟨0, Nat.zero_le _, rfl, HB9.out⟩
  case round =>
    obtain ⟨r, hr, rfl, hq⟩ := hrel
    obtain ⟨z0, z1, _⟩ := row2 ((hq.block _ (block_lt HXB8.out)).trans HXB8.out)
    have HQ := Lib.hid hq
    clear hq
    by_cases hlr : r < RB
    · have hri : (r : Int) < (RB : Int) := by omega
      have hwr : IntKind.i64.wrap ((r : Int) + 1) = ((r + 1 : Nat) : Int) := by rw [wrap_in (by omega) (by omega)]; rfl
      go_wp2_with fail
      go_loopw [13] (fun j wr => ∃ q : Nat, q ≤ CB ∧ j = .int .i64 (q : Int) ∧ Below w8.heap.size w8 wr) (fun j _ => CB - (intOf j).toNat)
      case atStart => exact ⟨0, Nat.zero_le _, rfl, HQ.out⟩
      case round =>
        clear z0 z1 HQ
        obtain ⟨q, hqc, rfl, hq⟩ := hrel
        obtain ⟨z0, z1, _⟩ := row2 ((hq.block _ (block_lt HXB8.out)).trans HXB8.out)
        have HQ := Lib.hid hq
        clear hq
        by_cases hlq : q < CB
        · have hqi : (q : Int) < (CB : Int) := by omega
          have hwq : IntKind.i64.wrap ((q : Int) + 1) = ((q + 1 : Nat) : Int) := by rw [wrap_in (by omega) (by omega)]; rfl
          have HAT := Lib.hid (HTW.out.below HQ.out)
          by_cases hin : r < S.D.R ∧ q < S.D.C
          · have ha1 : ∀ W, Below wr.heap.size wr W → Calls Tryz.prog 18 #[.pointer (some ⟨sp, 0, none⟩), .agg #[.int .i64 (r : Int), .int .i64 (q : Int)]] W fun e w' => e = .returned (.tuple #[.agg #[.int .i32 (S.D.X r q).g, .int .i64 (S.D.X r q).a, .bool (S.D.X r q).gd, .int .i64 (S.D.X r q).m], .int .i64 0]) ∧ Below W.heap.size W w' := by
              obtain ⟨F, FC, hs, hc, _⟩ := HAT.out
              intro W hb
              have := scr_at_ij sp F _ r q W (hs.below hb) hlr hlq
              rw [resized_in hin.1 hin.2] at this
              exact this
            have ha2 : ∀ W, Below wr.heap.size wr W → Calls Tryz.prog 18 #[.pointer (some ⟨cp, 0, none⟩), .agg #[.int .i64 (r : Int), .int .i64 (q : Int)]] W fun e w' => e = .returned (.tuple #[.agg #[.int .i32 (S.D.X r q).g, .int .i64 (S.D.X r q).a, .bool (S.D.X r q).gd, .int .i64 (S.D.X r q).m], .int .i64 0]) ∧ Below W.heap.size W w' := by
              obtain ⟨F, FC, hs, hc, _⟩ := HAT.out
              exact fun W hb => scr_at_ij cp FC { S with pl := ⟨S.pl.at_, false⟩ } r q W (hc.below hb) hin.1 hin.2
            have HA1 := Lib.hid ha1
            have HA2 := Lib.hid ha2
            clear ha1 ha2 hin
            generalize S.D.X r q = y at *
            go_upto_region 22 with (first
              | (go_at_call 18; refine (HA2.out _ HB8.out).mono ?_; rintro e w11 ⟨rfl, hb11⟩; have HX9 := Lib.hid ((hb11.block _ (block_lt HX8.out)).trans HX8.out); have HB11 := Lib.hid (Below.later HB8.out hb11 HB8.out.size); clear hb11)
              | (go_at_call 18; refine (HA1.out _ (Below.refl _ _)).mono ?_; rintro e w10 ⟨rfl, hb10⟩; have HX8 := Lib.hid (heap_alloc_new w10 (.cells #[.int .i32 y.g, .int .i64 y.a, .bool y.gd, .int .i64 y.m] 24)); have HB8 := Lib.hid (Below.later hb10 (below1 w10 (.cells #[.int .i32 y.g, .int .i64 y.a, .bool y.gd, .int .i64 y.m] 24)) hb10.size); clear hb10))
            obtain ⟨x0, x1, x2, x3, _⟩ := row4 ((Below.heap_alloc w11 (.cells #[.int .i32 y.g, .int .i64 y.a, .bool y.gd, .int .i64 y.m] 24) _ (block_lt HX9.out)).trans HX9.out)
            have HBE : Hid (Below w8.heap.size w8 (w11.alloc (.cells #[.int .i32 y.g, .int .i64 y.a, .bool y.gd, .int .i64 y.m] 24))) := Below.later HQ.out (Below.later HB11.out (below1 _ _) HB11.out.size) HQ.out.size
            go_wp2_with fail
            exact ⟨⟨q + 1, by omega, rfl, HBE.out⟩, by simp [intOf]; omega⟩
          · have ha1 : ∀ W, Below wr.heap.size wr W → Calls Tryz.prog 18 #[.pointer (some ⟨sp, 0, none⟩), .agg #[.int .i64 (r : Int), .int .i64 (q : Int)]] W fun e w' => e = .returned (.tuple #[.agg #[.int .i32 32, .int .i64 0, .bool false, .int .i64 0], .int .i64 0]) ∧ Below W.heap.size W w' := by
              obtain ⟨F, FC, hs, hc, _⟩ := HAT.out
              intro W hb
              have := scr_at_ij sp F _ r q W (hs.below hb) hlr hlq
              rw [resized_out hin] at this
              exact this
            have ha2 : ∀ W, Below wr.heap.size wr W → Calls Tryz.prog 18 #[.pointer (some ⟨cp, 0, none⟩), .agg #[.int .i64 (r : Int), .int .i64 (q : Int)]] W fun e w' => e = .returned (.tuple #[.agg #[.int .i32 0, .int .i64 0, .bool false, .int .i64 0], .int .i64 11]) ∧ Below W.heap.size W w' := by
              obtain ⟨F, FC, hs, hc, _⟩ := HAT.out
              exact fun W hb => scr_at_no cp FC { S with pl := ⟨S.pl.at_, false⟩ } ⟨(r : Int), (q : Int)⟩ W (hc.below hb) (fun h => hin (by obtain ⟨g1, g2, g3, g4⟩ := h; have g2' : (r : Int) < (S.D.R : Int) := g2; have g4' : (q : Int) < (S.D.C : Int) := g4; omega))
            have HA1 := Lib.hid ha1
            have HA2 := Lib.hid ha2
            clear ha1 ha2 hin
            go_upto_region 22 with (first
              | (go_at_call 18; refine (HA2.out _ HB8.out).mono ?_; rintro e w11 ⟨rfl, hb11⟩; have HX9 := Lib.hid ((hb11.block _ (block_lt HX8.out)).trans HX8.out); have HB11 := Lib.hid (Below.later HB8.out hb11 HB8.out.size); clear hb11)
              | (go_at_call 18; refine (HA1.out _ (Below.refl _ _)).mono ?_; rintro e w10 ⟨rfl, hb10⟩; have HX8 := Lib.hid (heap_alloc_new w10 (.cells #[.int .i32 32, .int .i64 0, .bool false, .int .i64 0] 24)); have HB8 := Lib.hid (Below.later hb10 (below1 w10 (.cells #[.int .i32 32, .int .i64 0, .bool false, .int .i64 0] 24)) hb10.size); clear hb10))
            obtain ⟨x0, x1, x2, x3, _⟩ := row4 ((Below.heap_alloc w11 (.cells #[.int .i32 0, .int .i64 0, .bool false, .int .i64 0] 24) _ (block_lt HX9.out)).trans HX9.out)
            have HBE : Hid (Below w8.heap.size w8 (w11.alloc (.cells #[.int .i32 0, .int .i64 0, .bool false, .int .i64 0] 24))) := Below.later HQ.out (Below.later HB11.out (below1 _ _) HB11.out.size) HQ.out.size
            obtain ⟨g0, g1, g2, g3⟩ := HBL.out _ (HB1W.out _ HBE.out)
            go_wp2_with fail
            exact ⟨⟨q + 1, by omega, rfl, HBE.out⟩, by simp [intOf]; omega⟩
        · obtain rfl : CB = q := by omega
          go_wp2_with fail
          exact ⟨⟨r + 1, by omega, rfl, HQ.out⟩, by simp [intOf]; omega⟩
    · obtain rfl : RB = r := by omega
      obtain ⟨v0, v1, _⟩ := row2 ((HQ.out.block _ (block_lt HXZ8.out)).trans HXZ8.out)
      obtain ⟨F9, FC9, hs9, hc9, h91, h92, hb9⟩ := HTW.out.below HQ.out
      have HRZ := Lib.hid (scr_resize sp F9 _ S.D.R S.D.C wr hs9 (Vz.Gd.may_mayS HIN.out.2))
      have HLK := Lib.hid (fun W' (hg : ScrTo wr W' sp F9 (resizeS (resizeS S RB CB) S.D.R S.D.C)) => Two.turn hs9 hc9 h91 h92 hb9 hg)
      clear hs9 hc9 h91 h92 hb9
      go_wp2_with (first
        | (go_at_call 30; obtain ⟨F10, FC10, hs10, hc10, _, _, hb10⟩ := HT10.out; have HB110 := Lib.hid (Below.later HB1.out hb10 HB1.out.size); refine (equal_yes sp cp F10 FC10 _ _ w10 hs10 hc10 HLIKE.out).mono ?_; rintro e w11 ⟨rfl, hb11⟩; have HB11 := Lib.hid (Below.later HB110.out hb11 HB110.out.size); clear hs10 hc10 hb10 hb11)
        | (go_at_call 12; refine (HAW.out _ HB11.out).mono ?_; rintro e w12 ⟨rfl, hb12⟩; have HB12 := Lib.hid (Below.later HB11.out hb12 HB11.out.size); clear hb12)
        | (go_at_call 33; refine HRZ.out.mono ?_; rintro e w10 ⟨rfl, hg⟩; have HT10 := Lib.hid (HLK.out _ hg); clear hg))
      go_ret
      exact ⟨rfl, HB12.out⟩
end Go.Proofs.YtbnkfiaggehmgaaGreatDoor
