import Derived.Test.YtliacdaddncmaaaGreatDoorSnCount

/- The law SnapJoins, whole. -/
namespace Go.Proofs.YtliacdaddncmaaaGreatDoor
open Go.RowKit
set_option linter.unusedSimpArgs false
set_option linter.unusedVariables false
attribute [local go_sem] alloc_drewN setCell_drewN World.cell?_alloc_some frozen_alloc_some size_f0 size_f1 Oper.semAt_some run_store_func

theorem p_cases2 (p : Int) : ((decide (p < 1) = true) ∨ (decide (p < 1) = false ∧ decide (4 < p) = true)) ∨ (decide (p < 1) = false ∧ decide (4 < p) = false ∧ ¬ p < 1 ∧ ¬ 4 < p) := by
  simp only [decide_eq_true_eq, decide_eq_false_iff_not]
  omega
set_option maxRecDepth 100000 in
set_option maxHeartbeats 16000000 in
theorem law_njoi_in (n : Nat) (hn : 5 ≤ n) (p : Int) (A1 : Option Addr) (m1 cap1 : Nat) (L1 : List Vz.Op) (hpr : PrintOk) (w : World) (hbl : Blanked w) (h1 : Opers w.heap.size w A1 m1 L1) (hm1 : m1 ≤ maxLen) (t : TypeId) (fr : Nat × Nat) (hg : w.heap[1]? = some (.cells names12a t fr)) :
    CallsIn Fence.wide n Tryz.prog 5 #[.int .i64 p, .slice A1 m1 cap1] w fun e w' => e = .returned (.bool true) ∧ Below w.heap.size w w' := by
  have hn1 : 1 ≤ n := by omega
  have HW0 : Hid (Below w.heap.size w (w.alloc (.cells #[.bool false] 4))) := below1 _ _
  have HX0 := Lib.hid (heap_alloc_new w (.cells #[.bool false] 4))
  have HMD := Lib.hid (made_ok A1 m1 cap1 L1 _ (hbl.below HW0.out) ((h1.below HW0.out (Nat.le_refl _)).more HW0.out.size) hm1)
  have HAW := Lib.hid (fun W (hb : Below w.heap.size w W) => awake_of hpr W (hbl.below hb) t fr ((hb.block _ (block_lt hg)).trans hg))
  have HBG := Lib.hid (fun W (hb : Below w.heap.size w W) => begun_yes W (hbl.below hb))
  have HPR := Lib.hid hpr
  have HG := Lib.hid (fun W (hb : Below w.heap.size w W) => (hb.block _ (block_lt hg)).trans hg)
  clear hpr hbl hg h1 hm1
  refine callsIn_of_wp_marks Tryz.func5 rfl trivial ?_ rfl
  simp only [Tryz.ntmps5, List.size_toArray, List.length_cons, List.length_nil, Nat.reduceAdd, Nat.reduceSub, Array.replicate_succ, Array.replicate_zero, List.push_toArray, List.append_toArray, List.nil_append, List.cons_append]
  gi_upto_region 2 with ((try refine ⟨trivial, ?_⟩); gi_at_call 12; refine (callsIn_wide.2 HMD.out).mono ?_; rintro e w1 ⟨hr, hb1⟩; have HB1 := Lib.hid (Below.later HW0.out hb1 HW0.out.size); have HX1 := Lib.hid ((hb1.block _ (block_lt HX0.out)).trans HX0.out); clear hb1; rcases hr with ⟨rfl, -⟩ | ⟨sp, rfl, hp1⟩)
  · gi_wp2_with (first
      | ((try refine ⟨trivial, ?_⟩); gi_at_call 11; refine (callsIn_wide.2 (HAW.out _ HB2.out)).mono ?_; rintro e w3 ⟨rfl, hb3⟩; have HB3 := Lib.hid (Below.later HB2.out hb3 HB2.out.size); obtain ⟨b0, bf⟩ := box_one ((hb3.block _ (block_lt HX2.out)).trans HX2.out); clear hb3)
      | ((try refine ⟨trivial, ?_⟩); gi_at_call 13; refine (callsIn_wide.2 (HBG.out _ HB1.out)).mono ?_; rintro e w2 ⟨rfl, hb2⟩; have HB2 := Lib.hid (Below.later HB1.out hb2 HB1.out.size); have HX2 := Lib.hid ((hb2.block _ (block_lt HX1.out)).trans HX1.out); clear hb2))
    exact ⟨_, by simp [results, Tryz.results5, go_sem, b0, bf], rfl, HB3.out.setCell (p := ⟨w.heap.size, 0, none⟩) (Nat.le_refl _) _⟩
  have HP1 := Lib.hid hp1
  clear hp1
  rcases p_cases2 p with hbad | ⟨d0, d1, hpa, hpb⟩
  · rcases hbad with d0 | ⟨d0, d1⟩
    all_goals (
      gi_wp2_with (first
        | ((try refine ⟨trivial, ?_⟩); gi_at_call 11; refine (callsIn_wide.2 (HAW.out _ HB2.out)).mono ?_; rintro e w3 ⟨rfl, hb3⟩; have HB3 := Lib.hid (Below.later HB2.out hb3 HB2.out.size); obtain ⟨b0, bf⟩ := box_one ((hb3.block _ (block_lt HX2.out)).trans HX2.out); clear hb3)
        | ((try refine ⟨trivial, ?_⟩); gi_at_call 13; refine (callsIn_wide.2 (HBG.out _ HB1.out)).mono ?_; rintro e w2 ⟨rfl, hb2⟩; have HB2 := Lib.hid (Below.later HB1.out hb2 HB1.out.size); have HX2 := Lib.hid ((hb2.block _ (block_lt HX1.out)).trans HX1.out); clear hb2))
      exact ⟨_, by simp [results, Tryz.results5, go_sem, b0, bf], rfl, HB3.out.setCell (p := ⟨w.heap.size, 0, none⟩) (Nat.le_refl _) _⟩)
  obtain ⟨S, ⟨⟨F, hs1, hF⟩, -⟩, hmS⟩ := HP1.out
  have HSC := Lib.hid hs1
  have HFT : Hid (∀ k, F k → w.heap.size < k ∧ k < w1.heap.size) := fun k hk => ⟨by have := hF k hk; rw [World.size_alloc] at this; omega, hs1.lt k hk⟩
  have hK : ShK ⟨p, S⟩ := ⟨hs1.here.2, Nat.le_trans hmS.r (by decide), hmS.c, hs1.here.1, hmS.ok⟩
  have HK := Lib.hid hK
  have HNM := Lib.hid (p_name hpa hpb)
  have HOKC : Hid (∀ i j, CellOk (S.D.X i j)) := hmS.ok
  have HTK := Lib.hid (fun W (hb : Below w1.heap.size w1 W) => take_ok p (p_name hpa hpb) sp F S hmS.ok W (hs1.below hb))
  have hz1 : w.heap.size < w1.heap.size := block_lt HX1.out
  clear hs1 hF hmS hK HP1
  gi_upto_region 6 with (first
    | ((try refine ⟨trivial, ?_⟩); gi_at_call 6; have hbq := HC3.out; clear hbq; refine (callsIn_wide.2 (new_take p HNM.out HOKC.out HC3.out)).mono ?_; rintro e w3 ⟨OB2, g2, cap2', sv2, G2, K2, H2, rfl, hsh, hb⟩; obtain ⟨sa2, sc2, hsv2, -⟩ := stops_cell hsh.stops; subst hsv2; have HS2 := Lib.hid hsh; have HB3 := Lib.hid (Below.later HC3.out.2 hb HC3.out.2.size); have HZ3 := Lib.hid HC3.out.2.size; clear hsh hb; (try unfold shV))
    | ((try refine ⟨trivial, ?_⟩); gi_at_call 19; refine (callsIn_wide.2 (scr_copy sp F S _ (HSC.out.below HB2x.out))).mono ?_; rintro e wc ⟨cp, rfl, hc⟩; have HC3 := Lib.hid hc; clear hc)
    | ((try refine ⟨trivial, ?_⟩); gi_at_call 6; refine (callsIn_wide.2 (HTK.out _ (Below.refl _ _))).mono ?_; rintro e w2 ⟨OB, g, cap, sv, G, K, H, rfl, hsh, hb⟩; obtain ⟨sa, sc, hsv, -⟩ := stops_cell hsh.stops; subst hsv; have HS1 := Lib.hid hsh; have HB2 := Lib.hid hb; have HB2x := Lib.hid (hb.alloc hb.size (.cells (shV ⟨p, S⟩ OB g cap (.slice sa (stopsI (⟨p, S⟩ : Sh).S.D.C (⟨p, S⟩ : Sh).S.T).length sc)) 30)); clear hsh hb; unfold shV at *))
  obtain ⟨W5, hW5⟩ : ∃ W, W = w3.alloc (.cells #[.int .i64 p, .int .i64 (S.D.R : Int), .int .i64 (S.D.C : Int), .int .i64 S.pl.at_.row, .int .i64 S.pl.at_.col, .bool S.pl.pend, .slice (some ⟨OB2, 0, none⟩) S.D.R S.D.R, .slice (some ⟨g2, 0, none⟩) S.D.R cap2', .slice sa2 (stopsI S.D.C S.T).length sc2] 30) := ⟨_, rfl⟩
  rw [← hW5]
  have hz2 : w1.heap.size ≤ w2.heap.size := HB2.out.size
  have hz3 : w2.heap.size + 1 ≤ w3.heap.size := by have := HB3.out.size; rw [World.size_alloc] at this; exact this
  have hz5 : w3.heap.size + 1 = W5.heap.size := by rw [hW5, World.size_alloc]
  have hb35 : Below w3.heap.size w3 W5 := by rw [hW5]; exact below1 _ _
  have hb25 : Below (w2.heap.size + 1) (w2.alloc (.cells #[.int .i64 p, .int .i64 (S.D.R : Int), .int .i64 (S.D.C : Int), .int .i64 S.pl.at_.row, .int .i64 S.pl.at_.col, .bool S.pl.pend, .slice (some ⟨OB, 0, none⟩) S.D.R S.D.R, .slice (some ⟨g, 0, none⟩) S.D.R cap, .slice sa (stopsI S.D.C S.T).length sc] 30)) W5 := by
    have h := Below.later HB3.out hb35 HB3.out.size
    rw [World.size_alloc] at h
    exact h
  have hb15 : Below w1.heap.size w1 W5 := Below.later HB2.out (Below.later (below1 w2 _) (by rw [World.size_alloc]; exact hb25) (by simp)) hz2
  have hbx : W5.heap[w2.heap.size]? = some (.cells #[.int .i64 p, .int .i64 (S.D.R : Int), .int .i64 (S.D.C : Int), .int .i64 S.pl.at_.row, .int .i64 S.pl.at_.col, .bool S.pl.pend, .slice (some ⟨OB, 0, none⟩) S.D.R S.D.R, .slice (some ⟨g, 0, none⟩) S.D.R cap, .slice sa (stopsI S.D.C S.T).length sc] 30 (0, 0)) := (hb25.block _ (Nat.lt_succ_self _)).trans (heap_alloc_new w2 _)
  have hby : W5.heap[w3.heap.size]? = some (.cells #[.int .i64 p, .int .i64 (S.D.R : Int), .int .i64 (S.D.C : Int), .int .i64 S.pl.at_.row, .int .i64 S.pl.at_.col, .bool S.pl.pend, .slice (some ⟨OB2, 0, none⟩) S.D.R S.D.R, .slice (some ⟨g2, 0, none⟩) S.D.R cap2', .slice sa2 (stopsI S.D.C S.T).length sc2] 30 (0, 0)) := by rw [hW5]; exact heap_alloc_new w3 _
  have HXS : Hid (ShP w1.heap.size W5 ⟨p, S⟩ OB g cap (.slice sa (stopsI S.D.C S.T).length sc) G K H) := HS1.out.below (Below.later (below1 w2 _) (by rw [World.size_alloc]; exact hb25) (by simp))
  have hzc : w2.heap.size + 1 ≤ wc.heap.size := by have := HZ3.out; rw [World.size_alloc] at this; exact this
  have HYS : Hid (ShP wc.heap.size W5 ⟨p, S⟩ OB2 g2 cap2' (.slice sa2 (stopsI S.D.C S.T).length sc2) G2 K2 H2) := HS2.out.below hb35
  have HF0 : Hid (FixP w W5 w1.heap.size W5) := ⟨fun _ _ _ => rfl, Nat.le_refl _, Below.later HB1.out hb15 (by omega), (hb15.block _ (block_lt HX1.out)).trans HX1.out⟩
  have HZ : Hid (w.heap.size < W5.heap.size) := by show _ < _; omega
  have HPX : Hid (∀ W, FixP w W5 w1.heap.size W → Calls Tryz.prog 14 #[.agg #[.int .i64 p, .int .i64 (S.D.R : Int), .int .i64 (S.D.C : Int), .int .i64 S.pl.at_.row, .int .i64 S.pl.at_.col, .bool S.pl.pend, .slice (some ⟨OB, 0, none⟩) S.D.R S.D.R, .slice (some ⟨g, 0, none⟩) S.D.R cap, .slice sa (stopsI S.D.C S.T).length sc]] W fun e w' => e = .returned (.string ⟨(printL ⟨p, S⟩).toArray⟩) ∧ Below W.heap.size W w') := fun W hf => HPR.out ⟨p, S⟩ OB g cap _ G K H _ W (hf.shp (Nat.le_refl _) HXS.out) HK.out.may HK.out.r HK.out.c HK.out.in_ HK.out.ok t fr (HG.out W hf.bel)
  have HPY : Hid (∀ W, FixP w W5 w1.heap.size W → Calls Tryz.prog 14 #[.agg #[.int .i64 p, .int .i64 (S.D.R : Int), .int .i64 (S.D.C : Int), .int .i64 S.pl.at_.row, .int .i64 S.pl.at_.col, .bool S.pl.pend, .slice (some ⟨OB2, 0, none⟩) S.D.R S.D.R, .slice (some ⟨g2, 0, none⟩) S.D.R cap2', .slice sa2 (stopsI S.D.C S.T).length sc2]] W fun e w' => e = .returned (.string ⟨(printL ⟨p, S⟩).toArray⟩) ∧ Below W.heap.size W w') := fun W hf => HPR.out ⟨p, S⟩ OB2 g2 cap2' _ G2 K2 H2 _ W (hf.shp (by omega) HYS.out) HK.out.may HK.out.r HK.out.c HK.out.in_ HK.out.ok t fr (HG.out W hf.bel)
  have HS12 : Hid (∀ W, FixP w W5 w1.heap.size W → Calls Tryz.prog 10 #[.agg #[.int .i64 p, .int .i64 (S.D.R : Int), .int .i64 (S.D.C : Int), .int .i64 S.pl.at_.row, .int .i64 S.pl.at_.col, .bool S.pl.pend, .slice (some ⟨OB, 0, none⟩) S.D.R S.D.R, .slice (some ⟨g, 0, none⟩) S.D.R cap, .slice sa (stopsI S.D.C S.T).length sc], .agg #[.int .i64 p, .int .i64 (S.D.R : Int), .int .i64 (S.D.C : Int), .int .i64 S.pl.at_.row, .int .i64 S.pl.at_.col, .bool S.pl.pend, .slice (some ⟨OB2, 0, none⟩) S.D.R S.D.R, .slice (some ⟨g2, 0, none⟩) S.D.R cap2', .slice sa2 (stopsI S.D.C S.T).length sc2]] W fun e w' => e = .returned (.bool true) ∧ Below W.heap.size W w') := fun W hf => same_yes ⟨p, S⟩ HK.out.may _ OB g cap _ G K H _ OB2 g2 cap2' _ G2 K2 H2 W (hf.shp (Nat.le_refl _) HXS.out) (hf.shp (by omega) HYS.out)
  have HTX : Hid (∀ W, FixP w W5 w1.heap.size W → Calls Tryz.prog 9 #[.agg #[.int .i64 p, .int .i64 (S.D.R : Int), .int .i64 (S.D.C : Int), .int .i64 S.pl.at_.row, .int .i64 S.pl.at_.col, .bool S.pl.pend, .slice (some ⟨OB, 0, none⟩) S.D.R S.D.R, .slice (some ⟨g, 0, none⟩) S.D.R cap, .slice sa (stopsI S.D.C S.T).length sc]] W fun e w' => e = .returned (.string ⟨(rowsB S.D S.D.R).toArray⟩) ∧ Below W.heap.size W w') := fun W hf => text_ok ⟨p, S⟩ OB g cap _ G K H _ W (hf.shp (Nat.le_refl _) HXS.out) HK.out.may HK.out.r HK.out.c HK.out.ok
  have HCX := Lib.hid (fun W (hf : FixP w W5 w1.heap.size W) => (row9 (hf.at_ hz2 hbx)).1)
  have HCY := Lib.hid (fun W (hf : FixP w W5 w1.heap.size W) => (row9 (hf.at_ (by omega) hby)).1)
  have HGO : Hid (∀ A, FixP w W5 w1.heap.size A → ShP w1.heap.size A ⟨p, S⟩ OB g cap (.slice sa (stopsI S.D.C S.T).length sc) G K H) := fun A hf => hf.shp (Nat.le_refl _) HXS.out
  have hSH : shV ⟨p, S⟩ OB g cap (.slice sa (stopsI S.D.C S.T).length sc) = #[.int .i64 p, .int .i64 (S.D.R : Int), .int .i64 (S.D.C : Int), .int .i64 S.pl.at_.row, .int .i64 S.pl.at_.col, .bool S.pl.pend, .slice (some ⟨OB, 0, none⟩) S.D.R S.D.R, .slice (some ⟨g, 0, none⟩) S.D.R cap, .slice sa (stopsI S.D.C S.T).length sc] := rfl
  have HSH := Lib.hid hSH
  have hm := HK.out.may
  have hC0 : 0 < S.D.C := Nat.lt_of_lt_of_le Nat.zero_lt_one hm.2.2.1
  have hR0 : 0 < S.D.R := Nat.lt_of_lt_of_le Nat.zero_lt_one hm.1
  have HALL : Hid ((joinN JnN.nil (allN S.D (lookS p S.D))).text ++ [10] = rowsB S.D S.D.R) := allN_text S.D (lookS p S.D) hC0 hR0
  have HPL : Hid (∀ pre, pre <+: allN S.D (lookS p S.D) → (joinN JnN.nil pre).text.length ≤ 2000) := fun pre hp => join_pre hC0 hR0 HK.out.c HK.out.r hp
  have HG1 : Hid (∀ r ∈ allN S.D (lookS p S.D), RunG1 r) := allN_g S.D HK.out.ok _
  have HSML : Hid (∀ r ∈ allN S.D (lookS p S.D), r.small) := (allN_small ⟨p, S⟩ HK.out.r HK.out.c).1
  have hRz : 1 ≤ S.D.R ∧ S.D.R ≤ 255 := ⟨hm.1, hm.2.1⟩
  obtain ⟨hR1, hR2⟩ := hRz
  have HMX := Lib.hid (And.intro hm HK.out.ok)
  obtain ⟨⟨x0, x1, x2, x3, x4, x5, x6, x7, x8⟩, _⟩ := row9 hbx
  clear hW5 hz3 hz5 hb35 hb25 hb15 hbx hby hz1 hSH hm hpa hpb d0 d1 HS1 hzc HZ3 HC3 HNM HOKC HS2 HTK HX1 HB2x
  generalize printL ⟨p, S⟩ = PT at *
  clear x0 x1 x2 x3 x4 x5 x6 x7 x8
  have HST : Hid (FixP w W5 w1.heap.size W5.drew) := HF0.out.below (Below.refl _ _).drew
  refine wpIn_region_i (S := fun W : World => FixP w W5 w1.heap.size W) 16 (by kernel_rfl) (HST.out) (fun hHeld => ?_)
  refine kSI 0 hHeld ?_
  refine kSI 1 hHeld ?_
  refine kSI 2 hHeld ?_
  refine kSI 3 hHeld ?_
  refine kSI 4 hHeld ?_
  try refine kNI ?_
  refine kSI 5 hHeld ?_
  refine kSI 6 hHeld ?_
  refine kTI (v := ?_) 7 [12, 9] hHeld ?y8 ?_
  case y8 => (intro W hSw; obtain ⟨x0, x1, x2, x3, x4, x5, x6, x7, x8⟩ := HCX.out _ hSw; obtain ⟨y0, y1, y2, y3, y4, y5, y6, y7, y8⟩ := HCY.out _ hSw; go_simp; try with_reducible rfl)
  refine kTI (v := ?_) 8 [12, 9] hHeld ?y9 ?_
  case y9 => (intro W hSw; obtain ⟨x0, x1, x2, x3, x4, x5, x6, x7, x8⟩ := HCX.out _ hSw; obtain ⟨y0, y1, y2, y3, y4, y5, y6, y7, y8⟩ := HCY.out _ hSw; go_simp; try with_reducible rfl)
  try refine kNI ?_
  refine kOI 9 fun KQ hKQ => ?_
  go_simp
  first | refine ⟨trivial, ?_⟩ | refine ⟨fun _ => hn1, ?_⟩ | skip
  gi_at_call 10
  refine (callsIn_wide.2 (HS12.out _ hHeld)).mono ?_
  rintro e w11 ⟨rfl, hb⟩
  have hs9 := hHeld.below hb
  clear hb
  gi_wp2_with fail
  refine hKQ.out _ _ (hs9) ?_
  clear hHeld hKQ KQ
  intro hHeld
  try refine kNI ?_
  clear hs9
  refine kSI 10 hHeld ?_
  refine kSI 11 hHeld ?_
  refine kSI 12 hHeld ?_
  refine kTI (v := ?_) 13 [14] hHeld ?y13 ?_
  case y13 => (intro W hSw; obtain ⟨x0, x1, x2, x3, x4, x5, x6, x7, x8⟩ := HCX.out _ hSw; obtain ⟨y0, y1, y2, y3, y4, y5, y6, y7, y8⟩ := HCY.out _ hSw; go_simp; try with_reducible rfl)
  refine kTI (v := ?_) 15 [] hHeld ?y14 ?_
  case y14 => (intro W hSw; obtain ⟨x0, x1, x2, x3, x4, x5, x6, x7, x8⟩ := HCX.out _ hSw; obtain ⟨y0, y1, y2, y3, y4, y5, y6, y7, y8⟩ := HCY.out _ hSw; go_simp; try with_reducible rfl)
  try refine kNI ?_
  refine kOI 14 fun KQ hKQ => ?_
  go_simp
  first | refine ⟨trivial, ?_⟩ | refine ⟨fun _ => hn1, ?_⟩ | skip
  gi_at_call 14
  refine (callsIn_wide.2 (HPX.out _ hHeld)).mono ?_
  rintro e w13 ⟨rfl, hb⟩
  have hs14 := hHeld.below hb
  clear hb
  gi_wp2_with fail
  refine hKQ.out _ _ (hs14) ?_
  clear hHeld hKQ KQ
  intro hHeld
  try refine kNI ?_
  clear hs14
  refine kPI 16 fun KQ hKQ => ?_
  go_simp
  first | refine ⟨trivial, ?_⟩ | refine ⟨fun _ => hn1, ?_⟩ | skip
  gi_at_call 14
  refine (callsIn_wide.2 (HPY.out _ hHeld)).mono ?_
  rintro e w14 ⟨rfl, hb⟩
  have HF4 := Lib.hid (hHeld.below hb)
  clear hb
  gi_wp2_with fail
  refine hKQ.out _ _ ?_
  clear hKQ KQ
  try refine kNI ?_
  refine kBI 17 ?_
  refine kBI 18 ?_
  try refine kNI ?_
  refine wpAnyI_done (by kernel_rfl) ?_ _
  refine NoPanic.normal ?_
  obtain ⟨x0, x1, x2, x3, x4, x5, x6, x7, x8⟩ := HCX.out _ (HF4.out.below (Grows.below (((Grows.refl w14).alloc (.cells #[.string ⟨#[]⟩] 9)).alloc (.cells #[.int .i64 0] 3))))
  gi_wp2_with ((try refine ⟨trivial, ?_⟩); gi_at_call 8; refine (callsIn_wide.2 (runs_call _ _)).mono ?_; rintro e wz ⟨rfl, rfl⟩)
  clear x0 x1 x2 x3 x4 x5 x6 x7 x8
  refine wpIn_rangeFunc_B 12 rfl hn1 (gf := 26) (lb := #[.pointer (some ⟨w14.heap.size + 1 + 1, 0, none⟩)]) rfl trivial (enters_of Tryz.func26 (by kernel_rfl) rfl)
    (runs_stops (n - 1) (by omega) (w14.heap.size + 1 + 1) w1.heap.size OB g cap ⟨p, S⟩ (.slice sa (stopsI S.D.C S.T).length sc) G K H HMX.out.1 HMX.out.2 w14) (JoinI.fresh w14 _).bel (fun _ => rfl)
    (fun pre W => JoinI w14 (shV ⟨p, S⟩ OB g cap (.slice sa (stopsI S.D.C S.T).length sc)) ⟨(joinN JnN.nil pre).text.toArray⟩ (joinN JnN.nil pre).row W)
    ?hI ?hGd ?h0 (fun r => .cells (rnC r) 53) (fun r => ⟨_, _, rfl⟩) ?assign ?body ?done
  case hI =>
    rintro pre X Y rw_ i1 hgr hrow
    exact i1.own (JoinI.fresh w14 _).bel.size hgr hrow
  case hGd =>
    rintro pre A i1
    exact ⟨i1.box, HGO.out _ (HF4.out.below i1.bel)⟩
  case h0 => exact JoinI.fresh w14 _
  case assign =>
    intro l r W K hK
    unfold runV
    gi_wp2
    revert hK
    unfold runV rnC
    go_simp
    try exact fun h => h
  case body =>
    rintro l pre r b W hb hi hT hbx
    unfold runV
    have hmem : r ∈ allN S.D (lookS p S.D) := hT.subset (by simp)
    have hsm := HSML.out r hmem
    obtain ⟨t1, t2, t3, -, -⟩ := hsm
    obtain ⟨gx, go, hgx, hgt⟩ := HG1.out r hmem
    have HGX := Lib.hid (And.intro hgx hgt)
    have hpl := HPL.out _ hT
    have hst := joinN_snoc JnN.nil pre r
    rw [hst] at hpl
    have HSTN := Lib.hid hst
    have hbs : w14.heap.size + 1 + 1 < b := by
      have := hb
      simp only [World.size_alloc] at this
      omega
    generalize joinN JnN.nil pre = s at *
    obtain ⟨sr, st⟩ := s
    have hpl2 : st.length + (r.row - sr) + r.text.length ≤ 2000 := by
      have : (st ++ List.replicate (r.row - sr) 10 ++ r.text).length ≤ 2000 := hpl
      rw [List.length_append, List.length_append, List.length_replicate] at this
      exact this
    have HI : Hid (JoinI w14 (shV ⟨p, S⟩ OB g cap (.slice sa (stopsI S.D.C S.T).length sc)) ⟨st.toArray⟩ sr W) := hi
    have HBX := Lib.hid hbx
    have HB := Lib.hid hb
    clear hi hb hbx hmem hT hst hpl hgx hgt
    gi_wp2
    gi_loopw [] (fun wr => ∃ k : Nat, JoinI w14 (shV ⟨p, S⟩ OB g cap (.slice sa (stopsI S.D.C S.T).length sc)) ⟨(st ++ List.replicate k 10).toArray⟩ (sr + k) wr ∧ (k = 0 ∨ sr + k ≤ r.row) ∧ wr.heap[b]? = some (.cells (rnC r) 53 (0, 0)) ∧ KeepsFrom (w14.heap.size + 1 + 1 + 1) W wr) (fun wr => r.row - rowOf (w14.heap.size + 1) wr)
    case atStart => exact ⟨0, by rw [List.replicate_zero, List.append_nil]; exact HI.out, .inl rfl, HBX.out, KeepsFrom.refl _ _⟩
    case round =>
      obtain ⟨k, hj, hk, hbk, hkp⟩ := hrel
      have q0 : wr.cell? ⟨b, 0, none⟩ = some (.int .i64 (r.row : Int)) := cell_row hbk 0
      have q2 : wr.cell? ⟨b, 2, none⟩ = some (.int .i64 (r.len : Int)) := cell_row hbk 2
      have q5 : wr.cell? ⟨b, 5, none⟩ = some (.string ⟨r.text.toArray⟩) := cell_row hbk 5
      obtain ⟨tb, htb⟩ : ∃ tb : ByteArray, tb = ⟨(st ++ List.replicate k 10).toArray⟩ := ⟨_, rfl⟩
      obtain ⟨m, hm⟩ : ∃ m, m = sr + k := ⟨_, rfl⟩
      rw [← htb, ← hm] at hj
      obtain ⟨k0, f0⟩ := box_one hj.text
      obtain ⟨k1, f1⟩ := box_one hj.row
      have HJ := Lib.hid hj
      have HBK := Lib.hid hbk
      have HKP := Lib.hid hkp
      have HTB := Lib.hid htb
      by_cases hlt : m < r.row
      · have hz : (m : Int) < (r.row : Int) := by omega
        have hw : IntKind.i64.wrap ((m : Int) + 1) = ((m + 1 : Nat) : Int) := by rw [wrap_in (by omega) (by omega)]; rfl
        have hkr : k ≤ r.row - sr := by omega
        have hts : tb.size ≤ 2000 := by
          rw [htb]
          show (st ++ List.replicate k 10).toArray.size ≤ 2000
          rw [List.size_toArray, List.length_append, List.length_replicate]
          omega
        have hg1 : ¬ 9223372036854775807 < tb.size + 1 := by omega
        have HTA : Hid (tb ++ ⟨#[10]⟩ = ⟨(st ++ List.replicate (k + 1) 10).toArray⟩) := by
          show _ = _
          rw [htb, List.replicate_succ', ← List.append_assoc]
          exact bytes_cat _ [10]
        have HM1 : Hid (m + 1 = sr + (k + 1) ∧ sr + (k + 1) ≤ r.row) := ⟨by omega, by omega⟩
        clear hj hbk hkp htb hts hm hk
        gi_wp2
        have hjj := (HJ.out.setText (tb ++ ⟨#[10]⟩)).setRow (m + 1)
        have e1 : rowOf (w14.heap.size + 1) ((wr.setCell ⟨w14.heap.size, 0, none⟩ (.string (tb ++ ⟨#[10]⟩))).setCell ⟨w14.heap.size + 1, 0, none⟩ (.int .i64 ((m : Int) + 1))) = m + 1 := rowOf_eq hjj.row
        have e2 := rowOf_eq HJ.out.row
        refine ⟨⟨k + 1, ?_, .inr HM1.out.2, ?_, ?_⟩, ?_⟩
        · rw [← HM1.out.1, ← HTA.out]
          exact hjj
        · exact (heap_setCell_other _ _ _ _ (by show b ≠ w14.heap.size + 1; omega)).trans ((heap_setCell_other _ _ _ _ (by show b ≠ w14.heap.size; omega)).trans HBK.out)
        · exact keeps_set (keeps_set HKP.out (by show w14.heap.size < _; omega) _) (by show w14.heap.size + 1 < _; omega) _
        · rw [e1, e2]
          omega
      · have hkk : k = r.row - sr := by omega
        have HM0 : Hid (m = sr + (r.row - sr)) := by rw [← hkk]; exact hm
        subst hkk
        have hz : ¬ (m : Int) < (r.row : Int) := by omega
        obtain ⟨rt, hrt⟩ : ∃ rt : ByteArray, rt = ⟨r.text.toArray⟩ := ⟨_, rfl⟩
        rw [← hrt] at q5
        have hts : tb.size + rt.size ≤ 2000 := by
          rw [htb, hrt]
          show (st ++ List.replicate (r.row - sr) 10).toArray.size + r.text.toArray.size ≤ 2000
          rw [List.size_toArray, List.size_toArray, List.length_append, List.length_replicate]
          omega
        have hg1 : ¬ 9223372036854775807 < tb.size + rt.size := by omega
        have HTA : Hid (tb ++ rt = ⟨(st ++ List.replicate (r.row - sr) 10 ++ r.text).toArray⟩) := by
          show _ = _
          rw [htb, hrt]
          exact bytes_cat _ _
        have HRT := Lib.hid hrt
        clear hj hbk hkp htb hts hm hk hrt
        have hrow : max sr r.row = m := by have := HM0.out; omega
        have HJ7 : Hid (JoinI w14 (shV ⟨p, S⟩ OB g cap (.slice sa (stopsI S.D.C S.T).length sc)) (tb ++ rt) m (wr.setCell ⟨w14.heap.size, 0, none⟩ (.string (tb ++ rt)))) := HJ.out.setText _
        have HBK7 : Hid ((wr.setCell ⟨w14.heap.size, 0, none⟩ (.string (tb ++ rt))).heap[b]? = some (.cells (rnC r) 53 (0, 0))) := (heap_setCell_other _ _ _ _ (by show b ≠ w14.heap.size; omega)).trans HBK.out
        have HK7 : Hid (KeepsFrom (w14.heap.size + 1 + 1 + 1) W (wr.setCell ⟨w14.heap.size, 0, none⟩ (.string (tb ++ rt)))) := keeps_set HKP.out (by show w14.heap.size < _; omega) _
        have HSZ : Hid ((wr.setCell ⟨w14.heap.size, 0, none⟩ (.string (tb ++ rt))).heap.size = wr.heap.size) := World.size_setCell _ _ _
        have HGT : Hid (rt = ⟨(glyL gx go r.len).toArray⟩ ∧ ∀ j, CellOk (gx j)) := ⟨by rw [HRT.out, HGX.out.2], HGX.out.1⟩
        have HRW := Lib.hid hrow
        clear hrow
        gi_wp2
        clear q0 q2 q5 k0 f0 k1 f1
        obtain ⟨W7, hW7⟩ : ∃ A, A = wr.setCell ⟨w14.heap.size, 0, none⟩ (.string (tb ++ rt)) := ⟨_, rfl⟩
        rw [← hW7] at HJ7 HBK7 HK7 HSZ ⊢
        obtain ⟨nz, hnz⟩ : ∃ z, z = wr.heap.size := ⟨_, rfl⟩
        rw [← hnz] at HSZ ⊢
        have HIT : Hid ((W7.iter rt 0).heap[nz]? = some (.stringIter rt (glyL gx go 0).length)) := by
          show _ = _
          rw [← HSZ.out]
          exact World.iter_heap W7 rt 0
        have HBI : Hid (Below nz W7 (W7.iter rt 0)) := by
          show Below _ _ _
          rw [← HSZ.out]
          exact below1 _ _
        clear hW7 hnz HJ HBK HKP
        gi_loopw [13] (fun i A => ∃ j : Nat, j ≤ r.len ∧ i = .int .i64 (j : Int) ∧ A.heap[nz]? = some (.stringIter rt (glyL gx go j).length) ∧ Below nz W7 A) (fun i _ => r.len - (intOf i).toNat)
        case atStart => exact ⟨0, Nat.zero_le _, rfl, HIT.out, HBI.out⟩
        case round =>
          obtain ⟨j, hj, rfl, hit, hb⟩ := hrel
          have HIT2 := Lib.hid hit
          have HBJ := Lib.hid hb
          by_cases hlj : j < r.len
          · have hjz : IntKind.i64.wrap ((j : Int) + 1) = ((j + 1 : Nat) : Int) := by rw [wrap_in (by omega) (by omega)]; rfl
            have hp : (glyL gx go j).length < rt.size := by
              rw [HGT.out.1]
              show _ < (glyL gx go r.len).toArray.size
              rw [List.size_toArray]
              exact glyL_lt gx go j r.len hlj
            have HNP : Hid ((glyL gx go j).length + (Utf8.decode rt (glyL gx go j).length).2 = (glyL gx go (j + 1)).length) := by
              show _ = _
              rw [glyL_step, HGT.out.1, glyL_dec gx go r.len j HGT.out.2 hlj]
            have hnx : ∀ ty, (Instr.next (.pointer (some ⟨nz, 0, none⟩)) true ty).run Tryz.prog wr = _ := fun ty => Lib.run_next_any_at wr nz rt _ ty hit hp
            clear hit hb hp
            gi_wp2
            refine ⟨⟨j + 1, by omega, rfl, ?_, Lib.below_iterAt HBJ.out (Nat.le_refl _) _ _⟩, by simp [intOf]; omega⟩
            rw [← HNP.out]
            exact Lib.iterAt_heap _ _ _ _ _ HIT2.out
          · obtain rfl : j = r.len := by omega
            have hp : ¬ (glyL gx go r.len).length < rt.size := by
              rw [HGT.out.1]
              show ¬ _ < (glyL gx go r.len).toArray.size
              rw [List.size_toArray]
              omega
            have hnx : ∀ ty, (Instr.next (.pointer (some ⟨nz, 0, none⟩)) true ty).run Tryz.prog wr = _ := fun ty => Lib.run_next_end_at wr nz rt _ ty hit hp
            have hbl : Below W7.heap.size W7 wr := by rw [HSZ.out]; exact hb
            have q2 : wr.cell? ⟨b, 2, none⟩ = some (.int .i64 (r.len : Int)) := cell_row ((hbl.block _ (block_lt HBK7.out)).trans HBK7.out) 2
            have HBL := Lib.hid hbl
            clear hit hb hp hbl
            gi_wp2
            refine ⟨by simp only [World.size_alloc]; exact keeps_below HK7.out HBL.out, trivial, ?_⟩
            show JoinI w14 (shV ⟨p, S⟩ OB g cap (.slice sa (stopsI S.D.C S.T).length sc)) ⟨(joinN JnN.nil (pre ++ [r])).text.toArray⟩ (joinN JnN.nil (pre ++ [r])).row wr
            rw [HSTN.out]
            have := HJ7.out.below HBL.out
            rw [← HRW.out, HTA.out] at this
            exact this
  case done =>
    rintro D ys W hD rfl hi hd
    replace hi : JoinI w14 (shV ⟨p, S⟩ OB g cap (.slice sa (stopsI S.D.C S.T).length sc)) ⟨(joinN JnN.nil (allN S.D (lookS p S.D))).text.toArray⟩ (joinN JnN.nil (allN S.D (lookS p S.D))).row W := hi
    have hts := HPL.out _ (List.prefix_refl _)
    have hall := HALL.out
    obtain ⟨tb, htb⟩ : ∃ tb : ByteArray, tb = ⟨(joinN JnN.nil (allN S.D (lookS p S.D))).text.toArray⟩ := ⟨_, rfl⟩
    obtain ⟨rb, hrb⟩ : ∃ rb : ByteArray, rb = ⟨(rowsB S.D S.D.R).toArray⟩ := ⟨_, rfl⟩
    rw [← hrb] at HTX
    rw [← htb] at hi
    have htr : tb ++ ⟨#[10]⟩ = rb := by
      rw [htb, hrb, ← hall]
      exact bytes_cat _ [10]
    have htz : tb.size ≤ 2000 := by
      rw [htb]
      show (joinN JnN.nil (allN S.D (lookS p S.D))).text.toArray.size ≤ 2000
      rw [List.size_toArray]
      exact hts
    have hg1 : ¬ 9223372036854775807 < tb.size + 1 := by omega
    have HI := Lib.hid hi
    have HDD := Lib.hid hd
    have HF15 := Lib.hid (HF4.out.below hi.bel)
    have hDw : w.heap.size < D := by
      have h2 := HF4.out.size
      have h3 := HZ.out
      simp only [World.size_alloc] at hD
      omega
    have HSTD : Hid (Below W.heap.size W W.drew) := (Below.refl _ _).drew
    clear hi hd hD hts hall htb hrb htz
    gi_upto_region 22 with fail
    refine wpIn_region_i (S := fun A : World => Below W.heap.size W A) 8 (by kernel_rfl) (HSTD.out) (fun hHeld => ?_)
    refine kTI (v := ?_) 0 [] hHeld ?y1 ?_
    case y1 => (intro W hSw; obtain ⟨k0, f0⟩ := box_one (HI.out.below hSw).text; obtain ⟨x0, x1, x2, x3, x4, x5, x6, x7, x8⟩ := HCX.out _ (HF15.out.below hSw); go_simp; try with_reducible rfl)
    refine kSI 1 hHeld ?_
    refine kTI (v := ?_) 2 [] hHeld ?y3 ?_
    case y3 => (intro W hSw; obtain ⟨k0, f0⟩ := box_one (HI.out.below hSw).text; obtain ⟨x0, x1, x2, x3, x4, x5, x6, x7, x8⟩ := HCX.out _ (HF15.out.below hSw); go_simp; try with_reducible rfl)
    try refine kNI ?_
    refine kOI 3 fun KQ hKQ => ?_
    go_simp
    first | refine ⟨trivial, ?_⟩ | refine ⟨fun _ => hn1, ?_⟩ | skip
    gi_at_call 9
    refine (callsIn_wide.2 (HTX.out _ (HF15.out.below hHeld))).mono ?_
    rintro e w20 ⟨rfl, hb⟩
    have hs3 := Below.later hHeld hb hHeld.size
    clear hb
    gi_wp2_with fail
    refine hKQ.out _ _ (hs3) ?_
    clear hHeld hKQ KQ
    intro hHeld
    try refine kNI ?_
    clear hs3
    refine kSI 4 hHeld ?_
    refine kSI 5 hHeld ?_
    try refine kNI ?_
    refine kOI 6 fun KQ hKQ => ?_
    go_simp
    first | refine ⟨trivial, ?_⟩ | refine ⟨fun _ => hn1, ?_⟩ | skip
    gi_at_call 11
    refine (callsIn_wide.2 (HAW.out _ (HF15.out.below hHeld).bel)).mono ?_
    rintro e w21 ⟨rfl, hb⟩
    have hs6 := Below.later hHeld hb hHeld.size
    clear hb
    gi_wp2_with fail
    refine hKQ.out _ _ (hs6) ?_
    clear hHeld hKQ KQ
    intro hHeld
    try refine kNI ?_
    clear hs6
    refine kSI 7 hHeld ?_
    try refine kNI ?_
    refine kPI 8 fun KQ hKQ => ?_
    have HH8 := Lib.hid hHeld
    obtain ⟨b0, bf⟩ := box_one (HF15.out.below hHeld).box
    clear hHeld
    go_simp
    refine hKQ.out _ _ ?_
    clear hKQ KQ
    try refine kNI ?_
    refine wpAnyI_done (by kernel_rfl) ?_ _
    refine NoPanic.normal ?_
    gi_wp2
    have HF21 := HF15.out.below HH8.out
    have HD21 := (HH8.out.block _ (block_lt HDD.out)).trans HDD.out
    have hdx : (w21.setCell ⟨w.heap.size, 0, none⟩ (.bool true)).heap[D]? = some (.deferred (some [])) := (heap_setCell_other _ _ _ _ (by show D ≠ w.heap.size; omega)).trans HD21
    have hh := grownBy_putObj' (w21.setCell ⟨w.heap.size, 0, none⟩ (.bool true)) D (.deferred none)
    have hbl : Below w.heap.size w (w21.setCell ⟨w.heap.size, 0, none⟩ (.bool true)) := HF21.bel.setCell (p := ⟨w.heap.size, 0, none⟩) (Nat.le_refl _) _
    have hc6 : ((w21.setCell ⟨w.heap.size, 0, none⟩ (.bool true)).putObj D (.deferred none)).cell? ⟨w.heap.size, 0, none⟩ = some (.bool true) := by
      refine (cell_same (World.putObj_heap_other (by omega))).trans ?_
      exact cell_row (heap_set_same HF21.box 0 (.bool true)) 0
    refine ⟨by simp, .inl ⟨_, _, rfl, run_takeDeferred hdx, ?_⟩⟩
    exact ⟨_, by simp [results, Tryz.results5, go_sem, hc6], rfl, hbl.grown hh hbl.size (fun k e => by cases e; omega)⟩
theorem law_njoi (p : Int) (A1 : Option Addr) (m1 cap1 : Nat) (L1 : List Vz.Op) (hpr : PrintOk) (w : World) (hbl : Blanked w) (h1 : Opers w.heap.size w A1 m1 L1) (hm1 : m1 ≤ maxLen) (t : TypeId) (fr : Nat × Nat) (hg : w.heap[1]? = some (.cells names12a t fr)) :
    Calls Tryz.prog 5 #[.int .i64 p, .slice A1 m1 cap1] w fun e w' => e = .returned (.bool true) ∧ Below w.heap.size w w' :=
  callsIn_wide.1 (law_njoi_in 5 (Nat.le_refl _) p A1 m1 cap1 L1 hpr w hbl h1 hm1 t fr hg)
end Go.Proofs.YtliacdaddncmaaaGreatDoor
