import Derived.Test.YtliacdaddncmaaaGreatDoorSnOwnP

/- The law SnapOwn, whole. -/
namespace Go.Proofs.YtliacdaddncmaaaGreatDoor
open Go.RowKit
set_option linter.unusedSimpArgs false
set_option linter.unusedVariables false
attribute [local go_sem] alloc_drewN setCell_drewN World.cell?_alloc_some frozen_alloc_some size_f0 size_f1 Oper.semAt_some run_store_func

theorem p_cases (p : Int) (m : Nat) : ((decide ((60 : Int) < (m : Int)) = true) ∨ (decide ((60 : Int) < (m : Int)) = false ∧ decide (p < 1) = true) ∨ (decide ((60 : Int) < (m : Int)) = false ∧ decide (p < 1) = false ∧ decide (4 < p) = true)) ∨ (decide ((60 : Int) < (m : Int)) = false ∧ decide (p < 1) = false ∧ decide (4 < p) = false ∧ m ≤ 60 ∧ ¬ p < 1 ∧ ¬ 4 < p) := by
  simp only [decide_eq_true_eq, decide_eq_false_iff_not]
  omega
set_option maxRecDepth 100000 in
set_option maxHeartbeats 16000000 in
theorem law_nown_in (n : Nat) (hn : 5 ≤ n) (p : Int) (A1 : Option Addr) (m1 cap1 : Nat) (L1 : List Vz.Op) (A2 : Option Addr) (m2 cap2 : Nat) (L2 : List Vz.Op) (hpr : PrintOk) (w : World) (hbl : Blanked w) (h1 : Opers w.heap.size w A1 m1 L1) (hm1 : m1 ≤ maxLen) (h2 : Opers w.heap.size w A2 m2 L2) (hm2 : m2 ≤ maxLen) (t : TypeId) (fr : Nat × Nat) (hg : w.heap[1]? = some (.cells names12a t fr)) :
    CallsIn Fence.wide n Tryz.prog 4 #[.int .i64 p, .slice A1 m1 cap1, .slice A2 m2 cap2] w fun e w' => e = .returned (.bool true) ∧ Below w.heap.size w w' := by
  have hn1 : 1 ≤ n := by omega
  have hmx : m2 ≤ 9223372036854775807 := Nat.le_trans hm2 (by unfold maxLen; decide)
  have HW0 : Hid (Below w.heap.size w (w.alloc (.cells #[.bool false] 4))) := below1 _ _
  have HX0 := Lib.hid (heap_alloc_new w (.cells #[.bool false] 4))
  have HMD := Lib.hid (made_ok A1 m1 cap1 L1 _ (hbl.below HW0.out) ((h1.below HW0.out (Nat.le_refl _)).more HW0.out.size) hm1)
  have HAW := Lib.hid (fun W (hb : Below w.heap.size w W) => awake_of hpr W (hbl.below hb) t fr ((hb.block _ (block_lt hg)).trans hg))
  have HBG := Lib.hid (fun W (hb : Below w.heap.size w W) => begun_yes W (hbl.below hb))
  have HPR := Lib.hid hpr
  have HG := Lib.hid (fun W (hb : Below w.heap.size w W) => (hb.block _ (block_lt hg)).trans hg)
  have HOP := Lib.hid h2
  clear hpr hbl hg h1 h2 hm1 hm2
  refine callsIn_of_wp_marks Tryz.func4 rfl trivial ?_ rfl
  simp only [Tryz.ntmps4, List.size_toArray, List.length_cons, List.length_nil, Nat.reduceAdd, Nat.reduceSub, Array.replicate_succ, Array.replicate_zero, List.push_toArray, List.append_toArray, List.nil_append, List.cons_append]
  gi_upto_region 2 with ((try refine ⟨trivial, ?_⟩); gi_at_call 12; refine (callsIn_wide.2 HMD.out).mono ?_; rintro e w1 ⟨hr, hb1⟩; have HB1 := Lib.hid (Below.later HW0.out hb1 HW0.out.size); have HX1 := Lib.hid ((hb1.block _ (block_lt HX0.out)).trans HX0.out); clear hb1; rcases hr with ⟨rfl, -⟩ | ⟨sp, rfl, hp1⟩)
  · gi_wp2_with (first
      | ((try refine ⟨trivial, ?_⟩); gi_at_call 11; refine (callsIn_wide.2 (HAW.out _ HB2.out)).mono ?_; rintro e w3 ⟨rfl, hb3⟩; have HB3 := Lib.hid (Below.later HB2.out hb3 HB2.out.size); obtain ⟨b0, bf⟩ := box_one ((hb3.block _ (block_lt HX2.out)).trans HX2.out); clear hb3)
      | ((try refine ⟨trivial, ?_⟩); gi_at_call 13; refine (callsIn_wide.2 (HBG.out _ HB1.out)).mono ?_; rintro e w2 ⟨rfl, hb2⟩; have HB2 := Lib.hid (Below.later HB1.out hb2 HB1.out.size); have HX2 := Lib.hid ((hb2.block _ (block_lt HX1.out)).trans HX1.out); clear hb2))
    exact ⟨_, by simp [results, Tryz.results4, go_sem, b0, bf], rfl, HB3.out.setCell (p := ⟨w.heap.size, 0, none⟩) (Nat.le_refl _) _⟩
  have HP1 := Lib.hid hp1
  clear hp1
  rcases p_cases p m2 with hbad | ⟨d0, d1, d2, hm60, hpa, hpb⟩
  · rcases hbad with d0 | ⟨d0, d1⟩ | ⟨d0, d1, d2⟩
    all_goals (
      gi_wp2_with (first
        | ((try refine ⟨trivial, ?_⟩); gi_at_call 11; refine (callsIn_wide.2 (HAW.out _ HB2.out)).mono ?_; rintro e w3 ⟨rfl, hb3⟩; have HB3 := Lib.hid (Below.later HB2.out hb3 HB2.out.size); obtain ⟨b0, bf⟩ := box_one ((hb3.block _ (block_lt HX2.out)).trans HX2.out); clear hb3)
        | ((try refine ⟨trivial, ?_⟩); gi_at_call 13; refine (callsIn_wide.2 (HBG.out _ HB1.out)).mono ?_; rintro e w2 ⟨rfl, hb2⟩; have HB2 := Lib.hid (Below.later HB1.out hb2 HB1.out.size); have HX2 := Lib.hid ((hb2.block _ (block_lt HX1.out)).trans HX1.out); clear hb2))
      exact ⟨_, by simp [results, Tryz.results4, go_sem, b0, bf], rfl, HB3.out.setCell (p := ⟨w.heap.size, 0, none⟩) (Nat.le_refl _) _⟩)
  obtain ⟨S, ⟨⟨F, hs1, hF⟩, -⟩, hmS⟩ := HP1.out
  have HSC := Lib.hid hs1
  have HFT : Hid (∀ k, F k → w.heap.size < k ∧ k < w1.heap.size) := fun k hk => ⟨by have := hF k hk; rw [World.size_alloc] at this; omega, hs1.lt k hk⟩
  have hK : ShK ⟨p, S⟩ := ⟨hs1.here.2, Nat.le_trans hmS.r (by decide), hmS.c, hs1.here.1, hmS.ok⟩
  have HK := Lib.hid hK
  have HTK := Lib.hid (fun W (hb : Below w1.heap.size w1 W) => take_ok p (p_name hpa hpb) sp F S hmS.ok W (hs1.below hb))
  have hz1 : w.heap.size < w1.heap.size := block_lt HX1.out
  clear hs1 hF hmS hK HP1
  gi_upto_region 6 with (first
    | ((try refine ⟨trivial, ?_⟩); gi_at_call 6; have hbq := HB2x.out; clear hbq; refine (callsIn_wide.2 (HTK.out _ HB2x.out)).mono ?_; rintro e w3 ⟨OB2, g2, cap2', sv2, G2, K2, H2, rfl, hsh, hb⟩; obtain ⟨sa2, sc2, hsv2, -⟩ := stops_cell hsh.stops; subst hsv2; have HS2 := Lib.hid hsh; have HB3 := Lib.hid hb; clear hsh hb; (try unfold shV))
    | ((try refine ⟨trivial, ?_⟩); gi_at_call 6; refine (callsIn_wide.2 (HTK.out _ (Below.refl _ _))).mono ?_; rintro e w2 ⟨OB, g, cap, sv, G, K, H, rfl, hsh, hb⟩; obtain ⟨sa, sc, hsv, -⟩ := stops_cell hsh.stops; subst hsv; have HS1 := Lib.hid hsh; have HB2 := Lib.hid hb; have HB2x := Lib.hid (hb.alloc hb.size (.cells (shV ⟨p, S⟩ OB g cap (.slice sa (stopsI (⟨p, S⟩ : Sh).S.D.C (⟨p, S⟩ : Sh).S.T).length sc)) 30)); clear hsh hb; unfold shV at *))
  obtain ⟨W5, hW5⟩ : ∃ W, W = w3.alloc (.cells #[.int .i64 p, .int .i64 (S.D.R : Int), .int .i64 (S.D.C : Int), .int .i64 S.pl.at_.row, .int .i64 S.pl.at_.col, .bool S.pl.pend, .slice (some ⟨OB2, 0, none⟩) S.D.R S.D.R, .slice (some ⟨g2, 0, none⟩) S.D.R cap2', .slice sa2 (stopsI S.D.C S.T).length sc2] 30) := ⟨_, rfl⟩
  rw [← hW5]
  have hz2 : w1.heap.size ≤ w2.heap.size := HB2.out.size
  have hz3 : w2.heap.size + 1 ≤ w3.heap.size := by have := HB3.out.size; rw [World.size_alloc] at this; exact this
  have hz5 : w3.heap.size + 1 = W5.heap.size := by rw [hW5, World.size_alloc]
  have hb35 : Below w3.heap.size w3 W5 := by rw [hW5]; exact below1 _ _
  have hb25 : Below (w2.heap.size + 1) (w2.alloc (.cells #[.int .i64 p, .int .i64 (S.D.R : Int), .int .i64 (S.D.C : Int), .int .i64 S.pl.at_.row, .int .i64 S.pl.at_.col, .bool S.pl.pend, .slice (some ⟨OB, 0, none⟩) S.D.R S.D.R, .slice (some ⟨g, 0, none⟩) S.D.R cap, .slice sa (stopsI S.D.C S.T).length sc] 30)) W5 := by
    have h := Below.later HB3.out hb35 HB3.out.size
    rw [World.size_alloc] at h
    exact h
  have hb15 : Below w1.heap.size w1 W5 := Below.later HB2.out (Below.later (below1 w2 _) (by rw [World.size_alloc]; exact hb25) (by simp)) hz2
  have hbx : W5.heap[w2.heap.size]? = some (.cells #[.int .i64 p, .int .i64 (S.D.R : Int), .int .i64 (S.D.C : Int), .int .i64 S.pl.at_.row, .int .i64 S.pl.at_.col, .bool S.pl.pend, .slice (some ⟨OB, 0, none⟩) S.D.R S.D.R, .slice (some ⟨g, 0, none⟩) S.D.R cap, .slice sa (stopsI S.D.C S.T).length sc] 30 (0, 0)) := (hb25.block _ (Nat.lt_succ_self _)).trans (heap_alloc_new w2 _)
  have hby : W5.heap[w3.heap.size]? = some (.cells #[.int .i64 p, .int .i64 (S.D.R : Int), .int .i64 (S.D.C : Int), .int .i64 S.pl.at_.row, .int .i64 S.pl.at_.col, .bool S.pl.pend, .slice (some ⟨OB2, 0, none⟩) S.D.R S.D.R, .slice (some ⟨g2, 0, none⟩) S.D.R cap2', .slice sa2 (stopsI S.D.C S.T).length sc2] 30 (0, 0)) := by rw [hW5]; exact heap_alloc_new w3 _
  have HXS : Hid (ShP w1.heap.size W5 ⟨p, S⟩ OB g cap (.slice sa (stopsI S.D.C S.T).length sc) G K H) := HS1.out.below (Below.later (below1 w2 _) (by rw [World.size_alloc]; exact hb25) (by simp))
  have HYS : Hid (ShP (w2.heap.size + 1) W5 ⟨p, S⟩ OB2 g2 cap2' (.slice sa2 (stopsI S.D.C S.T).length sc2) G2 K2 H2) := by
    have h := HS2.out.below hb35
    rw [World.size_alloc] at h
    exact h
  have HOW5 : Hid (OwnW w W5 w1.heap.size sp W5) := ⟨⟨fun _ _ _ => rfl, Nat.le_refl _, Below.later HB1.out hb15 (by omega), (hb15.block _ (block_lt HX1.out)).trans HX1.out⟩, F, S, HSC.out.below hb15, fun k hk => .inl (HFT.out k hk)⟩
  have HZ : Hid (w.heap.size < W5.heap.size) := by show _ < _; omega
  have HPX : Hid (∀ W, FixP w W5 w1.heap.size W → Calls Tryz.prog 14 #[.agg #[.int .i64 p, .int .i64 (S.D.R : Int), .int .i64 (S.D.C : Int), .int .i64 S.pl.at_.row, .int .i64 S.pl.at_.col, .bool S.pl.pend, .slice (some ⟨OB, 0, none⟩) S.D.R S.D.R, .slice (some ⟨g, 0, none⟩) S.D.R cap, .slice sa (stopsI S.D.C S.T).length sc]] W fun e w' => e = .returned (.string ⟨(printL ⟨p, S⟩).toArray⟩) ∧ Below W.heap.size W w') := fun W hf => HPR.out ⟨p, S⟩ OB g cap _ G K H _ W (hf.shp (Nat.le_refl _) HXS.out) HK.out.may HK.out.r HK.out.c HK.out.in_ HK.out.ok t fr (HG.out W hf.bel)
  have HPY : Hid (∀ W, FixP w W5 w1.heap.size W → Calls Tryz.prog 14 #[.agg #[.int .i64 p, .int .i64 (S.D.R : Int), .int .i64 (S.D.C : Int), .int .i64 S.pl.at_.row, .int .i64 S.pl.at_.col, .bool S.pl.pend, .slice (some ⟨OB2, 0, none⟩) S.D.R S.D.R, .slice (some ⟨g2, 0, none⟩) S.D.R cap2', .slice sa2 (stopsI S.D.C S.T).length sc2]] W fun e w' => e = .returned (.string ⟨(printL ⟨p, S⟩).toArray⟩) ∧ Below W.heap.size W w') := fun W hf => HPR.out ⟨p, S⟩ OB2 g2 cap2' _ G2 K2 H2 _ W (hf.shp (by omega) HYS.out) HK.out.may HK.out.r HK.out.c HK.out.in_ HK.out.ok t fr (HG.out W hf.bel)
  have HS12 : Hid (∀ W, FixP w W5 w1.heap.size W → Calls Tryz.prog 10 #[.agg #[.int .i64 p, .int .i64 (S.D.R : Int), .int .i64 (S.D.C : Int), .int .i64 S.pl.at_.row, .int .i64 S.pl.at_.col, .bool S.pl.pend, .slice (some ⟨OB, 0, none⟩) S.D.R S.D.R, .slice (some ⟨g, 0, none⟩) S.D.R cap, .slice sa (stopsI S.D.C S.T).length sc], .agg #[.int .i64 p, .int .i64 (S.D.R : Int), .int .i64 (S.D.C : Int), .int .i64 S.pl.at_.row, .int .i64 S.pl.at_.col, .bool S.pl.pend, .slice (some ⟨OB2, 0, none⟩) S.D.R S.D.R, .slice (some ⟨g2, 0, none⟩) S.D.R cap2', .slice sa2 (stopsI S.D.C S.T).length sc2]] W fun e w' => e = .returned (.bool true) ∧ Below W.heap.size W w') := fun W hf => same_yes ⟨p, S⟩ HK.out.may _ OB g cap _ G K H _ OB2 g2 cap2' _ G2 K2 H2 W (hf.shp (Nat.le_refl _) HXS.out) (hf.shp (by omega) HYS.out)
  have HS21 : Hid (∀ W, FixP w W5 w1.heap.size W → Calls Tryz.prog 10 #[.agg #[.int .i64 p, .int .i64 (S.D.R : Int), .int .i64 (S.D.C : Int), .int .i64 S.pl.at_.row, .int .i64 S.pl.at_.col, .bool S.pl.pend, .slice (some ⟨OB2, 0, none⟩) S.D.R S.D.R, .slice (some ⟨g2, 0, none⟩) S.D.R cap2', .slice sa2 (stopsI S.D.C S.T).length sc2], .agg #[.int .i64 p, .int .i64 (S.D.R : Int), .int .i64 (S.D.C : Int), .int .i64 S.pl.at_.row, .int .i64 S.pl.at_.col, .bool S.pl.pend, .slice (some ⟨OB, 0, none⟩) S.D.R S.D.R, .slice (some ⟨g, 0, none⟩) S.D.R cap, .slice sa (stopsI S.D.C S.T).length sc]] W fun e w' => e = .returned (.bool true) ∧ Below W.heap.size W w') := fun W hf => same_yes ⟨p, S⟩ HK.out.may _ OB2 g2 cap2' _ G2 K2 H2 _ OB g cap _ G K H W (hf.shp (by omega) HYS.out) (hf.shp (Nat.le_refl _) HXS.out)
  have HDF : Hid (∀ W, FixP w W5 w1.heap.size W → Calls Tryz.prog 18 #[.agg #[.int .i64 p, .int .i64 (S.D.R : Int), .int .i64 (S.D.C : Int), .int .i64 S.pl.at_.row, .int .i64 S.pl.at_.col, .bool S.pl.pend, .slice (some ⟨OB, 0, none⟩) S.D.R S.D.R, .slice (some ⟨g, 0, none⟩) S.D.R cap, .slice sa (stopsI S.D.C S.T).length sc], .agg #[.int .i64 p, .int .i64 (S.D.R : Int), .int .i64 (S.D.C : Int), .int .i64 S.pl.at_.row, .int .i64 S.pl.at_.col, .bool S.pl.pend, .slice (some ⟨OB2, 0, none⟩) S.D.R S.D.R, .slice (some ⟨g2, 0, none⟩) S.D.R cap2', .slice sa2 (stopsI S.D.C S.T).length sc2]] W fun e w' => e = .returned (.tuple #[.slice none 0 0, .int .i64 0]) ∧ Below W.heap.size W w') := fun W hf => differ_none ⟨p, S⟩ HK.out.may _ OB g cap _ G K H _ OB2 g2 cap2' _ G2 K2 H2 W (hf.shp (Nat.le_refl _) HXS.out) (hf.shp (by omega) HYS.out)
  have HCX := Lib.hid (fun W (hf : FixP w W5 w1.heap.size W) => (row9 (hf.at_ hz2 hbx)).1)
  have HCY := Lib.hid (fun W (hf : FixP w W5 w1.heap.size W) => (row9 (hf.at_ (by omega) hby)).1)
  have HGO : Hid (∀ A, FixP w W5 w1.heap.size A → ShP w1.heap.size A ⟨p, S⟩ OB g cap (.slice sa (stopsI S.D.C S.T).length sc) G K H) := fun A hf => hf.shp (Nat.le_refl _) HXS.out
  have hSH : shV ⟨p, S⟩ OB g cap (.slice sa (stopsI S.D.C S.T).length sc) = #[.int .i64 p, .int .i64 (S.D.R : Int), .int .i64 (S.D.C : Int), .int .i64 S.pl.at_.row, .int .i64 S.pl.at_.col, .bool S.pl.pend, .slice (some ⟨OB, 0, none⟩) S.D.R S.D.R, .slice (some ⟨g, 0, none⟩) S.D.R cap, .slice sa (stopsI S.D.C S.T).length sc] := rfl
  have HSH := Lib.hid hSH
  have hm := HK.out.may
  have HALL : Hid (okN S.D.C StN.nil (allN S.D (lookS p S.D)) ∧ (stN StN.nil (allN S.D (lookS p S.D))).row + 1 = S.D.R ∧ (stN StN.nil (allN S.D (lookS p S.D))).col = S.D.C) := allN_ok S.D (lookS p S.D) (Nat.lt_of_lt_of_le Nat.zero_lt_one hm.2.2.1) (Nat.lt_of_lt_of_le Nat.zero_lt_one hm.1)
  have HSML : Hid (∀ r ∈ allN S.D (lookS p S.D), r.small) := (allN_small ⟨p, S⟩ HK.out.r HK.out.c).1
  have hRz : 1 ≤ S.D.R ∧ S.D.R ≤ 255 := ⟨hm.1, hm.2.1⟩
  obtain ⟨hR1, hR2⟩ := hRz
  have HMX := Lib.hid (And.intro hm HK.out.ok)
  obtain ⟨⟨x0, x1, x2, x3, x4, x5, x6, x7, x8⟩, _⟩ := row9 hbx
  clear hW5 hz3 hz5 hb35 hb25 hb15 hbx hby hz1 hSH hm hpa hpb d0 d1 d2 HS1 HS2 HTK HX1 HB2x
  generalize printL ⟨p, S⟩ = PT at *
  gi_wp2_with ((try refine ⟨trivial, ?_⟩); gi_at_call 14; refine (callsIn_wide.2 (HPX.out _ HOW5.out.1)).mono ?_; rintro e w6 ⟨rfl, hb6⟩; have HOW6 := Lib.hid (HOW5.out.below hb6); clear hb6)
  clear x0 x1 x2 x3 x4 x5 x6 x7 x8
  gi_loopw [13] (fun i wr => ∃ k : Nat, k ≤ m2 ∧ i = .int .i64 (k : Int) ∧ OwnW w W5 w1.heap.size sp wr) (fun i _ => m2 - (intOf i).toNat)
  case atStart => exact ⟨0, Nat.zero_le _, rfl, HOW6.out⟩
  case round =>
    obtain ⟨k, hk, rfl, how⟩ := hrel
    have HOW := Lib.hid how
    clear how
    by_cases hlt : k < m2
    · obtain ⟨b, o, rfl, hbl, hop, -⟩ := HOP.out.at_ hlt
      have HOA := Lib.hid (fun W (hb : Below w.heap.size w W) => hop.below hb hbl)
      clear hop hbl
      generalize L2[k]?.getD Vz.Op.nil = x at *
      have hkz : (k : Int) < (m2 : Int) := by omega
      have hwk : IntKind.i64.wrap ((k : Int) + 1) = ((k + 1 : Nat) : Int) := by rw [wrap_in (by omega) (by omega)]; rfl
      obtain ⟨ask, ⟨a0, a1⟩, ⟨b0, b1⟩, nn, ⟨cg, ca, cd, cm⟩, wp, gd⟩ := x
      have HST : Hid (Below wr.heap.size wr wr.drew) := (Below.refl _ _).drew
      gi_upto_region 10 with fail
      refine wpIn_region_i (S := fun W : World => Below wr.heap.size wr W) 11 (by kernel_rfl) (HST.out) (fun hHeld => ?_)
      refine kSI 0 hHeld ?_
      refine kSI 1 hHeld ?_
      refine kSI 2 hHeld ?_
      refine kSI 3 hHeld ?_
      refine kSI 4 hHeld ?_
      try refine kNI ?_
      refine kTI (v := ?_) 5 [] hHeld ?y6 ?_
      case y6 => (intro W hSw; obtain ⟨c0, c1, c2, c3, c4, c5, c6, c7, c8, c9, c10, c11⟩ := HOA.out _ (Below.later HOW.out.1.bel hSw HOW.out.1.bel.size); simp only at c0 c1 c2 c3 c4 c5 c6 c7 c8 c9 c10 c11; go_simp; try with_reducible rfl)
      refine kSI 6 hHeld ?_
      refine kSI 7 hHeld ?_
      refine kSI 8 hHeld ?_
      refine kSI 9 hHeld ?_
      try refine kNI ?_
      refine kTI (v := ?_) 10 [] hHeld ?y11 ?_
      case y11 => (intro W hSw; obtain ⟨c0, c1, c2, c3, c4, c5, c6, c7, c8, c9, c10, c11⟩ := HOA.out _ (Below.later HOW.out.1.bel hSw HOW.out.1.bel.size); simp only at c0 c1 c2 c3 c4 c5 c6 c7 c8 c9 c10 c11; go_simp; try with_reducible rfl)
      try refine kNI ?_
      refine kPI 11 fun KQ hKQ => ?_
      go_simp
      first | refine ⟨trivial, ?_⟩ | refine ⟨fun _ => hn1, ?_⟩ | skip
      gi_at_call 15
      refine (callsIn_wide.2 (own_set (HOW.out.below hHeld) HZ.out _ _ _ _ _ _)).mono ?_
      rintro e w7 ⟨⟨r, rfl⟩, ho7⟩
      have HO7 := Lib.hid ho7
      clear ho7
      gi_wp2_with fail
      refine hKQ.out _ _ ?_
      clear hKQ KQ
      try refine kNI ?_
      refine wpAnyI_done (by kernel_rfl) ?_ _
      refine NoPanic.normal ?_
      obtain ⟨c0, c1, c2, c3, c4, c5, c6, c7, c8, c9, c10, c11⟩ := HOA.out _ HO7.out.1.bel
      simp only at c0 c1 c2 c3 c4 c5 c6 c7 c8 c9 c10 c11
      gi_wp2_with (first
        | ((try refine ⟨trivial, ?_⟩); gi_at_call 17; refine (callsIn_wide.2 (own_stop HO8.out HZ.out _ _)).mono ?_; rintro e w9 ⟨rfl, ho9⟩; have HO9 := Lib.hid ho9; clear ho9)
        | ((try refine ⟨trivial, ?_⟩); gi_at_call 16; refine (callsIn_wide.2 (own_move HO7.out HZ.out _ _)).mono ?_; rintro e w8 ⟨rfl, ho8⟩; have HO8 := Lib.hid ho8; clear ho8 c0 c1 c2 c3 c4 c5 c6 c7 c8 c9 c10 c11; obtain ⟨c0, c1, c2, c3, c4, c5, c6, c7, c8, c9, c10, c11⟩ := HOA.out _ HO8.out.1.bel; simp only at c0 c1 c2 c3 c4 c5 c6 c7 c8 c9 c10 c11))
      exact ⟨⟨k + 1, by omega, rfl, HO9.out⟩, by simp [intOf]; omega⟩
    · obtain rfl : k = m2 := by omega
      have HF0 := Lib.hid HOW.out.1
      obtain ⟨x0, x1, x2, x3, x4, x5, x6, x7, x8⟩ := HCX.out _ HF0.out
      obtain ⟨y0, y1, y2, y3, y4, y5, y6, y7, y8⟩ := HCY.out _ HF0.out
      gi_wp2_with (first
        | ((try refine ⟨trivial, ?_⟩); gi_at_call 8; refine (callsIn_wide.2 (runs_call _ _)).mono ?_; rintro e wz ⟨rfl, rfl⟩)
        | ((try refine ⟨trivial, ?_⟩); gi_at_call 14; have hbq := HF3.out; clear hbq; refine (callsIn_wide.2 (HPY.out _ HF3.out)).mono ?_; rintro e w14 ⟨rfl, hb⟩; have HF4 := Lib.hid (HF3.out.below hb); clear hb x0 x1 x2 x3 x4 x5 x6 x7 x8 y0 y1 y2 y3 y4 y5 y6 y7 y8; obtain ⟨x0, x1, x2, x3, x4, x5, x6, x7, x8⟩ := HCX.out _ (HF4.out.below (Grows.below (((((Grows.refl w14).alloc (.cells #[.int .i64 0] 3)).alloc (.cells #[.int .i64 0] 3)).alloc (.cells #[.int .i64 0] 3)).alloc (.cells #[.bool false] 4)))))
        | ((try refine ⟨trivial, ?_⟩); gi_at_call 14; have hbq := HF2.out; clear hbq; refine (callsIn_wide.2 (HPX.out _ HF2.out)).mono ?_; rintro e w13 ⟨rfl, hb⟩; have HF3 := Lib.hid (HF2.out.below hb); clear hb x0 x1 x2 x3 x4 x5 x6 x7 x8 y0 y1 y2 y3 y4 y5 y6 y7 y8; obtain ⟨x0, x1, x2, x3, x4, x5, x6, x7, x8⟩ := HCX.out _ HF3.out; obtain ⟨y0, y1, y2, y3, y4, y5, y6, y7, y8⟩ := HCY.out _ HF3.out)
        | ((try refine ⟨trivial, ?_⟩); gi_at_call 10; have hbq := HF1.out; clear hbq; refine (callsIn_wide.2 (HS21.out _ HF1.out)).mono ?_; rintro e w12 ⟨rfl, hb⟩; have HF2 := Lib.hid (HF1.out.below hb); clear hb x0 x1 x2 x3 x4 x5 x6 x7 x8 y0 y1 y2 y3 y4 y5 y6 y7 y8; obtain ⟨x0, x1, x2, x3, x4, x5, x6, x7, x8⟩ := HCX.out _ HF2.out; obtain ⟨y0, y1, y2, y3, y4, y5, y6, y7, y8⟩ := HCY.out _ HF2.out)
        | ((try refine ⟨trivial, ?_⟩); gi_at_call 10; refine (callsIn_wide.2 (HS12.out _ HF0.out)).mono ?_; rintro e w11 ⟨rfl, hb⟩; have HF1 := Lib.hid (HF0.out.below hb); clear hb x0 x1 x2 x3 x4 x5 x6 x7 x8 y0 y1 y2 y3 y4 y5 y6 y7 y8; obtain ⟨x0, x1, x2, x3, x4, x5, x6, x7, x8⟩ := HCX.out _ HF1.out; obtain ⟨y0, y1, y2, y3, y4, y5, y6, y7, y8⟩ := HCY.out _ HF1.out))
      clear x0 x1 x2 x3 x4 x5 x6 x7 x8
      refine wpIn_rangeFunc_B 18 rfl hn1 (gf := 26) (lb := #[.pointer (some ⟨w14.heap.size + 1 + 1 + 1 + 1, 0, none⟩)]) rfl trivial (enters_of Tryz.func26 (by kernel_rfl) rfl)
        (runs_stops (n - 1) (by omega) (w14.heap.size + 1 + 1 + 1 + 1) w1.heap.size OB g cap ⟨p, S⟩ (.slice sa (stopsI S.D.C S.T).length sc) G K H HMX.out.1 HMX.out.2 w14) (RunI.fresh w14 _).bel (fun _ => rfl)
        (fun pre W => RunI w14 (shV ⟨p, S⟩ OB g cap (.slice sa (stopsI S.D.C S.T).length sc)) (stN StN.nil pre) W)
        ?hI ?hGd ?h0 (fun r => .cells (rnC r) 53) (fun r => ⟨_, _, rfl⟩) ?assign ?body ?done
      case hI =>
        rintro pre X Y rw_ i1 hgr hrow
        exact i1.own (RunI.fresh w14 _).bel.size hgr hrow
      case hGd =>
        rintro pre A i1
        exact ⟨i1.box, HGO.out _ (HF4.out.below i1.bel)⟩
      case h0 => exact RunI.fresh w14 _
      case assign =>
        intro l r W K hK
        unfold runV
        gi_wp2
        revert hK
        unfold runV rnC
        go_simp
        try exact fun h => h
      case body =>
        rintro l pre r b W hb hi hT hbx
        unfold runV
        have hok := run_cases (okN_at HALL.out.1 hT)
        have hmem : r ∈ allN S.D (lookS p S.D) := hT.subset (by simp)
        have hsm := HSML.out r hmem
        obtain ⟨t1, t2, t3, -, -⟩ := hsm
        have hst : stN StN.nil (pre ++ [r]) = ⟨r.row, r.col + r.len, r.look, r.gd⟩ := by rw [stN_append]; rfl
        have HSTN := Lib.hid hst
        have hbs : w14.heap.size + 1 + 1 + 1 + 1 < b := by
          have := hb
          simp only [World.size_alloc] at this
          omega
        generalize stN StN.nil pre = s at *
        obtain ⟨sr, sc', sl, sg⟩ := s
        obtain ⟨k0, f0⟩ := box_one hi.row
        obtain ⟨k1, f1⟩ := box_one hi.col
        obtain ⟨k2, f2⟩ := box_one hi.look
        obtain ⟨k3, f3⟩ := box_one hi.gd
        obtain ⟨_, x1, x2, _⟩ := HCX.out _ (HF4.out.below hi.bel)
        have q0 : W.cell? ⟨b, 0, none⟩ = some (.int .i64 (r.row : Int)) := cell_row hbx 0
        have q1 : W.cell? ⟨b, 1, none⟩ = some (.int .i64 (r.col : Int)) := cell_row hbx 1
        have q2 : W.cell? ⟨b, 2, none⟩ = some (.int .i64 (r.len : Int)) := cell_row hbx 2
        have q3 : W.cell? ⟨b, 3, none⟩ = some (.int .i64 r.look) := cell_row hbx 3
        have q4 : W.cell? ⟨b, 4, none⟩ = some (.bool r.gd) := cell_row hbx 4
        have HI := Lib.hid hi
        have HB := Lib.hid hb
        clear hi hb hbx hmem hT hst
        simp only at k0 k1 k2 k3 hok
        obtain ⟨hl1, hok⟩ := hok
        have hlz : decide ((r.len : Int) < 1) = false := decide_eq_false (by omega)
        have HKP : Hid (∀ k, k ≤ w14.heap.size + 1 + 1 + 1 → k < (w14.heap.size + 1 + 1 + 1 + 1 + 1)) := fun k hk => by omega
        have HFIN : Hid (∀ A, KeepsFrom (w14.heap.size + 1 + 1 + 1 + 1 + 1) W A → RunI w14 (shV ⟨p, S⟩ OB g cap (.slice sa (stopsI S.D.C S.T).length sc)) ⟨r.row, r.col, sl, sg⟩ A →
            KeepsFrom (w14.heap.size + 1 + 1 + 1 + 1 + 1) W (((A.setCell ⟨w14.heap.size + 1, 0, none⟩ (.int .i64 ((r.col + r.len : Nat) : Int))).setCell ⟨w14.heap.size + 1 + 1, 0, none⟩ (.int .i64 r.look)).setCell ⟨w14.heap.size + 1 + 1 + 1, 0, none⟩ (.bool r.gd)) ∧ True ∧ RunI w14 (shV ⟨p, S⟩ OB g cap (.slice sa (stopsI S.D.C S.T).length sc)) (stN StN.nil (pre ++ [r])) (((A.setCell ⟨w14.heap.size + 1, 0, none⟩ (.int .i64 ((r.col + r.len : Nat) : Int))).setCell ⟨w14.heap.size + 1 + 1, 0, none⟩ (.int .i64 r.look)).setCell ⟨w14.heap.size + 1 + 1 + 1, 0, none⟩ (.bool r.gd))) := fun A hk hr => by
          refine ⟨keeps_set (keeps_set (keeps_set hk (HKP.out _ (by show w14.heap.size + 1 ≤ _; omega)) _) (HKP.out _ (by show w14.heap.size + 1 + 1 ≤ _; omega)) _) (HKP.out _ (Nat.le_refl _)) _, trivial, ?_⟩
          rw [HSTN.out]
          exact ((hr.setCol (r.col + r.len)).setLook r.look).setGd r.gd
        have hl2 : ¬ (r.len : Int) < 1 := by omega
        have hl3 : ¬ r.len < 1 := by omega
        have hl4 : ¬ r.len = 0 := by omega
        rcases hok with ⟨rfl, hr, hc⟩ | ⟨hc, rfl, rfl, hwhy⟩
        · have q1' : W.cell? ⟨b, 1, none⟩ = some (.int .i64 0) := by rw [q1, hc]; rfl
          have hw : IntKind.i64.wrap ((sr : Int) + 1) = (r.row : Int) := by rw [wrap_in (by omega) (by omega)]; omega
          have hwl : IntKind.i64.wrap (r.len : Int) = (r.len : Int) := by rw [wrap_in (by omega) (by omega)]
          have HRI : Hid (KeepsFrom (w14.heap.size + 1 + 1 + 1 + 1 + 1) W ((W.setCell ⟨w14.heap.size, 0, none⟩ (.int .i64 (r.row : Int))).setCell ⟨w14.heap.size + 1, 0, none⟩ (.int .i64 0)) ∧ RunI w14 (shV ⟨p, S⟩ OB g cap (.slice sa (stopsI S.D.C S.T).length sc)) ⟨r.row, r.col, sl, sg⟩ ((W.setCell ⟨w14.heap.size, 0, none⟩ (.int .i64 (r.row : Int))).setCell ⟨w14.heap.size + 1, 0, none⟩ (.int .i64 0))) := by
            refine ⟨keeps_set (keeps_set (KeepsFrom.refl _ _) (HKP.out _ (by show w14.heap.size ≤ _; omega)) _) (HKP.out _ (by show w14.heap.size + 1 ≤ _; omega)) _, ?_⟩
            rw [hc]
            exact (HI.out.setRow r.row).setCol 0
          have HFI := HFIN.out _ HRI.out.1 HRI.out.2
          rw [hc, Nat.zero_add] at HFI
          have HFI := Lib.hid HFI
          clear q1 hc hr HFIN
          gi_wp2
          exact HFI.out
        · have hcz : ((r.col : Int) == (S.D.C : Int)) = false := beq_eq_false_iff_ne.2 (by omega)
          have hw : IntKind.i64.wrap ((r.col : Int) + (r.len : Int)) = ((r.col + r.len : Nat) : Int) := by rw [wrap_in (by omega) (by omega)]; rfl
          have HFI := Lib.hid (HFIN.out W (KeepsFrom.refl _ _) HI.out)
          clear HFIN hc
          rcases hwhy with h0 | ⟨hp, hne⟩ | ⟨hp, heq, hne⟩
          · have hp1 : ¬ (0 : Int) < (r.col : Int) := by omega
            have hp2 : ¬ 0 < r.col := by omega
            clear h0
            gi_wp2
            exact HFI.out
          · have hp1 : (0 : Int) < (r.col : Int) := by omega
            have hlb : (r.look == sl) = false := beq_eq_false_iff_ne.2 hne
            clear hne
            gi_wp2
            exact HFI.out
          · have hp1 : (0 : Int) < (r.col : Int) := by omega
            have hlb : (r.look == sl) = true := by rw [heq]; exact beq_self_eq_true _
            have hgb : (r.gd == sg) = false := beq_eq_false_iff_ne.2 hne
            clear hne heq
            gi_wp2
            exact HFI.out
      case done =>
        rintro D ys W hD rfl hi hd
        have hE := HALL.out.2
        replace hi : RunI w14 (shV ⟨p, S⟩ OB g cap (.slice sa (stopsI S.D.C S.T).length sc)) (stN StN.nil (allN S.D (lookS p S.D))) W := hi
        have HI := Lib.hid hi
        have HDD := Lib.hid hd
        have HF15 := Lib.hid (HF4.out.below hi.bel)
        have hDw : w.heap.size < D := by
          have h2 := HF4.out.size
          have h3 := HZ.out
          simp only [World.size_alloc] at hD
          omega
        generalize stN StN.nil (allN S.D (lookS p S.D)) = s at *
        obtain ⟨sr, sc', sl, sg⟩ := s
        obtain ⟨e1, e2⟩ := hE
        simp only at e1 e2
        subst e2
        have hwR : IntKind.i64.wrap ((S.D.R : Int) - 1) = (sr : Int) := by rw [wrap_in (by omega) (by omega)]; omega
        obtain ⟨x0, x1, x2, x3, x4, x5, x6, x7, x8⟩ := HCX.out _ HF15.out
        obtain ⟨y0, y1, y2, y3, y4, y5, y6, y7, y8⟩ := HCY.out _ HF15.out
        clear hi hd hD e1
        gi_wp2_with (first
          | ((try refine ⟨trivial, ?_⟩); gi_at_call 11; refine (callsIn_wide.2 (HAW.out _ HF20.out.bel)).mono ?_; rintro e w21 ⟨rfl, hb⟩; have HF21 := Lib.hid (HF20.out.below hb); have HD21 := Lib.hid ((hb.block _ (block_lt HD20.out)).trans HD20.out); obtain ⟨b0, bf⟩ := box_one HF21.out.box; clear hb)
          | ((try refine ⟨trivial, ?_⟩); gi_at_call 18; refine (callsIn_wide.2 (HDF.out _ HF15.out)).mono ?_; rintro e w20 ⟨rfl, hb⟩; have HI20 := Lib.hid (HI.out.below hb); have HF20 := Lib.hid (HF15.out.below hb); have HD20 := Lib.hid ((hb.block _ (block_lt HDD.out)).trans HDD.out); obtain ⟨k0, f0⟩ := box_one HI20.out.row; obtain ⟨k1, f1⟩ := box_one HI20.out.col; clear hb x0 x1 x2 x3 x4 x5 x6 x7 x8 y0 y1 y2 y3 y4 y5 y6 y7 y8; obtain ⟨x0, x1, x2, x3, x4, x5, x6, x7, x8⟩ := HCX.out _ HF20.out))
        have hdx : (w21.setCell ⟨w.heap.size, 0, none⟩ (.bool true)).heap[D]? = some (.deferred (some [])) := (heap_setCell_other _ _ _ _ (by show D ≠ w.heap.size; omega)).trans HD21.out
        have hh := grownBy_putObj' (w21.setCell ⟨w.heap.size, 0, none⟩ (.bool true)) D (.deferred none)
        have hbl : Below w.heap.size w (w21.setCell ⟨w.heap.size, 0, none⟩ (.bool true)) := HF21.out.bel.setCell (p := ⟨w.heap.size, 0, none⟩) (Nat.le_refl _) _
        have hc6 : ((w21.setCell ⟨w.heap.size, 0, none⟩ (.bool true)).putObj D (.deferred none)).cell? ⟨w.heap.size, 0, none⟩ = some (.bool true) := by
          refine (cell_same (World.putObj_heap_other (by omega))).trans ?_
          exact cell_row (heap_set_same HF21.out.box 0 (.bool true)) 0
        refine ⟨by simp, .inl ⟨_, _, rfl, run_takeDeferred hdx, ?_⟩⟩
        exact ⟨_, by simp [results, Tryz.results4, go_sem, hc6], rfl, hbl.grown hh hbl.size (fun k e => by cases e; omega)⟩
theorem law_nown (p : Int) (A1 : Option Addr) (m1 cap1 : Nat) (L1 : List Vz.Op) (A2 : Option Addr) (m2 cap2 : Nat) (L2 : List Vz.Op) (hpr : PrintOk) (w : World) (hbl : Blanked w) (h1 : Opers w.heap.size w A1 m1 L1) (hm1 : m1 ≤ maxLen) (h2 : Opers w.heap.size w A2 m2 L2) (hm2 : m2 ≤ maxLen) (t : TypeId) (fr : Nat × Nat) (hg : w.heap[1]? = some (.cells names12a t fr)) :
    Calls Tryz.prog 4 #[.int .i64 p, .slice A1 m1 cap1, .slice A2 m2 cap2] w fun e w' => e = .returned (.bool true) ∧ Below w.heap.size w w' :=
  callsIn_wide.1 (law_nown_in 5 (Nat.le_refl _) p A1 m1 cap1 L1 A2 m2 cap2 L2 hpr w hbl h1 hm1 h2 hm2 t fr hg)
end Go.Proofs.YtliacdaddncmaaaGreatDoor
