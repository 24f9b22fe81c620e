import Derived.Test.YtbnkfiaggehmgaaGreatDoorGY
import Derived.Test.YtbnkfiaggehmgaaGreatDoorGV

/- The law ScreenCopies, whole: for all lists of calls it answers true. -/
namespace Go.Proofs.YtbnkfiaggehmgaaGreatDoor
open Go.RowKit
set_option linter.unusedSimpArgs false
set_option linter.unusedVariables false
attribute [local go_sem] alloc_drewN setCell_drewN World.cell?_alloc_some frozen_alloc_some size_f0 size_f1

set_option maxRecDepth 100000 in
set_option maxHeartbeats 16000000 in
theorem law_sco (A1 : Option Addr) (m1 cap1 : Nat) (L1 : List Vz.Op) (A2 : Option Addr) (m2 cap2 : Nat) (L2 : List Vz.Op) (w : World) (hbl : Blanked w) (h1 : Opers w.heap.size w A1 m1 L1) (hm1 : m1 ≤ maxLen) (h2 : Opers w.heap.size w A2 m2 L2) (hm2 : m2 ≤ maxLen) : Calls Tryz.prog 7 #[.slice A1 m1 cap1, .slice A2 m2 cap2] w fun e w' => e = .returned (.bool true) ∧ Below w.heap.size w w' := by
  have hm' : m2 ≤ 9223372036854775807 := Nat.le_trans hm2 (by unfold maxLen; decide)
  have hml : m2 = L2.length := h2.1
  have HML := Lib.hid hml
  have HFEW1 := Lib.hid (fun W (hb : Below w.heap.size w W) => few_any A1 m1 cap1 L1 W ((h1.below hb (Nat.le_refl _)).more hb.size) hm1)
  have HFEW2 := Lib.hid (fun W (hb : Below w.heap.size w W) => few_any A2 m2 cap2 L2 W ((h2.below hb (Nat.le_refl _)).more hb.size) hm2)
  have HAW := Lib.hid (fun W (hb : Below w.heap.size w W) => awake_any W (hbl.below hb))
  have HBG := Lib.hid (fun W (hb : Below w.heap.size w W) => begun_ok A1 m1 cap1 L1 W (hbl.below hb) ((h1.below hb (Nat.le_refl _)).more hb.size) hm1)
  have HOP := Lib.hid h2
  have HB0 : Hid (Below w.heap.size w w) := Below.refl _ _
  clear h1 hm1 h2 hm2 hbl hml
  generalize hS0 : runS (newS 5 9) L1 = S0 at *
  clear hS0
  go_enter Tryz.func7, Tryz.ntmps7
  go_wp2_with (first
    | (go_at_call 30; obtain ⟨FA, FB, FC, ha, hb, hc, -⟩ := HT3.out; refine (equal_yes sp cp FA FB S0 S0 w5 ha hb (Like.refl _)).mono ?_; rintro e w6 ⟨rfl, hb6⟩; have HT6 := Lib.hid (HT3.out.below hb6); clear ha hb hc hb6)
    | (go_at_call 24; obtain ⟨F0, FC0, hs0, hn0⟩ := HTW.out; refine (scr_copy sp F0 _ _ hs0).mono ?_; rintro e w5 ⟨dp, rfl, hc⟩; have HT3 := Lib.hid (Three.of_copy HTW.out hc); clear hc hs0 hn0)
    | (go_at_call 24; obtain ⟨⟨F0, hs0, hn0⟩, hb0⟩ := HNS.out; refine (scr_copy sp F0 _ _ hs0).mono ?_; rintro e w4 ⟨cp, rfl, hc⟩; have HTW := Lib.hid ((Two.of_copy HNS.out hc)); clear hc hs0 hn0 hb0)
    | (go_at_call 13; refine (HBG.out _ HB2.out).mono ?_; rintro e w3 ⟨sp, rfl, hnew⟩; have HNS := Lib.hid hnew; clear hnew)
    | (go_at_call 12; first
        | (refine (HAW.out _ HB2.out).mono ?_; rintro e w9 ⟨rfl, hb9⟩; have HB9 := Lib.hid (Below.later HB2.out hb9 HB2.out.size); clear hb9)
        | (refine (HAW.out _ HB1.out).mono ?_; rintro e w9 ⟨rfl, hb9⟩; have HB9 := Lib.hid (Below.later HB1.out hb9 HB1.out.size); clear hb9))
    | (go_at_call 11; refine (HFEW2.out _ HB1.out).mono ?_; rintro e w2 ⟨b, rfl, hb2⟩; have HB2 := Lib.hid (Below.later HB1.out hb2 HB1.out.size); clear hb2; cases b)
    | (go_at_call 11; refine (HFEW1.out _ HB0.out).mono ?_; rintro e w1 ⟨b, rfl, hb1⟩; have HB1 := Lib.hid hb1; clear hb1; cases b))
  · go_ret
    exact ⟨rfl, HB9.out⟩
  · go_ret
    exact ⟨rfl, HB9.out⟩
  go_loopw [8] (fun i wr => ∃ k : Nat, k ≤ m2 ∧ i = .int .i64 (k : Int) ∧ Three w2 wr cp sp dp (runS S0 (L2.take k)) S0 S0) (fun i _ => m2 - (intOf i).toNat)
  case atStart => exact ⟨0, Nat.zero_le _, rfl, HT6.out.swap⟩
  case round =>
    obtain ⟨k, hk, rfl, hthree⟩ := hrel
    have HT := Lib.hid hthree
    obtain ⟨FA, FB, FC, ha, hb, hc, h1, h2, h3, hB⟩ := hthree
    by_cases hlt : k < m2
    · obtain ⟨b, o, rfl, hbl, hop, hok⟩ := (HOP.out.below (Below.later HB2.out hB HB2.out.size) (Nat.le_refl _)).at_ hlt
      have hst := runS_step S0 L2 (k := k) (by rw [← HML.out]; exact hlt)
      generalize L2[k]?.getD Vz.Op.nil = x at *
      have HD := Lib.hid (does_ok cp FA _ x wr ha hok)
      obtain ⟨c0, c1, c2, c3, c4, c5, c6, c7, c8, c9, c10, c11⟩ := hop
      have hkz : (k : Int) < (m2 : Int) := by omega
      have hwk : IntKind.i64.wrap ((k : Int) + 1) = ((k + 1 : Nat) : Int) := by rw [wrap_in (by omega) (by omega)]; rfl
      have HST := Lib.hid hst
      have HLK := Lib.hid (fun W' (hg : ScrTo wr W' cp FA (doesR (runS S0 (L2.take k)) x).1) => Three.turn ha hb hc h1 h2 h3 hB hg)
      clear ha hb hc h1 h2 h3 hB hok hst
      generalize runS S0 (L2.take k) = S at *
      generalize doesR S x = R at *
      go_wp2_with (go_at_call 14; refine HD.out.mono ?_; rintro e w7 ⟨rfl, hg⟩; have HG := Lib.hid (HLK.out _ hg); clear hg)
      exact ⟨⟨k + 1, by omega, rfl, by rw [HST.out]; exact HG.out⟩, by simp [intOf]; omega⟩
    · obtain rfl : m2 = k := by omega
      have htk : L2.take m2 = L2 := List.take_of_length_le (by rw [← HML.out]; exact Nat.le_refl _)
      rw [htk] at HT
      have HE1 := Lib.hid (equal_yes sp dp FB FC S0 S0 wr hb hc (Like.refl _))
      clear ha hb hc h1 h2 h3 hB htk
      go_wp2_with (go_at_call 30; refine HE1.out.mono ?_; rintro e w8 ⟨rfl, hb8⟩; have HT8 := Lib.hid (HT.out.below hb8).swap; clear hb8)
      clear HE1 HT
      go_loopw [9] (fun i wr => ∃ k : Nat, k ≤ m2 ∧ i = .int .i64 (k : Int) ∧ Three w2 wr sp cp dp (runS S0 (L2.take k)) (runS S0 L2) S0) (fun i _ => m2 - (intOf i).toNat)
      case atStart => exact ⟨0, Nat.zero_le _, rfl, HT8.out⟩
      case round =>
        clear hk
        obtain ⟨k, hk, rfl, hthree⟩ := hrel
        have HT := Lib.hid hthree
        obtain ⟨FA, FB, FC, ha, hb, hc, h1, h2, h3, hB⟩ := hthree
        by_cases hlt : k < m2
        · obtain ⟨b, o, rfl, hbl, hop, hok⟩ := (HOP.out.below (Below.later HB2.out hB HB2.out.size) (Nat.le_refl _)).at_ hlt
          have hst := runS_step S0 L2 (k := k) (by rw [← HML.out]; exact hlt)
          generalize L2[k]?.getD Vz.Op.nil = x at *
          have HD := Lib.hid (does_ok sp FA _ x wr ha hok)
          obtain ⟨c0, c1, c2, c3, c4, c5, c6, c7, c8, c9, c10, c11⟩ := hop
          have hkz : (k : Int) < (m2 : Int) := by omega
          have hwk : IntKind.i64.wrap ((k : Int) + 1) = ((k + 1 : Nat) : Int) := by rw [wrap_in (by omega) (by omega)]; rfl
          have HST := Lib.hid hst
          have HLK := Lib.hid (fun W' (hg : ScrTo wr W' sp FA (doesR (runS S0 (L2.take k)) x).1) => Three.turn ha hb hc h1 h2 h3 hB hg)
          clear ha hb hc h1 h2 h3 hB hok hst
          generalize runS S0 (L2.take k) = S at *
          generalize doesR S x = R at *
          generalize runS S0 L2 = SZ at *
          go_wp2_with (go_at_call 14; refine HD.out.mono ?_; rintro e w7 ⟨rfl, hg⟩; have HG := Lib.hid (HLK.out _ hg); clear hg)
          exact ⟨⟨k + 1, by omega, rfl, by rw [HST.out]; exact HG.out⟩, by simp [intOf]; omega⟩
        · obtain rfl : k = m2 := by omega
          have htk : L2.take k = L2 := List.take_of_length_le (by rw [← HML.out]; exact Nat.le_refl _)
          rw [htk] at ha
          have HE1 := Lib.hid (equal_yes sp cp FA FB _ _ wr ha hb (Like.refl _))
          have HBW : Hid (Below w.heap.size w wr) := Below.later HB2.out hB HB2.out.size
          clear ha hb hc h1 h2 h3 hB htk
          generalize runS S0 L2 = SZ at *
          go_wp2_with (first
            | (go_at_call 30; refine HE1.out.mono ?_; rintro e w9 ⟨rfl, hb9⟩; have HB9 := Lib.hid (Below.later HBW.out hb9 HBW.out.size); clear hb9)
            | (go_at_call 12; refine (HAW.out _ HB9.out).mono ?_; rintro e w10 ⟨rfl, hb10⟩; have HB10 := Lib.hid (Below.later HB9.out hb10 HB9.out.size); clear hb10))
          go_ret
          exact ⟨rfl, HB10.out⟩
end Go.Proofs.YtbnkfiaggehmgaaGreatDoor
