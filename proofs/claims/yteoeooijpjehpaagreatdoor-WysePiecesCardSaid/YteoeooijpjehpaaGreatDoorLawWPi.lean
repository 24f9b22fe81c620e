import Derived.Test.YteoeooijpjehpaaGreatDoorWyLike
import Derived.Test.YteoeooijpjehpaaGreatDoorIS
import Derived.Test.YteoeooijpjehpaaGreatDoorIA

/- The law WysePieces, whole: for all sizes and texts it answers true. -/
namespace Go.Proofs.YteoeooijpjehpaaGreatDoor
open Go.RowKit
set_option linter.unusedSimpArgs false
set_option linter.unusedVariables false
attribute [local go_sem] alloc_drewN setCell_drewN World.cell?_alloc_some frozen_alloc_some size_f0 size_f1

set_option maxRecDepth 100000 in
set_option maxHeartbeats 16000000 in
theorem law_wpi_main (R C : Nat) (hf : fewS R C = true) (A : Option Addr) (m cap : Nat) (L : List (List UInt8)) (hm20 : m ≤ 20) (w : World) (hbl : BaseW w) (hL : Strs w.heap.size w A m L) : Calls Tryz.prog 5 #[.agg #[.int .i64 R, .int .i64 C], .slice A m cap] w fun e w' => e = .returned (.bool true) ∧ Below w.heap.size w w' := by
 have hf' : 1 ≤ (R : Int) ∧ (R : Int) ≤ 6 ∧ 1 ≤ (C : Int) ∧ (C : Int) ≤ 12 := of_decide_eq_true hf
 have hm : Vz.mayS R C = true := (Vz.mayS_iff _ _).2 (by omega)
 have HAW := Lib.hid (fun W (hb : Below w.heap.size w W) => awake_any W (hbl.below hb))
 have HN := Lib.hid (fun W (hb : Below w.heap.size w W) => made_ok R C hm W (hbl.below hb))
 have HFW := Lib.hid (fun W => hf ▸ few_any R C W)
 have HST := Lib.hid (fun W (hb : Below w.heap.size w W) => hL.below hb (Nat.le_refl _))
 have hx := heap_alloc_new w (.cells #[.int .i64 R, .int .i64 C] 26)
 have HX0 := Lib.hid hx
 obtain ⟨x0, x1, g0, g1⟩ := row2 hx
 have HB0 := Lib.hid (below1 w (.cells #[.int .i64 R, .int .i64 C] 26))
 have hm20' : ¬ (20 < (m : Int)) := by omega
 clear hbl hx hf hm hL g0 g1
 go_enter Tryz.func5, Tryz.ntmps5
 go_wp2_with (first
  | (go_at_call 19; refine (HFW.out _).mono ?_; rintro e w1 ⟨rfl, hb1⟩; have HB1 := Lib.hid (Below.later HB0.out hb1 HB0.out.size); have HX1 := Lib.hid ((hb1.block _ (block_lt HX0.out)).trans HX0.out); clear x0 x1; obtain ⟨x0, x1, _⟩ := row2 HX1.out; clear hb1)
  | (go_at_call 10; refine (HN.out _ HB2.out).mono ?_; rintro e w3 ⟨wb, tb, sb, qb, rfl, hmd⟩; have HD3 := Lib.hid (Duo.of_made HM2.out hmd); clear hmd)
  | (go_at_call 10; refine (HN.out _ HB1.out).mono ?_; rintro e w2 ⟨wa, ta, sa, qa, rfl, hmd⟩; have HB2 := Lib.hid (Below.later HB1.out hmd.2.2.2 HB1.out.size); have HX2 := Lib.hid ((hmd.2.2.2.block _ (block_lt HX1.out)).trans HX1.out); clear x0 x1; obtain ⟨x0, x1, _⟩ := row2 HX2.out; have HM2 := Lib.hid hmd; clear hmd))
 clear x0 x1
 go_loopw [7, 8] (fun t i wr => ∃ k : Nat, k ≤ m ∧ i = .int .i64 (k : Int) ∧ t = .string ⟨(catL L k).toArray⟩ ∧ (catL L k).length ≤ 60 * k ∧ Duo w1 wr wa ta sa qa (feedW (newW 60 R C) (catL L k)) wb tb sb qb (newW 60 R C)) (fun _ i _ => m - (intOf i).toNat)
 case atStart => exact ⟨0, Nat.zero_le _, rfl, rfl, Nat.le_refl _, HD3.out⟩
 case round =>
  obtain ⟨k, hk, rfl, rfl, hlen, hD⟩ := hrel
  have HDK := Lib.hid hD
  have hbw := Below.later HB1.out hD.belowW HB1.out.size
  have HBW := Lib.hid hbw
  by_cases hlt : k < m
  · obtain ⟨b, o, rfl, hbo, hst⟩ := (HST.out _ hbw).at_ hlt
    have HSTW : Hid (∀ W, Below w.heap.size w W → W.cell? ⟨b, o + k, none⟩ = some (.string ⟨(L.getD k []).toArray⟩)) := fun W hb => by
     obtain ⟨b', o', he, _, hst'⟩ := (HST.out _ hb).at_ hlt
     injection he with he
     injection he with h1 h2 h3
     subst h1 h2
     exact hst'
    have hcat : catL L (k + 1) = catL L k ++ L.getD k [] := rfl
    have HCAT := Lib.hid hcat
    have hsz := ba_size (L.getD k [])
    have hap := ba_append (catL L k) (L.getD k [])
    have hkz : (k : Int) < (m : Int) := by omega
    have hwk : IntKind.i64.wrap ((k : Int) + 1) = ((k + 1 : Nat) : Int) := by rw [wrap_in (by omega) (by omega)]; rfl
    clear hD hbw hcat
    generalize L.getD k [] = l at *
    by_cases h60 : 60 < l.length
    · have h60' : 60 < (l.length : Int) := by omega
      go_wp2_with (go_at_call 9; refine (HAW.out _ HBW.out).mono ?_; rintro e w9 ⟨rfl, hb9⟩; have HB9 := Lib.hid (Below.later HBW.out hb9 HBW.out.size); clear hb9)
      go_ret
      exact ⟨rfl, HB9.out⟩
    · have h60' : ¬ (60 < (l.length : Int)) := by omega
      go_upto_region 14 with fail
      have HD4 : Hid (Duo w1 wr.drew wa ta sa qa (feedW (newW 60 R C) (catL L k)) wb tb sb qb (newW 60 R C)) := HDK.out.below (Below.refl _ _).drew
      clear hst
      refine wp_region_noPanic ?_
      refine wp_region_k (S := fun W : World => Duo w1 W wa ta sa qa (feedW (newW 60 R C) (catL L k)) wb tb sb qb (newW 60 R C)) 8 (by kernel_rfl) (HD4.out) (fun hHeld => ?_)
      refine kSK 0 hHeld ?_
      refine kSK 1 hHeld ?_
      refine kSK 2 hHeld ?_
      refine kTK (v := ?_) 3 [] hHeld ?y4 ?_
      case y4 => (intro W hSw; obtain ⟨z0, z1, z2⟩ := hSw.cells; have hs0 := HSTW.out _ (Below.later HB1.out hSw.belowW HB1.out.size); go_simp; try with_reducible rfl)
      refine kSK 4 hHeld ?_
      try refine kNK ?_
      refine kSK 5 hHeld ?_
      refine kSK 6 hHeld ?_
      refine kTK (v := ?_) 7 [] hHeld ?y8 ?_
      case y8 => (intro W hSw; obtain ⟨z0, z1, z2⟩ := hSw.cells; have hs0 := HSTW.out _ (Below.later HB1.out hSw.belowW HB1.out.size); go_simp; try with_reducible rfl)
      try refine kNK ?_
      refine kPK 8 fun KQ hKQ => ?_
      go_simp
      go_at_call 12
      refine (duo_feed hHeld l (by omega)).mono ?_
      rintro e w5 ⟨rfl, hd⟩
      rw [← feedW_append, ← HCAT.out] at hd
      obtain ⟨z0, z1, z2⟩ := hd.cells
      have HD5 := Lib.hid hd
      clear hd
      go_wp2_with fail
      refine hKQ.out _ _ ?_
      clear hKQ KQ
      try refine kNK ?_
      refine wpAnyK_done (by kernel_rfl) ?_ _
      refine NoPanic.normal ?_
      clear hHeld
      have hRC := feedW_RC (newW 60 R C) (catL L (k + 1))
      have hmi := duo_may HD5.out
      generalize hA2 : feedW (newW 60 R C) (catL L (k + 1)) = A2 at hRC hmi HD5
      have HA2 := Lib.hid hA2
      obtain ⟨hma, ⟨i1, i2, i3, i4⟩, hok⟩ := hmi
      have hr1 : A2.S.pl.at_.row < (R : Int) := by rw [hRC.1] at i2; exact i2
      have hc1 : A2.S.pl.at_.col < (C : Int) := by rw [hRC.2] at i4; exact i4
      have hr2 : ¬ A2.S.pl.at_.row < 0 := by omega
      have hc2 : ¬ A2.S.pl.at_.col < 0 := by omega
      have hr3 : ¬ (R : Int) ≤ A2.S.pl.at_.row := by omega
      have hc3 : ¬ (C : Int) ≤ A2.S.pl.at_.col := by omega
      have hsq := ba_size A2.seq
      have hq3 : ¬ (64 < (A2.seq.length : Int)) := by
       have := hok
       omega
      clear hRC hma i1 i2 i3 i4 hok hA2
      go_wp2_with (first
       | (go_at_call 22; refine (duo_cursor HD5.out).mono ?_; rintro e w6 ⟨rfl, hb6⟩; have HD6 := Lib.hid ((HD5.out.below hb6).below (below1 w6 (.cells #[.int .i64 A2.S.pl.at_.row, .int .i64 A2.S.pl.at_.col] 49))); clear z0 z1 z2; obtain ⟨z0, z1, z2⟩ := HD6.out.cells; obtain ⟨p0, p1, _⟩ := row2 (heap_alloc_new w6 (.cells #[.int .i64 A2.S.pl.at_.row, .int .i64 A2.S.pl.at_.col] 49)); obtain ⟨x0, x1, _⟩ := row2 ((HD6.out.belowW.block _ (block_lt HX1.out)).trans HX1.out); clear hb6)
       | (go_at_call 18; refine (duo_pending HD6.out).mono ?_; rintro e w8 ⟨rfl, rfl⟩))
      exact ⟨⟨k + 1, by omega, rfl, by rw [HCAT.out], by rw [HCAT.out, List.length_append]; omega, by rw [HA2.out]; exact HD6.out⟩, by simp [intOf]; omega⟩
  · obtain rfl : k = m := by omega
    obtain ⟨y0, y1, y2⟩ := HDK.out.swap.cells
    have hl5 : (catL L k).length ≤ 100000 := by omega
    clear hD hbw
    go_wp2_with (first
     | (go_at_call 23; refine (like_same HD5.out).mono ?_; rintro e w6 ⟨rfl, hd⟩; have HBL := Lib.hid (Below.later HB1.out hd.belowW HB1.out.size); clear hd)
     | (go_at_call 12; refine (duo_feed HDK.out.swap (catL L k) hl5).mono ?_; rintro e w5 ⟨rfl, hd⟩; have HD5 := Lib.hid hd.swap; clear hd)
     | (go_at_call 9; refine (HAW.out _ HBL.out).mono ?_; rintro e w9 ⟨rfl, hb9⟩; have HB9 := Lib.hid (Below.later HBL.out hb9 HBL.out.size); clear hb9))
    go_ret
    exact ⟨rfl, HB9.out⟩
/-- What is not asked: only the chapter's example. -/
theorem law_wpi_no (r c : Int) (A : Option Addr) (m cap : Nat) (w : World) (hbl : BaseW w) (h : fewS r c = false ∨ (fewS r c = true ∧ 20 < m)) : Calls Tryz.prog 5 #[.agg #[.int .i64 r, .int .i64 c], .slice A m cap] w fun e w' => e = .returned (.bool true) ∧ Below w.heap.size w w' := by
 have HAW := Lib.hid (fun W (hb : Below w.heap.size w W) => awake_any W (hbl.below hb))
 have HFW := Lib.hid (fun W => few_any r c W)
 obtain ⟨x0, x1, g0, g1⟩ := row2 (heap_alloc_new w (.cells #[.int .i64 r, .int .i64 c] 26))
 have HB0 := Lib.hid (below1 w (.cells #[.int .i64 r, .int .i64 c] 26))
 clear hbl
 rcases h with h | ⟨h, h2⟩
 · rw [h] at HFW
   go_enter Tryz.func5, Tryz.ntmps5
   go_wp2_with (first
    | (go_at_call 19; refine (HFW.out _).mono ?_; rintro e w1 ⟨rfl, hb1⟩; have HB1 := Lib.hid (Below.later HB0.out hb1 HB0.out.size); clear hb1)
    | (go_at_call 9; refine (HAW.out _ HB1.out).mono ?_; rintro e w9 ⟨rfl, hb9⟩; have HB9 := Lib.hid (Below.later HB1.out hb9 HB1.out.size); clear hb9))
   go_ret
   exact ⟨rfl, HB9.out⟩
 · rw [h] at HFW
   have h2' : 20 < (m : Int) := by omega
   go_enter Tryz.func5, Tryz.ntmps5
   go_wp2_with (first
    | (go_at_call 19; refine (HFW.out _).mono ?_; rintro e w1 ⟨rfl, hb1⟩; have HB1 := Lib.hid (Below.later HB0.out hb1 HB0.out.size); clear hb1)
    | (go_at_call 9; refine (HAW.out _ HB1.out).mono ?_; rintro e w9 ⟨rfl, hb9⟩; have HB9 := Lib.hid (Below.later HB1.out hb9 HB1.out.size); clear hb9))
   go_ret
   exact ⟨rfl, HB9.out⟩
theorem law_wpi (r c : Int) (A : Option Addr) (m cap : Nat) (L : List (List UInt8)) (w : World) (hbl : BaseW w) (hL : Strs w.heap.size w A m L) : Calls Tryz.prog 5 #[.agg #[.int .i64 r, .int .i64 c], .slice A m cap] w fun e w' => e = .returned (.bool true) ∧ Below w.heap.size w w' := by
 cases hf : fewS r c with
 | false => exact law_wpi_no r c A m cap w hbl (.inl hf)
 | true =>
   by_cases hm : 20 < m
   · exact law_wpi_no r c A m cap w hbl (.inr ⟨hf, hm⟩)
   · have hf' : 1 ≤ r ∧ r ≤ 6 ∧ 1 ≤ c ∧ c ≤ 12 := of_decide_eq_true hf
     obtain ⟨R, rfl⟩ := Int.eq_ofNat_of_zero_le (show 0 ≤ r by omega)
     obtain ⟨C, rfl⟩ := Int.eq_ofNat_of_zero_le (show 0 ≤ c by omega)
     exact law_wpi_main R C hf A m cap L (by omega) w hbl hL
end Go.Proofs.YteoeooijpjehpaaGreatDoor
