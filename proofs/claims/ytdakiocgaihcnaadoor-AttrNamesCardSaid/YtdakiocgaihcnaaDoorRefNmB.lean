/- Walk: vizardref03.Names, of attributes that may be. -/
import Derived.Test.YtdakiocgaihcnaaDoorRefNm
namespace Go.Proofs.YtdakiocgaihcnaaDoor
open Go.RowKit
set_option maxHeartbeats 40000000 in
theorem rnames_may (n : Nat) (hm : Vz.mayI n = true) (w : World) :
    Calls Tryd.prog 20 #[.int .i64 n] w fun e w' => e = .returned (.string ⟨(Vz.namesL n).toArray⟩) ∧ Below w.heap.size w w' := by
  have hn : n < 16384 := by have := Vz.mayI_lt hm; omega
  have HM := Lib.hid (rmay_any n (by omega) (by omega) w)
  rw [hm] at HM
  have HW := Lib.hid word_any
  have HBT := Lib.hid (fun x h1 h2 W => rbit_any n x h1 h2 hn W)
  have HF := Lib.hid (fun W => fore_any n hn W)
  have HK := Lib.hid (fun W => back_any n hn W)
  clear hm
  go_enter Tryd.func20, Tryd.ntmps20
  go_wp2_with (go_at_call 11; refine HM.out.mono ?_; rintro e w1 ⟨rfl, rfl⟩)
  go_loopw [3, 4] (fun s i wr => ∃ k q : Nat, k ≤ 6 ∧ i = .int .i64 ((2 ^ k : Nat) : Int) ∧ s = .string (catB n k) ∧ wr = w.drewN q) (fun _ i _ => 64 - (intOf i).toNat)
  case atStart => exact ⟨0, 0, by decide, rfl, rfl, rfl⟩
  case round =>
    obtain ⟨k, q, hk, rfl, rfl, rfl⟩ := hrel
    have hsz := catB_size n k
    by_cases hlt : k < 6
    · have hy := fun h => catB_yes n k h
      have hno := fun h => catB_no n k h
      have hwk := HW.out k hlt
      have hwl := Vz.wordAt_len k
      have hws : (⟨(Vz.wordAt k).toArray⟩ : ByteArray).size ≤ 7 := by show (Vz.wordAt k).toArray.size ≤ 7; simpa using hwl
      generalize (⟨(Vz.wordAt k).toArray⟩ : ByteArray) = wk at hwk hws hy
      generalize hS : catB n k = S at hy hno hsz
      have HWK := Lib.hid hwk
      have HY := Lib.hid hy
      have HNO := Lib.hid hno
      have HSS := Lib.hid hS
      clear hwk hy hno hwl hS
      have hb := HBT.out (2 ^ k) (Nat.two_pow_pos k) (Nat.lt_of_lt_of_le (Nat.pow_lt_pow_right (by decide) hlt) (by decide))
      have hpk : (2 ^ k : Nat) ≤ 32 := Nat.le_trans (Nat.pow_le_pow_right (by decide) (show k ≤ 5 by omega)) (by decide)
      have hpp : (2 ^ (k + 1) : Nat) = 2 * 2 ^ k := by rw [Nat.pow_succ, Nat.mul_comm]
      have hp0 : 0 < 2 ^ k := Nat.two_pow_pos k
      by_cases hd : n / 2 ^ k % 2 = 1
      · rw [decide_eq_true hd] at hb
        have HD := Lib.hid hd
        have HPP := Lib.hid hpp
        clear hd hpp
        generalize hP : 2 ^ k = P at hb hpk hp0
        have HPH := Lib.hid hP
        rw [hP] at HWK
        have HBB := Lib.hid hb
        clear hP hb
        go_wp2_with (first | (go_at_call 25; refine (HBB.out _).mono ?_; rintro e w1 ⟨rfl, rfl⟩) | (go_at_call 30; refine (HWK.out _).mono ?_; rintro e w1 ⟨rfl, rfl⟩))
        exact ⟨⟨k + 1, q, by omega, by rw [HPP.out, HPH.out]; simp, by rw [HY.out HD.out], rfl⟩, by simp [intOf]; omega⟩
      · rw [decide_eq_false hd] at hb
        have HD := Lib.hid hd
        have HPP := Lib.hid hpp
        clear hd hpp
        generalize hP : 2 ^ k = P at hb hpk hp0
        have HPH := Lib.hid hP
        have HBB := Lib.hid hb
        clear hP hb
        go_wp2_with (first | (go_at_call 25; refine (HBB.out _).mono ?_; rintro e w1 ⟨rfl, rfl⟩))
        exact ⟨⟨k + 1, q, by omega, by rw [HPP.out, HPH.out]; simp, by rw [HNO.out HD.out], rfl⟩, by simp [intOf]; omega⟩
    · obtain rfl : k = 6 := by omega
      rw [show ((2 ^ 6 : Nat) : Int) = 64 from rfl]
      have hb := HBT.out 64 (by decide) (by decide)
      have hl : (catB n 6).toList = Vz.catC (Vz.wordsK n 6) := by rw [ByteArray.toList_eq]; unfold catB; simp
      generalize hS : catB n 6 = S at hl hsz
      have HSS := Lib.hid hS
      clear hS HW HBT
      by_cases hc : n / 64 % 2 = 1
      · rw [decide_eq_true hc] at hb
        have HBB := Lib.hid hb
        have HC := Lib.hid hc
        clear hb hc
        generalize hc1 : n / 256 % 8 = c1 at HF
        generalize hc2 : n / 2048 % 8 = c2 at HK
        have z1 : c1 ≤ 7 := by omega
        have z2 : c2 ≤ 7 := by omega
        have HC1 := Lib.hid hc1
        have HC2 := Lib.hid hc2
        clear hc1 hc2
        have v1a : IntKind.i64.wrap (48 + (c1 : Int)) = 48 + (c1 : Int) := IntWalk.i64_in _ (by omega)
        have v1b : IntKind.u8.wrap (48 + (c1 : Int)) = 48 + (c1 : Int) := IntWalk.u8_in _ (by omega)
        have v2a : IntKind.i64.wrap (48 + (c2 : Int)) = 48 + (c2 : Int) := IntWalk.i64_in _ (by omega)
        have v2b : IntKind.u8.wrap (48 + (c2 : Int)) = 48 + (c2 : Int) := IntWalk.u8_in _ (by omega)
        have f1 := conv_row _ _ c1 _ _ (by omega) rfl (row_1 (w.drewN (q + 1)) (.cells #[.int .u8 (48 + (c1 : Int))] 5))
        have f2 := conv_row _ _ c2 _ _ (by omega) rfl (row_1 (w.drewN (q + 1)) (.cells #[.int .u8 (48 + (c2 : Int))] 5))
        have f3 := conv_row _ _ c1 _ _ (by omega) rfl (row_2a (w.drewN (q + 1)) (.cells #[.int .u8 (48 + (c1 : Int))] 5) (.cells #[.int .u8 (48 + (c2 : Int))] 5))
        have f4 := conv_row _ _ c2 _ _ (by omega) rfl (row_2b (w.drewN (q + 1)) (.cells #[.int .u8 (48 + (c1 : Int))] 5) (.cells #[.int .u8 (48 + (c2 : Int))] 5))
        have f5 := conv_row _ _ c2 _ _ (by omega) rfl (row_2a (w.drewN (q + 1)) (.cells #[.int .u8 (48 + (c2 : Int))] 5) (.cells #[.int .u8 (48 + (c1 : Int))] 5))
        have f6 := conv_row _ _ c1 _ _ (by omega) rfl (row_2b (w.drewN (q + 1)) (.cells #[.int .u8 (48 + (c2 : Int))] 5) (.cells #[.int .u8 (48 + (c1 : Int))] 5))
        rw [show (w.drewN (q + 1)).heap = w.heap from rfl] at f1 f2 f3 f4 f5 f6
        have y1 : (⟨(Vz.digitB1 c1).toArray⟩ : ByteArray).size ≤ 1 := Nat.le_refl 1
        have y2 : (⟨(Vz.digitB1 c2).toArray⟩ : ByteArray).size ≤ 1 := Nat.le_refl 1
        generalize hD1 : (⟨(Vz.digitB1 c1).toArray⟩ : ByteArray) = D1 at f1 f3 f6 y1
        generalize hD2 : (⟨(Vz.digitB1 c2).toArray⟩ : ByteArray) = D2 at f2 f4 f5 y2
        have HD1 := Lib.hid hD1
        have HD2 := Lib.hid hD2
        clear hD1 hD2
        go_upto_region 10 with (go_at_call 25; refine (HBB.out _).mono ?_; rintro e w1 ⟨rfl, rfl⟩)
        go_cut [3] (fun s wx => (∃ S' : ByteArray, s = .string S' ∧ S' = S ++ ⟨#[44, 102, 111, 114, 101, 61]⟩ ++ D1 ++ ⟨#[44, 98, 97, 99, 107, 61]⟩ ++ D2) ∧ Below w.heap.size w wx)
        case first =>
          go_region_with (first | (go_at_call 26; refine (HF.out _).mono ?_; rintro e w1 ⟨rfl, rfl⟩) | (go_at_call 27; refine (HK.out _).mono ?_; rintro e w1 ⟨rfl, rfl⟩))
          all_goals (go_wp2_with fail; go_meet; exact ⟨⟨_, rfl, rfl⟩, ((below_drewN' (q + 1)).alloc (Nat.le_refl _) _).alloc (by simp) _⟩)
        case rest =>
          obtain ⟨⟨S', rfl, hS'⟩, hB⟩ := hcut
          have hcl : S'.toList = Vz.catC (Vz.wordsAll n) := by
            have hw : Vz.wordsAll n = Vz.wordsK n 6 ++ [[102, 111, 114, 101, 61] ++ Vz.digitB1 c1] ++ [[98, 97, 99, 107, 61] ++ Vz.digitB1 c2] := by
              unfold Vz.wordsAll
              rw [if_pos HC.out, HC1.out, HC2.out]
              simp
            have hSS := HSS.out
            unfold catB at hSS
            rw [ByteArray.toList_eq, hS', ← HD1.out, ← HD2.out, ← hSS, hw, Vz.catC_snoc, Vz.catC_snoc]
            simp
          have hl0 : S'.toList.isEmpty = false := by
            rw [hcl]
            have hne : Vz.wordsAll n ≠ [] := by unfold Vz.wordsAll; rw [if_pos HC.out]; simp
            have := (not_congr (Vz.catC_nil (Vz.wordsAll n))).2 hne
            simpa using this
          have h1 : 1 ≤ S'.size := by
            rw [Lib.size_eq, ← ByteArray.toList_eq]
            exact List.length_pos_iff.2 (by simpa using hl0)
          have hF : Hid (Vz.namesL n = Vz.joinC (Vz.wordsAll n)) := by
            show _ = _
            unfold Vz.namesL
            rw [if_neg (by unfold Vz.wordsAll; rw [if_pos HC.out]; simp)]
          have HL := Lib.hid hcl
          clear hcl hS'
          go_wp2_with fail
          go_ret
          exact ⟨ret1 (by rw [hF.out, tail_eq S' _ HL.out]; rfl), hB⟩
      · rw [decide_eq_false hc] at hb
        have hF : Hid (Vz.namesL n = if Vz.wordsK n 6 = [] then [112, 108, 97, 105, 110] else Vz.joinC (Vz.wordsK n 6)) := by show _ = _; unfold Vz.namesL Vz.wordsAll; rw [if_neg hc]
        have HBB := Lib.hid hb
        clear hb hc
        by_cases hz : Vz.wordsK n 6 = []
        · rw [if_pos hz] at hF
          rw [hz] at hl
          have hl0 : S.toList.isEmpty = true := by rw [hl]; rfl
          have HZ := Lib.hid hz
          clear hz hl
          go_wp2_with (first | (go_at_call 25; refine (HBB.out _).mono ?_; rintro e w1 ⟨rfl, rfl⟩))
          go_ret
          exact ⟨ret1 (by rw [hF.out]; rfl), below_drewN' q⟩
        · rw [if_neg hz] at hF
          have hne : ¬ (Vz.catC (Vz.wordsK n 6)) = [] := fun e => hz ((Vz.catC_nil _).1 e)
          have h1 : 1 ≤ S.size := by
            rw [Lib.size_eq, ← ByteArray.toList_eq, hl]
            exact List.length_pos_iff.2 hne
          have hl0 : S.toList.isEmpty = false := by rw [hl]; simpa using hne
          have HL := Lib.hid hl
          clear hz hl
          go_wp2_with (first | (go_at_call 25; refine (HBB.out _).mono ?_; rintro e w1 ⟨rfl, rfl⟩))
          go_ret
          exact ⟨ret1 (by rw [hF.out, tail_eq S _ HL.out]; rfl), below_drewN' q⟩
end Go.Proofs.YtdakiocgaihcnaaDoor
