import Derived.Test.YtncgigapgklhcaaGreatDoorAdmLike
import Derived.Test.YtncgigapgklhcaaGreatDoorAdmFew
import Derived.Test.YtncgigapgklhcaaGreatDoorAdFold
import Derived.Test.YtncgigapgklhcaaGreatDoorAdLaws

/- The law AdmFolds, whole: for all sizes and texts it answers true. -/
namespace Go.Proofs.YtncgigapgklhcaaGreatDoor
open Go.RowKit
set_option linter.unusedSimpArgs false
set_option linter.unusedVariables false
attribute [local go_sem] alloc_drewN setCell_drewN World.cell?_alloc_some frozen_alloc_some size_f0 size_f1

theorem xor_fin : ∀ b : Fin 256, bits .xor .u8 ((UInt8.ofNat b.val).toNat : Int) 128 = ((UInt8.ofNat b.val ^^^ 128).toNat : Int) := by decide +kernel
theorem xor_u8 (b : UInt8) : bits .xor .u8 (b.toNat : Int) 128 = ((b ^^^ 128).toNat : Int) := by
  have h := xor_fin ⟨b.toNat, UInt8.toNat_lt b⟩
  have e : UInt8.ofNat b.toNat = b := by simp
  simp only at h
  rw [e] at h
  exact h
set_option maxRecDepth 100000 in
set_option maxHeartbeats 16000000 in
theorem law_afo_main (R C : Nat) (hf : fewS R C = true) (l : List UInt8) (h100 : l.length ≤ 100) (w : World) (hbl : Blanked w) : Calls Tryz.prog 6 #[.agg #[.int .i64 R, .int .i64 C], .string ⟨l.toArray⟩] w fun e w' => e = .returned (.bool true) ∧ Below w.heap.size w w' := by
  have hf' : 1 ≤ (R : Int) ∧ (R : Int) ≤ 6 ∧ 1 ≤ (C : Int) ∧ (C : Int) ≤ 12 := of_decide_eq_true hf
  have hm : Vz.mayS R C = true := (Vz.mayS_iff _ _).2 (by omega)
  have HAW := Lib.hid (fun W (hb : Below w.heap.size w W) => awake_any W (hbl.below hb))
  have HN := Lib.hid (fun W (hb : Below w.heap.size w W) => made_ok R C hm W (hbl.below hb))
  have HFW := Lib.hid (fun W => hf ▸ few_any R C W)
  have hx := heap_alloc_new w (.cells #[.int .i64 R, .int .i64 C] 23)
  have HX0 := Lib.hid hx
  obtain ⟨x0, x1, g0, g1⟩ := row2 hx
  obtain ⟨i0, hi, hz0, hz1, hz2⟩ := info_three infoByte
  have HB0 := Lib.hid (below1 w (.cells #[.int .i64 R, .int .i64 C] 23))
  have h100' : ¬ (100 < (l.length : Int)) := by omega
  clear hbl hx hf hm g0 g1
  go_enter Tryz.func6, Tryz.ntmps6
  go_wp2_with (first
    | (go_at_call 10; refine (HFW.out _).mono ?_; rintro e w1 ⟨rfl, hb1⟩; have HB1 := Lib.hid (Below.later HB0.out hb1 HB0.out.size); have HX1 := Lib.hid ((hb1.block _ (block_lt HX0.out)).trans HX0.out); clear x0 x1; obtain ⟨x0, x1, _⟩ := row2 HX1.out; clear hb1)
    | (go_at_call 12; refine (HN.out _ HB2.out).mono ?_; rintro e w3 ⟨wb, tb, sb, qb, rfl, hmd⟩; have HD3 := Lib.hid (Duo.of_made HM2.out hmd); clear hmd)
    | (go_at_call 12; refine (HN.out _ HB1.out).mono ?_; rintro e w2 ⟨wa, ta, sa, qa, rfl, hmd⟩; have HB2 := Lib.hid (Below.later HB1.out hmd.2.2.2 HB1.out.size); have HX2 := Lib.hid ((hmd.2.2.2.block _ (block_lt HX1.out)).trans HX1.out); clear x0 x1; obtain ⟨x0, x1, _⟩ := row2 HX2.out; have HM2 := Lib.hid hmd; clear hmd))
  clear x0 x1
  go_loopw [7, 8] (fun v i wr => ∃ k : Nat, k ≤ l.length ∧ i = .int .i64 (k : Int) ∧ wr.ownsRow w3.heap.size 5 1 v k (bytesV (highL (l.take k))) ∧ Below w3.heap.size w3 wr) (fun _ i _ => l.length - (intOf i).toNat)
  case atStart => exact ⟨0, Nat.zero_le _, rfl, World.ownsRow_nil _ _ _ _, Below.refl _ _⟩
  case round =>
    obtain ⟨k, hk, rfl, hown, hb⟩ := hrel
    by_cases hlt : k < l.length
    · have hkz : (k : Int) < (l.length : Int) := by omega
      have hzn : k ≠ l.length := by omega
      have hwk : IntKind.i64.wrap ((k : Int) + 1) = ((k + 1 : Nat) : Int) := by rw [wrap_in (by omega) (by omega)]; rfl
      obtain ⟨a0, c0, rfl⟩ := own_value hown
      have HO := Lib.hid hown
      have HB := Lib.hid hb
      have hkm : k + 1 ≤ maxLen := by unfold maxLen; omega
      have HGX : Hid ((⟨l.toArray⟩ : ByteArray)[k]'(by show k < l.toArray.size; simpa using hlt) = l[k]) := by
        show l.toArray[k]'(by simpa using hlt) = _
        simp
      have HTK := Lib.hid (high_take l k hlt)
      clear hown hb
      go_wp2_with (at_builtin; rw [HGX.out, xor_u8]; refine wpList_append_own_at _ rfl _ _ 34 rfl w3.heap.size 5 i0 (.int .u8 0) 1 1 Tryz.underlying34 hi hz0 hz1 hz2 rfl (by decide) _ k _ rfl (HO.out.alloc _) ⟨wr.heap.size, 0, none⟩ 1 1 [.int .u8 (l[k] ^^^ 128).toNat] rfl rfl (cell_one_new wr (.int .u8 (l[k] ^^^ 128).toNat) 5) (by simp [Value.oneCell']) hkm (by omega) (by rw [World.size_alloc]; have := HB.out.size; omega) ?_; intro v' w5 hown' hgrow _ hat; have HOWN := Lib.hid hown'; have HB5 := Lib.hid ((HB.out.alloc HB.out.size _).grown hgrow (by rw [World.size_alloc]; have := HB.out.size; omega) (fun j e => (own_cells HO.out e).1)); clear hown' hgrow hat)
      exact ⟨⟨k + 1, by omega, by go_num, by rw [HTK.out, ← bytesV_snoc]; exact HOWN.out, HB5.out⟩, by simp [intOf]; omega⟩
    · obtain rfl : k = l.length := by omega
      rw [List.take_length] at hown
      obtain ⟨a0, c0, rfl⟩ := own_value hown
      obtain ⟨FA, FB, hd3⟩ := HD3.out
      have HD4 := Lib.hid (hd3.below hb)
      have HLT := Lib.hid hd3.tA.lt
      have HO := Lib.hid hown
      have hl5 : l.length ≤ 100000 := by omega
      have hhl : (highL l).length = l.length := by unfold highL; simp
      obtain ⟨y0, y1, y2, _⟩ := row3 HD4.out.boxA
      clear hown hb hd3
      go_upto_region 13 with (go_at_call 13; refine (term_feed HD4.out.tA l hl5).mono ?_; rintro e w5 ⟨rfl, ht⟩; obtain ⟨⟨F5, hd5, -⟩, hk5⟩ := HD4.out.left ht; have HD5 := Lib.hid hd5; have HK5 := Lib.hid hk5; clear ht hd5 hk5)
      clear y0 y1 y2
      have HO5 : Hid (w5.drew.ownsRow w3.heap.size 5 1 (.slice a0 l.length c0) (highL l).length (bytesV (highL l))) := by
        rw [hhl]
        exact own_kept HO.out fun j hj => HK5.out.block j (own_foot_lt HO.out hj) (fun hf => by have := HLT.out j hf; have := (own_cells HO.out hj).1; omega)
      have HD6 : Hid (Duo w1 w5.drew wa ta sa qa (feedA (newA R C) l) wb tb sb qb (newA R C)) := ⟨F5, FB, HD5.out.below (Below.refl _ _).drew⟩
      refine wp_region_noPanic ?_
      refine wp_region_k (S := fun W : World => Duo w1 W wa ta sa qa (feedA (newA R C) l) wb tb sb qb (newA R C) ∧ W.ownsRow w3.heap.size 5 1 (.slice a0 l.length c0) (highL l).length (bytesV (highL l))) 6 (by kernel_rfl) (⟨HD6.out, HO5.out⟩) (fun hHeld => ?_)
      refine wpAnyK_s (i := 0) (fun _ => hHeld) ?_
      refine wpAnyK_s (i := 1) (fun _ => hHeld) ?_
      refine wpAnyK_s (i := 2) (fun _ => hHeld) ?_
      refine wpAnyK_t (i := 3) (v := ?_) [] rfl (Or.inl ⟨by rfl, ?hy4⟩) hHeld ?_
      case hy4 => (intro W hSw; refine Or.inl ?_; obtain ⟨z0, z1, z2⟩ := hSw.1.swap.cells; have hcv := conv_own hSw.2; go_simp; try with_reducible rfl)
      refine wpAnyK_s (i := 4) (fun _ => hHeld) ?_
      try refine wpAnyK_n ?_
      refine wpAnyK_t (i := 5) (v := ?_) [] rfl (Or.inl ⟨by rfl, ?hy6⟩) hHeld ?_
      case hy6 => (intro W hSw; refine Or.inl ?_; obtain ⟨z0, z1, z2⟩ := hSw.1.swap.cells; have hcv := conv_own hSw.2; go_simp; try with_reducible rfl)
      try refine wpAnyK_n ?_
      refine wpAnyK_ready (rs := [6]) (by kernel_rfl) (by simp) ?_
      refine AllReadyK.free rfl (by kernel_rfl) (fun KQ hKQ => ?_) AllReadyK.nil
      go_simp
      go_at_call 13
      refine (duo_feed hHeld.1.swap (highL l) (by rw [hhl]; exact hl5)).mono ?_
      rintro e w7 ⟨rfl, hd⟩
      rw [feed_high] at hd
      have HD7 := Lib.hid hd.swap
      clear hd
      go_wp2_with fail
      refine hKQ.out _ _ ?_
      clear hKQ KQ
      try refine wpAnyK_n ?_
      refine wpAnyK_done (by kernel_rfl) ?_ _
      refine NoPanic.normal ?_
      clear hHeld
      have hok := AllD.feed l (AllD.new R C)
      generalize feedA (newA R C) l = A2 at hok HD7
      have HOK := Lib.hid hok
      obtain ⟨m1, m2, m3, m4⟩ := (duo_may HD7.out).1
      clear hok
      go_wp2_with (first
        | (go_at_call 22; refine (like_same HD7.out).mono ?_; rintro e w8 ⟨rfl, hd⟩; have HD8 := Lib.hid hd; obtain ⟨z0, z1, z2⟩ := hd.cells; clear hd)
        | (go_at_call 23; refine (duo_rows HD8.out).mono ?_; rintro e w9 ⟨OB, G, K, rfl, hr, hb9⟩; have HR9 := Lib.hid hr; have HB9 := Lib.hid (Below.later HB1.out (HD8.out.below hb9).belowW HB1.out.size); clear hr hb9))
      clear z0 z1 z2
      have HRA := Lib.hid (fun W (hb : Below w9.heap.size w9 W) => HR9.out.below hb)
      have HBR0 : Hid (Below w9.heap.size w9 w9) := Below.refl _ _
      go_loopw [10] (fun i wr => ∃ k : Nat, k ≤ A2.S.D.R ∧ i = .int .i64 (k : Int) ∧ Below w9.heap.size w9 wr) (fun i _ => A2.S.D.R - (intOf i).toNat)
      case atStart => exact ⟨0, Nat.zero_le _, rfl, HBR0.out⟩
      case round =>
        obtain ⟨k, hk, rfl, hbr⟩ := hrel
        have HBR := Lib.hid hbr
        clear hbr
        by_cases hlt : k < A2.S.D.R
        · have hkz : (k : Int) < (A2.S.D.R : Int) := by omega
          have hwk : IntKind.i64.wrap ((k : Int) + 1) = ((k + 1 : Nat) : Int) := by rw [wrap_in (by omega) (by omega)]; rfl
          have hC0 : 0 < A2.S.D.C := by omega
          go_wp2_with fail
          go_loopw [11] (fun j wr => ∃ q : Nat, q ≤ A2.S.D.C ∧ j = .int .i64 (q : Int) ∧ Below w9.heap.size w9 wr) (fun j _ => A2.S.D.C - (intOf j).toNat)
          case atStart => exact ⟨0, Nat.zero_le _, rfl, HBR.out⟩
          case round =>
            obtain ⟨q, hq, rfl, hbr2⟩ := hrel
            have HBR2 := Lib.hid hbr2
            obtain ⟨g0, _⟩ := (HRA.out _ hbr2).cell4 hlt hC0
            by_cases hlq : q < A2.S.D.C
            · have hqz : (q : Int) < (A2.S.D.C : Int) := by omega
              have hwq : IntKind.i64.wrap ((q : Int) + 1) = ((q + 1 : Nat) : Int) := by rw [wrap_in (by omega) (by omega)]; rfl
              obtain ⟨_, g1, _⟩ := (HRA.out _ hbr2).cell4 hlt hlq
              obtain ⟨o1, o2, o3⟩ := HOK.out k q
              have o1' : ¬ (A2.S.D.X k q).g < 32 := by omega
              have o2' : ¬ 126 < (A2.S.D.X k q).g := by omega
              clear hbr2
              by_cases o4 : 97 ≤ (A2.S.D.X k q).g
              · have o5 : ¬ (A2.S.D.X k q).g ≤ 122 := fun e => o3 ⟨o4, e⟩
                clear o3
                go_wp2_with fail
                exact ⟨⟨q + 1, by omega, rfl, HBR2.out⟩, by simp [intOf]; omega⟩
              · clear o3
                go_wp2_with fail
                exact ⟨⟨q + 1, by omega, rfl, HBR2.out⟩, by simp [intOf]; omega⟩
            · obtain rfl : q = A2.S.D.C := by omega
              clear hbr2
              go_wp2_with fail
              exact ⟨⟨k + 1, by omega, rfl, HBR2.out⟩, by simp [intOf]; omega⟩
        · obtain rfl : k = A2.S.D.R := by omega
          have HBW := Lib.hid (Below.later HB9.out HBR.out HB9.out.size)
          go_wp2_with (go_at_call 11; refine (HAW.out _ HBW.out).mono ?_; rintro e wz ⟨rfl, hbz⟩; have HBZ := Lib.hid (Below.later HBW.out hbz HBW.out.size); clear hbz)
          go_ret
          exact ⟨rfl, HBZ.out⟩
/-- What is not asked: only the chapter's example. -/
theorem law_afo_no (r c : Int) (s : ByteArray) (w : World) (hbl : Blanked w) (h : fewS r c = false ∨ (fewS r c = true ∧ 100 < s.size)) : Calls Tryz.prog 6 #[.agg #[.int .i64 r, .int .i64 c], .string s] w fun e w' => e = .returned (.bool true) ∧ Below w.heap.size w w' := by
  have HAW := Lib.hid (fun W (hb : Below w.heap.size w W) => awake_any W (hbl.below hb))
  have HFW := Lib.hid (fun W => few_any r c W)
  obtain ⟨x0, x1, g0, g1⟩ := row2 (heap_alloc_new w (.cells #[.int .i64 r, .int .i64 c] 23))
  have HB0 := Lib.hid (below1 w (.cells #[.int .i64 r, .int .i64 c] 23))
  clear hbl
  rcases h with h | ⟨h, h2⟩
  · rw [h] at HFW
    go_enter Tryz.func6, Tryz.ntmps6
    go_wp2_with (first
      | (go_at_call 10; refine (HFW.out _).mono ?_; rintro e w1 ⟨rfl, hb1⟩; have HB1 := Lib.hid (Below.later HB0.out hb1 HB0.out.size); clear hb1)
      | (go_at_call 11; refine (HAW.out _ HB1.out).mono ?_; rintro e w9 ⟨rfl, hb9⟩; have HB9 := Lib.hid (Below.later HB1.out hb9 HB1.out.size); clear hb9))
    go_ret
    exact ⟨rfl, HB9.out⟩
  · rw [h] at HFW
    have h2' : 100 < (s.size : Int) := by omega
    go_enter Tryz.func6, Tryz.ntmps6
    go_wp2_with (first
      | (go_at_call 10; refine (HFW.out _).mono ?_; rintro e w1 ⟨rfl, hb1⟩; have HB1 := Lib.hid (Below.later HB0.out hb1 HB0.out.size); clear hb1)
      | (go_at_call 11; refine (HAW.out _ HB1.out).mono ?_; rintro e w9 ⟨rfl, hb9⟩; have HB9 := Lib.hid (Below.later HB1.out hb9 HB1.out.size); clear hb9))
    go_ret
    exact ⟨rfl, HB9.out⟩
theorem law_afo (r c : Int) (s : ByteArray) (w : World) (hbl : Blanked w) : Calls Tryz.prog 6 #[.agg #[.int .i64 r, .int .i64 c], .string s] w fun e w' => e = .returned (.bool true) ∧ Below w.heap.size w w' := by
  cases hf : fewS r c with
  | false => exact law_afo_no r c s w hbl (.inl hf)
  | true =>
    by_cases hm : 100 < s.size
    · exact law_afo_no r c s w hbl (.inr ⟨hf, hm⟩)
    · have hf' : 1 ≤ r ∧ r ≤ 6 ∧ 1 ≤ c ∧ c ≤ 12 := of_decide_eq_true hf
      obtain ⟨R, rfl⟩ := Int.eq_ofNat_of_zero_le (show 0 ≤ r by omega)
      obtain ⟨C, rfl⟩ := Int.eq_ofNat_of_zero_le (show 0 ≤ c by omega)
      have hs : s = (⟨s.data.toList.toArray⟩ : ByteArray) := by cases s; simp
      have hz : s.data.toList.length = s.size := rfl
      rw [hs]
      exact law_afo_main R C hf s.data.toList (by omega) w hbl
end Go.Proofs.YtncgigapgklhcaaGreatDoor
