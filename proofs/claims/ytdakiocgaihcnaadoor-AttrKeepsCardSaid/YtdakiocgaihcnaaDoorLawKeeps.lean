/- The walk of AttrKeeps. -/
import Derived.Test.YtdakiocgaihcnaaDoorKeepsB
namespace Go.Proofs.YtdakiocgaihcnaaDoor
open Go.RowKit

set_option maxRecDepth 100000 in
set_option maxHeartbeats 4000000 in
theorem law_keeps (p a : Int) (h1 : -9223372036854775808 ≤ a) (h2 : a < 9223372036854775808) (w : World) (t : TypeId) (fr : Nat × Nat) (hg : w.heap[0]? = some (.cells names12a t fr)) :
    Calls Tryd.prog 5 #[.int .i64 p, .int .i64 a] w fun e w' => e = .returned (.bool true) ∧ Below w.heap.size w w' := by
  have hglt : 0 < w.heap.size := (Array.getElem?_eq_some_iff.1 hg).1
  have HG := Lib.hid hg
  have HGL := Lib.hid hglt
  have HR := Lib.hid (rmay_any a h1 h2 w)
  have HRM := Lib.hid (fun W => rmask_any p W)
  have HK := Lib.hid (fun W => mask_any p W)
  have hlen := bitsL_len p
  have hb := bits_sum_le p
  have HAS := Lib.hid (addK_sum p)
  have hmm : ∃ m : Bool, Vz.mayI a = m := ⟨_, rfl⟩
  obtain ⟨m, hmm⟩ := hmm
  have HMM := Lib.hid hmm
  have HM : Hid (Calls Tryd.prog 15 #[.int .i64 a] w fun e w' => e = .returned (.int .i64 (if m = true then 0 else 1)) ∧ w = w') := by
    cases m
    · exact may_no a h2 hmm w
    · obtain ⟨ha, _⟩ := Vz.mayI_lt hmm
      obtain ⟨n, rfl⟩ := Int.eq_ofNat_of_zero_le ha
      exact may_yes n (by omega) hmm w
  have HKP : Hid (∀ W, Calls Tryd.prog 19 #[.int .i64 p, .int .i64 a] W fun e w' => e = .returned (.int .i64 (if m = true then ((a.toNat &&& (bitsL p).sum : Nat) : Int) else 0)) ∧ W = w') := by
    intro W
    cases m
    · exact keep_no p a h2 hmm W
    · obtain ⟨ha, _⟩ := Vz.mayI_lt hmm
      obtain ⟨n, rfl⟩ := Int.eq_ofNat_of_zero_le ha
      exact keep_yes p n hmm W
  rw [hmm] at HR
  clear hg hglt hmm h1 h2
  cases m
  · simp only [Bool.false_eq_true, if_false] at HM HKP
    go_enter Tryd.func5, Tryd.ntmps5
    go_wp2_with (first
      | (go_at_call 11; refine HR.out.mono ?_; rintro e w1 ⟨rfl, rfl⟩)
      | (go_at_call 15; refine HM.out.mono ?_; rintro e w1 ⟨rfl, rfl⟩)
      | (go_at_call 16; refine (HRM.out _).mono ?_; rintro e w1 ⟨A, c, rfl, hI, hB1⟩))
    go_loopw [6, 8] (fun s i wr => ∃ k q : Nat, k ≤ (bitsL p).length ∧ i = .int .i64 k ∧ s = .int .i64 (addK (bitsL p) k : Nat) ∧ wr = w1.drewN q) (fun _ i _ => (bitsL p).length - (intOf i).toNat)
    case atStart => exact ⟨0, 0, Nat.zero_le _, rfl, rfl, rfl⟩
    case round =>
      obtain ⟨k, q, hk, rfl, rfl, rfl⟩ := hrel
      have hle := addK_bits p k hk
      by_cases hlt : k < (bitsL p).length
      · obtain ⟨b, o, rfl, hc⟩ := hI.at_ hlt
        obtain ⟨hx1, hx2⟩ := bitsL_at p k hlt
        rw [intsL_at] at hc
        have HS : Hid (addK (bitsL p) (k + 1) = addK (bitsL p) k + (bitsL p)[k]?.getD 0) := rfl
        have HN := Lib.hid hI
        clear hI
        generalize hx : (bitsL p)[k]?.getD 0 = x at hc hx1 hx2 HS
        generalize hs : addK (bitsL p) k = S at hle HS
        have HX := Lib.hid hx
        have HSS := Lib.hid hs
        clear hx hs
        go_wp2
        exact ⟨⟨k + 1, q, by omega, by go_num, by rw [HS.out]; go_num, rfl⟩, by simp [intOf]; omega⟩
      · obtain rfl : k = (bitsL p).length := by omega
        rw [HAS.out]
        have HWA := Lib.hid (awake_any (w1.drewN q) t fr (hB1.block 0 HGL.out |>.trans HG.out))
        go_wp2_with (first
          | (go_at_call 18; refine (HK.out _).mono ?_; rintro e w2 ⟨rfl, rfl⟩)
          | (go_at_call 19; refine (HKP.out _).mono ?_; rintro e w2 ⟨rfl, rfl⟩)
          | (go_at_call 12; refine HWA.out.mono ?_; rintro e w2 ⟨rfl, hB2⟩))
        go_ret
        exact ⟨rfl, below_join (below_drewN hB1 q) hB2⟩
  · obtain ⟨ha0, ha1⟩ := Vz.mayI_lt HMM.out
    obtain ⟨n, rfl⟩ := Int.eq_ofNat_of_zero_le ha0
    have hn : n < 16384 := by omega
    have HSM := Lib.hid (fun (B : Nat) (A : Option Addr) (c : Nat) (W : World) (h : Ints B W A (bitsL p).length (intsL p)) => rsum_any B A c p n hn W h)
    have HSL := Lib.hid (sumK_land p n hn)
    simp only [if_true, Int.toNat_natCast] at HM HKP
    go_enter Tryd.func5, Tryd.ntmps5
    go_wp2_with (first
      | (go_at_call 11; refine HR.out.mono ?_; rintro e w1 ⟨rfl, rfl⟩)
      | (go_at_call 15; refine HM.out.mono ?_; rintro e w1 ⟨rfl, rfl⟩)
      | (go_at_call 16; refine (HRM.out _).mono ?_; rintro e w1 ⟨A, c, rfl, hI, hB1⟩))
    go_loopw [6, 8] (fun s i wr => ∃ k q : Nat, k ≤ (bitsL p).length ∧ i = .int .i64 k ∧ s = .int .i64 (addK (bitsL p) k : Nat) ∧ wr = w1.drewN q) (fun _ i _ => (bitsL p).length - (intOf i).toNat)
    case atStart => exact ⟨0, 0, Nat.zero_le _, rfl, rfl, rfl⟩
    case round =>
      obtain ⟨k, q, hk, rfl, rfl, rfl⟩ := hrel
      have hle := addK_bits p k hk
      by_cases hlt : k < (bitsL p).length
      · obtain ⟨b, o, rfl, hc⟩ := hI.at_ hlt
        obtain ⟨hx1, hx2⟩ := bitsL_at p k hlt
        rw [intsL_at] at hc
        have HS : Hid (addK (bitsL p) (k + 1) = addK (bitsL p) k + (bitsL p)[k]?.getD 0) := rfl
        have HN := Lib.hid hI
        clear hI
        generalize hx : (bitsL p)[k]?.getD 0 = x at hc hx1 hx2 HS
        generalize hs : addK (bitsL p) k = S at hle HS
        have HX := Lib.hid hx
        have HSS := Lib.hid hs
        clear hx hs
        go_wp2
        exact ⟨⟨k + 1, q, by omega, by go_num, by rw [HS.out]; go_num, rfl⟩, by simp [intOf]; omega⟩
      · obtain rfl : k = (bitsL p).length := by omega
        rw [HAS.out]
        have HWA := Lib.hid (awake_any (w1.drewN q) t fr (hB1.block 0 HGL.out |>.trans HG.out))
        have HSU := Lib.hid (HSM.out w1.heap.size A c (w1.drewN q) hI)
        rw [HSL.out] at HSU
        have hand := Nat.and_le_left (n := n) (m := (bitsL p).sum)
        clear HSL HSM hI
        generalize (n &&& (bitsL p).sum) = z at HSU HKP hand
        go_wp2_with (first
          | (go_at_call 17; refine HSU.out.mono ?_; rintro e w3 ⟨rfl, hB3⟩))
        have hlt0 : 0 < w1.heap.size := Nat.lt_of_lt_of_le HGL.out hB1.size
        have hg3 : w3.heap[0]? = some (.cells names12a t fr) := (hB3.block 0 hlt0).trans ((hB1.block 0 HGL.out).trans HG.out)
        have HWB := Lib.hid (awake_any w3 t fr hg3)
        clear hg3 hlt0
        refine (HK.out _).mono ?_
        rintro e w2 ⟨rfl, rfl⟩
        go_wp2_with (first
          | (go_at_call 19; refine (HKP.out _).mono ?_; rintro e w2 ⟨rfl, rfl⟩)
          | (go_at_call 12; refine HWB.out.mono ?_; rintro e w2 ⟨rfl, hB2⟩))
        go_ret
        exact ⟨rfl, below_join (below_join (below_drewN hB1 q) hB3) hB2⟩
end Go.Proofs.YtdakiocgaihcnaaDoor
