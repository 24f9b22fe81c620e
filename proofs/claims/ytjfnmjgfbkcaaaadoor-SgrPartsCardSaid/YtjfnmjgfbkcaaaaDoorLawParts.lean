/- Walk: SgrParts of vizardlaw13. -/
import Derived.Test.YtjfnmjgfbkcaaaaDoorLawSgrBack
import Derived.Deep.RegionWith
import Derived.Deep.DeepCutAuto
namespace Go.Proofs.YtjfnmjgfbkcaaaaDoor
open Go.RowKit

theorem Ints.take {B : Nat} {W : World} {b o n : Nat} {l : List Int} (h : Ints B W (some ⟨b, o, none⟩) n l) (k : Nat) (hk : k ≤ n) : Ints B W (some ⟨b, o, none⟩) k (l.take k) := by
  refine ⟨by rw [List.length_take]; have := h.1; omega, fun h0 => ?_⟩
  obtain ⟨b', o', e, hb, hc⟩ := h.2 (by omega)
  cases e
  refine ⟨_, _, rfl, hb, fun i hi => ?_⟩
  rw [hc i (by omega)]
  simp [List.getElem?_take, hi]
theorem Ints.drop {B : Nat} {W : World} {b o n : Nat} {l : List Int} (h : Ints B W (some ⟨b, o, none⟩) n l) (k : Nat) (hk : k ≤ n) : Ints B W (some ⟨b, o + k, none⟩) (n - k) (l.drop k) := by
  refine ⟨by rw [List.length_drop]; have := h.1; omega, fun h0 => ?_⟩
  obtain ⟨b', o', e, hb, hc⟩ := h.2 (by omega)
  cases e
  refine ⟨_, _, rfl, hb, fun i hi => ?_⟩
  rw [show o + k + i = o + (k + i) by omega, hc (k + i) (by omega)]
  simp [List.getElem?_drop]

set_option maxRecDepth 100000 in
set_option maxHeartbeats 8000000 in
theorem law_parts (a : Int) (A : Option Addr) (m c : Nat) (zs : List Int) (at_ : Int) (w : World) (h : IsRow .i64 w A m c zs) :
    Calls Tryd.prog 5 #[.int .i64 a, .slice A m c, .int .i64 at_] w fun e w' => e = .returned (.bool true) ∧ Below w.heap.size w w' := by
  have HW := Lib.hid awake_any
  by_cases hout : 100 < m ∨ at_ < 1 ∨ (m : Int) ≤ at_
  · clear h
    rcases (by omega : 100 < m ∨ (m ≤ 100 ∧ at_ < 1) ∨ (m ≤ 100 ∧ 1 ≤ at_ ∧ (m : Int) ≤ at_)) with h | ⟨h, h'⟩ | ⟨h, h', h''⟩
    all_goals
      clear hout
      go_enter Tryd.func5, Tryd.ntmps5
      go_wp2_with fail
      refine (HW.out _).mono ?_
      rintro e w4 ⟨rfl, hb4⟩
      go_wp2_with fail
      go_ret
      exact ⟨rfl, hb4⟩
  obtain ⟨k, rfl⟩ := Int.eq_ofNat_of_zero_le (by omega : 0 ≤ at_)
  have hk1 : 1 ≤ k := by omega
  have hkm : k < m := by omega
  have hm : m ≤ 100 := by omega
  clear hout
  have hlen := h.len
  have hmc := hlen.1
  have HI := Lib.hid h.ints
  clear h hlen
  generalize zs.take m = L at HI
  obtain ⟨b, o, rfl, -⟩ := HI.out.at_ hkm
  have HA := Lib.hid apply_any
  have hL := HI.out.1
  have HAP := Lib.hid (apply_append a (L.take k) (L.drop k) (by intro e; have := congrArg List.length e; rw [List.length_take, List.length_nil] at this; omega) (by intro e; have := congrArg List.length e; rw [List.length_drop, List.length_nil] at this; omega))
  rw [List.take_append_drop] at HAP
  have HZ := Lib.hid (apply_zero a L)
  generalize hr : applyN a L = r at HAP HZ
  have HRR := Lib.hid hr
  have HLL := Lib.hid hL
  clear hr hL
  go_enter Tryd.func5, Tryd.ntmps5
  go_wp2_with fail
  refine (HA.out w.heap.size a _ m c L (by omega) _ HI.out (Nat.le_refl _)).mono ?_
  rintro e w1 ⟨rfl, hb1⟩
  rw [HRR.out]
  have hH1 : ∀ W, Below w.heap.size w W → Calls Tryd.prog 13 #[.int .i64 a, .slice (some ⟨b, o, none⟩) k c] W fun e w' => e = .returned (.int .i64 (applyN a (L.take k))) ∧ Below W.heap.size W w' :=
    fun W hW => HA.out w.heap.size a _ k c _ (by omega) W ((HI.out.take k (by omega)).below hW (Nat.le_refl _)) hW.size
  have hH2 : ∀ W, Below w.heap.size w W → Calls Tryd.prog 13 #[.int .i64 (applyN a (L.take k) : Nat), .slice (some ⟨b, o + k, none⟩) (m - k) (c - k)] W fun e w' => e = .returned (.int .i64 r) ∧ Below W.heap.size W w' :=
    fun W hW => by rw [← HAP.out]; exact HA.out w.heap.size _ _ (m - k) (c - k) _ (by omega) W ((HI.out.drop k (by omega)).below hW (Nat.le_refl _)) hW.size
  generalize applyN a (L.take k) = r1 at hH1 hH2 HAP
  have H1 := Lib.hid hH1
  have H2 := Lib.hid hH2
  have hflag := Lib.hid trivial
  have hne : ¬ c = k := by omega
  clear hH1 hH2
  go_upto_region 4 with fail
  go_cut [8] from 28 to 36 (fun s wx => s = .int .i64 r ∧ Below w.heap.size w wx)
  case first =>
    go_region_with (go_at_call 13; first | (clear hflag; refine (H1.out _ (below_drewN hb1 _)).mono ?_; rintro e w2 ⟨rfl, hb2⟩) | (refine (H2.out _ (below_join (below_drewN hb1 _) hb2)).mono ?_; rintro e w3 ⟨rfl, hb3⟩))
    all_goals (go_wp2_with fail; go_meet; exact ⟨rfl, below_join (below_join (below_drewN hb1 _) hb2) hb3⟩)
  case rest =>
    obtain ⟨rfl, hb2⟩ := hcut
    clear H1 H2 hflag HAP
    go_wp2_with fail
    have HI2 := Lib.hid (HI.out.below hb2 (Nat.le_refl _))
    go_loopw [9, 10] (fun f i wr => ∃ j g : Nat, j ≤ m ∧ i = .int .i64 j ∧ f = .int .i64 g ∧ (g = m ∨ (g < m ∧ L[g]?.getD 0 = 0)) ∧ wr = wc) (fun _ i _ => m - (intOf i).toNat)
    case atStart => exact ⟨0, m, Nat.zero_le _, rfl, rfl, .inl rfl, rfl⟩
    case round =>
      obtain ⟨j, g, hj, rfl, rfl, hg, rfl⟩ := hrel
      have HG := Lib.hid hg
      by_cases hlt : j < m
      · obtain ⟨b', o', e', hc⟩ := HI2.out.at_ hlt
        cases e'
        clear hg
        by_cases hz : L[j]?.getD 0 = 0
        · rw [hz] at hc
          have HZ0 := Lib.hid hz
          clear hz
          go_wp2
          exact ⟨⟨j + 1, j, by omega, by go_num, rfl, .inr ⟨hlt, HZ0.out⟩, trivial⟩, by simp [intOf]; omega⟩
        · have hz' : (L[j]?.getD 0 == 0) = false := by simp [hz]
          generalize L[j]?.getD 0 = y at hz' hc
          clear hz
          go_wp2
          exact ⟨⟨j + 1, g, by omega, by go_num, rfl, HG.out, trivial⟩, by simp [intOf]; omega⟩
      · obtain rfl : j = m := by omega
        rcases hg with rfl | ⟨hg1, hg2⟩
        · go_wp2_with fail
          refine (HW.out _).mono ?_
          rintro e w6 ⟨rfl, hb6⟩
          go_wp2_with fail
          go_ret
          exact ⟨rfl, below_join hb2 hb6⟩
        · have HZ1 := Lib.hid (HZ.out g (by have := HLL.out; omega) hg2)
          have HI3 := Lib.hid (HI2.out.drop g (by omega))
          have hne2 : ¬ c = g := by omega
          clear hg2 HG
          go_wp2_with fail
          refine (HA.out w.heap.size 0 _ _ _ _ (by omega) _ HI3.out hb2.size).mono ?_
          rintro e w5 ⟨rfl, hb5⟩
          rw [HZ1.out]
          go_wp2_with fail
          refine (HW.out _).mono ?_
          rintro e w6 ⟨rfl, hb6⟩
          go_wp2_with fail
          go_ret
          exact ⟨rfl, below_join (below_join hb2 hb5) hb6⟩
end Go.Proofs.YtjfnmjgfbkcaaaaDoor
