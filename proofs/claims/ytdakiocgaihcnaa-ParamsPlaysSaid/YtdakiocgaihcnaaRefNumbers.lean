/- Walks: vizardref10.Numbers. -/
import Derived.Test.YtdakiocgaihcnaaInts
import Derived.Maps.AppendAt
namespace Go.Proofs.Ytdakiocgaihcnaa
open Go.RowKit

theorem ownsRow_base {W : World} {base : Nat} {e : TypeId} {size : Nat} {v : Value} {k : Nat} {xs : List Value} (h : W.ownsRow base e size v k xs) {j : Nat} (e' : v.ownBlock = some j) : base ≤ j := by
  rcases h.2 with ⟨rfl, _⟩ | ⟨g, cap, cur, rfl, hb, _, _⟩
  · simp [Value.ownBlock] at e'
  · obtain rfl : g = j := by simpa [Value.ownBlock] using e'
    exact hb

set_option maxHeartbeats 2000000 in
theorem refNumbers_any (s : ByteArray) (hs : s.size ≤ 4000000) (w : World) :
    Calls Try.prog 11 #[.string s] w fun e W' => ∃ v, e = .returned (.tuple #[v, .bool (Vz.numbers s.data.toList).2]) ∧
      W'.ownsRow w.heap.size 3 1 v (Vz.numbers s.data.toList).1.length ((Vz.numbers s.data.toList).1.map (Value.int .i64)) ∧ Below w.heap.size w W' := by
  rw [← Vz.refNumbers_eq]
  obtain ⟨i0, hi, hz0, hz1, hz2⟩ := info_parts infoInt
  go_enter Try.func11, Try.ntmps11
  go_wp2
  go_loopw [4, 5, 6] (fun v n i wr => ∃ (k : Nat) (m : Int) (out : List Int), k ≤ s.size ∧ i = .int .i64 k ∧ n = .int .i64 m ∧ -1 ≤ m ∧ m ≤ 9999 ∧ out.length ≤ k ∧ wr.ownsRow w.heap.size 3 1 v out.length (out.map (Value.int .i64)) ∧ Vz.refGo s.data.toList (-1) [] = Vz.refGo (s.data.toList.drop k) m out ∧ Below w.heap.size w wr)
    (fun _ _ i _ => s.size - (intOf i).toNat)
  case atStart => exact ⟨0, -1, [], Nat.zero_le _, rfl, rfl, by omega, by omega, by simp, World.ownsRow_nil _ _ _ _, rfl, Below.refl _ _⟩
  case round =>
    obtain ⟨k, m, out, hk, rfl, rfl, hm0, hm1, ho, hown, hg, hB⟩ := hrel
    have HG := Lib.hid hg
    clear hg
    obtain ⟨A, c, hv⟩ := ownsRow_slice hown
    have HV := Lib.hid hv
    clear hv
    by_cases hlt : k < s.size
    · have HST := Lib.hid (Vz.refGo_step m out s k hlt)
      have hmx : out.length + 1 ≤ maxLen := by unfold maxLen; omega
      by_cases hc : s[k] = 59
      · have hcb : ((s[k].toNat : Int) == 59) = true := by rw [hc]; rfl
        have HC := Lib.hid hc
        clear hc
        go_wp2_with (at_builtin; refine wpList_append_own _ rfl _ _ 23 rfl w.heap.size 3 i0 (.int .i64 0) 1 8 Try.underlying23 hi hz0 hz1 hz2 rfl (by decide) _ _ _ rfl (hown.alloc _) ⟨wr.heap.size, 0, none⟩ 1 1 [.int .i64 m] rfl rfl (cell_one_new _ _ _) (by simp [Value.oneCell']) (by omega) (by omega) (by have := hB.size; simp; omega) ?_; intro v' w1 hown' hgrow _)
        exact ⟨⟨k + 1, -1, out ++ [m], by omega, by go_num, rfl, by omega, by omega, by simp; omega, by simpa using hown', by rw [HG.out, HST.out, HC.out]; rfl, (hB.alloc hB.size _).grown hgrow (by have := hB.size; simp; omega) (fun j e => ownsRow_base hown e)⟩, by simp [intOf]; omega⟩
      · have hcb : ((s[k].toNat : Int) == 59) = false := by
          rw [beq_eq_false_iff_ne]; intro e; exact hc (UInt8.toNat_inj.1 (by simpa using (by omega : s[k].toNat = 59)))
        have HC := Lib.hid hc
        clear hc
        by_cases hd : (s[k].toNat : Int) < 48 ∨ 57 < (s[k].toNat : Int)
        · have e : Vz.refNumbers s.data.toList = ([], false) := by
            unfold Vz.refNumbers; rw [HG.out, HST.out, if_neg (by simpa using HC.out), if_pos hd]
          have E := Lib.hid e
          clear e
          go_wp2
          all_goals
            go_ret2
            refine ⟨.slice none 0 0, ret_tup2 rfl (by rw [E.out]; rfl), ?_, hB⟩
            rw [E.out]
            exact World.ownsRow_nil _ _ _ _
        · have hd1 : (48 : Int) ≤ (s[k].toNat : Int) := by omega
          have hd2 : (s[k].toNat : Int) ≤ 57 := by omega
          have hcd : Vz.capd (10 * max m 0 + ((s[k].toNat : Int) - 48)) = min (10 * max m 0 + ((s[k].toNat : Int) - 48)) 9999 := by unfold Vz.capd; split <;> omega
          have HD := Lib.hid hcd
          clear hcd
          have hx0 : 0 ≤ max m 0 := by omega
          have hx1 : max m 0 ≤ 9999 := by omega
          go_wp2
          exact ⟨⟨k + 1, min (10 * max m 0 + ((s[k].toNat : Int) - 48)) 9999, out, by omega, by go_num, rfl, by omega, by omega, by omega, hown, by rw [HG.out, HST.out, if_neg (by simpa using HC.out), if_neg hd, HD.out], hB⟩, by simp [intOf]; omega⟩
    · obtain rfl : k = s.size := by omega
      by_cases hz : 0 < s.size
      · have e : Vz.refNumbers s.data.toList = (out ++ [m], true) := by
          have hne : ¬ s.data.toList = [] := fun h => by have := Lib.size_eq s; rw [h, List.length_nil] at this; omega
          unfold Vz.refNumbers; rw [HG.out, List.drop_of_length_le (by rw [Lib.size_eq]; exact Nat.le_refl _)]; simp [Vz.refGo, hne]
        have E := Lib.hid e
        clear e
        have hmx : out.length + 1 ≤ maxLen := by unfold maxLen; omega
        go_wp2_with (at_builtin; refine wpList_append_own _ rfl _ _ 23 rfl w.heap.size 3 i0 (.int .i64 0) 1 8 Try.underlying23 hi hz0 hz1 hz2 rfl (by decide) _ _ _ rfl (hown.alloc _) ⟨wr.heap.size, 0, none⟩ 1 1 [.int .i64 m] rfl rfl (cell_one_new _ _ _) (by simp [Value.oneCell']) (by omega) (by omega) (by have := hB.size; simp; omega) ?_; intro v' w1 hown' hgrow _)
        go_ret2
        refine ⟨v', ret_tup2 rfl (by rw [E.out]; rfl), ?_, (hB.alloc hB.size _).grown hgrow (by have := hB.size; simp; omega) (fun j e => ownsRow_base hown e)⟩
        rw [E.out]
        simpa using hown'
      · have e : Vz.refNumbers s.data.toList = (out, true) := by
          have hne : s.data.toList = [] := List.eq_nil_of_length_eq_zero (by have := Lib.size_eq s; omega)
          unfold Vz.refNumbers; rw [HG.out, List.drop_of_length_le (by rw [Lib.size_eq]; exact Nat.le_refl _)]; simp [Vz.refGo, hne]
        have E := Lib.hid e
        clear e
        go_wp2
        go_ret2
        refine ⟨_, ret_tup2 rfl (by rw [E.out]; rfl), ?_, hB⟩
        rw [E.out]
        exact hown
end Go.Proofs.Ytdakiocgaihcnaa
