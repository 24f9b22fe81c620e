/- Walks: vizardref03.Names of what may not be, vizardref03.Parse. -/
import Derived.Test.YtdakiocgaihcnaaDoorParseB
import Derived.Test.YtdakiocgaihcnaaDoorLawApart
namespace Go.Proofs.YtdakiocgaihcnaaDoor
open Go.RowKit

theorem rnames_no (a : Int) (h1 : -9223372036854775808 ≤ a) (h2 : a < 9223372036854775808) (hm : Vz.mayI a = false) (w : World) :
    Calls Tryd.prog 20 #[.int .i64 a] w fun e w' => e = .returned (.string ⟨#[]⟩) ∧ w = w' := by
  have HM := Lib.hid (rmay_any a h1 h2 w)
  rw [hm] at HM
  clear h1 h2 hm
  go_enter Tryd.func20, Tryd.ntmps20
  go_wp2_with (go_at_call 11; refine HM.out.mono ?_; rintro e w1 ⟨rfl, rfl⟩)
  go_ret
  exact ⟨rfl, rfl⟩

/-- What the reference's Parse says of a text. -/
def Found (l : List UInt8) (r : Int) : Prop := (∃ n : Nat, Vz.mayI n = true ∧ Vz.namesL n = l ∧ r = n) ∨ (r = -1 ∧ ∀ n : Nat, Vz.mayI n = true → Vz.namesL n ≠ l)

theorem parseR_found {l : List UInt8} {r : Int} (h : Found l r) : (0 ≤ r ∧ parseR l = .tuple #[.int .i64 r, .int .i64 0]) ∨ (r = -1 ∧ parseR l = .tuple #[.int .i64 0, .int .i64 14]) := by
  unfold parseR
  rcases h with ⟨n, hm, hn, rfl⟩ | ⟨rfl, hall⟩
  · left
    have hp : Vz.parseL l = n := by rw [← hn]; exact Vz.parse_names n hm
    rw [hp, if_pos ⟨hm, hn⟩]
    exact ⟨by omega, rfl⟩
  · right
    rw [if_neg (fun h => hall _ h.1 h.2)]
    exact ⟨rfl, rfl⟩

/-- The contract of the reference's Names, for what may be. -/
def NamesOk : Prop := ∀ n : Nat, Vz.mayI n = true → ∀ w : World, Calls Tryd.prog 20 #[.int .i64 n] w fun e w' => e = .returned (.string ⟨(Vz.namesL n).toArray⟩) ∧ Below w.heap.size w w'

set_option maxRecDepth 100000 in
set_option maxHeartbeats 2000000 in
theorem rparse_any (hN : NamesOk) (s : ByteArray) (w : World) :
    Calls Tryd.prog 22 #[.string s] w fun e w' => ∃ r : Int, e = .returned (.int .i64 r) ∧ Found s.data.toList r ∧ Below w.heap.size w w' := by
  obtain ⟨l, hl⟩ : ∃ l, s.data.toList = l := ⟨_, rfl⟩
  have hsl : s.toList = l := by rw [ByteArray.toList_eq, hl]
  rw [hl]
  have HL := Lib.hid hl
  clear hl
  unfold NamesOk at hN
  have HNN := Lib.hid hN
  clear hN
  go_enter Tryd.func22, Tryd.ntmps22
  go_wp2
  go_loopw [3] (fun i wr => ∃ k : Nat, k ≤ 16384 ∧ i = .int .i64 k ∧ (∀ n : Nat, n < k → Vz.mayI n = true → Vz.namesL n ≠ l) ∧ Below w.heap.size w wr) (fun i _ => 16384 - (intOf i).toNat)
  case atStart => exact ⟨0, by omega, rfl, fun j h => absurd h (by omega), Below.refl _ _⟩
  case round =>
    obtain ⟨k, hk, rfl, hall, hB⟩ := hrel
    have HALL := Lib.hid hall
    clear hall
    by_cases hlt : k < 16384
    · have HM := Lib.hid (rmay_any k (by omega) (by omega) wr)
      cases hm : Vz.mayI k with
      | false =>
        rw [hm] at HM
        have HMM := Lib.hid hm
        clear hm
        go_wp2_with (go_at_call 11; refine HM.out.mono ?_; rintro e w1 ⟨rfl, rfl⟩)
        have hnext : ∀ n : Nat, n < k + 1 → Vz.mayI n = true → Vz.namesL n ≠ l := fun j hj hmj => by
          rcases Nat.lt_succ_iff_lt_or_eq.1 hj with h | h
          · exact HALL.out j h hmj
          · rw [h, HMM.out] at hmj
            exact absurd hmj (by decide)
        exact ⟨⟨k + 1, by omega, by go_num, hnext, hB⟩, by simp [intOf]; omega⟩
      | true =>
        rw [hm] at HM
        have HN := Lib.hid (HNN.out k hm wr)
        have hnl : (⟨(Vz.namesL k).toArray⟩ : ByteArray).toList = Vz.namesL k := by rw [ByteArray.toList_eq]
        generalize (⟨(Vz.namesL k).toArray⟩ : ByteArray) = x at HN hnl
        have HMM := Lib.hid hm
        clear hm
        by_cases he : Vz.namesL k = l
        · have hq : (x.toList == s.toList) = true := by rw [hnl, hsl]; simpa using he
          have HE := Lib.hid he
          clear he hnl hsl
          go_wp2_with (first | (go_at_call 11; refine HM.out.mono ?_; rintro e w1 ⟨rfl, rfl⟩) | (go_at_call 20; refine HN.out.mono ?_; rintro e w2 ⟨rfl, hB2⟩))
          go_ret
          exact ⟨k, rfl, Or.inl ⟨k, HMM.out, HE.out, rfl⟩, below_join hB hB2⟩
        · have hq : (x.toList == s.toList) = false := by rw [hnl, hsl]; simpa using he
          have HE := Lib.hid he
          clear he hnl hsl
          go_wp2_with (first | (go_at_call 11; refine HM.out.mono ?_; rintro e w1 ⟨rfl, rfl⟩) | (go_at_call 20; refine HN.out.mono ?_; rintro e w2 ⟨rfl, hB2⟩))
          exact ⟨⟨k + 1, by omega, by go_num, fun j hj hmj => by
            rcases Nat.lt_succ_iff_lt_or_eq.1 hj with h | h
            · exact HALL.out j h hmj
            · rw [h]; exact HE.out, below_join hB hB2⟩, by simp [intOf]; omega⟩
    · obtain rfl : k = 16384 := by omega
      go_wp2
      go_ret
      exact ⟨-1, rfl, Or.inr ⟨rfl, fun n hm => HALL.out n (by have := Vz.mayI_lt hm; omega) hm⟩, hB⟩
end Go.Proofs.YtdakiocgaihcnaaDoor
