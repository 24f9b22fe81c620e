/- Walks of params.number. -/
import Derived.Test.YtdakiocgaihcnaaProg
import Derived.Test.YtdakiocgaihcnaaPlain
import Derived.WalkKit
import Derived.Lib.Hide
import Derived.Lib.Strings
namespace Go.Proofs.Ytdakiocgaihcnaa
open Go.RowKit

theorem ret_tup2 {a b : Value} {a' b' : Value} (h : a = a') (h' : b = b') : Ending.returned (.tuple #[a, b]) = .returned (.tuple #[a', b']) := by rw [h, h']

set_option maxHeartbeats 400000 in
theorem number_any (s : ByteArray) (w : World) (hs : s.size ≤ maxLen) :
    Calls Try.prog 23 #[.string s] w fun e w' => e = .returned (.tuple #[.int .i64 (Vz.number s.data.toList).1, .bool (Vz.number s.data.toList).2]) ∧ w = w' := by
  unfold maxLen at hs
  by_cases h0 : s.data.toList = []
  · have h1 : s.toList = [] := by rw [ByteArray.toList_eq]; exact h0
    have h2 : (!s.toList.isEmpty) = false := by rw [h1]; rfl
    go_enter Try.func23, Try.ntmps23
    go_wp2
    go_ret2
    exact ⟨ret_tup2 (by simp [Vz.number, h0]) (by simp [Vz.number, h0]), rfl⟩
  · have h1 : s.toList.isEmpty = false := by rw [ByteArray.toList_eq]; simpa using h0
    have H0 := Lib.hid h0
    clear h0
    go_enter Try.func23, Try.ntmps23
    go_wp2
    go_loop [4, 5, 10] (fun n i c => ∃ (k : Nat) (m : Int), k ≤ s.size ∧ 0 ≤ m ∧ m ≤ 9999 ∧ n = .int .i64 m ∧ c = .int .i64 k ∧ Vz.numFrom 0 s.data.toList = Vz.numFrom m (s.data.toList.drop k)) (fun _ _ c => s.size - (intOf c).toNat)
    case atStart => exact ⟨0, 0, Nat.zero_le _, by omega, by omega, rfl, rfl, rfl⟩
    case round =>
      obtain ⟨k, m, hk, hm0, hm1, rfl, rfl, hn⟩ := hrel
      have HN := Lib.hid hn
      clear hn
      by_cases hlt : k < s.size
      · have hst := Lib.hid (Vz.numFrom_step m s k hlt)
        by_cases hd : (s[k].toNat : Int) < 48 ∨ 57 < (s[k].toNat : Int)
        · go_wp2
          all_goals
            go_ret2
            have e : Vz.number s.data.toList = (0, false) := by
              unfold Vz.number; rw [if_neg H0.out, HN.out, hst.out, if_pos hd]
            exact ⟨ret_tup2 (by rw [e]; rfl) (by rw [e]; rfl), rfl⟩
        · have hd1 : (48 : Int) ≤ (s[k].toNat : Int) := by omega
          have hd2 : (s[k].toNat : Int) ≤ 57 := by omega
          go_wp2
          exact ⟨⟨k + 1, Vz.capd (10 * m + ((s[k].toNat : Int) - 48)), by omega, Vz.capd_lo _ (by omega), Vz.capd_hi _, rfl, by go_num, by rw [HN.out, hst.out, if_neg hd]⟩, by simp [intOf]; omega⟩
      · have e : Vz.number s.data.toList = (m, true) := by
          unfold Vz.number; rw [if_neg H0.out, HN.out, List.drop_of_length_le (by simp; omega)]; rfl
        have E := Lib.hid e
        clear e
        go_wp2
        go_ret2
        exact ⟨ret_tup2 (by rw [E.out]; rfl) (by rw [E.out]; rfl), rfl⟩
end Go.Proofs.Ytdakiocgaihcnaa
