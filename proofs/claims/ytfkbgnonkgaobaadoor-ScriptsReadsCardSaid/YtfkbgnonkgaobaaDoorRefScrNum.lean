/- Walks: value and number of vizardref23. -/
import Derived.Test.YtfkbgnonkgaobaaDoorRefScrPlain
import Derived.Test.YtfkbgnonkgaobaaDoorParUse
namespace Go.Proofs.YtfkbgnonkgaobaaDoor
open Go.RowKit
set_option linter.unusedSimpArgs false
set_option linter.unusedVariables false

theorem rdval_any (c : UInt8) (w : World) : Calls Tryd.prog 43 #[.int .u8 c.toNat] w fun e w' => e = .returned (.int .i64 (Vz.rdVal c)) ∧ w' = w := by
  have hc : c.toNat < 256 := c.toNat_lt
  obtain ⟨n, hn⟩ : ∃ n, c.toNat = n := ⟨_, rfl⟩
  unfold Vz.rdVal
  rw [hn] at hc ⊢
  clear hn
  by_cases h1 : 48 ≤ n
  · by_cases h2 : n ≤ 57
    · have d1 : (48 : Int) ≤ (n : Int) := by omega
      have d2 : (n : Int) ≤ 57 := by omega
      rw [if_pos ⟨h1, h2⟩]
      have HW : Hid (Value.int .i64 ((n : Int) - 48) = .int .i64 ((n - 48 : Nat) : Int)) := by show _ = _; congr 1; omega
      clear h1 h2
      go_enter Tryd.func43, Tryd.ntmps43
      go_wp2_with fail
      go_ret
      exact ⟨ret1 HW.out, rfl⟩
    · rw [if_neg (by omega)]
      have d1 : (48 : Int) ≤ (n : Int) := by omega
      have d2 : ¬ (n : Int) ≤ 57 := by omega
      by_cases h3 : 97 ≤ n
      · have d3 : (97 : Int) ≤ (n : Int) := by omega
        by_cases h4 : n ≤ 102
        · have d4 : (n : Int) ≤ 102 := by omega
          rw [if_pos ⟨h3, h4⟩]
          have HW : Hid (Value.int .i64 ((n : Int) - 97 + 10) = .int .i64 ((n - 87 : Nat) : Int)) := by show _ = _; congr 1; omega
          clear h1 h2 h3 h4
          go_enter Tryd.func43, Tryd.ntmps43
          go_wp2_with fail
          go_ret
          exact ⟨ret1 HW.out, rfl⟩
        · have d4 : ¬ (n : Int) ≤ 102 := by omega
          rw [if_neg (by omega)]
          clear h1 h2 h3 h4
          go_enter Tryd.func43, Tryd.ntmps43
          go_wp2_with fail
          go_ret
          exact ⟨rfl, rfl⟩
      · have d3 : ¬ (97 : Int) ≤ (n : Int) := by omega
        rw [if_neg (by omega)]
        clear h1 h2 h3
        go_enter Tryd.func43, Tryd.ntmps43
        go_wp2_with fail
        go_ret
        exact ⟨rfl, rfl⟩
  · rw [if_neg (by omega), if_neg (by omega)]
    have d1 : ¬ (48 : Int) ≤ (n : Int) := by omega
    have d3 : ¬ (97 : Int) ≤ (n : Int) := by omega
    clear h1
    go_enter Tryd.func43, Tryd.ntmps43
    go_wp2_with fail
    go_ret
    exact ⟨rfl, rfl⟩

theorem drop_at (T : ByteArray) (k : Nat) (h : k < T.size) : T.data.toList.drop k = (T[k]'h) :: T.data.toList.drop (k + 1) := by
  rw [List.drop_eq_getElem_cons (by simpa using h)]
  rfl
theorem rdnum_any (s : ByteArray) (hs : s.size ≤ 100000) (w : World) : Calls Tryd.prog 42 #[.string s] w fun e w' => e = .returned (.int .i64 (Vz.rdNum s.data.toList)) ∧ w' = w := by
  have hsl : s.data.toList.length = s.size := rfl
  by_cases h0 : s.size = 0
  · obtain rfl := byte_nil h0
    go_enter Tryd.func42, Tryd.ntmps42
    go_wp2_with fail
    go_ret
    exact ⟨rfl, rfl⟩
  have hne := empty_no h0
  by_cases h5 : 5 < s.size
  · have hr : Vz.rdNum s.data.toList = -1 := by unfold Vz.rdNum; rw [if_pos (.inr (by omega))]
    have d5 : (5 : Int) < (s.size : Int) := by omega
    rw [hr]
    clear hr
    go_enter Tryd.func42, Tryd.ntmps42
    go_wp2_with fail
    go_ret
    exact ⟨rfl, rfl⟩
  have hr : Vz.rdNum s.data.toList = Vz.rdGo 0 s.data.toList := by
    unfold Vz.rdNum
    rw [if_neg]
    rintro (h | h)
    · rw [h] at hsl; simp at hsl; omega
    · omega
  have d5 : ¬ (5 : Int) < (s.size : Int) := by omega
  rw [hr]
  have HSL := Lib.hid hsl
  clear hr hsl
  go_enter Tryd.func42, Tryd.ntmps42
  go_wp2_with fail
  go_loopw [3, 4] (fun n i wr => ∃ N k : Nat, k ≤ s.size ∧ n = .int .i64 N ∧ i = .int .i64 k ∧ N < 10 ^ k ∧ Vz.rdGo 0 s.data.toList = Vz.rdGo N (s.data.toList.drop k) ∧ wr = w) (fun _ i _ => s.size - (intOf i).toNat)
  case atStart => exact ⟨0, 0, Nat.zero_le _, rfl, rfl, by decide, rfl, rfl⟩
  case round =>
    obtain ⟨N, k, hk, rfl, rfl, hN, hg, rfl⟩ := hrel
    have HG := Lib.hid hg
    clear hg
    by_cases hlt : k < s.size
    · have hd := drop_at s k hlt
      obtain ⟨x, hx⟩ : ∃ x, s[k]'hlt = x := ⟨_, rfl⟩
      rw [hx] at hd
      have hx8 : x.toNat < 256 := x.toNat_lt
      have HD := Lib.hid hd
      have hp : 10 ^ (k + 1) = 10 ^ k * 10 := Nat.pow_succ 10 k
      have hp5 : 10 ^ k ≤ 10 ^ 5 := Nat.pow_le_pow_right (by decide) (by omega)
      have hN5 : N < 100000 := by omega
      have HP := Lib.hid hp
      have HN := Lib.hid hN
      clear hd hp hp5 hN
      by_cases h1 : x.toNat < 48
      · have d1 : (x.toNat : Int) < 48 := by omega
        have hf : Vz.rdGo 0 s.data.toList = -1 := by rw [HG.out, HD.out, Vz.rdGo, if_pos (.inl h1)]
        have HF := Lib.hid hf
        clear hf
        go_wp2_with fail
        go_ret
        exact ⟨by rw [HF.out]; rfl, rfl⟩
      · have d1 : ¬ (x.toNat : Int) < 48 := by omega
        by_cases h2 : 57 < x.toNat
        · have d2 : (57 : Int) < (x.toNat : Int) := by omega
          have hf : Vz.rdGo 0 s.data.toList = -1 := by rw [HG.out, HD.out, Vz.rdGo, if_pos (.inr h2)]
          have HF := Lib.hid hf
          clear hf
          go_wp2_with fail
          go_ret
          exact ⟨by rw [HF.out]; rfl, rfl⟩
        · have d2 : ¬ (57 : Int) < (x.toNat : Int) := by omega
          have hf : Vz.rdGo 0 s.data.toList = Vz.rdGo (10 * N + (x.toNat - 48)) (s.data.toList.drop (k + 1)) := by rw [HG.out, HD.out, Vz.rdGo, if_neg (by omega)]
          have HF := Lib.hid hf
          clear hf
          go_wp2_with fail
          refine ⟨⟨10 * N + (x.toNat - 48), k + 1, hlt, ?_, by go_num, ?_, HF.out, trivial⟩, by simp [intOf]; omega⟩
          · congr 1
            go_num
          · rw [HP.out]
            have := HN.out
            omega
    · obtain rfl : k = s.size := by omega
      have hf : Vz.rdGo 0 s.data.toList = N := by rw [HG.out, List.drop_of_length_le (by rw [HSL.out]; exact Nat.le_refl _)]; rfl
      have HF := Lib.hid hf
      clear hf hN
      go_wp2_with fail
      go_ret
      exact ⟨by rw [HF.out]; rfl, rfl⟩
end Go.Proofs.YtfkbgnonkgaobaaDoor
