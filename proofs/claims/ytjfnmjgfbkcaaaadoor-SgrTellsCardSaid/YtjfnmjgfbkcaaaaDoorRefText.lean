/- Walks: digits, Text, Tell of vizardref13. -/
import Derived.Test.YtjfnmjgfbkcaaaaDoorSgrText
import Derived.Test.YtjfnmjgfbkcaaaaDoorSgrRefD
namespace Go.Proofs.YtjfnmjgfbkcaaaaDoor
open Go.RowKit

def dgB (n : Nat) : ByteArray := ⟨(Vz.digN n).toArray⟩
theorem dgB_size (n : Nat) (h : n ≤ 9999) : (dgB n).size ≤ 5 := by show (Vz.digN n).toArray.size ≤ 5; simpa using Vz.digN_len n h
theorem dgB_big (n : Nat) (h : ¬ n < 10) : dgB n = dgB (n / 10) ++ dgB (n % 10) := by
  apply ByteArray.ext
  rw [ByteArray.data_append]
  unfold dgB
  rw [Vz.digN_big n h, Vz.digN_small (n % 10) (by omega)]
  simp
theorem dgB_small (n : Nat) (h : n < 10) : (⟨#[48, 49, 50, 51, 52, 53, 54, 55, 56, 57]⟩ : ByteArray).extract n (n + 1) = dgB n := by
  have hd := Vz.digN_small n h
  unfold dgB
  rw [hd]
  obtain rfl | rfl | rfl | rfl | rfl | rfl | rfl | rfl | rfl | rfl : n = 0 ∨ n = 1 ∨ n = 2 ∨ n = 3 ∨ n = 4 ∨ n = 5 ∨ n = 6 ∨ n = 7 ∨ n = 8 ∨ n = 9 := by omega
  all_goals (apply ByteArray.ext; rw [ByteArray.data_extract]; rfl)

set_option maxHeartbeats 1000000 in
theorem digits_any : ∀ (k n : Nat), n ≤ 9999 → n < 10 ^ (k + 1) → ∀ w : World,
    Calls Tryd.prog 30 #[.int .i64 n] w fun e w' => e = .returned (.string (dgB n)) ∧ w = w' := by
  intro k
  induction k with
  | zero =>
    intro n h9 h w
    have hs : n < 10 := by simpa using h
    have HS := Lib.hid (dgB_small n hs)
    have hcut : ∀ W : World, Sem.run Tryd.prog (Instr.slice 9 (.string ⟨#[48, 49, 50, 51, 52, 53, 54, 55, 56, 57]⟩) (some (.int .i64 (n : Int))) (some (.int .i64 ((n : Int) + 1))) none) W = .ok (.string (dgB n)) W := fun W => by
      have := run_slice_string (P := Tryd.prog) W 9 ⟨#[48, 49, 50, 51, 52, 53, 54, 55, 56, 57]⟩ .i64 .i64 n (n + 1) Tryd.underlying9 (by omega) (by omega) (by show (n : Int) + 1 ≤ 10; omega)
      rw [show ((n : Int)).toNat = n by omega, show ((n : Int) + 1).toNat = n + 1 by omega, HS.out] at this
      exact this
    clear h
    go_enter Tryd.func30, Tryd.ntmps30
    go_wp2
    go_ret
    exact ⟨rfl, rfl⟩
  | succ k ih =>
    intro n h9 h w
    by_cases hs : n < 10
    · exact ih n h9 (Nat.lt_of_lt_of_le (show n < 10 ^ 1 by omega) (Nat.pow_le_pow_right (by decide) (by omega))) w
    have h1 := ih (n / 10) (by omega) (by rw [Nat.pow_succ] at h; omega)
    have h2 := ih (n % 10) (by omega) (Nat.lt_of_lt_of_le (show n % 10 < 10 ^ 1 by omega) (Nat.pow_le_pow_right (by decide) (by omega)))
    rw [show ((n / 10 : Nat) : Int) = (n : Int) / 10 by simp] at h1
    rw [show ((n % 10 : Nat) : Int) = (n : Int) % 10 by simp] at h2
    have H1 := Lib.hid h1
    have H2 := Lib.hid h2
    clear h1 h2
    have HB := Lib.hid (dgB_big n hs)
    have z1 := dgB_size (n / 10) (by omega)
    have z2 := dgB_size (n % 10) (by omega)
    generalize dgB (n / 10) = D1 at H1 HB z1
    generalize dgB (n % 10) = D2 at H2 HB z2
    clear h ih
    go_enter Tryd.func30, Tryd.ntmps30
    go_wp2_with fail
    refine (H1.out _).mono ?_
    rintro e w1 ⟨rfl, rfl⟩
    go_wp2_with fail
    refine (H2.out _).mono ?_
    rintro e w1 ⟨rfl, rfl⟩
    go_wp2_with fail
    go_ret
    exact ⟨ret1 (by rw [HB.out]; rfl), rfl⟩

/-- The text so far: the first k numbers. -/
def txB (L : List Int) (k : Nat) : ByteArray := ⟨#[27, 91]⟩ ++ ⟨(Vz.semi (L.take k)).toArray⟩
theorem txB_size (L : List Int) (k : Nat) (h : L.length ≤ 100) : (txB L k).size ≤ 700 := by
  have h1 := Vz.semi_len (L.take k)
  have h2 : (L.take k).length ≤ 100 := by rw [List.length_take]; omega
  unfold txB
  rw [ByteArray.size_append]
  show 2 + (Vz.semi (L.take k)).toArray.size ≤ 700
  simp
  omega
theorem txB_zero (L : List Int) : txB L 0 = ⟨#[27, 91]⟩ := by
  apply ByteArray.ext
  unfold txB
  rw [ByteArray.data_append]
  simp [Vz.semi]
theorem txB_one (L : List Int) (x : Int) (h : L.take 1 = [x]) : txB L 1 = txB L 0 ++ dgB (Vz.clipN x) := by
  rw [txB_zero]
  unfold txB
  rw [h]
  rfl
theorem txB_snoc (L : List Int) (k : Nat) (x : Int) (hk : 0 < k) (hL : k < L.length) (h : L.take (k + 1) = L.take k ++ [x]) : txB L (k + 1) = txB L k ++ ⟨#[59]⟩ ++ dgB (Vz.clipN x) := by
  apply ByteArray.ext
  unfold txB dgB
  rw [h, Vz.semi_snoc _ _ (by intro e; have := congrArg List.length e; rw [List.length_take, List.length_nil] at this; omega)]
  simp only [ByteArray.data_append]
  simp
theorem txB_all (L : List Int) (k : Nat) (h : L.length ≤ k) : txB L k ++ ⟨#[109]⟩ = ⟨(Vz.textL L).toArray⟩ := by
  apply ByteArray.ext
  unfold txB Vz.textL
  rw [List.take_of_length_le h]
  simp only [ByteArray.data_append]
  simp

set_option maxRecDepth 100000 in
set_option maxHeartbeats 1000000 in
theorem rtext_any (B : Nat) (A : Option Addr) (m c : Nat) (L : List Int) (hm : m ≤ 100) (w : World) (hI : Ints B w A m L) :
    Calls Tryd.prog 19 #[.slice A m c] w fun e w' => e = .returned (.string ⟨(Vz.textL L).toArray⟩) ∧ w = w' := by
  have HI := Lib.hid hI
  have HZ := Lib.hid (txB_zero L)
  have HDG := Lib.hid digits_any
  have hL := hI.1
  have HS := Lib.hid (fun k => txB_size L k (by omega))
  have HL := Lib.hid hL
  clear hI hL
  go_enter Tryd.func19, Tryd.ntmps19
  go_wp2
  go_loop [3, 4] (fun t i => ∃ k : Nat, k ≤ m ∧ i = .int .i64 k ∧ t = .string (txB L k)) (fun _ i => m - (intOf i).toNat)
  case atStart => exact ⟨0, Nat.zero_le _, rfl, by rw [HZ.out]⟩
  case round =>
    obtain ⟨k, hk, rfl, rfl⟩ := hrel
    have hts := HS.out k
    by_cases hlt : k < m
    · obtain ⟨b, o, rfl, hc⟩ := HI.out.at_ hlt
      have hkL : k < L.length := by have := HL.out; omega
      have hT : L.take (k + 1) = L.take k ++ [L[k]?.getD 0] := by rw [List.take_add_one, List.getElem?_eq_getElem hkL]; rfl
      generalize L[k]?.getD 0 = x at hc hT
      have hcx := Vz.clipN_int x
      have hcl := Vz.clipN_le x
      have hds := dgB_size (Vz.clipN x) hcl
      have HD := Lib.hid (HDG.out 3 (Vz.clipN x) hcl (by omega))
      by_cases h0 : k = 0
      · subst h0
        rw [Nat.add_zero] at hc
        have HE := Lib.hid (txB_one L x (by simpa using hT))
        generalize dgB (Vz.clipN x) = D at hds HD HE
        generalize Vz.clipN x = y at hcx hcl HD
        generalize txB L 0 = T0 at hts HE
        clear hT hkL
        go_wp2_with fail
        refine (HD.out _).mono ?_
        rintro e w1 ⟨rfl, rfl⟩
        go_wp2_with fail
        exact ⟨⟨1, by omega, rfl, by rw [HE.out]⟩, by simp [intOf]; omega⟩
      · have HE := Lib.hid (txB_snoc L k x (by omega) hkL hT)
        have hk0 : (0 : Int) < (k : Int) := by omega
        generalize dgB (Vz.clipN x) = D at hds HD HE
        generalize Vz.clipN x = y at hcx hcl HD
        generalize txB L k = T0 at hts HE
        clear hT hkL
        go_wp2_with fail
        refine (HD.out _).mono ?_
        rintro e w1 ⟨rfl, rfl⟩
        go_wp2_with fail
        exact ⟨⟨k + 1, by omega, by go_num, by rw [HE.out]⟩, by simp [intOf]; omega⟩
    · obtain rfl : k = m := by omega
      have HE := Lib.hid (txB_all L k (by have := HL.out; omega))
      generalize txB L k = T0 at hts HE
      go_wp2
      go_ret
      exact ⟨ret1 (by rw [← HE.out]; rfl), rfl⟩
end Go.Proofs.YtjfnmjgfbkcaaaaDoor
