/- Walks: digits and Line of vizardref23. -/
import Derived.Test.YtfkbgnonkgaobaaDoorScrOpen
import Derived.BigQuiet
import Derived.Deep.QuietTactic
import Derived.Lib.Strings
import Derived.IntWalk
namespace Go.Proofs.YtfkbgnonkgaobaaDoor
open Go.RowKit
set_option linter.unusedSimpArgs false
set_option linter.unusedVariables false

def dgB (n : Nat) : ByteArray := ⟨(Vz.digN n).toArray⟩
theorem dgB_size (n : Nat) (h : n ≤ 9999) : (dgB n).size ≤ 5 := by show (Vz.digN n).toArray.size ≤ 5; simpa using Vz.digN_len n h
theorem dgB_big (n : Nat) (h : ¬ n < 10) : dgB n = dgB (n / 10) ++ dgB (n % 10) := by
  apply ByteArray.ext
  rw [ByteArray.data_append]
  unfold dgB
  rw [Vz.digN_big n h, Vz.digN_small (n % 10) (by omega)]
  simp
theorem dgB_small (n : Nat) (h : n < 10) : (⟨#[48, 49, 50, 51, 52, 53, 54, 55, 56, 57]⟩ : ByteArray).extract n (n + 1) = dgB n := by
  have hd := Vz.digN_small n h
  unfold dgB
  rw [hd]
  obtain rfl | rfl | rfl | rfl | rfl | rfl | rfl | rfl | rfl | rfl : n = 0 ∨ n = 1 ∨ n = 2 ∨ n = 3 ∨ n = 4 ∨ n = 5 ∨ n = 6 ∨ n = 7 ∨ n = 8 ∨ n = 9 := by omega
  all_goals (apply ByteArray.ext; rw [ByteArray.data_extract]; rfl)

set_option maxHeartbeats 1000000 in
theorem digits_any : ∀ (k n : Nat), n ≤ 9999 → n < 10 ^ (k + 1) → ∀ w : World,
    Calls Tryd.prog 20 #[.int .i64 n] w fun e w' => e = .returned (.string (dgB n)) ∧ w = w' := by
  intro k
  induction k with
  | zero =>
    intro n h9 h w
    have hs : n < 10 := by simpa using h
    have HS := Lib.hid (dgB_small n hs)
    have hcut : ∀ W : World, Sem.run Tryd.prog (Instr.slice 9 (.string ⟨#[48, 49, 50, 51, 52, 53, 54, 55, 56, 57]⟩) (some (.int .i64 (n : Int))) (some (.int .i64 ((n : Int) + 1))) none) W = .ok (.string (dgB n)) W := fun W => by
      have := run_slice_string (P := Tryd.prog) W 9 ⟨#[48, 49, 50, 51, 52, 53, 54, 55, 56, 57]⟩ .i64 .i64 n (n + 1) Tryd.underlying9 (by omega) (by omega) (by show (n : Int) + 1 ≤ 10; omega)
      rw [show ((n : Int)).toNat = n by omega, show ((n : Int) + 1).toNat = n + 1 by omega, HS.out] at this
      exact this
    clear h
    go_enter Tryd.func20, Tryd.ntmps20
    go_wp2
    go_ret
    exact ⟨rfl, rfl⟩
  | succ k ih =>
    intro n h9 h w
    by_cases hs : n < 10
    · exact ih n h9 (Nat.lt_of_lt_of_le (show n < 10 ^ 1 by omega) (Nat.pow_le_pow_right (by decide) (by omega))) w
    have h1 := ih (n / 10) (by omega) (by rw [Nat.pow_succ] at h; omega)
    have h2 := ih (n % 10) (by omega) (Nat.lt_of_lt_of_le (show n % 10 < 10 ^ 1 by omega) (Nat.pow_le_pow_right (by decide) (by omega)))
    rw [show ((n / 10 : Nat) : Int) = (n : Int) / 10 by simp] at h1
    rw [show ((n % 10 : Nat) : Int) = (n : Int) % 10 by simp] at h2
    have H1 := Lib.hid h1
    have H2 := Lib.hid h2
    clear h1 h2
    have HB := Lib.hid (dgB_big n hs)
    have z1 := dgB_size (n / 10) (by omega)
    have z2 := dgB_size (n % 10) (by omega)
    generalize dgB (n / 10) = D1 at H1 HB z1
    generalize dgB (n % 10) = D2 at H2 HB z2
    clear h ih
    go_enter Tryd.func20, Tryd.ntmps20
    go_wp2_with fail
    refine (H1.out _).mono ?_
    rintro e w1 ⟨rfl, rfl⟩
    go_wp2_with fail
    refine (H2.out _).mono ?_
    rintro e w1 ⟨rfl, rfl⟩
    go_wp2_with fail
    go_ret
    exact ⟨ret1 (by rw [HB.out]; rfl), rfl⟩


def feedB (T : ByteArray) (j : Nat) : ByteArray := ⟨([102, 101, 101, 100] ++ (if j = 0 then [] else 32 :: Vz.hexL (T.data.toList.take j))).toArray⟩
theorem feedB_zero (T : ByteArray) : feedB T 0 = ⟨#[102, 101, 101, 100]⟩ := by unfold feedB; simp
theorem feedB_one (T : ByteArray) (x : UInt8) (h : T.data.toList.take 1 = [x]) : feedB T 1 = feedB T 0 ++ ⟨#[32]⟩ ++ ⟨#[Vz.hexC (x.toNat / 16)]⟩ ++ ⟨#[Vz.hexC (x.toNat % 16)]⟩ := by
  apply ByteArray.ext
  unfold feedB
  rw [h]
  simp [ByteArray.data_append, Vz.hexL]
theorem feedB_snoc (T : ByteArray) (j : Nat) (x : UInt8) (h0 : 0 < j) (h : T.data.toList.take (j + 1) = T.data.toList.take j ++ [x]) : feedB T (j + 1) = feedB T j ++ ⟨#[Vz.hexC (x.toNat / 16)]⟩ ++ ⟨#[Vz.hexC (x.toNat % 16)]⟩ := by
  apply ByteArray.ext
  unfold feedB
  rw [h, Vz.hexL_snoc, if_neg (by omega), if_neg (by omega)]
  simp [ByteArray.data_append]
theorem feedB_size (T : ByteArray) (j : Nat) (h : T.size ≤ 1000) : (feedB T j).size ≤ 2005 := by
  have h1 := Vz.hexL_len (T.data.toList.take j)
  have h2 : (T.data.toList.take j).length ≤ 1000 := by
    rw [List.length_take]
    have : T.data.toList.length = T.size := rfl
    omega
  unfold feedB
  show Array.size _ ≤ _
  split <;> simp <;> omega
theorem hex_cut (n : Nat) (h : n < 16) : (⟨#[48, 49, 50, 51, 52, 53, 54, 55, 56, 57, 97, 98, 99, 100, 101, 102]⟩ : ByteArray).extract n (n + 1) = ⟨#[Vz.hexC n]⟩ := by
  obtain rfl | rfl | rfl | rfl | rfl | rfl | rfl | rfl | rfl | rfl | rfl | rfl | rfl | rfl | rfl | rfl : n = 0 ∨ n = 1 ∨ n = 2 ∨ n = 3 ∨ n = 4 ∨ n = 5 ∨ n = 6 ∨ n = 7 ∨ n = 8 ∨ n = 9 ∨ n = 10 ∨ n = 11 ∨ n = 12 ∨ n = 13 ∨ n = 14 ∨ n = 15 := by omega
  all_goals (apply ByteArray.ext; rw [ByteArray.data_extract]; rfl)
theorem hex_run (n : Nat) (h : n < 16) (W : World) : Sem.run Tryd.prog (Instr.slice 9 (.string ⟨#[48, 49, 50, 51, 52, 53, 54, 55, 56, 57, 97, 98, 99, 100, 101, 102]⟩) (some (.int .i64 (n : Int))) (some (.int .i64 ((n : Int) + 1))) none) W = .ok (.string ⟨#[Vz.hexC n]⟩) W := by
  have := run_slice_string (P := Tryd.prog) W 9 ⟨#[48, 49, 50, 51, 52, 53, 54, 55, 56, 57, 97, 98, 99, 100, 101, 102]⟩ .i64 .i64 n (n + 1) Tryd.underlying9 (by omega) (by omega) (by show (n : Int) + 1 ≤ 16; omega)
  rw [show ((n : Int)).toNat = n by omega, show ((n : Int) + 1).toNat = n + 1 by omega, hex_cut n h] at this
  exact this
theorem take_at (T : ByteArray) (j : Nat) (h : j < T.size) : T.data.toList.take (j + 1) = T.data.toList.take j ++ [T[j]'h] := by
  have hl : j < T.data.toList.length := h
  rw [List.take_add_one, List.getElem?_eq_getElem hl]
  rfl

theorem wrap_small {n : Int} (h0 : 0 ≤ n) (h1 : n < 9223372036854775808) : IntKind.i64.wrap n = n := by rw [IntKind.wrap_i64]; omega
set_option maxHeartbeats 1000000 in
theorem line_1 (T : ByteArray) (k c : Int) (s l : Bool) (r o z : Int) (hT : T.size ≤ 1000) (w : World) : Calls Tryd.prog 12 #[.agg #[.int .i64 1, .string T, .int .i64 k, .int .i64 c, .bool s, .bool l, .int .i64 r, .int .i64 o, .int .i64 z]] w fun e w' => e = .returned (.string (feedB T T.size ++ ⟨#[10]⟩)) ∧ Below w.heap.size w w' := by
  have HB : Hid (∀ o q, Below w.heap.size w ((w.alloc o).drewN q)) := fun o q => (Below.refl _ _).alloc (Nat.le_refl _) _ |>.trans ⟨rfl, rfl, rfl, Nat.le_refl _, fun _ _ => rfl⟩
  go_enter Tryd.func12, Tryd.ntmps12
  go_wp2_with fail
  go_loopw [3, 4] (fun x i wr => ∃ j q : Nat, j ≤ T.size ∧ x = .string (feedB T j) ∧ i = .int .i64 j ∧ wr = (w.alloc (.cells #[.int .i64 1, .string T, .int .i64 k, .int .i64 c, .bool s, .bool l, .int .i64 r, .int .i64 o, .int .i64 z] 31)).drewN q) (fun _ i _ => T.size - (intOf i).toNat)
  case atStart => exact ⟨0, 0, Nat.zero_le _, by rw [feedB_zero], rfl, rfl⟩
  case round =>
    obtain ⟨j, q, hj, rfl, rfl, rfl⟩ := hrel
    by_cases hlt : j < T.size
    · have ht := take_at T j hlt
      obtain ⟨x, hx⟩ : ∃ x, T[j]'hlt = x := ⟨_, rfl⟩
      rw [hx] at ht
      have hx8 : x.toNat < 256 := x.toNat_lt
      have hq1 : (x.toNat : Int).tdiv 16 = ((x.toNat / 16 : Nat) : Int) := by rw [Int.tdiv_eq_ediv_of_nonneg (by omega)]; rfl
      have hq2 : (x.toNat : Int).tmod 16 = ((x.toNat % 16 : Nat) : Int) := by rw [Int.tmod_eq_emod_of_nonneg (by omega)]; rfl
      have hw1 : IntKind.i64.wrap (((x.toNat / 16 : Nat) : Int) + 1) = ((x.toNat / 16 : Nat) : Int) + 1 := wrap_small (by omega) (by omega)
      have hw2 : IntKind.i64.wrap (((x.toNat % 16 : Nat) : Int) + 1) = ((x.toNat % 16 : Nat) : Int) + 1 := wrap_small (by omega) (by omega)
      have hv1 : IntKind.i64.wrap ((x.toNat / 16 : Nat) : Int) = ((x.toNat / 16 : Nat) : Int) := wrap_small (by omega) (by omega)
      have hv2 : IntKind.i64.wrap ((x.toNat % 16 : Nat) : Int) = ((x.toNat % 16 : Nat) : Int) := wrap_small (by omega) (by omega)
      have hc1 := hex_run (x.toNat / 16) (by omega)
      have hc2 := hex_run (x.toNat % 16) (by omega)
      have hF : (if j = 0 then feedB T j ++ ⟨#[32]⟩ else feedB T j) ++ ⟨#[Vz.hexC (x.toNat / 16)]⟩ ++ ⟨#[Vz.hexC (x.toNat % 16)]⟩ = feedB T (j + 1) := by
        by_cases h0 : j = 0
        · subst h0; rw [feedB_one T x ht, if_pos rfl]
        · rw [feedB_snoc T j x (by omega) ht, if_neg h0]
      have hz1 : (⟨#[Vz.hexC (x.toNat / 16)]⟩ : ByteArray).size = 1 := rfl
      have hz2 : (⟨#[Vz.hexC (x.toNat % 16)]⟩ : ByteArray).size = 1 := rfl
      have hzD := feedB_size T j hT
      clear ht
      generalize (⟨#[Vz.hexC (x.toNat / 16)]⟩ : ByteArray) = C1 at hc1 hF hz1
      generalize (⟨#[Vz.hexC (x.toNat % 16)]⟩ : ByteArray) = C2 at hc2 hF hz2
      generalize x.toNat / 16 = hi at hq1 hw1 hc1 hv1
      generalize x.toNat % 16 = lo at hq2 hw2 hc2 hv2
      generalize feedB T j = D at hF hzD
      by_cases h0 : j = 0
      · rw [if_pos h0] at hF
        subst h0
        have HF := Lib.hid hF
        clear hF
        go_wp2_with fail
        go_quiet (fail)
        go_wp2_with fail
        exact ⟨⟨1, q + nq, by omega, by rw [← HF.out], rfl, rfl⟩, by simp [intOf]; omega⟩
      · rw [if_neg h0] at hF
        have HF := Lib.hid hF
        have hjb : ((j : Int) == 0) = false := by simp; omega
        clear hF
        go_wp2_with fail
        go_quiet (fail)
        go_wp2_with fail
        exact ⟨⟨j + 1, q + nq, by omega, by rw [← HF.out], by go_num, rfl⟩, by simp [intOf]; omega⟩
    · obtain rfl : j = T.size := by omega
      have hzD := feedB_size T T.size hT
      generalize hD : feedB T T.size = D at hzD
      have HD := Lib.hid hD
      clear hD
      go_wp2_with fail
      go_ret
      exact ⟨ret1 (by rw [HD.out]; rfl), HB.out _ _⟩

set_option maxHeartbeats 1000000 in
theorem line_34 (d : Int) (T : ByteArray) (k c : Int) (s l : Bool) (r o z : Int) (hd : d = 3 ∨ d = 4) (w : World) : Calls Tryd.prog 12 #[.agg #[.int .i64 d, .string T, .int .i64 k, .int .i64 c, .bool s, .bool l, .int .i64 r, .int .i64 o, .int .i64 z]] w fun e w' => e = .returned (.string (if d = 3 then ⟨#[100, 114, 97, 105, 110, 10]⟩ else ⟨#[114, 101, 115, 101, 116, 10]⟩)) ∧ Below w.heap.size w w' := by
  rcases hd with rfl | rfl
  all_goals
    go_enter Tryd.func12, Tryd.ntmps12
    go_wp2_with fail
    go_ret
    exact ⟨ret1 (by simp; rfl), (Below.refl _ _).alloc (Nat.le_refl _) _⟩

set_option maxHeartbeats 1000000 in
theorem line_6 (T : ByteArray) (k c : Int) (s l : Bool) (r o : Int) (z : Nat) (hz : z ≤ 9) (w : World) : Calls Tryd.prog 12 #[.agg #[.int .i64 6, .string T, .int .i64 k, .int .i64 c, .bool s, .bool l, .int .i64 r, .int .i64 o, .int .i64 z]] w fun e w' => e = .returned (.string (⟨#[115, 119, 105, 116, 99, 104, 32]⟩ ++ dgB z ++ ⟨#[10]⟩)) ∧ Below w.heap.size w w' := by
  have HD := Lib.hid (digits_any 0 z (by omega) (by simp; omega))
  have hzD := dgB_size z (by omega)
  generalize dgB z = D at HD hzD ⊢
  clear hz
  go_enter Tryd.func12, Tryd.ntmps12
  go_wp2_with (go_at_call 20; refine (HD.out _).mono ?_; rintro e w1 ⟨rfl, rfl⟩)
  go_ret
  exact ⟨ret1 rfl, (Below.refl _ _).alloc (Nat.le_refl _) _⟩

theorem digits_all (n : Nat) (h : n ≤ 9999) (w : World) : Calls Tryd.prog 20 #[.int .i64 n] w fun e w' => e = .returned (.string (dgB n)) ∧ w' = w :=
  (digits_any 3 n h (by simp; omega) w).mono fun _ _ h => ⟨h.1, h.2.symm⟩

set_option maxHeartbeats 2000000 in
theorem line_5 (T : ByteArray) (k c : Int) (s l : Bool) (r o : Nat) (z : Int) (hr : r ≤ 9999) (ho : o ≤ 9999) (w : World) : Calls Tryd.prog 12 #[.agg #[.int .i64 5, .string T, .int .i64 k, .int .i64 c, .bool s, .bool l, .int .i64 r, .int .i64 o, .int .i64 z]] w fun e w' => e = .returned (.string (⟨#[114, 101, 115, 105, 122, 101, 32]⟩ ++ dgB r ++ ⟨#[32]⟩ ++ dgB o ++ ⟨#[10]⟩)) ∧ Below w.heap.size w w' := by
  have HG := Lib.hid digits_all
  have hzD := dgB_size r hr
  have hzE := dgB_size o ho
  have HB : Hid (∀ o q, Below w.heap.size w ((w.alloc o).drewN q)) := fun o q => (Below.refl _ _).alloc (Nat.le_refl _) _ |>.trans ⟨rfl, rfl, rfl, Nat.le_refl _, fun _ _ => rfl⟩
  go_enter Tryd.func12, Tryd.ntmps12
  go_wp2_with fail
  go_quiet (exact Calls.quiet_of_same (HG.out _ (by assumption) _))
  go_wp2_with fail
  go_ret
  exact ⟨ret1 rfl, HB.out _ _⟩

set_option maxHeartbeats 4000000 in
theorem line_2 (T : ByteArray) (k c : Nat) (s l : Bool) (r o z : Int) (hk : k ≤ 9999) (hc : c ≤ 9999) (w : World) : Calls Tryd.prog 12 #[.agg #[.int .i64 2, .string T, .int .i64 k, .int .i64 c, .bool s, .bool l, .int .i64 r, .int .i64 o, .int .i64 z]] w fun e w' => e = .returned (.string (⟨#[112, 114, 101, 115, 115, 32]⟩ ++ dgB k ++ ⟨#[32]⟩ ++ dgB c ++ (if s = true then ⟨#[32, 115, 104, 105, 102, 116]⟩ else .empty) ++ (if l = true then ⟨#[32, 99, 116, 114, 108]⟩ else .empty) ++ ⟨#[10]⟩)) ∧ Below w.heap.size w w' := by
  have HG := Lib.hid digits_all
  have hzD := dgB_size k hk
  have hzE := dgB_size c hc
  have HB : Hid (∀ o q, Below w.heap.size w ((w.alloc o).drewN q)) := fun o q => (Below.refl _ _).alloc (Nat.le_refl _) _ |>.trans ⟨rfl, rfl, rfl, Nat.le_refl _, fun _ _ => rfl⟩
  cases s <;> cases l
  all_goals
    go_enter Tryd.func12, Tryd.ntmps12
    go_wp2_with fail
    go_quiet (exact Calls.quiet_of_same (HG.out _ (by assumption) _))
    go_wp2_with fail
    go_ret
    exact ⟨ret1 (by simp [ByteArray.append_empty]), HB.out _ _⟩
end Go.Proofs.YtfkbgnonkgaobaaDoor
