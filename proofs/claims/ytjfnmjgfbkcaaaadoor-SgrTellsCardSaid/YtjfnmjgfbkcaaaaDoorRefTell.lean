/- Walks: Tell of vizardref13. -/
import Derived.Test.YtjfnmjgfbkcaaaaDoorSgrRefD
import Derived.Test.YtjfnmjgfbkcaaaaDoorSgrTell
namespace Go.Proofs.YtjfnmjgfbkcaaaaDoor
open Go.RowKit

theorem ownsRow_first {W : World} {base : Nat} {e e' : TypeId} {v : Value} {k : Nat} {xs : List Value} (h : W.ownsRow base e 1 v k xs) {b : Nat} {cs : Array Value} {fr : Nat × Nat} (hb : W.heap[b]? = some (.cells cs e' fr)) {x c : Value} (hx : xs[0]? = some x) (hc : cs[0]? = some c) (hne : x ≠ c) : v.ownBlock ≠ some b := by
  rcases h.2 with ⟨rfl, _⟩ | ⟨g, cap, cur, rfl, _, hg, _, _, _, ht⟩
  · simp [Value.ownBlock]
  · intro he
    obtain rfl : g = b := by simpa [Value.ownBlock] using he
    rw [hg] at hb
    cases hb
    have h0 : (cs.toList.take (k * 1))[0]? = some x := by rw [ht]; exact hx
    rw [List.getElem?_take] at h0
    split at h0
    · rw [Array.getElem?_toList, hc] at h0
      exact hne (Option.some.inj h0).symm
    · cases h0
def hasC (n : Nat) : Array Value := #[.bool ((n : Int) % 2 == 1), .bool ((n : Int) / 2 % 2 == 1), .bool ((n : Int) / 4 % 2 == 1), .bool ((n : Int) / 8 % 2 == 1), .bool ((n : Int) / 16 % 2 == 1), .bool ((n : Int) / 32 % 2 == 1)]
def byC : Array Value := #[.int .i64 1, .int .i64 2, .int .i64 4, .int .i64 5, .int .i64 7, .int .i64 8]
theorem bit_b (n k : Nat) : ((n : Int) / (2 ^ k : Nat) % 2 == 1) = decide (n / 2 ^ k % 2 = 1) := by
  have e : (n : Int) / (2 ^ k : Nat) = ((n / 2 ^ k : Nat) : Int) := by simp
  rw [e, Bool.eq_iff_iff, beq_iff_eq, decide_eq_true_eq]
  omega
theorem has_cell {W : World} {b : Nat} {t : TypeId} {fr : Nat × Nat} (n : Nat) (hg : W.heap[b]? = some (.cells (hasC n) t fr)) (k : Nat) (hk : k < 6) : W.cell? ⟨b, k, none⟩ = some (.bool (decide (n / 2 ^ k % 2 = 1))) := by
  rw [cell_of_row _ _ _ _ _ _ hg, ← bit_b]
  obtain rfl | rfl | rfl | rfl | rfl | rfl : k = 0 ∨ k = 1 ∨ k = 2 ∨ k = 3 ∨ k = 4 ∨ k = 5 := by omega
  · show some (Value.bool ((n : Int) % 2 == 1)) = some (Value.bool ((n : Int) / 1 % 2 == 1)); rw [Int.ediv_one]
  all_goals rfl
theorem by_cell {W : World} {b : Nat} {t : TypeId} {fr : Nat × Nat} (hg : W.heap[b]? = some (.cells byC t fr)) (k : Nat) (hk : k < 6) : W.cell? ⟨b, k, none⟩ = some (.int .i64 (keyAt k)) := by
  rw [cell_of_row _ _ _ _ _ _ hg]
  obtain rfl | rfl | rfl | rfl | rfl | rfl : k = 0 ∨ k = 1 ∨ k = 2 ∨ k = 3 ∨ k = 4 ∨ k = 5 := by omega
  all_goals rfl
theorem tellK_zero (n k : Nat) : (ints2V (tellK n k))[0]? = some (.int .i64 0) := by
  induction k with
  | zero => rfl
  | succ k ih =>
    unfold tellK
    split
    · unfold ints2V at ih ⊢
      rw [List.map_append, List.getElem?_append_left]
      · exact ih
      · rcases Nat.eq_zero_or_pos (List.map (Value.int .i64) (tellK n k)).length with h | h
        · rw [List.length_eq_zero_iff] at h; rw [h] at ih; cases ih
        · exact h
    · exact ih

set_option maxRecDepth 100000 in
set_option maxHeartbeats 2000000 in
theorem rtell_any (n : Nat) (hm : Vz.MayP n) (w : World) :
    Calls Tryd.prog 17 #[.int .i64 n] w fun e w' => ∃ v, e = .returned v ∧ w'.ownsRow w.heap.size 3 1 v (tellL n).length (ints2V (tellL n)) ∧ Below w.heap.size w w' := by
  have hn := hm.1
  obtain ⟨i0, hi, hz0, hz1, hz2⟩ := info_parts infoInt
  have HOF := Lib.hid (rof_yes n hm)
  have h64 : (lkOf n).b6 = ((n : Int) / 64 % 2 == 1) := rfl
  have hb6 : ((n : Int) / 64 % 2 == 1) = decide (n / 64 % 2 = 1) := bit_b n 6
  have hf1 : (lkOf n).f = ((n / 256 % 8 : Nat) : Int) := by show (n : Int) / 256 % 8 = _; omega
  have hg1 : (lkOf n).g = ((n / 2048 : Nat) : Int) := by show (n : Int) / 2048 = _; omega
  rw [hb6] at h64
  have HH : Hid (#[Value.bool (lkOf n).b0, .bool (lkOf n).b1, .bool (lkOf n).b2, .bool (lkOf n).b3, .bool (lkOf n).b4, .bool (lkOf n).b5] = hasC n) := rfl
  have HCS : Hid ((lkOf n).cs = #[.bool (lkOf n).b0, .bool (lkOf n).b1, .bool (lkOf n).b2, .bool (lkOf n).b3, .bool (lkOf n).b4, .bool (lkOf n).b5, .bool (lkOf n).b6, .int .i64 (lkOf n).f, .int .i64 (lkOf n).g]) := rfl
  generalize hk : lkOf n = kk at HOF h64 hf1 hg1 HH HCS
  have H64 := Lib.hid h64
  have HF1 := Lib.hid hf1
  have HG1 := Lib.hid hg1
  clear hm hb6 hk h64 hf1 hg1
  unfold Lk.v at HOF
  go_enter Tryd.func17, Tryd.ntmps17
  go_wp2_with fail
  refine (HOF.out _).mono ?_
  rintro e w1 ⟨rfl, hb1⟩
  go_wp2_with fail
  have e1 := row_new w1 (.cells kk.cs 25)
  have HB1 := Lib.hid hb1
  have hle := hb1.size
  clear hb1
  go_loopw [5, 8] (fun v i wr => ∃ k : Nat, k ≤ 6 ∧ i = .int .i64 k ∧ wr.ownsRow w.heap.size 3 1 v (tellK n k).length (ints2V (tellK n k)) ∧ LBox wr w1.heap.size kk ∧ wr.heap[w1.heap.size + 1 + 1]? = some (.cells (hasC n) 4 (0, 0)) ∧ wr.heap[w1.heap.size + 1 + 1 + 1]? = some (.cells byC 3 (0, 0)) ∧ Below w.heap.size w wr) (fun _ i _ => 6 - (intOf i).toNat)
  case atStart =>
    refine ⟨0, by omega, rfl, ?_, ?_, ?_, ?_, ?_⟩
    · have h := World.ownsRow_lit (base := w.heap.size) (e := 3) (size := 1) (w1.alloc (.cells kk.cs 25)) #[.int .i64 0] 1 (by simp only [World.size_alloc]; omega) (by decide) rfl
      rw [World.size_alloc] at h
      exact (h.alloc _).alloc _
    · exact (Below.heap_alloc _ _ _ (by simp only [World.size_alloc]; omega)).trans ((Below.heap_alloc _ _ _ (by simp only [World.size_alloc]; omega)).trans ((Below.heap_alloc _ _ _ (by simp only [World.size_alloc]; omega)).trans e1))
    · have h := row_new ((w1.alloc (.cells kk.cs 25)).alloc (.cells #[.int .i64 0] 3)) (.cells #[Value.bool kk.b0, .bool kk.b1, .bool kk.b2, .bool kk.b3, .bool kk.b4, .bool kk.b5] 4)
      simp only [World.size_alloc] at h
      rw [← HH.out]
      exact (Below.heap_alloc _ _ _ (by simp only [World.size_alloc]; omega)).trans h
    · have h := row_new (((w1.alloc (.cells kk.cs 25)).alloc (.cells #[.int .i64 0] 3)).alloc (.cells #[Value.bool kk.b0, .bool kk.b1, .bool kk.b2, .bool kk.b3, .bool kk.b4, .bool kk.b5] 4)) (.cells byC 3)
      simp only [World.size_alloc] at h
      exact h
    · exact (((HB1.out.alloc hle _).alloc (by simp only [World.size_alloc]; omega) _).alloc (by simp only [World.size_alloc]; omega) _).alloc (by simp only [World.size_alloc]; omega) _
  case round =>
    obtain ⟨k, hk, rfl, hown, hbx, hhas, hby, hB⟩ := hrel
    have hkl := tellK_len n k
    have HX := Lib.hid hbx
    have HHA := Lib.hid hhas
    have HBY := Lib.hid hby
    have n1 := ownsRow_ne hown hbx (by decide)
    have n2 := ownsRow_ne hown hhas (by decide)
    have n3 := ownsRow_first hown hby (tellK_zero n k) rfl (by intro e; cases e)
    have N1 := Lib.hid n1
    have N2 := Lib.hid n2
    have N3 := Lib.hid n3
    clear n1 n2 n3
    by_cases hlt : k < 6
    · have c1 := has_cell n hhas k hlt
      have c2 := by_cell hby k hlt
      clear hbx hhas hby
      by_cases hb : n / 2 ^ k % 2 = 1
      · rw [decide_eq_true hb] at c1
        have hmx : (tellK n k).length + 1 ≤ maxLen := by unfold maxLen; omega
        have HS : Hid (tellK n (k + 1) = tellK n k ++ [keyAt k]) := by show _ = _; simp only [tellK, hb, if_true]
        clear hb
        generalize hq : keyAt k = key at c2 HS
        clear hq
        go_wp2_with (at_builtin; refine wpList_append_own _ rfl _ _ 22 rfl w.heap.size 3 i0 (.int .i64 0) 1 8 Tryd.underlying22 hi hz0 hz1 hz2 rfl (by decide) _ _ _ rfl (hown.alloc _) ⟨wr.heap.size, 0, none⟩ 1 1 [.int .i64 key] rfl rfl (cell_one_new _ _ _) (by simp [Value.oneCell']) hmx (by omega) (by have := hB.size; simp; omega) ?_; intro v' w3 hown' hgrow _)
        have l1 := HX.out.lt
        have l2 := (Array.getElem?_eq_some_iff.1 HHA.out).1
        have l3 := (Array.getElem?_eq_some_iff.1 HBY.out).1
        exact ⟨⟨k + 1, by omega, by go_num, by rw [HS.out]; simpa [ints2V] using hown',
          (hgrow.block _ (by simp; omega) N1.out.symm).trans ((Below.heap_alloc _ _ _ l1).trans HX.out),
          (hgrow.block _ (by simp; omega) N2.out.symm).trans ((Below.heap_alloc _ _ _ l2).trans HHA.out),
          (hgrow.block _ (by simp; omega) N3.out.symm).trans ((Below.heap_alloc _ _ _ l3).trans HBY.out),
          (hB.alloc hB.size _).grown hgrow (by have := hB.size; simp; omega) (fun j e => ownsRow_bs hown e)⟩, by simp [intOf]; omega⟩
      · rw [decide_eq_false hb] at c1
        have HS : Hid (tellK n (k + 1) = tellK n k) := by show _ = _; simp only [tellK, hb, if_false]
        clear hb
        go_wp2
        exact ⟨⟨k + 1, by omega, by go_num, by rw [HS.out]; exact hown, HX.out, HHA.out, HBY.out, hB⟩, by simp [intOf]; omega⟩
    · obtain rfl : k = 6 := by omega
      obtain ⟨-, -, -, -, -, -, c6, c7, c8⟩ := hbx.cells
      clear hbx hhas hby
      by_cases hc : n / 64 % 2 = 1
      · rw [H64.out, decide_eq_true hc] at c6
        rw [HF1.out] at c7
        rw [HG1.out] at c8
        have hmx : (tellK n 6).length + 2 ≤ maxLen := by unfold maxLen; omega
        have HS : Hid (tellL n = tellK n 6 ++ [30 + ((n / 256 % 8 : Nat) : Int), 40 + ((n / 2048 : Nat) : Int)]) := by show _ = _; unfold tellL; rw [if_pos hc]
        have hc1 : n / 256 % 8 < 8 := Nat.mod_lt _ (by decide)
        have hc2 : n / 2048 < 8 := by omega
        clear hc
        generalize n / 256 % 8 = x1 at c7 HS hc1
        generalize n / 2048 = x2 at c8 HS hc2
        go_wp2_with (at_builtin; refine wpList_append_own _ rfl _ _ 22 rfl w.heap.size 3 i0 (.int .i64 0) 1 8 Tryd.underlying22 hi hz0 hz1 hz2 rfl (by decide) _ _ _ rfl (hown.alloc _) ⟨wr.heap.size, 0, none⟩ 2 2 [.int .i64 (30 + (x1 : Int)), .int .i64 (40 + (x2 : Int))] rfl rfl (cell_two_new _ _ _ _) (by simp [Value.oneCell']) hmx (by omega) (by have := hB.size; simp; omega) ?_; intro v' w4 hown' hgrow _; obtain ⟨va, vc, rfl⟩ := ownsRow_sl hown')
        have hB4 := (hB.alloc hB.size _).grown hgrow (by have := hB.size; simp; omega) (fun j e => ownsRow_bs hown e)
        go_ret
        exact ⟨_, rfl, by rw [HS.out]; simpa [ints2V] using hown', hB4⟩
      · rw [H64.out, decide_eq_false hc] at c6
        have HS : Hid (tellL n = tellK n 6) := by show _ = _; unfold tellL; rw [if_neg hc]
        obtain ⟨va, vc, rfl⟩ := ownsRow_sl hown
        clear hc c7 c8
        go_wp2
        go_ret
        exact ⟨_, rfl, by rw [HS.out]; exact hown, hB⟩
end Go.Proofs.YtjfnmjgfbkcaaaaDoor
